/- The walk of NaturalDivides. -/
import Derived.Test.YtjefndkhonpalaaNaturalMulsW
import Derived.Test.YtjefndkhonpalaaRefD
namespace Go.Proofs.Ytjefndkhonpalaa
open Go.RowKit

theorem naturalDivides_walk {w : World} {A1 : Option Addr} {c1 L1 a d : Nat} (h1 : NV w A1 c1 L1 a) (hd : d < 4294967296) :
    Calls Try.prog 7 #[.slice A1 L1 c1, .int .u32 d] w fun e w' => e = .returned (.bool true) ∧ Ext w w' := by
  have l1 := h1.le
  have p1 := h1.cap
  have hx := Ext.refl w
  by_cases hf : decide (L1 ≤ 20) = true
  · have k1 : L1 ≤ 20 := by simpa using hf
    have s1 := h1.dl
    have b1 := h1.bl
    have b2 := bl_u32 hd
    have HF := Lib.hid hf
    clear hf
    by_cases hd0 : d = 0
    · subst hd0
      have HD : Hid (∀ w : World, Calls Try.prog 29 #[.slice A1 L1 c1, .int .u32 ((0 : Nat) : Int)] w fun e w' => e = .returned (.tuple #[.slice none 0 0, .int .u32 0, .bool false]) ∧ w = w') := fun w => divSmall_zero
      go_enter Try.func7, Try.ntmps7
      go_wp2_with fail
      refine (awake1 _).mono ?_
      rintro e w1 ⟨rfl, x1⟩
      have hx := hx.trans x1
      have h1 := h1.ext x1
      go_wp2_with fail
      refine (few1 (by omega)).mono ?_
      rintro e w2 ⟨rfl, x2⟩
      have hx := hx.trans x2
      have h1 := h1.ext x2
      rw [HF.out]
      go_wp2_with fail
      refine (HD.out _).mono ?_
      rintro e w' ⟨rfl, rfl⟩
      go_wp2_with fail
      go_ret
      exact ⟨rfl, hx⟩
    · have hd1 : 0 < d := by omega
      have hdz : ((d : Int) == 0) = false := by simp; omega
      have b3 : bl (a / d) ≤ bl a := bl_mono (Nat.div_le_self _ _)
      have hr : a % d < 4294967296 := Nat.lt_trans (Nat.mod_lt _ hd1) hd
      have b4 := bl_u32 hr
      have HO : Hid (∀ w, Calls Try.prog 28 #[.int .u64 ((a % d : Nat) : Int)] w (RetN w (a % d))) := fun w => of_any _ (by omega)
      clear hd0
      go_enter Try.func7, Try.ntmps7
      go_wp2_with fail
      refine (awake1 _).mono ?_
      rintro e w1 ⟨rfl, x1⟩
      have hx := hx.trans x1
      have h1 := h1.ext x1
      go_wp2_with fail
      refine (few1 (by omega)).mono ?_
      rintro e w2 ⟨rfl, x2⟩
      have hx := hx.trans x2
      have h1 := h1.ext x2
      rw [HF.out]
      go_wp2_with fail
      refine (divSmall_v h1 hd1 hd (by omega)).mono ?_
      rintro e w3 ⟨As1, cs1, rfl, s1, x3⟩
      have hx := hx.trans x3
      have h1 := h1.ext x3
      go_wp2_with fail
      refine (rof_v h1 (by omega)).mono ?_
      rintro e w4 ⟨Ag1, cg1, rfl, g1, x4⟩
      have hx := hx.trans x4
      have h1 := h1.ext x4
      have s1 := s1.ext x4
      go_wp2_with fail
      refine (rof_one hd).mono ?_
      rintro e w5 ⟨Ag2, cg2, rfl, g2, x5⟩
      have hx := hx.trans x5
      have h1 := h1.ext x5
      have s1 := s1.ext x5
      have g1 := g1.ext x5
      go_wp2_with fail
      refine (rdivMod_any g1 g2 hd1 (by omega) (by omega)).mono ?_
      rintro e w6 ⟨Agx, cgx, Agy, cgy, rfl, gx, gy, x6⟩
      have hx := hx.trans x6
      have h1 := h1.ext x6
      have s1 := s1.ext x6
      have g1 := g1.ext x6
      have g2 := g2.ext x6
      go_wp2_with fail
      refine (is_yes s1 gx rfl (by omega)).mono ?_
      rintro e w7 ⟨rfl, x7⟩
      have hx := hx.trans x7
      have h1 := h1.ext x7
      have s1 := s1.ext x7
      have g1 := g1.ext x7
      have g2 := g2.ext x7
      have gx := gx.ext x7
      have gy := gy.ext x7
      go_wp2_with fail
      refine (HO.out _).mono ?_
      rintro e w8 ⟨As2, cs2, rfl, s2, x8⟩
      have hx := hx.trans x8
      have h1 := h1.ext x8
      have s1 := s1.ext x8
      have g1 := g1.ext x8
      have g2 := g2.ext x8
      have gx := gx.ext x8
      have gy := gy.ext x8
      go_wp2_with fail
      refine (is_yes s2 gy rfl (by omega)).mono ?_
      rintro e w9 ⟨rfl, x9⟩
      have hx := hx.trans x9
      have h1 := h1.ext x9
      have s1 := s1.ext x9
      have g1 := g1.ext x9
      have g2 := g2.ext x9
      have gx := gx.ext x9
      have gy := gy.ext x9
      have s2 := s2.ext x9
      go_wp2_with fail
      go_ret
      exact ⟨rfl, hx⟩
  · have hf' : decide (L1 ≤ 20) = false := by simpa using hf
    have HF := Lib.hid hf'
    clear hf hf'
    go_enter Try.func7, Try.ntmps7
    go_wp2_with fail
    refine (awake1 _).mono ?_
    rintro e w1 ⟨rfl, x1⟩
    have hx := hx.trans x1
    go_wp2_with fail
    refine (few1 (by omega)).mono ?_
    rintro e w2 ⟨rfl, x2⟩
    have hx := hx.trans x2
    rw [HF.out]
    go_wp2_with fail
    refine (awake1 _).mono ?_
    rintro e w3 ⟨rfl, x3⟩
    have hx := hx.trans x3
    go_wp2_with fail
    go_ret
    exact ⟨rfl, hx⟩
end Go.Proofs.Ytjefndkhonpalaa
