/- The walk of DecimalPrefix. -/
import Derived.Test.YtjhknnioefipmaaLaw4
import Derived.Test.YtjhknnioefipmaaDecH
namespace Go.Proofs.Ytjhknnioefipmaa
open Go.RowKit
set_option maxHeartbeats 4000000 in
set_option maxRecDepth 100000 in
theorem decimalPrefix_walk {w : World} {s : ByteArray} (_hm : s.size ≤ maxLen) :
    Calls Try.prog 7 #[.string s] w fun e w' => e = .returned (.bool true) ∧ Ext w w' := by
  by_cases hf : s.size ≤ 60
  · rcases max_exists (fun j => ∃ y, (bs s).take j = fmtL 10 y) s.size with hno | ⟨kk, hkk, ⟨x, hx⟩, hmx⟩
    · have HNO : Hid (∀ j y, j ≤ s.size → (bs s).take j ≠ fmtL 10 y) := fun j y hj h => hno j hj ⟨y, h⟩
      clear hno
      go_enter Try.func7, Try.ntmps7
      go_wp2_with fail
      refine (lawake4 _).mono ?_
      rintro e w1 ⟨rfl, x1⟩
      go_wp2_with fail
      refine (Prefix_no (by omega) HNO.out).mono ?_
      rintro e w2 ⟨rfl, x2⟩
      go_wp2_with fail
      obtain ⟨w3, hw3⟩ : ∃ z : World, z = w2.alloc (.cells #[.bool false, .slice none 0 0] 25) := ⟨_, rfl⟩
      rw [← hw3]
      have x3 : Ext w2 w3 := by rw [hw3]; exact Ext.alloc _ _
      have hb3 := box_new w2 (.bool false) (.slice none 0 0) 25
      rw [← hw3] at hb3
      have d1 := hb3.1
      have d2 := hb3.2.1
      have hxx := (x1.trans x2).trans x3
      clear hb3 hw3
      go_loopw [6] (fun iv wr => ∃ k : Nat, k ≤ s.size ∧ iv = .int .i64 k ∧ True ∧ Ext w3 wr) (fun iv _ => (intOf iv).toNat)
      case atStart => exact ⟨s.size, Nat.le_refl _, rfl, trivial, Ext.refl _⟩
      case round =>
        obtain ⟨k, hk, rfl, _, hx⟩ := hrel
        by_cases hk0 : 0 < k
        · go_wp2_with fail
          refine (rParse_no (b := 10) (by omega) (by omega) (by rw [ByteArray.size_extract]; omega) (fun y e => HNO.out k y hk (by rw [← bs_take]; exact e))).mono ?_
          rintro e w4 ⟨rfl, x4⟩
          have hx4 := hx.trans x4
          have c1 := fun o => (Ext.alloc w4 o).cell (hx4.cell d1)
          have c2 := fun o => (Ext.alloc w4 o).cell (hx4.cell d2)
          go_wp2_with fail
          clear c1 c2
          go_roundw
          case rel => exact ⟨k - 1, by omega, by go_num, by trivial, hx4.trans (Ext.alloc _ _)⟩
          case measure => simp [intOf]; omega
        · obtain rfl : k = 0 := by omega
          have c1 := hx.cell d1
          have c2 := hx.cell d2
          go_wp2_with fail
          go_ret
          exact ⟨rfl, hxx.trans hx⟩
    · have HX := Lib.hid hx
      have HMX : Hid (∀ j y, j ≤ s.size → (bs s).take j = fmtL 10 y → j ≤ kk) := fun j y hj h => hmx j hj ⟨y, h⟩
      have hk1 : 0 < kk := by
        rcases Nat.eq_zero_or_pos kk with h | h
        · subst h; exact absurd hx.symm (fmt_ne 10 (by omega) x)
        · exact h
      have hbl : bl x.natAbs ≤ 2600 := by
        have h5 := bl_of_text (b := 10) (s := s.extract 0 kk) (by omega) (by omega) (by rw [bs_take]; exact hx)
        rw [ByteArray.size_extract] at h5
        omega
      clear hx hmx
      go_enter Try.func7, Try.ntmps7
      go_wp2_with fail
      refine (lawake4 _).mono ?_
      rintro e w1 ⟨rfl, x1⟩
      go_wp2_with fail
      refine (Prefix_yes (by omega) hkk HX.out HMX.out).mono ?_
      rintro e w2 ⟨sa, Aa, ca, La, rfl, ha, x2⟩
      go_wp2_with fail
      obtain ⟨w3, hw3⟩ : ∃ z : World, z = w2.alloc (.cells #[.bool sa, .slice Aa La ca] 25) := ⟨_, rfl⟩
      rw [← hw3]
      have x3 : Ext w2 w3 := by rw [hw3]; exact Ext.alloc _ _
      have hb3 := box_new w2 (.bool sa) (.slice Aa La ca) 25
      rw [← hw3] at hb3
      have d1 := hb3.1
      have d2 := hb3.2.1
      have hxx := (x1.trans x2).trans x3
      clear hb3 hw3
      have ha3 := Lib.hid (ha.ext x3)
      clear ha
      go_loopw [6] (fun iv wr => ∃ k : Nat, k ≤ s.size ∧ iv = .int .i64 k ∧ kk ≤ k ∧ Ext w3 wr) (fun iv _ => (intOf iv).toNat)
      case atStart => exact ⟨s.size, Nat.le_refl _, rfl, hkk, Ext.refl _⟩
      case round =>
        obtain ⟨k, hk, rfl, hkk', hx⟩ := hrel
        have hk0 : 0 < k := by omega
        by_cases hlt : kk < k
        · go_wp2_with fail
          refine (rParse_no (b := 10) (by omega) (by omega) (by rw [ByteArray.size_extract]; omega) (fun y e => absurd (HMX.out k y hk (by rw [← bs_take]; exact e)) (by omega))).mono ?_
          rintro e w4 ⟨rfl, x4⟩
          have hx4 := hx.trans x4
          have c1 := fun o => (Ext.alloc w4 o).cell (hx4.cell d1)
          have c2 := fun o => (Ext.alloc w4 o).cell (hx4.cell d2)
          go_wp2_with fail
          clear c1 c2
          go_roundw
          case rel => exact ⟨k - 1, by omega, by go_num, by omega, hx4.trans (Ext.alloc _ _)⟩
          case measure => simp [intOf]; omega
        · obtain rfl : k = kk := by omega
          go_wp2_with fail
          refine (rParse_yes (b := 10) (by omega) (by omega) (by rw [ByteArray.size_extract]; omega) (by rw [bs_take]; exact HX.out)).mono ?_
          rintro e w4 ⟨gz, Az, cz, Lz, rfl, hz, x4⟩
          have hx4 := hx.trans x4
          have c1 := fun o => (Ext.alloc w4 o).cell (hx4.cell d1)
          have c2 := fun o => (Ext.alloc w4 o).cell (hx4.cell d2)
          go_wp2_with fail
          clear c1 c2
          refine (lis4 ((ha3.out.ext hx4).ext (Ext.alloc _ _)) (hz.ext (Ext.alloc _ _)) (by omega)).mono ?_
          rintro e w5 ⟨rfl, x5⟩
          go_wp2_with fail
          go_ret
          exact ⟨rfl, ((hxx.trans hx4).trans (Ext.alloc _ _)).trans x5⟩
  · have hf' : 60 < s.size := by omega
    clear hf
    go_enter Try.func7, Try.ntmps7
    go_wp2_with fail
    refine (lawake4 _).mono ?_
    rintro e w1 ⟨rfl, x1⟩
    go_wp2_with fail
    refine (lawake4 _).mono ?_
    rintro e w2 ⟨rfl, x2⟩
    go_wp2_with fail
    go_ret
    exact ⟨rfl, x1.trans x2⟩
end Go.Proofs.Ytjhknnioefipmaa
