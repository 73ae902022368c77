/- The walk of DecimalReads. -/
import Derived.Test.YtjhknnioefipmaaLaw4
import Derived.Test.YtjhknnioefipmaaKept
import Derived.Test.YtjhknnioefipmaaRefJ
import Derived.Test.YtjhknnioefipmaaLaw4b
namespace Go.Proofs.Ytjhknnioefipmaa
open Go.RowKit
set_option maxHeartbeats 40000000 in
set_option maxRecDepth 100000 in
theorem decimalReads_walk {w : World} {s : ByteArray} {m : Nat} (_hm : s.size ≤ maxLen) (hm : m < 256) :
    Calls Try.prog 6 #[.string s, .int .u8 m] w fun e w' => e = .returned (.bool true) ∧ Ext w w' := by
  obtain ⟨B, hB0⟩ : ∃ B : Nat, B = 2 + m % 35 := ⟨_, rfl⟩
  have hB : 2 + (m : Int) % 35 = (B : Int) := by omega
  have h1 : 2 ≤ B := by omega
  have h2 : B ≤ 36 := by omega
  clear hB0
  by_cases hf : s.size ≤ 40
  · by_cases hy : ∃ x, bs s = fmtL B x
    · obtain ⟨x, hx⟩ := hy
      have HX := Lib.hid hx
      have hbl : bl x.natAbs ≤ 2600 := Nat.le_trans (bl_of_text h1 h2 hx) (by omega)
      clear hx
      go_enter Try.func6, Try.ntmps6
      go_wp2_with fail
      refine (lawake4 _).mono ?_
      rintro e w1 ⟨rfl, x1⟩
      go_wp2_with fail
      refine (ParseBase_yes h1 h2 (by omega) HX.out).mono ?_
      rintro e w2 ⟨sa, Aa, ca, La, rfl, a, x2⟩
      go_wp2_with fail
      obtain ⟨w3, hw⟩ : ∃ z : World, z = (w2.alloc (.cells #[.bool sa, .slice Aa La ca] 25)) := ⟨_, rfl⟩
      rw [← hw]
      have x3 : Ext w2 w3 := by rw [hw]; exact Ext.alloc _ _
      have bb := box_at w2 #[.bool sa, .slice Aa La ca] 25
      rw [← hw] at bb
      have a_0 := bb.1 0 (.bool sa) rfl
      have a_1 := bb.1 1 (.slice Aa La ca) rfl
      clear hw bb
      go_wp2_with fail
      refine (rParse_yes (b := B) h1 h2 (by omega) HX.out).mono ?_
      rintro e w4 ⟨gz, Az, cz, Lz, rfl, z, x4⟩
      replace a_0 := x4.cell a_0
      replace a_1 := x4.cell a_1
      have ta_0 := fun o => (Ext.alloc w4 o).cell a_0
      have ta_1 := fun o => (Ext.alloc w4 o).cell a_1
      go_wp2_with fail
      clear ta_0 ta_1
      obtain ⟨w5, hw⟩ : ∃ z : World, z = (w4.alloc (.cells #[.int .i64 gz, .slice Az Lz cz] 30)) := ⟨_, rfl⟩
      rw [← hw]
      have x5 : Ext w4 w5 := by rw [hw]; exact Ext.alloc _ _
      have bb := box_at w4 #[.int .i64 gz, .slice Az Lz cz] 30
      rw [← hw] at bb
      replace a_0 := x5.cell a_0
      replace a_1 := x5.cell a_1
      have z_0 := bb.1 0 (.int .i64 gz) rfl
      have z_1 := bb.1 1 (.slice Az Lz cz) rfl
      clear hw bb
      go_wp2_with fail
      refine (lis4 (a.ext (by repeat' (first | with_reducible exact Ext.refl _ | with_reducible assumption | with_reducible apply Ext.alloc_r | with_reducible apply Ext.drew_r | with_reducible apply Ext.drewN_r | with_reducible refine Ext.trans ?_ ‹Ext _ _›))) (z.ext (by repeat' (first | with_reducible exact Ext.refl _ | with_reducible assumption | with_reducible apply Ext.alloc_r | with_reducible apply Ext.drew_r | with_reducible apply Ext.drewN_r | with_reducible refine Ext.trans ?_ ‹Ext _ _›))) (by omega)).mono ?_
      rintro e w6 ⟨rfl, x6⟩
      replace a_0 := x6.cell a_0
      replace a_1 := x6.cell a_1
      replace z_0 := x6.cell z_0
      replace z_1 := x6.cell z_1
      go_wp2_with fail
      go_ret
      exact ⟨rfl, (by repeat' (first | with_reducible exact Ext.refl _ | with_reducible assumption | with_reducible apply Ext.alloc_r | with_reducible apply Ext.drew_r | with_reducible apply Ext.drewN_r | with_reducible refine Ext.trans ?_ ‹Ext _ _›))⟩
    · have HX : Hid (∀ x, bs s ≠ fmtL B x) := fun x h => hy ⟨x, h⟩
      clear hy
      go_enter Try.func6, Try.ntmps6
      go_wp2_with fail
      refine (lawake4 _).mono ?_
      rintro e w1 ⟨rfl, x1⟩
      go_wp2_with fail
      refine (ParseBase_no h1 h2 (by omega) HX.out).mono ?_
      rintro e w2 ⟨rfl, x2⟩
      go_wp2_with fail
      obtain ⟨w3, hw⟩ : ∃ z : World, z = (w2.alloc (.cells #[.bool false, .slice none 0 0] 25)) := ⟨_, rfl⟩
      rw [← hw]
      have x3 : Ext w2 w3 := by rw [hw]; exact Ext.alloc _ _
      have bb := box_at w2 #[.bool false, .slice none 0 0] 25
      rw [← hw] at bb
      have a_0 := bb.1 0 (.bool false) rfl
      have a_1 := bb.1 1 (.slice none 0 0) rfl
      clear hw bb
      go_wp2_with fail
      refine (rParse_no h1 h2 (by omega) HX.out).mono ?_
      rintro e w4 ⟨rfl, x4⟩
      replace a_0 := x4.cell a_0
      replace a_1 := x4.cell a_1
      have ta_0 := fun o => (Ext.alloc w4 o).cell a_0
      have ta_1 := fun o => (Ext.alloc w4 o).cell a_1
      go_wp2_with fail
      clear ta_0 ta_1
      obtain ⟨w5, hw⟩ : ∃ z : World, z = (w4.alloc (.cells #[.int .i64 0, .slice none 0 0] 30)) := ⟨_, rfl⟩
      rw [← hw]
      have x5 : Ext w4 w5 := by rw [hw]; exact Ext.alloc _ _
      have bb := box_at w4 #[.int .i64 0, .slice none 0 0] 30
      rw [← hw] at bb
      replace a_0 := x5.cell a_0
      replace a_1 := x5.cell a_1
      have z_0 := bb.1 0 (.int .i64 0) rfl
      have z_1 := bb.1 1 (.slice none 0 0) rfl
      clear hw bb
      go_wp2_with fail
      go_ret
      exact ⟨rfl, (by repeat' (first | with_reducible exact Ext.refl _ | with_reducible assumption | with_reducible apply Ext.alloc_r | with_reducible apply Ext.drew_r | with_reducible apply Ext.drewN_r | with_reducible refine Ext.trans ?_ ‹Ext _ _›))⟩
  · have hf' : 40 < s.size := by omega
    clear hf
    go_enter Try.func6, Try.ntmps6
    go_wp2_with fail
    refine (lawake4 _).mono ?_
    rintro e w1 ⟨rfl, x1⟩
    go_wp2_with fail
    refine (lawake4 _).mono ?_
    rintro e w2 ⟨rfl, x2⟩
    go_wp2_with fail
    go_ret
    exact ⟨rfl, (by repeat' (first | with_reducible exact Ext.refl _ | with_reducible assumption | with_reducible apply Ext.alloc_r | with_reducible apply Ext.drew_r | with_reducible apply Ext.drewN_r | with_reducible refine Ext.trans ?_ ‹Ext _ _›))⟩
end Go.Proofs.Ytjhknnioefipmaa
