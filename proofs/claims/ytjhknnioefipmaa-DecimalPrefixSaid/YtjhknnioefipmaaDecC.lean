/- Contracts of package decimal, third part: FormatBase, Digits. -/
import Derived.Test.YtjhknnioefipmaaDecB
namespace Go.Proofs.Ytjhknnioefipmaa
open Go.RowKit
theorem FormatBase_z {w : World} {s : Bool} {A : Option Addr} {c L b : Nat} {x : Int} (h : ZV w s A c L x) (h1 : 2 ≤ b) (h2 : b ≤ 36) (hs : dl x.natAbs ≤ 1000000) :
    Calls Try.prog 25 #[.agg #[.bool s, .slice A L c], .int .i64 b] w fun e w' => ∃ t, e = .returned (.tuple #[.string t, .int .i64 0]) ∧ bs t = fmtL b x ∧ Ext w w' := by
  have hd : decide ((2 : Int) ≤ b ∧ (b : Int) ≤ 36) = true := by simp; omega
  obtain ⟨w0, hw0⟩ : ∃ z : World, z = w.alloc (.cells #[.bool s, .slice A L c] 25) := ⟨_, rfl⟩
  have hx0 : Ext w w0 := by rw [hw0]; exact Ext.alloc _ _
  have hb := box_new w (.bool s) (.slice A L c) 25
  rw [← hw0] at hb
  obtain ⟨e1, e2, _⟩ := hb
  go_enter Try.func25, Try.ntmps25
  go_wp2_with fail
  rw [← hw0]
  clear hw0
  refine validBase_any.mono ?_
  rintro e w1 ⟨rfl, rfl⟩
  rw [hd]
  clear hd
  go_wp2_with fail
  refine (format_z (h.ext hx0) h1 h2 hs).mono ?_
  rintro e w3 ⟨t, rfl, ht, hx3⟩
  go_wp2_with fail
  go_ret2
  exact ⟨t, rfl, ht, hx0.trans hx3⟩
theorem FormatBase_bad {w : World} {s : Bool} {A : Option Addr} {c L : Nat} {b : Int} (hb : ¬ (2 ≤ b ∧ b ≤ 36)) :
    Calls Try.prog 25 #[.agg #[.bool s, .slice A L c], .int .i64 b] w fun e w' => e = .returned (.tuple #[.string ⟨#[]⟩, .int .i64 1]) ∧ Ext w w' := by
  have hd : decide ((2 : Int) ≤ b ∧ (b : Int) ≤ 36) = false := decide_eq_false hb
  go_enter Try.func25, Try.ntmps25
  go_wp2_with fail
  refine validBase_any.mono ?_
  rintro e w1 ⟨rfl, rfl⟩
  rw [hd]
  clear hd
  go_wp2_with fail
  go_ret2
  exact ⟨rfl, Ext.alloc _ _⟩
theorem Digits_z {w : World} {s : Bool} {A : Option Addr} {c L : Nat} {x : Int} (h : ZV w s A c L x) (hs : dl x.natAbs ≤ 1000000) :
    Calls Try.prog 15 #[.agg #[.bool s, .slice A L c]] w fun e w' => e = .returned (.int .i64 (fmtL 10 (x.natAbs : Int)).length) ∧ Ext w w' := by
  generalize hN : (fmtL 10 (x.natAbs : Int)).length = N
  have HN := Lib.hid hN
  clear hN
  go_enter Try.func15, Try.ntmps15
  go_wp2_with fail
  refine (abs_z (h.ext (Ext.alloc _ _)) (by omega)).mono ?_
  rintro e w1 ⟨s1, A1, c1, L1, rfl, hz, hx1⟩
  go_wp2_with fail
  refine (Format_z hz.zv (by simpa using hs)).mono ?_
  rintro e w2 ⟨t, rfl, ht, hx2⟩
  have HL : Hid (t.size = N) := by show _ = _; rw [← HN.out, ← ht, bs_length]
  go_wp2_with fail
  go_ret
  exact ⟨congrArg (fun n : Nat => Ending.returned (.int .i64 (n : Int))) HL.out, (Ext.alloc _ _).trans (hx1.trans hx2)⟩
theorem fmt_len (x : Int) : (fmtL 10 x).length = (fmtL 10 (x.natAbs : Int)).length + (if x < 0 then 1 else 0) := by
  rw [fmtL_eq, fmtL_eq, List.length_append, List.length_append, Int.natAbs_natCast, if_neg (show ¬ ((x.natAbs : Int) < 0) by omega)]
  split <;> simp
  omega
theorem fmt_pos (x : Int) : 0 < (fmtL 10 x).length := by
  rw [fmtL_eq, List.length_append, List.length_reverse, List.length_map]
  have h := (lead_digs1 (b := 10) (by omega) x.natAbs).1
  have h2 : 0 < (digs1 10 x.natAbs).length := by
    rcases Nat.eq_zero_or_pos (digs1 10 x.natAbs).length with h3 | h3
    · exact absurd (by rw [List.eq_nil_of_length_eq_zero h3]; rfl) h
    · exact h3
  omega
theorem fmt_le {b : Nat} (hb : 2 ≤ b) (x : Int) : (fmtL b x).length ≤ 32 * dl x.natAbs + 2 := by
  have h1 := digs_len (X := x.natAbs) hb
  have h2 : (digs1 b x.natAbs).length ≤ 32 * dl x.natAbs + 1 := by
    unfold digs1
    split
    · simp
    · omega
  rw [fmtL_eq, List.length_append, List.length_reverse, List.length_map]
  split <;> simp <;> omega
theorem fmt_first {t : ByteArray} {x : Int} (h : bs t = fmtL 10 x) (h0 : 0 < t.size) : ((t[0].toNat : Int) == 45) = decide (x < 0) := by
  have h1 := bs_get? h0
  rw [h] at h1
  rw [Bool.eq_iff_iff, beq_iff_eq, decide_eq_true_iff]
  by_cases hx : x < 0
  · rw [fmtL_eq, if_pos hx] at h1
    simp at h1
    omega
  · rw [fmtL_eq, if_neg hx, List.nil_append] at h1
    refine ⟨fun h2 => ?_, fun h2 => absurd h2 hx⟩
    have h3 : t[0].toNat = 45 := by omega
    rw [h3] at h1
    cases hl : ((digs1 10 x.natAbs).map sym).reverse with
    | nil => rw [hl] at h1; cases h1
    | cons y ys =>
      rw [hl] at h1
      injection h1 with h1
      subst h1
      exact absurd hl (no_minus _ _)
end Go.Proofs.Ytjhknnioefipmaa
