/- Contracts of package cylinderref04: the value of a sign, the text of an integer; cylinderref02.Small. -/
import Derived.Test.YtjhknnioefipmaaDecB
import Derived.Test.YtjhknnioefipmaaRefF
namespace Go.Proofs.Ytjhknnioefipmaa
open Go.RowKit
/-- The value of a sign as a digit of a base, or -1. -/
def vl (b c : Nat) : Int := if dg c < b then (dg c : Int) else -1
theorem value_any {w : World} {c b : Nat} (h2 : b ≤ 36) :
    Calls Try.prog 35 #[.int .u8 c, .int .i64 b] w fun e w' => e = .returned (.int .i64 (vl b c)) ∧ w = w' := by
  have HV1 : Hid (∀ k, k < b → sym k = c → vl b c = (k : Int)) := fun k hk he => by
    unfold vl
    rw [← he, dg_sym (by omega), if_pos hk]
  have HV2 : Hid ((∀ j, j < b → sym j ≠ c) → vl b c = -1) := fun h => by
    unfold vl
    rw [if_neg]
    intro h3
    exact h _ h3 (sym_dg (by omega))
  generalize vl b c = v at *
  go_enter Try.func35, Try.ntmps35
  go_wp2_with fail
  go_loop [5] (fun i => ∃ k : Nat, k ≤ b ∧ i = .int .i64 k ∧ Hid (∀ j, j < k → sym j ≠ c)) (fun i => b - (intOf i).toNat)
  case atStart => exact ⟨0, Nat.zero_le _, rfl, fun j h => by omega⟩
  case round =>
    obtain ⟨k, hk, rfl, HN⟩ := hrel
    by_cases hlt : k < b
    · have hk36 : k < 36 := by omega
      have HS : Hid (sym k = sym k) := rfl
      go_wp2_with fail
      · have hq := ‹(_ == (c : Int)) = true›
        rw [sym_at' hk36] at hq
        have hq' := eq_of_beq hq
        have hv := HV1.out k hlt (by omega)
        go_ret
        exact ⟨by rw [hv]; rfl, rfl⟩
      · have hq := ‹(_ == (c : Int)) = false›
        rw [sym_at' hk36] at hq
        have hq' := ne_of_beq_false hq
        go_round
        case rel =>
          refine ⟨k + 1, by omega, by go_num, fun j hj => ?_⟩
          rcases Nat.lt_or_ge j k with h5 | h5
          · exact HN.out j h5
          · rw [show j = k from by omega]; omega
        case measure => simp [intOf]; omega
    · obtain rfl : k = b := by omega
      have hv := HV2.out HN.out
      go_wp2_with fail
      go_ret
      exact ⟨rfl, rfl⟩
/-- The bits of a small number. -/
theorem small_rz {w : World} {n : Int} (hn : -1000000000 ≤ n ∧ n ≤ 1000000000) :
    Calls Try.prog 34 #[.int .i64 n] w (RetRZ w n) := by
  obtain ⟨w0, hw0⟩ : ∃ z : World, z = w.alloc (.cells #[.int .i64 0, .slice none 0 0] 30) := ⟨_, rfl⟩
  have hx0 : Ext w w0 := by rw [hw0]; exact Ext.alloc _ _
  have hb := box_new w (.int .i64 0) (.slice none 0 0) 30
  rw [← hw0] at hb
  obtain ⟨q1, q2, f⟩ := hb
  have f1 := f 0
  have f2 := f 1
  clear f
  have HW := Lib.hid hw0
  clear hw0
  have hm : n.natAbs ≤ 1000000000 := by omega
  obtain ⟨m, hm0⟩ : ∃ m, m = n.natAbs := ⟨_, rfl⟩
  rw [← hm0] at hm
  have HM := Lib.hid hm0
  have HL : Hid ((digs 2 m).length ≤ 30) := digs_len_le (by omega) (by omega)
  by_cases hneg : n < 0
  · have h0 : n < 0 := by omega
    have hn0 : decide (n < 0) = true := by simp; omega
    have hnm : -n = (m : Int) := by omega
    have HNM : Hid (n = -(m : Int)) := by show _ = _; omega
    clear hm0
    go_enter Try.func34, Try.ntmps34
    go_wp2_with fail
    rw [← HW.out]
    clear HW
    go_loopw [0, 4] (fun iv o wr => ∃ (ds : List Nat) (r : Nat) (A4 : Option Addr) (c4 : Nat), iv = .int .i64 r ∧ o = .slice A4 ds.length c4 ∧ Own wr w0.heap.size .i64 3 A4 c4 ds ∧ Hid (digs 2 m = ds ++ digs 2 r) ∧ r ≤ m ∧ Ext w0 wr) (fun iv _ _ => (intOf iv).toNat)
    case atStart => exact ⟨[], m, none, 0, by go_num, rfl, Own.none_ _ _ _ _, rfl, Nat.le_refl _, Ext.refl _⟩
    case round =>
      obtain ⟨ds, r, A4, c4, rfl, rfl, ho, HD, hr, hx⟩ := hrel
      have HO := Lib.hid ho
      have hdl : ds.length ≤ 30 := by have h5 := congrArg List.length HD.out; have := HL.out; rw [List.length_append] at h5; omega
      clear ho
      have hsz := hx.size
      by_cases hr0 : r = 0
      · subst hr0
        have hds : ds = digs 2 m := by rw [HD.out, digs_zero, List.append_nil]
        subst hds
        have hx4a := hx
        have HB : Hid (BN wr A4 c4 m) := Own.bn HO.out
        have HR : Hid (∀ w', BN w' A4 c4 m → Calls Try.prog 38 #[.bool true, .slice A4 (digs 2 m).length c4] w' (RetRZ w' n)) := fun w' hb => by
          rw [HNM.out]
          exact make_rz hb (by simp) (fun e => by first | (cases e; done) | omega) (fun e => by first | (cases e; done) | omega)
        generalize (digs 2 m).length = L at *
        go_wp2_with fail
        refine (HR.out _ HB.out).mono ?_
        rintro e w4 ⟨sg, A5, c5, L5, rfl, hz, hx4'⟩
        have hx4 := hx.trans hx4'
        have p1 := hx4.frozen q1 f1
        have p2 := hx4.frozen q2 f2
        have t1 := hx4.cell q1
        have t2 := hx4.cell q2
        obtain ⟨r5, r6, hz', hxx⟩ := fin_rz (Nat.le_refl _) (hx0.trans hx4) hz t1 t2
        go_wp2_with fail
        refine bodyPost_ret (v := .agg #[.int .i64 sg, .slice A5 L5 c5]) (by simp [results, Try.results34, go_sem, r5, r6]) rfl ?_
        exact ⟨_, _, _, _, rfl, hz', hxx⟩
      · have hr1 : 0 < r := by omega
        have HD2 : Hid (digs 2 m = (ds ++ [r % 2]) ++ digs 2 (r / 2)) := by show _ = _; rw [HD.out, digs_pos (by omega) hr0, List.append_assoc]; rfl
        clear HD hr0
        go_wp2_with (at_builtin; refine wpList_app1 rfl _ _ _ rfl w0.heap.size 3 .i64 8 Try.underlying28 info_int (by omega) A4 c4 ds.length ds rfl rfl (HO.out.below (Ext.alloc _ _)) wr.heap.size (r % 2) rfl ?h2 ?h3 ?h4 ?h5)
        case h2 => simp
        case h3 => omega
        case h4 => simp; omega
        case h5 =>
          intro A10 c10 w4 hown hb4
          have hx5 : Ext w0 w4 := Below.trans hx (Below.trans (Below.mono (Ext.alloc wr _) hsz) hb4)
          have HOW := Lib.hid hown
          clear hown
          go_wp2_with fail
          go_roundw
          case rel =>
            have hrel : ∃ (es : List Nat) (r0 : Nat) (A4 : Option Addr) (c4 : Nat), Value.int .i64 ((r : Int) / 2) = .int .i64 r0 ∧ Value.slice A10 (ds.length + 1) c10 = .slice A4 es.length c4 ∧ Own w4 w0.heap.size .i64 3 A4 c4 es ∧ Hid (digs 2 m = es ++ digs 2 r0) ∧ r0 ≤ m ∧ Ext w0 w4 := ⟨ds ++ [r % 2], r / 2, A10, c10, by go_num, by rw [List.length_append]; rfl, HOW.out, HD2, by omega, hx5⟩
            first | exact hrel | ((repeat apply Exists.intro); exact ⟨hrel, rfl⟩)
          case measure => simp [intOf]; omega
  · have h0 : 0 ≤ n := by omega
    have hn0 : decide (n < 0) = false := by simp; omega
    obtain rfl : n = (m : Int) := by omega
    clear hm0
    go_enter Try.func34, Try.ntmps34
    go_wp2_with fail
    rw [← HW.out]
    clear HW
    go_loopw [0, 4] (fun iv o wr => ∃ (ds : List Nat) (r : Nat) (A4 : Option Addr) (c4 : Nat), iv = .int .i64 r ∧ o = .slice A4 ds.length c4 ∧ Own wr w0.heap.size .i64 3 A4 c4 ds ∧ Hid (digs 2 m = ds ++ digs 2 r) ∧ r ≤ m ∧ Ext w0 wr) (fun iv _ _ => (intOf iv).toNat)
    case atStart => exact ⟨[], m, none, 0, by go_num, rfl, Own.none_ _ _ _ _, rfl, Nat.le_refl _, Ext.refl _⟩
    case round =>
      obtain ⟨ds, r, A4, c4, rfl, rfl, ho, HD, hr, hx⟩ := hrel
      have HO := Lib.hid ho
      have hdl : ds.length ≤ 30 := by have h5 := congrArg List.length HD.out; have := HL.out; rw [List.length_append] at h5; omega
      clear ho
      have hsz := hx.size
      by_cases hr0 : r = 0
      · subst hr0
        have hds : ds = digs 2 m := by rw [HD.out, digs_zero, List.append_nil]
        subst hds
        have hx4a := hx
        have HB : Hid (BN wr A4 c4 m) := Own.bn HO.out
        have HR : Hid (∀ w', BN w' A4 c4 m → Calls Try.prog 38 #[.bool false, .slice A4 (digs 2 m).length c4] w' (RetRZ w' ((m : Int)))) := fun w' hb => make_rz hb (by simp) (fun e => by first | (cases e; done) | omega) (fun e => by first | (cases e; done) | omega)
        generalize (digs 2 m).length = L at *
        go_wp2_with fail
        refine (HR.out _ HB.out).mono ?_
        rintro e w4 ⟨sg, A5, c5, L5, rfl, hz, hx4'⟩
        have hx4 := hx.trans hx4'
        have p1 := hx4.frozen q1 f1
        have p2 := hx4.frozen q2 f2
        have t1 := hx4.cell q1
        have t2 := hx4.cell q2
        obtain ⟨r5, r6, hz', hxx⟩ := fin_rz (Nat.le_refl _) (hx0.trans hx4) hz t1 t2
        go_wp2_with fail
        refine bodyPost_ret (v := .agg #[.int .i64 sg, .slice A5 L5 c5]) (by simp [results, Try.results34, go_sem, r5, r6]) rfl ?_
        exact ⟨_, _, _, _, rfl, hz', hxx⟩
      · have hr1 : 0 < r := by omega
        have HD2 : Hid (digs 2 m = (ds ++ [r % 2]) ++ digs 2 (r / 2)) := by show _ = _; rw [HD.out, digs_pos (by omega) hr0, List.append_assoc]; rfl
        clear HD hr0
        go_wp2_with (at_builtin; refine wpList_app1 rfl _ _ _ rfl w0.heap.size 3 .i64 8 Try.underlying28 info_int (by omega) A4 c4 ds.length ds rfl rfl (HO.out.below (Ext.alloc _ _)) wr.heap.size (r % 2) rfl ?h2 ?h3 ?h4 ?h5)
        case h2 => simp
        case h3 => omega
        case h4 => simp; omega
        case h5 =>
          intro A10 c10 w4 hown hb4
          have hx5 : Ext w0 w4 := Below.trans hx (Below.trans (Below.mono (Ext.alloc wr _) hsz) hb4)
          have HOW := Lib.hid hown
          clear hown
          go_wp2_with fail
          go_roundw
          case rel =>
            have hrel : ∃ (es : List Nat) (r0 : Nat) (A4 : Option Addr) (c4 : Nat), Value.int .i64 ((r : Int) / 2) = .int .i64 r0 ∧ Value.slice A10 (ds.length + 1) c10 = .slice A4 es.length c4 ∧ Own w4 w0.heap.size .i64 3 A4 c4 es ∧ Hid (digs 2 m = es ++ digs 2 r0) ∧ r0 ≤ m ∧ Ext w0 w4 := ⟨ds ++ [r % 2], r / 2, A10, c10, by go_num, by rw [List.length_append]; rfl, HOW.out, HD2, by omega, hx5⟩
            first | exact hrel | ((repeat apply Exists.intro); exact ⟨hrel, rfl⟩)
          case measure => simp [intOf]; omega
end Go.Proofs.Ytjhknnioefipmaa
