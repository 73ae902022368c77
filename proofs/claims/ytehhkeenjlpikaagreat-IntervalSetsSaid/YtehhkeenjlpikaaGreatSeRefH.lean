/- Contracts of package cylinderref04: the value of a sign, the text of an integer; cylinderref02.Small. -/
import Derived.Test.YtehhkeenjlpikaaGreatSeDecX
import Derived.Test.YtehhkeenjlpikaaGreatRefY
namespace Go.Proofs.YtehhkeenjlpikaaGreat
open Go.RowKit
/-- The bits of a small number. -/
theorem small_rz {w : World} {n : Int} (hn : -1000000000 ≤ n ∧ n ≤ 1000000000) :
    Calls Tryz.prog 79 #[.int .i64 n] w (RetRZ w n) := by
  obtain ⟨w0, hw0⟩ : ∃ z : World, z = w.alloc (.cells #[.int .i64 0, .slice none 0 0] 34) := ⟨_, rfl⟩
  have hx0 : Ext w w0 := by rw [hw0]; exact Ext.alloc _ _
  have hb := box_new w (.int .i64 0) (.slice none 0 0) 34
  rw [← hw0] at hb
  obtain ⟨q1, q2, f⟩ := hb
  have f1 := f 0
  have f2 := f 1
  clear f
  have HW := Lib.hid hw0
  clear hw0
  have hm : n.natAbs ≤ 1000000000 := by omega
  obtain ⟨m, hm0⟩ : ∃ m, m = n.natAbs := ⟨_, rfl⟩
  rw [← hm0] at hm
  have HM := Lib.hid hm0
  have HL : Hid ((digs 2 m).length ≤ 30) := digs_len_le (by omega) (by omega)
  by_cases hneg : n < 0
  · have h0 : n < 0 := by omega
    have hn0 : decide (n < 0) = true := by simp; omega
    have hnm : -n = (m : Int) := by omega
    have HNM : Hid (n = -(m : Int)) := by show _ = _; omega
    clear hm0
    go_enter Tryz.func79, Tryz.ntmps79
    go_wp2_with fail
    rw [← HW.out]
    clear HW
    go_loopw [0, 4] (fun iv o wr => ∃ (ds : List Nat) (r : Nat) (A4 : Option Addr) (c4 : Nat), iv = .int .i64 r ∧ o = .slice A4 ds.length c4 ∧ Own wr w0.heap.size .i64 3 A4 c4 ds ∧ Hid (digs 2 m = ds ++ digs 2 r) ∧ r ≤ m ∧ Ext w0 wr) (fun iv _ _ => (intOf iv).toNat)
    case atStart => exact ⟨[], m, none, 0, by go_num, rfl, Own.none_ _ _ _ _, rfl, Nat.le_refl _, Ext.refl _⟩
    case round =>
      obtain ⟨ds, r, A4, c4, rfl, rfl, ho, HD, hr, hx⟩ := hrel
      have HO := Lib.hid ho
      have hdl : ds.length ≤ 30 := by have h5 := congrArg List.length HD.out; have := HL.out; rw [List.length_append] at h5; omega
      clear ho
      have hsz := hx.size
      by_cases hr0 : r = 0
      · subst hr0
        have hds : ds = digs 2 m := by rw [HD.out, digs_zero, List.append_nil]
        subst hds
        have hx4a := hx
        have HB : Hid (BN wr A4 c4 m) := Own.bn HO.out
        have HR : Hid (∀ w', BN w' A4 c4 m → Calls Tryz.prog 86 #[.bool true, .slice A4 (digs 2 m).length c4] w' (RetRZ w' n)) := fun w' hb => by
          rw [HNM.out]
          exact make_rz hb (by simp) (fun e => by first | (cases e; done) | omega) (fun e => by first | (cases e; done) | omega)
        generalize (digs 2 m).length = L at *
        go_wp2_with fail
        refine (HR.out _ HB.out).mono ?_
        rintro e w4 ⟨sg, A5, c5, L5, rfl, hz, hx4'⟩
        have hx4 := hx.trans hx4'
        have p1 := hx4.frozen q1 f1
        have p2 := hx4.frozen q2 f2
        have t1 := hx4.cell q1
        have t2 := hx4.cell q2
        obtain ⟨r5, r6, hz', hxx⟩ := fin_rz (Nat.le_refl _) (hx0.trans hx4) hz t1 t2
        go_wp2_with fail
        refine bodyPost_ret (v := .agg #[.int .i64 sg, .slice A5 L5 c5]) (by simp [results, Tryz.results79, go_sem, r5, r6]) rfl ?_
        exact ⟨_, _, _, _, rfl, hz', hxx⟩
      · have hr1 : 0 < r := by omega
        have HD2 : Hid (digs 2 m = (ds ++ [r % 2]) ++ digs 2 (r / 2)) := by show _ = _; rw [HD.out, digs_pos (by omega) hr0, List.append_assoc]; rfl
        clear HD hr0
        go_wp2_with (at_builtin; refine wpList_app1 rfl _ _ _ rfl w0.heap.size 3 .i64 8 Tryz.underlying32 info_int (by omega) A4 c4 ds.length ds rfl rfl (HO.out.below (Ext.alloc _ _)) wr.heap.size (r % 2) rfl ?h2 ?h3 ?h4 ?h5)
        case h2 => simp
        case h3 => omega
        case h4 => simp; omega
        case h5 =>
          intro A10 c10 w4 hown hb4
          have hx5 : Ext w0 w4 := Below.trans hx (Below.trans (Below.mono (Ext.alloc wr _) hsz) hb4)
          have HOW := Lib.hid hown
          clear hown
          go_wp2_with fail
          go_roundw
          case rel =>
            have hrel : ∃ (es : List Nat) (r0 : Nat) (A4 : Option Addr) (c4 : Nat), Value.int .i64 ((r : Int) / 2) = .int .i64 r0 ∧ Value.slice A10 (ds.length + 1) c10 = .slice A4 es.length c4 ∧ Own w4 w0.heap.size .i64 3 A4 c4 es ∧ Hid (digs 2 m = es ++ digs 2 r0) ∧ r0 ≤ m ∧ Ext w0 w4 := ⟨ds ++ [r % 2], r / 2, A10, c10, by go_num, by rw [List.length_append]; rfl, HOW.out, HD2, by omega, hx5⟩
            first | exact hrel | ((repeat apply Exists.intro); exact ⟨hrel, rfl⟩)
          case measure => simp [intOf]; omega
  · have h0 : 0 ≤ n := by omega
    have hn0 : decide (n < 0) = false := by simp; omega
    obtain rfl : n = (m : Int) := by omega
    clear hm0
    go_enter Tryz.func79, Tryz.ntmps79
    go_wp2_with fail
    rw [← HW.out]
    clear HW
    go_loopw [0, 4] (fun iv o wr => ∃ (ds : List Nat) (r : Nat) (A4 : Option Addr) (c4 : Nat), iv = .int .i64 r ∧ o = .slice A4 ds.length c4 ∧ Own wr w0.heap.size .i64 3 A4 c4 ds ∧ Hid (digs 2 m = ds ++ digs 2 r) ∧ r ≤ m ∧ Ext w0 wr) (fun iv _ _ => (intOf iv).toNat)
    case atStart => exact ⟨[], m, none, 0, by go_num, rfl, Own.none_ _ _ _ _, rfl, Nat.le_refl _, Ext.refl _⟩
    case round =>
      obtain ⟨ds, r, A4, c4, rfl, rfl, ho, HD, hr, hx⟩ := hrel
      have HO := Lib.hid ho
      have hdl : ds.length ≤ 30 := by have h5 := congrArg List.length HD.out; have := HL.out; rw [List.length_append] at h5; omega
      clear ho
      have hsz := hx.size
      by_cases hr0 : r = 0
      · subst hr0
        have hds : ds = digs 2 m := by rw [HD.out, digs_zero, List.append_nil]
        subst hds
        have hx4a := hx
        have HB : Hid (BN wr A4 c4 m) := Own.bn HO.out
        have HR : Hid (∀ w', BN w' A4 c4 m → Calls Tryz.prog 86 #[.bool false, .slice A4 (digs 2 m).length c4] w' (RetRZ w' ((m : Int)))) := fun w' hb => make_rz hb (by simp) (fun e => by first | (cases e; done) | omega) (fun e => by first | (cases e; done) | omega)
        generalize (digs 2 m).length = L at *
        go_wp2_with fail
        refine (HR.out _ HB.out).mono ?_
        rintro e w4 ⟨sg, A5, c5, L5, rfl, hz, hx4'⟩
        have hx4 := hx.trans hx4'
        have p1 := hx4.frozen q1 f1
        have p2 := hx4.frozen q2 f2
        have t1 := hx4.cell q1
        have t2 := hx4.cell q2
        obtain ⟨r5, r6, hz', hxx⟩ := fin_rz (Nat.le_refl _) (hx0.trans hx4) hz t1 t2
        go_wp2_with fail
        refine bodyPost_ret (v := .agg #[.int .i64 sg, .slice A5 L5 c5]) (by simp [results, Tryz.results79, go_sem, r5, r6]) rfl ?_
        exact ⟨_, _, _, _, rfl, hz', hxx⟩
      · have hr1 : 0 < r := by omega
        have HD2 : Hid (digs 2 m = (ds ++ [r % 2]) ++ digs 2 (r / 2)) := by show _ = _; rw [HD.out, digs_pos (by omega) hr0, List.append_assoc]; rfl
        clear HD hr0
        go_wp2_with (at_builtin; refine wpList_app1 rfl _ _ _ rfl w0.heap.size 3 .i64 8 Tryz.underlying32 info_int (by omega) A4 c4 ds.length ds rfl rfl (HO.out.below (Ext.alloc _ _)) wr.heap.size (r % 2) rfl ?h2 ?h3 ?h4 ?h5)
        case h2 => simp
        case h3 => omega
        case h4 => simp; omega
        case h5 =>
          intro A10 c10 w4 hown hb4
          have hx5 : Ext w0 w4 := Below.trans hx (Below.trans (Below.mono (Ext.alloc wr _) hsz) hb4)
          have HOW := Lib.hid hown
          clear hown
          go_wp2_with fail
          go_roundw
          case rel =>
            have hrel : ∃ (es : List Nat) (r0 : Nat) (A4 : Option Addr) (c4 : Nat), Value.int .i64 ((r : Int) / 2) = .int .i64 r0 ∧ Value.slice A10 (ds.length + 1) c10 = .slice A4 es.length c4 ∧ Own w4 w0.heap.size .i64 3 A4 c4 es ∧ Hid (digs 2 m = es ++ digs 2 r0) ∧ r0 ≤ m ∧ Ext w0 w4 := ⟨ds ++ [r % 2], r / 2, A10, c10, by go_num, by rw [List.length_append]; rfl, HOW.out, HD2, by omega, hx5⟩
            first | exact hrel | ((repeat apply Exists.intro); exact ⟨hrel, rfl⟩)
          case measure => simp [intOf]; omega
end Go.Proofs.YtehhkeenjlpikaaGreat
