/- Contracts of package division: isZero, Quo. -/
import Derived.Test.YtfnmbhjifdfibaaDivC
import Derived.Test.YtfnmbhjifdfibaaKept
namespace Go.Proofs.Ytfnmbhjifdfibaa
open Go.RowKit
theorem isZero_z {w : World} {s1 : Bool} {A1 : Option Addr} {c1 L1 : Nat} {x : Int} (h : ZV w s1 A1 c1 L1 x) : Calls Try.prog 111 #[.agg #[.bool s1, .slice A1 L1 c1]] w fun e w' => e = .returned (.bool (x == 0)) ∧ Ext w w' := by
  have hs : (x.sign == 0) = (x == 0) := by rw [Bool.eq_iff_iff, beq_iff_eq, beq_iff_eq]; rcases sign_cases x with ⟨a, b⟩ | ⟨a, b⟩ | ⟨a, b⟩ <;> omega
  have HS := Lib.hid hs
  clear hs
  go_enter Try.func111, Try.ntmps111
  go_wp2_with fail
  refine (sign_z (h.ext (Ext.alloc _ _))).mono ?_
  rintro e w1 ⟨rfl, x1⟩
  generalize x.sign = sg at *
  go_wp2_with fail
  go_ret
  exact ⟨by rw [← HS.out]; rfl, (Ext.alloc _ _).trans x1⟩
theorem quo_sign {s1 s2 : Bool} {x y : Int} (n1 : s1 = true → x ≤ 0) (p1 : s1 = false → 0 ≤ x) (n2 : s2 = true → y ≤ 0) (p2 : s2 = false → 0 ≤ y) : ((!s1 == s2) = true → x.tdiv y ≤ 0) ∧ ((!s1 == s2) = false → 0 ≤ x.tdiv y) := by
  have key : ∀ a b : Int, 0 ≤ a → 0 ≤ b → 0 ≤ a.tdiv b := fun a b ha hb => Int.tdiv_nonneg ha hb
  cases s1 <;> cases s2
  · exact ⟨(fun h => by cases h), fun _ => key _ _ (p1 rfl) (p2 rfl)⟩
  · refine ⟨fun _ => ?_, (fun h => by cases h)⟩
    have h5 := key x (-y) (p1 rfl) (by have := n2 rfl; omega)
    rw [Int.tdiv_neg] at h5
    omega
  · refine ⟨fun _ => ?_, (fun h => by cases h)⟩
    have h5 := key (-x) y (by have := n1 rfl; omega) (p2 rfl)
    rw [Int.neg_tdiv] at h5
    omega
  · refine ⟨(fun h => by cases h), fun _ => ?_⟩
    have h5 := key (-x) (-y) (by have := n1 rfl; omega) (by have := n2 rfl; omega)
    rw [Int.neg_tdiv, Int.tdiv_neg] at h5
    omega
theorem rem_sign {s1 : Bool} {x y : Int} (n1 : s1 = true → x ≤ 0) (p1 : s1 = false → 0 ≤ x) : (s1 = true → x.tmod y ≤ 0) ∧ (s1 = false → 0 ≤ x.tmod y) := by
  refine ⟨fun h => ?_, fun h => Int.tmod_nonneg y (p1 h)⟩
  have h5 := Int.tmod_nonneg y (show 0 ≤ -x by have := n1 h; omega)
  rw [Int.neg_tmod] at h5
  omega
/-- The call returns quotient and remainder in new memory, and OK. -/
def RetQR (w : World) (q r : Int) (e : Ending) (w' : World) : Prop := ∃ sq Aq cq Lq sr Ar cr Lr, e = .returned (.tuple #[.agg #[.bool sq, .slice Aq Lq cq], .agg #[.bool sr, .slice Ar Lr cr], .int .i64 0]) ∧ ZO w' w.heap.size sq Aq cq Lq q ∧ ZO w' w.heap.size sr Ar cr Lr r ∧ Ext w w'
set_option maxHeartbeats 4000000 in
set_option maxRecDepth 100000 in
theorem quo_z {w : World} {s1 s2 : Bool} {A1 A2 : Option Addr} {c1 c2 L1 L2 : Nat} {x y : Int} (h1 : ZV w s1 A1 c1 L1 x) (h2 : ZV w s2 A2 c2 L2 y) (hy : (y == 0) = false) (hs1 : dl x.natAbs ≤ 1000000000) (hs2 : dl y.natAbs ≤ 1000000000) :
    Calls Try.prog 97 #[.agg #[.bool s1, .slice A1 L1 c1], .agg #[.bool s2, .slice A2 L2 c2]] w (RetQR w (x.tdiv y) (x.tmod y)) := by
  have hm : y.natAbs ≠ 0 := by have := ne_of_beq_false hy; omega
  have n2a : w.heap.size + 1 + 1 ≠ w.heap.size := by omega
  have n2b : w.heap.size + 1 + 1 ≠ w.heap.size + 1 := by omega
  have n3a : w.heap.size + 1 + 1 + 1 ≠ w.heap.size := by omega
  have n3b : w.heap.size + 1 + 1 + 1 ≠ w.heap.size + 1 := by omega
  go_enter Try.func97, Try.ntmps97
  go_wp2_with fail
  obtain ⟨w0, hw0⟩ : ∃ z : World, z = ((((w.alloc (.cells #[.bool s1, .slice A1 L1 c1] 25)).alloc (.cells #[.bool s2, .slice A2 L2 c2] 25)).alloc (.cells #[.bool false, .slice none 0 0] 25)).alloc (.cells #[.bool false, .slice none 0 0] 25)) := ⟨_, rfl⟩
  rw [← hw0]
  have b0 := box_at w #[.bool s1, .slice A1 L1 c1] 25
  have b1 := box_at (w.alloc (.cells #[.bool s1, .slice A1 L1 c1] 25)) #[.bool s2, .slice A2 L2 c2] 25
  have b2 := box_at ((w.alloc (.cells #[.bool s1, .slice A1 L1 c1] 25)).alloc (.cells #[.bool s2, .slice A2 L2 c2] 25)) #[.bool false, .slice none 0 0] 25
  have b3 := box_at (((w.alloc (.cells #[.bool s1, .slice A1 L1 c1] 25)).alloc (.cells #[.bool s2, .slice A2 L2 c2] 25)).alloc (.cells #[.bool false, .slice none 0 0] 25)) #[.bool false, .slice none 0 0] 25
  have hsz : w0.heap.size = w.heap.size + 1 + 1 + 1 + 1 := by rw [hw0]; simp
  rw [← hw0] at b3
  have y3 : Ext (((w.alloc (.cells #[.bool s1, .slice A1 L1 c1] 25)).alloc (.cells #[.bool s2, .slice A2 L2 c2] 25)).alloc (.cells #[.bool false, .slice none 0 0] 25)) w0 := by rw [hw0]; exact Ext.alloc _ _
  have y2 : Ext ((w.alloc (.cells #[.bool s1, .slice A1 L1 c1] 25)).alloc (.cells #[.bool s2, .slice A2 L2 c2] 25)) w0 := (Ext.alloc _ _).trans y3
  have y1 : Ext (w.alloc (.cells #[.bool s1, .slice A1 L1 c1] 25)) w0 := (Ext.alloc _ _).trans y2
  have y0 : Ext w w0 := (Ext.alloc _ _).trans y1
  have x0 : Ext w w0 := y0
  have e0_0 := y1.cell (b0.1 0 (.bool s1) rfl)
  have e0_1 := y1.cell (b0.1 1 (.slice A1 L1 c1) rfl)
  have e1_0 := y2.cell (b1.1 0 (.bool s2) rfl)
  have e1_1 := y2.cell (b1.1 1 (.slice A2 L2 c2) rfl)
  have q2_0 := y3.cell (b2.1 0 (.bool false) rfl)
  have f2_0 := y3.frozen (b2.1 0 (.bool false) rfl) (b2.2 0)
  have q2_1 := y3.cell (b2.1 1 (.slice none 0 0) rfl)
  have f2_1 := y3.frozen (b2.1 1 (.slice none 0 0) rfl) (b2.2 1)
  have q3_0 := b3.1 0 (.bool false) rfl
  have f3_0 := b3.2 0
  have q3_1 := b3.1 1 (.slice none 0 0) rfl
  have f3_1 := b3.2 1
  simp only [World.size_alloc] at e1_0 e1_1 q2_0 f2_0 q2_1 f2_1 q3_0 f3_0 q3_1 f3_1
  clear hw0 b0 b1 b2 b3 y0 y1 y2 y3
  clear hsz
  go_wp2_with fail
  refine (isZero_z (h2.ext (by repeat' (first | with_reducible exact Ext.refl _ | with_reducible assumption | with_reducible apply Ext.alloc_r | with_reducible apply Ext.drew_r | with_reducible apply Ext.drewN_r | with_reducible refine Ext.trans ?_ ‹Ext _ _›)))).mono ?_
  rintro e w1 ⟨rfl, x1⟩
  replace f2_0 := x1.frozen q2_0 f2_0
  replace f2_1 := x1.frozen q2_1 f2_1
  replace f3_0 := x1.frozen q3_0 f3_0
  replace f3_1 := x1.frozen q3_1 f3_1
  replace e0_0 := x1.cell e0_0
  replace e0_1 := x1.cell e0_1
  replace e1_0 := x1.cell e1_0
  replace e1_1 := x1.cell e1_1
  replace q2_0 := x1.cell q2_0
  replace q2_1 := x1.cell q2_1
  replace q3_0 := x1.cell q3_0
  replace q3_1 := x1.cell q3_1
  go_wp2_with fail
  refine (divide_v (h1.nv.ext (by repeat' (first | with_reducible exact Ext.refl _ | with_reducible assumption | with_reducible apply Ext.alloc_r | with_reducible apply Ext.drew_r | with_reducible apply Ext.drewN_r | with_reducible refine Ext.trans ?_ ‹Ext _ _›))) (h2.nv.ext (by repeat' (first | with_reducible exact Ext.refl _ | with_reducible assumption | with_reducible apply Ext.alloc_r | with_reducible apply Ext.drew_r | with_reducible apply Ext.drewN_r | with_reducible refine Ext.trans ?_ ‹Ext _ _›))) hm hs1 hs2).mono ?_
  rintro e w2 ⟨Aq, cq, Ar, cr, rfl, hq, hr, x2⟩
  replace f2_0 := x2.frozen q2_0 f2_0
  replace f2_1 := x2.frozen q2_1 f2_1
  replace f3_0 := x2.frozen q3_0 f3_0
  replace f3_1 := x2.frozen q3_1 f3_1
  replace e0_0 := x2.cell e0_0
  replace e0_1 := x2.cell e0_1
  replace e1_0 := x2.cell e1_0
  replace e1_1 := x2.cell e1_1
  replace q2_0 := x2.cell q2_0
  replace q2_1 := x2.cell q2_1
  replace q3_0 := x2.cell q3_0
  replace q3_1 := x2.cell q3_1
  have HF1 : Hid (∀ w', Ext w2 w' → Calls Try.prog 88 #[.bool (!s1 == s2), .slice Aq (digs B32 (x.natAbs / y.natAbs)).length cq] w' (RetZ w' (x.tdiv y))) := fun w' hx => by
    refine from_z ⟨by rw [Int.natAbs_tdiv]; exact NO.nv (hq.ext hx), (quo_sign h1.neg h1.pos h2.neg h2.pos).1, (quo_sign h1.neg h1.pos h2.neg h2.pos).2⟩ ?_
    rw [Int.natAbs_tdiv]
    show dl (x.natAbs / y.natAbs) ≤ 17592186044416
    have h5 := dl_mono (Nat.div_le_self x.natAbs y.natAbs)
    omega
  have HF2 : Hid (∀ w', Ext w2 w' → Calls Try.prog 88 #[.bool s1, .slice Ar (digs B32 (x.natAbs % y.natAbs)).length cr] w' (RetZ w' (x.tmod y))) := fun w' hx => by
    refine from_z ⟨by rw [Int.natAbs_tmod]; exact NO.nv (hr.ext hx), (rem_sign h1.neg h1.pos).1, (rem_sign h1.neg h1.pos).2⟩ ?_
    rw [Int.natAbs_tmod]
    have h5 := dl_mono (Nat.mod_le x.natAbs y.natAbs)
    omega
  generalize (digs B32 (x.natAbs / y.natAbs)).length = lq at *
  generalize (digs B32 (x.natAbs % y.natAbs)).length = lr at *
  have xw : Ext w w2 := (by repeat' (first | with_reducible exact Ext.refl _ | with_reducible assumption | with_reducible apply Ext.alloc_r | with_reducible apply Ext.drew_r | with_reducible apply Ext.drewN_r | with_reducible refine Ext.trans ?_ ‹Ext _ _›))
  have hB2 := World.block_lt_of_cell? w2 _ q2_0
  have hB3 := World.block_lt_of_cell? w2 _ q3_0
  simp only at hB2 hB3
  have xd : Ext w2 (w2).drew := Ext.drew _
  clear hq hr
  go_wp2_with fail
  go_region_held3 (fun w' => w'.cell? ⟨w.heap.size, 0, none⟩ = some (.bool s1) ∧ w'.cell? ⟨w.heap.size + 1, 0, none⟩ = some (.bool s2))
    (first | exact ⟨xd.cell e0_0, xd.cell e1_0⟩ | exact ⟨y7.cell e0_0, y7.cell e1_0⟩ | exact ⟨y8.cell e0_0, y8.cell e1_0⟩ | exact ⟨cell_far n2a (cell_far n2a (y8.cell e0_0)), cell_far n2b (cell_far n2b (y8.cell e1_0))⟩ | exact ⟨cell_far n3a (cell_far n3a (cell_far n2a (cell_far n2a (y8.cell e0_0)))), cell_far n3b (cell_far n3b (cell_far n2b (cell_far n2b (y8.cell e1_0))))⟩)
    (first
      | (go_at_call_of 88 (#[Value.bool s1, Value.slice Ar lr cr]); refine (HF2.out _ y7).mono ?_; rintro e w8 ⟨s8, A8, c8, L8, rfl, z8, x8⟩; have y8 := Ext.trans y7 x8; have a1 := Ext.cell y8 q2_0; have a2 := Ext.cell y8 q2_1; have a3 := Ext.cell y8 q3_0; have a4 := Ext.cell y8 q3_1; have b1 := Ext.frozen y8 q2_0 f2_0; have b2 := Ext.frozen y8 q2_1 f2_1; have b3 := Ext.frozen y8 q3_0 f3_0; have b4 := Ext.frozen y8 q3_1 f3_1)
      | (go_at_call_of 88 (#[Value.bool (!s1 == s2), Value.slice Aq lq cq]); refine (HF1.out _ xd).mono ?_; rintro e w7 ⟨s7, A7, c7, L7, rfl, z7, x7⟩; have y7 := Ext.trans xd x7))
  have n32 : w.heap.size + 1 + 1 + 1 ≠ w.heap.size + 1 + 1 := by omega
  have hsz7 : (w2).heap.size ≤ w7.heap.size := y7.size
  have HZ7 : Hid (ZO w8 (w2).heap.size s7 A7 c7 L7 (x.tdiv y)) := z7.ext x8
  have HZ8 : Hid (ZO w8 (w2).heap.size s8 A8 c8 L8 (x.tmod y)) := z8.mono hsz7
  have HXF := Lib.hid (Ext.trans xw y8)
  clear z7 z8 x7 x8 hsz7
  obtain ⟨ww, hww⟩ : ∃ z : World, z = (((w8.setCell ⟨w.heap.size + 1 + 1, 0, none⟩ (.bool s7)).setCell ⟨w.heap.size + 1 + 1, 1, none⟩ (.slice A7 L7 c7)).setCell ⟨w.heap.size + 1 + 1 + 1, 0, none⟩ (.bool s8)).setCell ⟨w.heap.size + 1 + 1 + 1, 1, none⟩ (.slice A8 L8 c8) := ⟨_, rfl⟩
  rw [← hww]
  obtain ⟨r1, r2⟩ := res_set (r1 := .bool s7) (r2 := .slice A7 L7 c7) a1 a2
  have k1 : ww.cell? ⟨w.heap.size + 1 + 1, 0, none⟩ = some (.bool s7) := by rw [hww]; exact cell_far n32 (cell_far n32 r1)
  have k2 : ww.cell? ⟨w.heap.size + 1 + 1, 1, none⟩ = some (.slice A7 L7 c7) := by rw [hww]; exact cell_far n32 (cell_far n32 r2)
  obtain ⟨r3, r4⟩ := res_set (r1 := .bool s8) (r2 := .slice A8 L8 c8) (cell_far n32.symm (cell_far n32.symm a3) : ((w8.setCell ⟨w.heap.size + 1 + 1, 0, none⟩ (.bool s7)).setCell ⟨w.heap.size + 1 + 1, 1, none⟩ (.slice A7 L7 c7)).cell? ⟨w.heap.size + 1 + 1 + 1, 0, none⟩ = _) (cell_far n32.symm (cell_far n32.symm a4))
  have k3 : ww.cell? ⟨w.heap.size + 1 + 1 + 1, 0, none⟩ = some (.bool s8) := by rw [hww]; exact r3
  have k4 : ww.cell? ⟨w.heap.size + 1 + 1 + 1, 1, none⟩ = some (.slice A8 L8 c8) := by rw [hww]; exact r4
  have hle : w.heap.size ≤ (w2).heap.size := xw.size
  have HF7 : Hid (ZO ww w.heap.size s7 A7 c7 L7 (x.tdiv y)) := by
    refine ⟨?_, HZ7.out.sign, HZ7.out.len⟩
    rw [hww]
    exact Own.mono ((((Own.set_far HZ7.out.no (p := ⟨_, 0, none⟩) hB2 _).set_far (p := ⟨_, 1, none⟩) hB2 _).set_far (p := ⟨_, 0, none⟩) hB3 _).set_far (p := ⟨_, 1, none⟩) hB3 _) hle
  have HF8 : Hid (ZO ww w.heap.size s8 A8 c8 L8 (x.tmod y)) := by
    refine ⟨?_, HZ8.out.sign, HZ8.out.len⟩
    rw [hww]
    exact Own.mono ((((Own.set_far HZ8.out.no (p := ⟨_, 0, none⟩) hB2 _).set_far (p := ⟨_, 1, none⟩) hB2 _).set_far (p := ⟨_, 0, none⟩) hB3 _).set_far (p := ⟨_, 1, none⟩) hB3 _) hle
  have hxx : Ext w ww := by
    rw [hww]
    exact Below.setCell (Below.setCell (Below.setCell (Below.setCell HXF.out (p := ⟨w.heap.size + 1 + 1, 0, none⟩) (by show _ ≤ w.heap.size + 1 + 1; omega) _) (p := ⟨w.heap.size + 1 + 1, 1, none⟩) (by show _ ≤ w.heap.size + 1 + 1; omega) _) (p := ⟨w.heap.size + 1 + 1 + 1, 0, none⟩) (by show _ ≤ w.heap.size + 1 + 1 + 1; omega) _) (p := ⟨w.heap.size + 1 + 1 + 1, 1, none⟩) (by show _ ≤ w.heap.size + 1 + 1 + 1; omega) _
  clear hww r1 r2 r3 r4
  go_wp2_with fail
  refine bodyPost_ret (v := .tuple #[.agg #[.bool s7, .slice A7 L7 c7], .agg #[.bool s8, .slice A8 L8 c8], .int .i64 0]) (by simp [results, Try.results97, go_sem, k1, k2, k3, k4]) rfl ?_
  exact ⟨_, _, _, _, _, _, _, _, rfl, HF7.out, HF8.out, hxx⟩
end Go.Proofs.Ytfnmbhjifdfibaa
