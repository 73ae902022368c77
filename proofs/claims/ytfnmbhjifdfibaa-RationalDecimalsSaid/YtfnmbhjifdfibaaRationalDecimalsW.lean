/- The walk of RationalDecimals. -/
import Derived.Test.YtfnmbhjifdfibaaLaw5b
import Derived.Test.YtfnmbhjifdfibaaRefY
import Derived.Test.YtfnmbhjifdfibaaDecZ
import Derived.Test.YtfnmbhjifdfibaaDecR
namespace Go.Proofs.Ytfnmbhjifdfibaa
open Go.RowKit
theorem dec_same {w : World} {g1 h1 : Int} {A1 B1 : Option Addr} {c1 d1 L1 M1 K1 : Nat} {q1 : Rat} {t : ByteArray} {p : Nat} (z1 : QR w g1 A1 c1 L1 h1 B1 d1 M1 K1 q1) (hs1 : K1 ≤ 1000) (hp : p ≤ 40) (ht : bs t = decT q1 p) :
    Calls Try.prog 15 #[Value.agg #[Value.int .i64 g1, Value.slice A1 L1 c1, Value.int .i64 h1, Value.slice B1 M1 d1], .int .i64 p] w fun e w' => e = .returned (.string t) ∧ Ext w w' := by
  refine (qdec_r z1 hs1 hp).mono ?_
  rintro e w' ⟨s, rfl, hs, hx⟩
  rw [bs_inj (hs.trans ht.symm)]
  exact ⟨rfl, hx⟩
set_option maxHeartbeats 40000000 in
set_option maxRecDepth 100000 in
theorem rationalDecimals_walk {w : World} {s1 : Bool} {A1 B1 : Option Addr} {c1 L1 d1 M1 : Nat} {x1 : Int} {y1 : Nat} {z : Int} (h1 : RW w s1 A1 c1 L1 B1 d1 M1 x1 y1) (_hz : -9223372036854775808 ≤ z ∧ z ≤ 9223372036854775807) :
    Calls Try.prog 3 #[Value.agg #[Value.bool s1, Value.slice A1 L1 c1, Value.slice B1 M1 d1], .int .i64 z] w fun e w' => e = .returned (.bool true) ∧ Ext w w' := by
  have pa1 := h1.num.nv.cap
  have pb1 := h1.den.cap
  have qa1 := h1.num.nv.le
  have qb1 := h1.den.le
  by_cases hf : L1 ≤ 4 ∧ M1 ≤ 4
  · have HF : Hid (((decide (L1 ≤ 4) && (decide (M1 ≤ 4) && decide (L1 ≤ 4))) && (decide (M1 ≤ 4) && (decide (L1 ≤ 4) && decide (M1 ≤ 4)))) = true) := by show _ = _; simp only [decide_eq_true_eq, Bool.and_eq_true]; omega
    by_cases hb : z < 0 ∨ 1000 < z
    · rcases hb with hb | hb
      · have HB : Hid (z < 0 ∨ 1000 < z) := .inl hb
        have h40 : ¬ 40 < z := by omega
        go_enter Try.func3, Try.ntmps3
        go_wp2_with fail
        obtain ⟨w0, hw0⟩ : ∃ z : World, z = (w.alloc (.cells #[.bool s1, .slice A1 L1 c1, .slice B1 M1 d1] 27)) := ⟨_, rfl⟩
        rw [← hw0]
        have b0 := box_at w #[.bool s1, .slice A1 L1 c1, .slice B1 M1 d1] 27
        have hsz : w0.heap.size = w.heap.size + 1 := by rw [hw0]; simp
        rw [← hw0] at b0
        have y0 : Ext w w0 := by rw [hw0]; exact Ext.alloc _ _
        have x0 : Ext w w0 := y0
        have e0_0 := b0.1 0 (.bool s1) rfl
        have e0_1 := b0.1 1 (.slice A1 L1 c1) rfl
        have e0_2 := b0.1 2 (.slice B1 M1 d1) rfl
        clear hw0 b0 y0
        go_wp2_with fail
        refine (awake5 _).mono ?_
        rintro e w1 ⟨rfl, x1⟩
        replace e0_0 := x1.cell e0_0
        replace e0_1 := x1.cell e0_1
        replace e0_2 := x1.cell e0_2
        go_wp2_with fail
        refine (few5 (n := 4) (by omega) (by omega) (by omega) (by omega) (by omega) (by omega)).mono ?_
        rintro e w2 ⟨rfl, x2⟩
        replace e0_0 := x2.cell e0_0
        replace e0_1 := x2.cell e0_1
        replace e0_2 := x2.cell e0_2
        rw [HF.out]
        clear hsz
        go_wp2_with fail
        refine (rdec_bad HB.out).mono ?_
        rintro e w3 ⟨rfl, x3⟩
        replace e0_0 := x3.cell e0_0
        replace e0_1 := x3.cell e0_1
        replace e0_2 := x3.cell e0_2
        go_wp2_with fail
        go_ret
        exact ⟨rfl, (by repeat' (first | with_reducible exact Ext.refl _ | with_reducible assumption | with_reducible apply Ext.alloc_r | with_reducible apply Ext.drew_r | with_reducible apply Ext.drewN_r | with_reducible refine Ext.trans ?_ ‹Ext _ _›))⟩
      · have HB : Hid (z < 0 ∨ 1000 < z) := .inr hb
        have h40 : 40 < z := by omega
        have h41 : ¬ z ≤ 1000 := by omega
        have h42 : ¬ z < 0 := by omega
        go_enter Try.func3, Try.ntmps3
        go_wp2_with fail
        obtain ⟨w0, hw0⟩ : ∃ z : World, z = (w.alloc (.cells #[.bool s1, .slice A1 L1 c1, .slice B1 M1 d1] 27)) := ⟨_, rfl⟩
        rw [← hw0]
        have b0 := box_at w #[.bool s1, .slice A1 L1 c1, .slice B1 M1 d1] 27
        have hsz : w0.heap.size = w.heap.size + 1 := by rw [hw0]; simp
        rw [← hw0] at b0
        have y0 : Ext w w0 := by rw [hw0]; exact Ext.alloc _ _
        have x0 : Ext w w0 := y0
        have e0_0 := b0.1 0 (.bool s1) rfl
        have e0_1 := b0.1 1 (.slice A1 L1 c1) rfl
        have e0_2 := b0.1 2 (.slice B1 M1 d1) rfl
        clear hw0 b0 y0
        go_wp2_with fail
        refine (awake5 _).mono ?_
        rintro e w1 ⟨rfl, x1⟩
        replace e0_0 := x1.cell e0_0
        replace e0_1 := x1.cell e0_1
        replace e0_2 := x1.cell e0_2
        go_wp2_with fail
        refine (few5 (n := 4) (by omega) (by omega) (by omega) (by omega) (by omega) (by omega)).mono ?_
        rintro e w2 ⟨rfl, x2⟩
        replace e0_0 := x2.cell e0_0
        replace e0_1 := x2.cell e0_1
        replace e0_2 := x2.cell e0_2
        rw [HF.out]
        clear hsz
        go_wp2_with fail
        refine (rdec_bad HB.out).mono ?_
        rintro e w3 ⟨rfl, x3⟩
        replace e0_0 := x3.cell e0_0
        replace e0_1 := x3.cell e0_1
        replace e0_2 := x3.cell e0_2
        go_wp2_with fail
        go_ret
        exact ⟨rfl, (by repeat' (first | with_reducible exact Ext.refl _ | with_reducible assumption | with_reducible apply Ext.alloc_r | with_reducible apply Ext.drew_r | with_reducible apply Ext.drewN_r | with_reducible refine Ext.trans ?_ ‹Ext _ _›))⟩
    · by_cases hm : 40 < z
      · have h41 : z ≤ 1000 := by omega
        go_enter Try.func3, Try.ntmps3
        go_wp2_with fail
        obtain ⟨w0, hw0⟩ : ∃ z : World, z = (w.alloc (.cells #[.bool s1, .slice A1 L1 c1, .slice B1 M1 d1] 27)) := ⟨_, rfl⟩
        rw [← hw0]
        have b0 := box_at w #[.bool s1, .slice A1 L1 c1, .slice B1 M1 d1] 27
        have hsz : w0.heap.size = w.heap.size + 1 := by rw [hw0]; simp
        rw [← hw0] at b0
        have y0 : Ext w w0 := by rw [hw0]; exact Ext.alloc _ _
        have x0 : Ext w w0 := y0
        have e0_0 := b0.1 0 (.bool s1) rfl
        have e0_1 := b0.1 1 (.slice A1 L1 c1) rfl
        have e0_2 := b0.1 2 (.slice B1 M1 d1) rfl
        clear hw0 b0 y0
        go_wp2_with fail
        refine (awake5 _).mono ?_
        rintro e w1 ⟨rfl, x1⟩
        replace e0_0 := x1.cell e0_0
        replace e0_1 := x1.cell e0_1
        replace e0_2 := x1.cell e0_2
        go_wp2_with fail
        refine (few5 (n := 4) (by omega) (by omega) (by omega) (by omega) (by omega) (by omega)).mono ?_
        rintro e w2 ⟨rfl, x2⟩
        replace e0_0 := x2.cell e0_0
        replace e0_1 := x2.cell e0_1
        replace e0_2 := x2.cell e0_2
        rw [HF.out]
        clear hsz
        go_wp2_with fail
        refine (awake5 _).mono ?_
        rintro e w3 ⟨rfl, x3⟩
        replace e0_0 := x3.cell e0_0
        replace e0_1 := x3.cell e0_1
        replace e0_2 := x3.cell e0_2
        go_wp2_with fail
        go_ret
        exact ⟨rfl, (by repeat' (first | with_reducible exact Ext.refl _ | with_reducible assumption | with_reducible apply Ext.alloc_r | with_reducible apply Ext.drew_r | with_reducible apply Ext.drewN_r | with_reducible refine Ext.trans ?_ ‹Ext _ _›))⟩
      · obtain ⟨p, rfl⟩ : ∃ p : Nat, z = p := ⟨z.toNat, by omega⟩
        have hp : p ≤ 40 := by omega
        have e1 := h1.rv (N := 4) (by omega) (by omega) (by omega)
        have HO1 : Hid (∀ w', Ext w w' → Calls Try.prog 16 #[Value.agg #[Value.bool s1, Value.slice A1 L1 c1, Value.slice B1 M1 d1]] w' (RetQ w' 128 (mkRat x1 y1))) := fun w' hx => lof5 (h1.ext hx) (by omega) (by omega) (by omega) (by omega)
        generalize mkRat x1 y1 = q1 at *
        clear hf h1 hm hb
        go_enter Try.func3, Try.ntmps3
        go_wp2_with fail
        obtain ⟨w0, hw0⟩ : ∃ z : World, z = (w.alloc (.cells #[.bool s1, .slice A1 L1 c1, .slice B1 M1 d1] 27)) := ⟨_, rfl⟩
        rw [← hw0]
        have b0 := box_at w #[.bool s1, .slice A1 L1 c1, .slice B1 M1 d1] 27
        have hsz : w0.heap.size = w.heap.size + 1 := by rw [hw0]; simp
        rw [← hw0] at b0
        have y0 : Ext w w0 := by rw [hw0]; exact Ext.alloc _ _
        have x0 : Ext w w0 := y0
        have e0_0 := b0.1 0 (.bool s1) rfl
        have e0_1 := b0.1 1 (.slice A1 L1 c1) rfl
        have e0_2 := b0.1 2 (.slice B1 M1 d1) rfl
        clear hw0 b0 y0
        go_wp2_with fail
        refine (awake5 _).mono ?_
        rintro e w1 ⟨rfl, x1⟩
        replace e0_0 := x1.cell e0_0
        replace e0_1 := x1.cell e0_1
        replace e0_2 := x1.cell e0_2
        go_wp2_with fail
        refine (few5 (n := 4) (by omega) (by omega) (by omega) (by omega) (by omega) (by omega)).mono ?_
        rintro e w2 ⟨rfl, x2⟩
        replace e0_0 := x2.cell e0_0
        replace e0_1 := x2.cell e0_1
        replace e0_2 := x2.cell e0_2
        rw [HF.out]
        clear hsz
        go_wp2_with fail
        refine (rdec_r (e1.ext (by repeat' (first | with_reducible exact Ext.refl _ | with_reducible assumption | with_reducible apply Ext.alloc_r | with_reducible apply Ext.drew_r | with_reducible apply Ext.drewN_r | with_reducible refine Ext.trans ?_ ‹Ext _ _›))) (by omega) hp).mono ?_
        rintro e w3 ⟨tt, rfl, t, x3⟩
        replace e0_0 := x3.cell e0_0
        replace e0_1 := x3.cell e0_1
        replace e0_2 := x3.cell e0_2
        have HT := Lib.hid t
        clear t
        go_wp2_with fail
        refine (HO1.out _ (by repeat' (first | with_reducible exact Ext.refl _ | with_reducible assumption | with_reducible apply Ext.alloc_r | with_reducible apply Ext.drew_r | with_reducible apply Ext.drewN_r | with_reducible refine Ext.trans ?_ ‹Ext _ _›))).mono ?_
        rintro e w4 ⟨goa, Aoa, coa, Loa, hoa, Boa, doa, Moa, rfl, oa, x4⟩
        replace e0_0 := x4.cell e0_0
        replace e0_1 := x4.cell e0_1
        replace e0_2 := x4.cell e0_2
        go_wp2_with fail
        refine (dec_same (oa.ext (by repeat' (first | with_reducible exact Ext.refl _ | with_reducible assumption | with_reducible apply Ext.alloc_r | with_reducible apply Ext.drew_r | with_reducible apply Ext.drewN_r | with_reducible refine Ext.trans ?_ ‹Ext _ _›))) (by omega) hp HT.out).mono ?_
        rintro e w5 ⟨rfl, x5⟩
        replace e0_0 := x5.cell e0_0
        replace e0_1 := x5.cell e0_1
        replace e0_2 := x5.cell e0_2
        go_wp2_with fail
        go_ret
        exact ⟨rfl, (by repeat' (first | with_reducible exact Ext.refl _ | with_reducible assumption | with_reducible apply Ext.alloc_r | with_reducible apply Ext.drew_r | with_reducible apply Ext.drewN_r | with_reducible refine Ext.trans ?_ ‹Ext _ _›))⟩
  · have HF : Hid (((decide (L1 ≤ 4) && (decide (M1 ≤ 4) && decide (L1 ≤ 4))) && (decide (M1 ≤ 4) && (decide (L1 ≤ 4) && decide (M1 ≤ 4)))) = false) := by show _ = _; rw [Bool.eq_false_iff]; simp only [ne_eq, decide_eq_true_eq, Bool.and_eq_true]; omega
    clear hf
    go_enter Try.func3, Try.ntmps3
    go_wp2_with fail
    obtain ⟨w0, hw0⟩ : ∃ z : World, z = (w.alloc (.cells #[.bool s1, .slice A1 L1 c1, .slice B1 M1 d1] 27)) := ⟨_, rfl⟩
    rw [← hw0]
    have b0 := box_at w #[.bool s1, .slice A1 L1 c1, .slice B1 M1 d1] 27
    have hsz : w0.heap.size = w.heap.size + 1 := by rw [hw0]; simp
    rw [← hw0] at b0
    have y0 : Ext w w0 := by rw [hw0]; exact Ext.alloc _ _
    have x0 : Ext w w0 := y0
    have e0_0 := b0.1 0 (.bool s1) rfl
    have e0_1 := b0.1 1 (.slice A1 L1 c1) rfl
    have e0_2 := b0.1 2 (.slice B1 M1 d1) rfl
    clear hw0 b0 y0
    go_wp2_with fail
    refine (awake5 _).mono ?_
    rintro e w1 ⟨rfl, x1⟩
    replace e0_0 := x1.cell e0_0
    replace e0_1 := x1.cell e0_1
    replace e0_2 := x1.cell e0_2
    go_wp2_with fail
    refine (few5 (n := 4) (by omega) (by omega) (by omega) (by omega) (by omega) (by omega)).mono ?_
    rintro e w2 ⟨rfl, x2⟩
    replace e0_0 := x2.cell e0_0
    replace e0_1 := x2.cell e0_1
    replace e0_2 := x2.cell e0_2
    rw [HF.out]
    clear hsz
    go_wp2_with fail
    refine (awake5 _).mono ?_
    rintro e w3 ⟨rfl, x3⟩
    replace e0_0 := x3.cell e0_0
    replace e0_1 := x3.cell e0_1
    replace e0_2 := x3.cell e0_2
    go_wp2_with fail
    go_ret
    exact ⟨rfl, (by repeat' (first | with_reducible exact Ext.refl _ | with_reducible assumption | with_reducible apply Ext.alloc_r | with_reducible apply Ext.drew_r | with_reducible apply Ext.drewN_r | with_reducible refine Ext.trans ?_ ‹Ext _ _›))⟩
end Go.Proofs.Ytfnmbhjifdfibaa
