/- The walk of IntervalQuotients. -/
import Derived.Test.YtehhkeenjlpikaaGreatQuLaw6
import Derived.Test.YtehhkeenjlpikaaGreatQuIvD
import Derived.Test.YtehhkeenjlpikaaGreatQuOpenV
import Derived.Test.YtehhkeenjlpikaaGreatQuPutI
import Derived.Test.YtehhkeenjlpikaaGreatQuJvD
namespace Go.Proofs.YtehhkeenjlpikaaGreat
open Go.RowKit
theorem num_sign0z (q : Rat) : q = 0 ↔ q.num.sign = 0 := by
  rw [Int.sign_eq_zero_iff_zero]
  constructor
  · rintro rfl; rfl
  · intro h
    have := Rat.mkRat_self q
    rw [h, Rat.zero_mkRat] at this
    exact this.symm
theorem sgn_mm_eq {a b : Rat} {z : Int} (h1 : a.num.sign = z) (h2 : b.num.sign = z) : (minQ a b).num.sign = z ∧ (maxQ a b).num.sign = z := by
  rcases min_max a b with ⟨e1, e2⟩ | ⟨e1, e2⟩ <;> rw [e1, e2]
  · exact ⟨h1, h2⟩
  · exact ⟨h2, h1⟩
theorem sgn_ne {a b : Rat} {z : Int} (h1 : a.num.sign = z) (h2 : b.num.sign = z) (h : z ≠ 0) : a ≠ 0 ∧ b ≠ 0 := by
  constructor
  · rintro rfl; exact h h1.symm
  · rintro rfl; exact h h2.symm
theorem sgn_mono {a b : Rat} (h : a ≤ b) : a.num.sign ≤ b.num.sign := by
  rcases sign_cases a.num with ⟨h1, e1⟩ | ⟨h1, e1⟩ | ⟨h1, e1⟩ <;> rcases sign_cases b.num with ⟨h2, e2⟩ | ⟨h2, e2⟩ | ⟨h2, e2⟩ <;> rw [e1, e2] <;> try omega
  all_goals exfalso
  · have := Rat.num_nonneg.2 (Rat.le_trans (Rat.num_nonneg.1 (by omega)) h)
    omega
  · have := Rat.num_nonneg.2 (Rat.le_trans (Rat.num_nonneg.1 (by omega)) h)
    omega
  · have h3 : b = 0 := by rw [num_sign0z]; rw [e2]
    rw [h3] at h
    have h4 : a = 0 := Rat.le_antisymm h (Rat.num_nonneg.1 (by omega))
    rw [num_sign0z] at h4
    omega
theorem sgn_mm_ne {a b : Rat} (h : a.num.sign ≠ b.num.sign) : (minQ a b).num.sign ≠ (maxQ a b).num.sign ∧ (minQ a b).num.sign ≤ 0 ∧ 0 ≤ (maxQ a b).num.sign := by
  have h1 := sgn_mono (min_le_max a b)
  have h2 := sign_bd (minQ a b).num
  have h3 := sign_bd (maxQ a b).num
  have h4 : (minQ a b).num.sign ≠ (maxQ a b).num.sign := by
    rcases min_max a b with ⟨e1, e2⟩ | ⟨e1, e2⟩ <;> rw [e1, e2]
    · exact h
    · exact Ne.symm h
  exact ⟨h4, by omega, by omega⟩
theorem quo_lo (a b c d : Rat) : mlo (minQ a b) (maxQ a b) (((1 : Int) : Rat) / maxQ c d) (((1 : Int) : Rat) / minQ c d) = mlo a b (1 / c) (1 / d) := by
  show mlo (minQ a b) (maxQ a b) (1 / maxQ c d) (1 / minQ c d) = _
  refine eq_of_lower fun m => ?_
  rw [le_mlo, le_mlo]
  rcases min_max a b with ⟨e1, e2⟩ | ⟨e1, e2⟩ <;> rcases min_max c d with ⟨e3, e4⟩ | ⟨e3, e4⟩ <;> rw [e1, e2, e3, e4] <;> grind
theorem quo_hi (a b c d : Rat) : mhi (minQ a b) (maxQ a b) (((1 : Int) : Rat) / maxQ c d) (((1 : Int) : Rat) / minQ c d) = mhi a b (1 / c) (1 / d) := by
  show mhi (minQ a b) (maxQ a b) (1 / maxQ c d) (1 / minQ c d) = _
  refine eq_of_upper fun m => ?_
  rw [mhi_le, mhi_le]
  rcases min_max a b with ⟨e1, e2⟩ | ⟨e1, e2⟩ <;> rcases min_max c d with ⟨e3, e4⟩ | ⟨e3, e4⟩ <;> rw [e1, e2, e3, e4] <;> grind
set_option maxHeartbeats 40000000 in
set_option maxRecDepth 100000 in
theorem intervalQuotients_walk {w : World} {s1 : Bool} {A1 B1 : Option Addr} {c1 L1 d1 M1 : Nat} {x1 : Int} {y1 : Nat} {s2 : Bool} {A2 B2 : Option Addr} {c2 L2 d2 M2 : Nat} {x2 : Int} {y2 : Nat} {s3 : Bool} {A3 B3 : Option Addr} {c3 L3 d3 M3 : Nat} {x3 : Int} {y3 : Nat} {s4 : Bool} {A4 B4 : Option Addr} {c4 L4 d4 M4 : Nat} {x4 : Int} {y4 : Nat} (h1 : RW w s1 A1 c1 L1 B1 d1 M1 x1 y1) (h2 : RW w s2 A2 c2 L2 B2 d2 M2 x2 y2) (h3 : RW w s3 A3 c3 L3 B3 d3 M3 x3 y3) (h4 : RW w s4 A4 c4 L4 B4 d4 M4 x4 y4) :
    Calls Tryz.prog 3 #[Value.agg #[Value.bool s1, Value.slice A1 L1 c1, Value.slice B1 M1 d1, Value.bool s2, Value.slice A2 L2 c2, Value.slice B2 M2 d2], Value.agg #[Value.bool s3, Value.slice A3 L3 c3, Value.slice B3 M3 d3, Value.bool s4, Value.slice A4 L4 c4, Value.slice B4 M4 d4]] w fun e w' => e = .returned (.bool true) ∧ Ext w w' := by
  have pa1 := h1.num.nv.cap
  have pb1 := h1.den.cap
  have qa1 := h1.num.nv.le
  have qb1 := h1.den.le
  have pa2 := h2.num.nv.cap
  have pb2 := h2.den.cap
  have qa2 := h2.num.nv.le
  have qb2 := h2.den.le
  have pa3 := h3.num.nv.cap
  have pb3 := h3.den.cap
  have qa3 := h3.num.nv.le
  have qb3 := h3.den.le
  have pa4 := h4.num.nv.cap
  have pb4 := h4.den.cap
  have qa4 := h4.num.nv.le
  have qb4 := h4.den.le
  by_cases hf : L1 ≤ 4 ∧ M1 ≤ 4 ∧ L2 ≤ 4 ∧ M2 ≤ 4 ∧ L3 ≤ 4 ∧ M3 ≤ 4 ∧ L4 ≤ 4 ∧ M4 ≤ 4
  · have HF := Lib.hid hf
    have e1 := h1.rv (N := 4) (by omega) (by omega) (by omega)
    have e2 := h2.rv (N := 4) (by omega) (by omega) (by omega)
    have e3 := h3.rv (N := 4) (by omega) (by omega) (by omega)
    have e4 := h4.rv (N := 4) (by omega) (by omega) (by omega)
    have HO1 : Hid (∀ w', Ext w w' → Calls Tryz.prog 10 #[Value.agg #[Value.bool s1, Value.slice A1 L1 c1, Value.slice B1 M1 d1, Value.bool s2, Value.slice A2 L2 c2, Value.slice B2 M2 d2]] w' (RetJ w' 128 (minQ (mkRat x1 y1) (mkRat x2 y2)) (maxQ (mkRat x1 y1) (mkRat x2 y2)))) := fun w' hx => lof6 (h1.ext hx) (h2.ext hx) (by omega) (by omega) (by omega) (by omega) (by omega) (by omega)
    have HO3 : Hid (∀ w', Ext w w' → Calls Tryz.prog 10 #[Value.agg #[Value.bool s3, Value.slice A3 L3 c3, Value.slice B3 M3 d3, Value.bool s4, Value.slice A4 L4 c4, Value.slice B4 M4 d4]] w' (RetJ w' 128 (minQ (mkRat x3 y3) (mkRat x4 y4)) (maxQ (mkRat x3 y3) (mkRat x4 y4)))) := fun w' hx => lof6 (h3.ext hx) (h4.ext hx) (by omega) (by omega) (by omega) (by omega) (by omega) (by omega)
    generalize mkRat x1 y1 = q1 at *
    generalize mkRat x2 y2 = q2 at *
    generalize mkRat x3 y3 = q3 at *
    generalize mkRat x4 y4 = q4 at *
    clear hf  h1 h2 h3 h4
    go_enter Tryz.func3, Tryz.ntmps3
    go_wp2_with fail
    obtain ⟨w0, hw0⟩ : ∃ z : World, z = ((w.alloc (.cells #[.bool s1, .slice A1 L1 c1, .slice B1 M1 d1, .bool s2, .slice A2 L2 c2, .slice B2 M2 d2] 29)).alloc (.cells #[.bool s3, .slice A3 L3 c3, .slice B3 M3 d3, .bool s4, .slice A4 L4 c4, .slice B4 M4 d4] 29)) := ⟨_, rfl⟩
    rw [← hw0]
    have b0 := box_at w #[.bool s1, .slice A1 L1 c1, .slice B1 M1 d1, .bool s2, .slice A2 L2 c2, .slice B2 M2 d2] 29
    have b1 := box_at (w.alloc (.cells #[.bool s1, .slice A1 L1 c1, .slice B1 M1 d1, .bool s2, .slice A2 L2 c2, .slice B2 M2 d2] 29)) #[.bool s3, .slice A3 L3 c3, .slice B3 M3 d3, .bool s4, .slice A4 L4 c4, .slice B4 M4 d4] 29
    have hsz : w0.heap.size = w.heap.size + 1 + 1 := by rw [hw0]; simp
    rw [← hw0] at b1
    have y1 : Ext (w.alloc (.cells #[.bool s1, .slice A1 L1 c1, .slice B1 M1 d1, .bool s2, .slice A2 L2 c2, .slice B2 M2 d2] 29)) w0 := by rw [hw0]; exact Ext.alloc _ _
    have y0 : Ext w w0 := (Ext.alloc _ _).trans y1
    have x0 : Ext w w0 := y0
    have e0_0 := y1.cell (b0.1 0 (.bool s1) rfl)
    have e0_1 := y1.cell (b0.1 1 (.slice A1 L1 c1) rfl)
    have e0_2 := y1.cell (b0.1 2 (.slice B1 M1 d1) rfl)
    have e0_3 := y1.cell (b0.1 3 (.bool s2) rfl)
    have e0_4 := y1.cell (b0.1 4 (.slice A2 L2 c2) rfl)
    have e0_5 := y1.cell (b0.1 5 (.slice B2 M2 d2) rfl)
    have e1_0 := b1.1 0 (.bool s3) rfl
    have e1_1 := b1.1 1 (.slice A3 L3 c3) rfl
    have e1_2 := b1.1 2 (.slice B3 M3 d3) rfl
    have e1_3 := b1.1 3 (.bool s4) rfl
    have e1_4 := b1.1 4 (.slice A4 L4 c4) rfl
    have e1_5 := b1.1 5 (.slice B4 M4 d4) rfl
    simp only [World.size_alloc] at e1_0 e1_1 e1_2 e1_3 e1_4 e1_5
    clear hw0 b0 b1 y0 y1
    go_wp2_with fail
    refine (awake6 _).mono ?_
    rintro e w1 ⟨rfl, x1⟩
    replace e0_0 := x1.cell e0_0
    replace e0_1 := x1.cell e0_1
    replace e0_2 := x1.cell e0_2
    replace e0_3 := x1.cell e0_3
    replace e0_4 := x1.cell e0_4
    replace e0_5 := x1.cell e0_5
    replace e1_0 := x1.cell e1_0
    replace e1_1 := x1.cell e1_1
    replace e1_2 := x1.cell e1_2
    replace e1_3 := x1.cell e1_3
    replace e1_4 := x1.cell e1_4
    replace e1_5 := x1.cell e1_5
    go_wp2_with fail
    refine (few6_yes (by omega) (by omega) (by omega) (by omega) (by omega) (by omega) (by omega) (by omega) HF.out).mono ?_
    rintro e w2 ⟨rfl, x2⟩
    replace e0_0 := x2.cell e0_0
    replace e0_1 := x2.cell e0_1
    replace e0_2 := x2.cell e0_2
    replace e0_3 := x2.cell e0_3
    replace e0_4 := x2.cell e0_4
    replace e0_5 := x2.cell e0_5
    replace e1_0 := x2.cell e1_0
    replace e1_1 := x2.cell e1_1
    replace e1_2 := x2.cell e1_2
    replace e1_3 := x2.cell e1_3
    replace e1_4 := x2.cell e1_4
    replace e1_5 := x2.cell e1_5
    clear hsz HF 
    go_wp2_with fail
    go_cut [5, 6] (fun s5 s6 wx => PutJ w2 wx 128 (minQ q1 q2) (maxQ q1 q2) s5 ∧ PutJ w2 wx 128 (minQ q3 q4) (maxQ q3 q4) s6)
    case first =>
      have HK : Hid (∀ w', Ext w2 w' → Ext w2 w' ∧ w'.cell? ⟨w.heap.size, 0, none⟩ = some (.bool s1) ∧ w'.cell? ⟨w.heap.size, 1, none⟩ = some (.slice A1 L1 c1) ∧ w'.cell? ⟨w.heap.size, 2, none⟩ = some (.slice B1 M1 d1) ∧ w'.cell? ⟨w.heap.size, 3, none⟩ = some (.bool s2) ∧ w'.cell? ⟨w.heap.size, 4, none⟩ = some (.slice A2 L2 c2) ∧ w'.cell? ⟨w.heap.size, 5, none⟩ = some (.slice B2 M2 d2) ∧ w'.cell? ⟨w.heap.size + 1, 0, none⟩ = some (.bool s3) ∧ w'.cell? ⟨w.heap.size + 1, 1, none⟩ = some (.slice A3 L3 c3) ∧ w'.cell? ⟨w.heap.size + 1, 2, none⟩ = some (.slice B3 M3 d3) ∧ w'.cell? ⟨w.heap.size + 1, 3, none⟩ = some (.bool s4) ∧ w'.cell? ⟨w.heap.size + 1, 4, none⟩ = some (.slice A4 L4 c4) ∧ w'.cell? ⟨w.heap.size + 1, 5, none⟩ = some (.slice B4 M4 d4)) := fun w' hk => ⟨hk, hk.cell e0_0, hk.cell e0_1, hk.cell e0_2, hk.cell e0_3, hk.cell e0_4, hk.cell e0_5, hk.cell e1_0, hk.cell e1_1, hk.cell e1_2, hk.cell e1_3, hk.cell e1_4, hk.cell e1_5⟩
      first
      | go_region_held3 (fun w' => Ext w2 w' ∧ w'.cell? ⟨w.heap.size, 0, none⟩ = some (.bool s1) ∧ w'.cell? ⟨w.heap.size, 1, none⟩ = some (.slice A1 L1 c1) ∧ w'.cell? ⟨w.heap.size, 2, none⟩ = some (.slice B1 M1 d1) ∧ w'.cell? ⟨w.heap.size, 3, none⟩ = some (.bool s2) ∧ w'.cell? ⟨w.heap.size, 4, none⟩ = some (.slice A2 L2 c2) ∧ w'.cell? ⟨w.heap.size, 5, none⟩ = some (.slice B2 M2 d2) ∧ w'.cell? ⟨w.heap.size + 1, 0, none⟩ = some (.bool s3) ∧ w'.cell? ⟨w.heap.size + 1, 1, none⟩ = some (.slice A3 L3 c3) ∧ w'.cell? ⟨w.heap.size + 1, 2, none⟩ = some (.slice B3 M3 d3) ∧ w'.cell? ⟨w.heap.size + 1, 3, none⟩ = some (.bool s4) ∧ w'.cell? ⟨w.heap.size + 1, 4, none⟩ = some (.slice A4 L4 c4) ∧ w'.cell? ⟨w.heap.size + 1, 5, none⟩ = some (.slice B4 M4 d4))
          ((with_reducible refine HK.out _ ?_; (repeat' (first | with_reducible exact Ext.refl _ | with_reducible assumption | with_reducible apply Ext.alloc_r | with_reducible apply Ext.drew_r | with_reducible apply Ext.drewN_r | with_reducible apply Ext.set_r | with_reducible exact Nat.le_refl _ | omega | with_reducible refine Ext.trans ?_ ‹Ext _ _›))))
          (first
            | (go_at_call_of 10 (#[Value.agg #[Value.bool s3, Value.slice A3 L3 c3, Value.slice B3 M3 d3, Value.bool s4, Value.slice A4 L4 c4, Value.slice B4 M4 d4]]); have hgd := oxa; clear hgd; refine (HO3.out _ (by with_reducible repeat' first | exact Ext.refl _ | assumption | apply Ext.alloc_r | apply Ext.drew_r | apply Ext.drewN_r | refine Ext.trans ?_ ‹Ext _ _›)).mono ?_; rintro e w4 ⟨goya, Aoya, coya, Loya, hoya, Boya, doya, Moya, goyb, Aoyb, coyb, Loyb, hoyb, Boyb, doyb, Moyb, rfl, oya, oyb, x4⟩; (have zs4 := x4.size); (try simp only [World.size_alloc] at zs4); (try ((with_reducible have h4_0 := box_ext (vs := #[.int .i64 0, .slice none 0 0, .int .i64 0, .slice none 0 0, .int .i64 0, .slice none 0 0, .int .i64 0, .slice none 0 0]) x4); have h4_0c0 := (h4_0.1 0 (.int .i64 0) rfl).1; have h4_0f0 := (h4_0.1 0 (.int .i64 0) rfl).2; have h4_0c1 := (h4_0.1 1 (.slice none 0 0) rfl).1; have h4_0f1 := (h4_0.1 1 (.slice none 0 0) rfl).2; have h4_0c2 := (h4_0.1 2 (.int .i64 0) rfl).1; have h4_0f2 := (h4_0.1 2 (.int .i64 0) rfl).2; have h4_0c3 := (h4_0.1 3 (.slice none 0 0) rfl).1; have h4_0f3 := (h4_0.1 3 (.slice none 0 0) rfl).2; have h4_0c4 := (h4_0.1 4 (.int .i64 0) rfl).1; have h4_0f4 := (h4_0.1 4 (.int .i64 0) rfl).2; have h4_0c5 := (h4_0.1 5 (.slice none 0 0) rfl).1; have h4_0f5 := (h4_0.1 5 (.slice none 0 0) rfl).2; have h4_0c6 := (h4_0.1 6 (.int .i64 0) rfl).1; have h4_0f6 := (h4_0.1 6 (.int .i64 0) rfl).2; have h4_0c7 := (h4_0.1 7 (.slice none 0 0) rfl).1; have h4_0f7 := (h4_0.1 7 (.slice none 0 0) rfl).2; have h4_0b := h4_0.2.1; have h4_0z := h4_0.2.2; (try simp only [World.size_alloc] at h4_0b h4_0z h4_0c0 h4_0f0 h4_0c1 h4_0f1 h4_0c2 h4_0f2 h4_0c3 h4_0f3 h4_0c4 h4_0f4 h4_0c5 h4_0f5 h4_0c6 h4_0f6 h4_0c7 h4_0f7); have h4_0m := Nat.ne_of_lt h4_0z; have h4_0n := Nat.ne_of_gt h4_0z; clear h4_0)); (try ((with_reducible have h4_1 := box_ext (vs := #[.int .i64 0, .slice none 0 0, .int .i64 0, .slice none 0 0, .int .i64 0, .slice none 0 0, .int .i64 0, .slice none 0 0]) ((Ext.alloc _ _).trans x4)); have h4_1c0 := (h4_1.1 0 (.int .i64 0) rfl).1; have h4_1f0 := (h4_1.1 0 (.int .i64 0) rfl).2; have h4_1c1 := (h4_1.1 1 (.slice none 0 0) rfl).1; have h4_1f1 := (h4_1.1 1 (.slice none 0 0) rfl).2; have h4_1c2 := (h4_1.1 2 (.int .i64 0) rfl).1; have h4_1f2 := (h4_1.1 2 (.int .i64 0) rfl).2; have h4_1c3 := (h4_1.1 3 (.slice none 0 0) rfl).1; have h4_1f3 := (h4_1.1 3 (.slice none 0 0) rfl).2; have h4_1c4 := (h4_1.1 4 (.int .i64 0) rfl).1; have h4_1f4 := (h4_1.1 4 (.int .i64 0) rfl).2; have h4_1c5 := (h4_1.1 5 (.slice none 0 0) rfl).1; have h4_1f5 := (h4_1.1 5 (.slice none 0 0) rfl).2; have h4_1c6 := (h4_1.1 6 (.int .i64 0) rfl).1; have h4_1f6 := (h4_1.1 6 (.int .i64 0) rfl).2; have h4_1c7 := (h4_1.1 7 (.slice none 0 0) rfl).1; have h4_1f7 := (h4_1.1 7 (.slice none 0 0) rfl).2; have h4_1b := h4_1.2.1; have h4_1z := h4_1.2.2; (try simp only [World.size_alloc] at h4_1b h4_1z h4_1c0 h4_1f0 h4_1c1 h4_1f1 h4_1c2 h4_1f2 h4_1c3 h4_1f3 h4_1c4 h4_1f4 h4_1c5 h4_1f5 h4_1c6 h4_1f6 h4_1c7 h4_1f7); have h4_1m := Nat.ne_of_lt h4_1z; have h4_1n := Nat.ne_of_gt h4_1z; clear h4_1)); (try (have hh : Ext w3 w4 := ?g400; (case g400 => ((with_reducible repeat' first | exact Ext.refl _ | assumption | apply Ext.alloc_r | apply Ext.drew_r | apply Ext.drewN_r | refine Ext.trans ?_ ‹Ext _ _›); done)); replace h3_0f0 := hh.frozen h3_0c0 h3_0f0; replace h3_0c0 := hh.cell h3_0c0; replace h3_0f1 := hh.frozen h3_0c1 h3_0f1; replace h3_0c1 := hh.cell h3_0c1; replace h3_0f2 := hh.frozen h3_0c2 h3_0f2; replace h3_0c2 := hh.cell h3_0c2; replace h3_0f3 := hh.frozen h3_0c3 h3_0f3; replace h3_0c3 := hh.cell h3_0c3; replace h3_0f4 := hh.frozen h3_0c4 h3_0f4; replace h3_0c4 := hh.cell h3_0c4; replace h3_0f5 := hh.frozen h3_0c5 h3_0f5; replace h3_0c5 := hh.cell h3_0c5; replace h3_0f6 := hh.frozen h3_0c6 h3_0f6; replace h3_0c6 := hh.cell h3_0c6; replace h3_0f7 := hh.frozen h3_0c7 h3_0f7; replace h3_0c7 := hh.cell h3_0c7; replace h3_0b := h3_0b.ext hh; have h3_0z2 := Nat.lt_of_lt_of_le h3_0z hh.size; have h3_0m2 := Nat.ne_of_lt h3_0z2; have h3_0n2 := Nat.ne_of_gt h3_0z2; clear hh)); (try (have hh : Ext w3 w4 := ?g401; (case g401 => ((with_reducible repeat' first | exact Ext.refl _ | assumption | apply Ext.alloc_r | apply Ext.drew_r | apply Ext.drewN_r | refine Ext.trans ?_ ‹Ext _ _›); done)); replace h3_1f0 := hh.frozen h3_1c0 h3_1f0; replace h3_1c0 := hh.cell h3_1c0; replace h3_1f1 := hh.frozen h3_1c1 h3_1f1; replace h3_1c1 := hh.cell h3_1c1; replace h3_1f2 := hh.frozen h3_1c2 h3_1f2; replace h3_1c2 := hh.cell h3_1c2; replace h3_1f3 := hh.frozen h3_1c3 h3_1f3; replace h3_1c3 := hh.cell h3_1c3; replace h3_1f4 := hh.frozen h3_1c4 h3_1f4; replace h3_1c4 := hh.cell h3_1c4; replace h3_1f5 := hh.frozen h3_1c5 h3_1f5; replace h3_1c5 := hh.cell h3_1c5; replace h3_1f6 := hh.frozen h3_1c6 h3_1f6; replace h3_1c6 := hh.cell h3_1c6; replace h3_1f7 := hh.frozen h3_1c7 h3_1f7; replace h3_1c7 := hh.cell h3_1c7; replace h3_1b := h3_1b.ext hh; have h3_1z2 := Nat.lt_of_lt_of_le h3_1z hh.size; have h3_1m2 := Nat.ne_of_lt h3_1z2; have h3_1n2 := Nat.ne_of_gt h3_1z2; clear hh)))
            | (go_at_call_of 10 (#[Value.agg #[Value.bool s1, Value.slice A1 L1 c1, Value.slice B1 M1 d1, Value.bool s2, Value.slice A2 L2 c2, Value.slice B2 M2 d2]]); refine (HO1.out _ (by with_reducible repeat' first | exact Ext.refl _ | assumption | apply Ext.alloc_r | apply Ext.drew_r | apply Ext.drewN_r | refine Ext.trans ?_ ‹Ext _ _›)).mono ?_; rintro e w3 ⟨goxa, Aoxa, coxa, Loxa, hoxa, Boxa, doxa, Moxa, goxb, Aoxb, coxb, Loxb, hoxb, Boxb, doxb, Moxb, rfl, oxa, oxb, x3⟩; (have zs3 := x3.size); (try simp only [World.size_alloc, World.size_drew] at zs3); (try ((with_reducible have h3_0 := box_ext (vs := #[.int .i64 0, .slice none 0 0, .int .i64 0, .slice none 0 0, .int .i64 0, .slice none 0 0, .int .i64 0, .slice none 0 0]) ((Ext.drew _).trans x3)); have h3_0c0 := (h3_0.1 0 (.int .i64 0) rfl).1; have h3_0f0 := (h3_0.1 0 (.int .i64 0) rfl).2; have h3_0c1 := (h3_0.1 1 (.slice none 0 0) rfl).1; have h3_0f1 := (h3_0.1 1 (.slice none 0 0) rfl).2; have h3_0c2 := (h3_0.1 2 (.int .i64 0) rfl).1; have h3_0f2 := (h3_0.1 2 (.int .i64 0) rfl).2; have h3_0c3 := (h3_0.1 3 (.slice none 0 0) rfl).1; have h3_0f3 := (h3_0.1 3 (.slice none 0 0) rfl).2; have h3_0c4 := (h3_0.1 4 (.int .i64 0) rfl).1; have h3_0f4 := (h3_0.1 4 (.int .i64 0) rfl).2; have h3_0c5 := (h3_0.1 5 (.slice none 0 0) rfl).1; have h3_0f5 := (h3_0.1 5 (.slice none 0 0) rfl).2; have h3_0c6 := (h3_0.1 6 (.int .i64 0) rfl).1; have h3_0f6 := (h3_0.1 6 (.int .i64 0) rfl).2; have h3_0c7 := (h3_0.1 7 (.slice none 0 0) rfl).1; have h3_0f7 := (h3_0.1 7 (.slice none 0 0) rfl).2; have h3_0b := h3_0.2.1; have h3_0z := h3_0.2.2; (try simp only [World.size_alloc] at h3_0b h3_0z h3_0c0 h3_0f0 h3_0c1 h3_0f1 h3_0c2 h3_0f2 h3_0c3 h3_0f3 h3_0c4 h3_0f4 h3_0c5 h3_0f5 h3_0c6 h3_0f6 h3_0c7 h3_0f7); have h3_0m := Nat.ne_of_lt h3_0z; have h3_0n := Nat.ne_of_gt h3_0z; clear h3_0)); (try ((with_reducible have h3_1 := box_ext (vs := #[.int .i64 0, .slice none 0 0, .int .i64 0, .slice none 0 0, .int .i64 0, .slice none 0 0, .int .i64 0, .slice none 0 0]) (((Ext.alloc _ _).trans (Ext.drew _)).trans x3)); have h3_1c0 := (h3_1.1 0 (.int .i64 0) rfl).1; have h3_1f0 := (h3_1.1 0 (.int .i64 0) rfl).2; have h3_1c1 := (h3_1.1 1 (.slice none 0 0) rfl).1; have h3_1f1 := (h3_1.1 1 (.slice none 0 0) rfl).2; have h3_1c2 := (h3_1.1 2 (.int .i64 0) rfl).1; have h3_1f2 := (h3_1.1 2 (.int .i64 0) rfl).2; have h3_1c3 := (h3_1.1 3 (.slice none 0 0) rfl).1; have h3_1f3 := (h3_1.1 3 (.slice none 0 0) rfl).2; have h3_1c4 := (h3_1.1 4 (.int .i64 0) rfl).1; have h3_1f4 := (h3_1.1 4 (.int .i64 0) rfl).2; have h3_1c5 := (h3_1.1 5 (.slice none 0 0) rfl).1; have h3_1f5 := (h3_1.1 5 (.slice none 0 0) rfl).2; have h3_1c6 := (h3_1.1 6 (.int .i64 0) rfl).1; have h3_1f6 := (h3_1.1 6 (.int .i64 0) rfl).2; have h3_1c7 := (h3_1.1 7 (.slice none 0 0) rfl).1; have h3_1f7 := (h3_1.1 7 (.slice none 0 0) rfl).2; have h3_1b := h3_1.2.1; have h3_1z := h3_1.2.2; (try simp only [World.size_alloc] at h3_1b h3_1z h3_1c0 h3_1f0 h3_1c1 h3_1f1 h3_1c2 h3_1f2 h3_1c3 h3_1f3 h3_1c4 h3_1f4 h3_1c5 h3_1f5 h3_1c6 h3_1f6 h3_1c7 h3_1f7); have h3_1m := Nat.ne_of_lt h3_1z; have h3_1n := Nat.ne_of_gt h3_1z; clear h3_1))))
      | fail
      all_goals (clear HK; go_wp2_with fail; go_meet)
      all_goals
        refine ⟨?_, ?_⟩
        · refine PutJ.mk (g := goxa) (A := Aoxa) (c := coxa) (L := Loxa) (h := hoxa) (B := Boxa) (d := doxa) (M := Moxa) (g' := goxb) (A' := Aoxb) (c' := coxb) (L' := Loxb) (h' := hoxb) (B' := Boxb) (d' := doxb) (M' := Moxb) ?_ (oxa.kept ?_) (oxb.kept ?_) ?_
          · refine Bx.mk8 ?_ ?_ ?_ ?_ ?_ ?_ ?_ ?_
            · go_simp
            · go_simp
            · go_simp
            · go_simp
            · go_simp
            · go_simp
            · go_simp
            · go_simp
          · (repeat' (first | with_reducible exact Kept.refl _ | with_reducible apply Kept.alloc_r | with_reducible apply Kept.drew_r | (with_reducible apply Kept.setJ; (case hb => ((repeat' (first | with_reducible assumption | with_reducible apply IsBox.set_ | (with_reducible apply IsBox.new; (first | (with_reducible rfl) | simp); done) | with_reducible apply IsBox.alloc_ | with_reducible apply IsBox.drew_ | with_reducible refine IsBox.ext ?_ ‹Ext _ _›)); done))) | (with_reducible apply Kept.setQ; (case hb => ((repeat' (first | with_reducible assumption | with_reducible apply IsBox.set_ | (with_reducible apply IsBox.new; (first | (with_reducible rfl) | simp); done) | with_reducible apply IsBox.alloc_ | with_reducible apply IsBox.drew_ | with_reducible refine IsBox.ext ?_ ‹Ext _ _›)); done))) | (with_reducible apply Kept.setR; (case hb => ((repeat' (first | with_reducible assumption | with_reducible apply IsBox.set_ | (with_reducible apply IsBox.new; (first | (with_reducible rfl) | simp); done) | with_reducible apply IsBox.alloc_ | with_reducible apply IsBox.drew_ | with_reducible refine IsBox.ext ?_ ‹Ext _ _›)); done))) | (with_reducible apply Kept.setZ; (case hb => ((repeat' (first | with_reducible assumption | with_reducible apply IsBox.set_ | (with_reducible apply IsBox.new; (first | (with_reducible rfl) | simp); done) | with_reducible apply IsBox.alloc_ | with_reducible apply IsBox.drew_ | with_reducible refine IsBox.ext ?_ ‹Ext _ _›)); done))) | (with_reducible apply Kept.setI; (case hb => ((repeat' (first | with_reducible assumption | with_reducible apply IsBox.set_ | (with_reducible apply IsBox.new; (first | (with_reducible rfl) | simp); done) | with_reducible apply IsBox.alloc_ | with_reducible apply IsBox.drew_ | with_reducible refine IsBox.ext ?_ ‹Ext _ _›)); done))) | with_reducible refine Kept.trans ?_ (Ext.kept ‹Ext _ _›)))
          · (repeat' (first | with_reducible exact Kept.refl _ | with_reducible apply Kept.alloc_r | with_reducible apply Kept.drew_r | (with_reducible apply Kept.setJ; (case hb => ((repeat' (first | with_reducible assumption | with_reducible apply IsBox.set_ | (with_reducible apply IsBox.new; (first | (with_reducible rfl) | simp); done) | with_reducible apply IsBox.alloc_ | with_reducible apply IsBox.drew_ | with_reducible refine IsBox.ext ?_ ‹Ext _ _›)); done))) | (with_reducible apply Kept.setQ; (case hb => ((repeat' (first | with_reducible assumption | with_reducible apply IsBox.set_ | (with_reducible apply IsBox.new; (first | (with_reducible rfl) | simp); done) | with_reducible apply IsBox.alloc_ | with_reducible apply IsBox.drew_ | with_reducible refine IsBox.ext ?_ ‹Ext _ _›)); done))) | (with_reducible apply Kept.setR; (case hb => ((repeat' (first | with_reducible assumption | with_reducible apply IsBox.set_ | (with_reducible apply IsBox.new; (first | (with_reducible rfl) | simp); done) | with_reducible apply IsBox.alloc_ | with_reducible apply IsBox.drew_ | with_reducible refine IsBox.ext ?_ ‹Ext _ _›)); done))) | (with_reducible apply Kept.setZ; (case hb => ((repeat' (first | with_reducible assumption | with_reducible apply IsBox.set_ | (with_reducible apply IsBox.new; (first | (with_reducible rfl) | simp); done) | with_reducible apply IsBox.alloc_ | with_reducible apply IsBox.drew_ | with_reducible refine IsBox.ext ?_ ‹Ext _ _›)); done))) | (with_reducible apply Kept.setI; (case hb => ((repeat' (first | with_reducible assumption | with_reducible apply IsBox.set_ | (with_reducible apply IsBox.new; (first | (with_reducible rfl) | simp); done) | with_reducible apply IsBox.alloc_ | with_reducible apply IsBox.drew_ | with_reducible refine IsBox.ext ?_ ‹Ext _ _›)); done))) | with_reducible refine Kept.trans ?_ (Ext.kept ‹Ext _ _›)))
          · (repeat' (first | with_reducible exact Ext.refl _ | with_reducible assumption | with_reducible apply Ext.alloc_r | with_reducible apply Ext.drew_r | with_reducible apply Ext.drewN_r | with_reducible apply Ext.set_r | with_reducible exact Nat.le_refl _ | omega | with_reducible refine Ext.trans ?_ ‹Ext _ _›))
        · refine PutJ.mk (g := goya) (A := Aoya) (c := coya) (L := Loya) (h := hoya) (B := Boya) (d := doya) (M := Moya) (g' := goyb) (A' := Aoyb) (c' := coyb) (L' := Loyb) (h' := hoyb) (B' := Boyb) (d' := doyb) (M' := Moyb) ?_ (oya.kept ?_) (oyb.kept ?_) ?_
          · refine Bx.mk8 ?_ ?_ ?_ ?_ ?_ ?_ ?_ ?_
            · go_simp
            · go_simp
            · go_simp
            · go_simp
            · go_simp
            · go_simp
            · go_simp
            · go_simp
          · (repeat' (first | with_reducible exact Kept.refl _ | with_reducible apply Kept.alloc_r | with_reducible apply Kept.drew_r | (with_reducible apply Kept.setJ; (case hb => ((repeat' (first | with_reducible assumption | with_reducible apply IsBox.set_ | (with_reducible apply IsBox.new; (first | (with_reducible rfl) | simp); done) | with_reducible apply IsBox.alloc_ | with_reducible apply IsBox.drew_ | with_reducible refine IsBox.ext ?_ ‹Ext _ _›)); done))) | (with_reducible apply Kept.setQ; (case hb => ((repeat' (first | with_reducible assumption | with_reducible apply IsBox.set_ | (with_reducible apply IsBox.new; (first | (with_reducible rfl) | simp); done) | with_reducible apply IsBox.alloc_ | with_reducible apply IsBox.drew_ | with_reducible refine IsBox.ext ?_ ‹Ext _ _›)); done))) | (with_reducible apply Kept.setR; (case hb => ((repeat' (first | with_reducible assumption | with_reducible apply IsBox.set_ | (with_reducible apply IsBox.new; (first | (with_reducible rfl) | simp); done) | with_reducible apply IsBox.alloc_ | with_reducible apply IsBox.drew_ | with_reducible refine IsBox.ext ?_ ‹Ext _ _›)); done))) | (with_reducible apply Kept.setZ; (case hb => ((repeat' (first | with_reducible assumption | with_reducible apply IsBox.set_ | (with_reducible apply IsBox.new; (first | (with_reducible rfl) | simp); done) | with_reducible apply IsBox.alloc_ | with_reducible apply IsBox.drew_ | with_reducible refine IsBox.ext ?_ ‹Ext _ _›)); done))) | (with_reducible apply Kept.setI; (case hb => ((repeat' (first | with_reducible assumption | with_reducible apply IsBox.set_ | (with_reducible apply IsBox.new; (first | (with_reducible rfl) | simp); done) | with_reducible apply IsBox.alloc_ | with_reducible apply IsBox.drew_ | with_reducible refine IsBox.ext ?_ ‹Ext _ _›)); done))) | with_reducible refine Kept.trans ?_ (Ext.kept ‹Ext _ _›)))
          · (repeat' (first | with_reducible exact Kept.refl _ | with_reducible apply Kept.alloc_r | with_reducible apply Kept.drew_r | (with_reducible apply Kept.setJ; (case hb => ((repeat' (first | with_reducible assumption | with_reducible apply IsBox.set_ | (with_reducible apply IsBox.new; (first | (with_reducible rfl) | simp); done) | with_reducible apply IsBox.alloc_ | with_reducible apply IsBox.drew_ | with_reducible refine IsBox.ext ?_ ‹Ext _ _›)); done))) | (with_reducible apply Kept.setQ; (case hb => ((repeat' (first | with_reducible assumption | with_reducible apply IsBox.set_ | (with_reducible apply IsBox.new; (first | (with_reducible rfl) | simp); done) | with_reducible apply IsBox.alloc_ | with_reducible apply IsBox.drew_ | with_reducible refine IsBox.ext ?_ ‹Ext _ _›)); done))) | (with_reducible apply Kept.setR; (case hb => ((repeat' (first | with_reducible assumption | with_reducible apply IsBox.set_ | (with_reducible apply IsBox.new; (first | (with_reducible rfl) | simp); done) | with_reducible apply IsBox.alloc_ | with_reducible apply IsBox.drew_ | with_reducible refine IsBox.ext ?_ ‹Ext _ _›)); done))) | (with_reducible apply Kept.setZ; (case hb => ((repeat' (first | with_reducible assumption | with_reducible apply IsBox.set_ | (with_reducible apply IsBox.new; (first | (with_reducible rfl) | simp); done) | with_reducible apply IsBox.alloc_ | with_reducible apply IsBox.drew_ | with_reducible refine IsBox.ext ?_ ‹Ext _ _›)); done))) | (with_reducible apply Kept.setI; (case hb => ((repeat' (first | with_reducible assumption | with_reducible apply IsBox.set_ | (with_reducible apply IsBox.new; (first | (with_reducible rfl) | simp); done) | with_reducible apply IsBox.alloc_ | with_reducible apply IsBox.drew_ | with_reducible refine IsBox.ext ?_ ‹Ext _ _›)); done))) | with_reducible refine Kept.trans ?_ (Ext.kept ‹Ext _ _›)))
          · (repeat' (first | with_reducible exact Ext.refl _ | with_reducible assumption | with_reducible apply Ext.alloc_r | with_reducible apply Ext.drew_r | with_reducible apply Ext.drewN_r | with_reducible apply Ext.set_r | with_reducible exact Nat.le_refl _ | omega | with_reducible refine Ext.trans ?_ ‹Ext _ _›))
    case rest =>
      have hcw := hcut
      obtain ⟨hc_0, hc_1⟩ := hcw
      obtain ⟨gxa, Axa, cxa, Lxa, hxa, Bxa, dxa, Mxa, gxb, Axb, cxb, Lxb, hxb, Bxb, dxb, Mxb, ⟨bkx, rfl, ccx⟩, xa, xb, xxx⟩ := hc_0
      obtain ⟨gya, Aya, cya, Lya, hya, Bya, dya, Mya, gyb, Ayb, cyb, Lyb, hyb, Byb, dyb, Myb, ⟨bky, rfl, ccy⟩, ya, yb, xxy⟩ := hc_1
      have x5 := xxx
      clear xxx
      clear xxy
      obtain ⟨wc5, rfl⟩ : ∃ z : World, z = wc := ⟨_, rfl⟩
      replace e0_0 := x5.cell e0_0
      replace e0_1 := x5.cell e0_1
      replace e0_2 := x5.cell e0_2
      replace e0_3 := x5.cell e0_3
      replace e0_4 := x5.cell e0_4
      replace e0_5 := x5.cell e0_5
      replace e1_0 := x5.cell e1_0
      replace e1_1 := x5.cell e1_1
      replace e1_2 := x5.cell e1_2
      replace e1_3 := x5.cell e1_3
      replace e1_4 := x5.cell e1_4
      replace e1_5 := x5.cell e1_5
      have x_0 := ccx 0 (.int .i64 gxa) rfl
      have x_1 := ccx 1 (.slice Axa Lxa cxa) rfl
      have x_2 := ccx 2 (.int .i64 hxa) rfl
      have x_3 := ccx 3 (.slice Bxa Mxa dxa) rfl
      have x_4 := ccx 4 (.int .i64 gxb) rfl
      have x_5 := ccx 5 (.slice Axb Lxb cxb) rfl
      have x_6 := ccx 6 (.int .i64 hxb) rfl
      have x_7 := ccx 7 (.slice Bxb Mxb dxb) rfl
      clear ccx
      have y_0 := ccy 0 (.int .i64 gya) rfl
      have y_1 := ccy 1 (.slice Aya Lya cya) rfl
      have y_2 := ccy 2 (.int .i64 hya) rfl
      have y_3 := ccy 3 (.slice Bya Mya dya) rfl
      have y_4 := ccy 4 (.int .i64 gyb) rfl
      have y_5 := ccy 5 (.slice Ayb Lyb cyb) rfl
      have y_6 := ccy 6 (.int .i64 hyb) rfl
      have y_7 := ccy 7 (.slice Byb Myb dyb) rfl
      clear ccy
      have hga := ya.sign
      have hgb := yb.sign
      obtain ⟨z1, hz1⟩ : ∃ z : Int, z = q3.num.sign := ⟨_, rfl⟩
      obtain ⟨z2, hz2⟩ : ∃ z : Int, z = q4.num.sign := ⟨_, rfl⟩
      by_cases hs : z1 = z2
      · subst hs
        obtain ⟨hm1, hm2⟩ := sgn_mm_eq hz1.symm hz2.symm
        rw [hm1] at hga
        rw [hm2] at hgb
        have h3 : z1 = 0 ∨ z1 = 1 ∨ z1 = -1 := by have := sign_bd q3.num; rw [← hz1] at this; omega
        have HQ0 := Lib.hid (fun h : z1 ≠ 0 => sgn_ne hm1 hm2 h)
        clear hm1 hm2
        rcases h3 with h3 | h3 | h3
        · subst h3
          subst hga
          subst hgb
          clear HQ0
          have HZ1 := Lib.hid hz1.symm
          have HZ2 := Lib.hid hz2.symm
          clear hz1 hz2
          go_wp2_with fail
          refine (isign_eq (e3.ext (by with_reducible repeat' first | exact Ext.refl _ | assumption | apply Ext.alloc_r | apply Ext.drew_r | apply Ext.drewN_r | refine Ext.trans ?_ ‹Ext _ _›)) (e4.ext (by with_reducible repeat' first | exact Ext.refl _ | assumption | apply Ext.alloc_r | apply Ext.drew_r | apply Ext.drewN_r | refine Ext.trans ?_ ‹Ext _ _›)) HZ1.out HZ2.out rfl).mono ?_
          rintro e w6 ⟨rfl, x6⟩
          replace e0_0 := x6.cell e0_0
          replace e0_1 := x6.cell e0_1
          replace e0_2 := x6.cell e0_2
          replace e0_3 := x6.cell e0_3
          replace e0_4 := x6.cell e0_4
          replace e0_5 := x6.cell e0_5
          replace e1_0 := x6.cell e1_0
          replace e1_1 := x6.cell e1_1
          replace e1_2 := x6.cell e1_2
          replace e1_3 := x6.cell e1_3
          replace e1_4 := x6.cell e1_4
          replace e1_5 := x6.cell e1_5
          replace x_0 := x6.cell x_0
          replace x_1 := x6.cell x_1
          replace x_2 := x6.cell x_2
          replace x_3 := x6.cell x_3
          replace x_4 := x6.cell x_4
          replace x_5 := x6.cell x_5
          replace x_6 := x6.cell x_6
          replace x_7 := x6.cell x_7
          replace y_0 := x6.cell y_0
          replace y_1 := x6.cell y_1
          replace y_2 := x6.cell y_2
          replace y_3 := x6.cell y_3
          replace y_4 := x6.cell y_4
          replace y_5 := x6.cell y_5
          replace y_6 := x6.cell y_6
          replace y_7 := x6.cell y_7
          go_wp2_with fail
          have HK : Hid (∀ w', Ext w6 w' → Ext w6 w' ∧ w'.cell? ⟨w.heap.size, 0, none⟩ = some (.bool s1) ∧ w'.cell? ⟨w.heap.size, 1, none⟩ = some (.slice A1 L1 c1) ∧ w'.cell? ⟨w.heap.size, 2, none⟩ = some (.slice B1 M1 d1) ∧ w'.cell? ⟨w.heap.size, 3, none⟩ = some (.bool s2) ∧ w'.cell? ⟨w.heap.size, 4, none⟩ = some (.slice A2 L2 c2) ∧ w'.cell? ⟨w.heap.size, 5, none⟩ = some (.slice B2 M2 d2) ∧ w'.cell? ⟨w.heap.size + 1, 0, none⟩ = some (.bool s3) ∧ w'.cell? ⟨w.heap.size + 1, 1, none⟩ = some (.slice A3 L3 c3) ∧ w'.cell? ⟨w.heap.size + 1, 2, none⟩ = some (.slice B3 M3 d3) ∧ w'.cell? ⟨w.heap.size + 1, 3, none⟩ = some (.bool s4) ∧ w'.cell? ⟨w.heap.size + 1, 4, none⟩ = some (.slice A4 L4 c4) ∧ w'.cell? ⟨w.heap.size + 1, 5, none⟩ = some (.slice B4 M4 d4) ∧ w'.cell? ⟨bkx, 0, none⟩ = some (.int .i64 gxa) ∧ w'.cell? ⟨bkx, 1, none⟩ = some (.slice Axa Lxa cxa) ∧ w'.cell? ⟨bkx, 2, none⟩ = some (.int .i64 hxa) ∧ w'.cell? ⟨bkx, 3, none⟩ = some (.slice Bxa Mxa dxa) ∧ w'.cell? ⟨bkx, 4, none⟩ = some (.int .i64 gxb) ∧ w'.cell? ⟨bkx, 5, none⟩ = some (.slice Axb Lxb cxb) ∧ w'.cell? ⟨bkx, 6, none⟩ = some (.int .i64 hxb) ∧ w'.cell? ⟨bkx, 7, none⟩ = some (.slice Bxb Mxb dxb) ∧ w'.cell? ⟨bky, 0, none⟩ = some (.int .i64 0) ∧ w'.cell? ⟨bky, 1, none⟩ = some (.slice Aya Lya cya) ∧ w'.cell? ⟨bky, 2, none⟩ = some (.int .i64 hya) ∧ w'.cell? ⟨bky, 3, none⟩ = some (.slice Bya Mya dya) ∧ w'.cell? ⟨bky, 4, none⟩ = some (.int .i64 0) ∧ w'.cell? ⟨bky, 5, none⟩ = some (.slice Ayb Lyb cyb) ∧ w'.cell? ⟨bky, 6, none⟩ = some (.int .i64 hyb) ∧ w'.cell? ⟨bky, 7, none⟩ = some (.slice Byb Myb dyb)) := fun w' hk => ⟨hk, hk.cell e0_0, hk.cell e0_1, hk.cell e0_2, hk.cell e0_3, hk.cell e0_4, hk.cell e0_5, hk.cell e1_0, hk.cell e1_1, hk.cell e1_2, hk.cell e1_3, hk.cell e1_4, hk.cell e1_5, hk.cell x_0, hk.cell x_1, hk.cell x_2, hk.cell x_3, hk.cell x_4, hk.cell x_5, hk.cell x_6, hk.cell x_7, hk.cell y_0, hk.cell y_1, hk.cell y_2, hk.cell y_3, hk.cell y_4, hk.cell y_5, hk.cell y_6, hk.cell y_7⟩
          first
          | go_region_held3 (fun w' => Ext w6 w' ∧ w'.cell? ⟨w.heap.size, 0, none⟩ = some (.bool s1) ∧ w'.cell? ⟨w.heap.size, 1, none⟩ = some (.slice A1 L1 c1) ∧ w'.cell? ⟨w.heap.size, 2, none⟩ = some (.slice B1 M1 d1) ∧ w'.cell? ⟨w.heap.size, 3, none⟩ = some (.bool s2) ∧ w'.cell? ⟨w.heap.size, 4, none⟩ = some (.slice A2 L2 c2) ∧ w'.cell? ⟨w.heap.size, 5, none⟩ = some (.slice B2 M2 d2) ∧ w'.cell? ⟨w.heap.size + 1, 0, none⟩ = some (.bool s3) ∧ w'.cell? ⟨w.heap.size + 1, 1, none⟩ = some (.slice A3 L3 c3) ∧ w'.cell? ⟨w.heap.size + 1, 2, none⟩ = some (.slice B3 M3 d3) ∧ w'.cell? ⟨w.heap.size + 1, 3, none⟩ = some (.bool s4) ∧ w'.cell? ⟨w.heap.size + 1, 4, none⟩ = some (.slice A4 L4 c4) ∧ w'.cell? ⟨w.heap.size + 1, 5, none⟩ = some (.slice B4 M4 d4) ∧ w'.cell? ⟨bkx, 0, none⟩ = some (.int .i64 gxa) ∧ w'.cell? ⟨bkx, 1, none⟩ = some (.slice Axa Lxa cxa) ∧ w'.cell? ⟨bkx, 2, none⟩ = some (.int .i64 hxa) ∧ w'.cell? ⟨bkx, 3, none⟩ = some (.slice Bxa Mxa dxa) ∧ w'.cell? ⟨bkx, 4, none⟩ = some (.int .i64 gxb) ∧ w'.cell? ⟨bkx, 5, none⟩ = some (.slice Axb Lxb cxb) ∧ w'.cell? ⟨bkx, 6, none⟩ = some (.int .i64 hxb) ∧ w'.cell? ⟨bkx, 7, none⟩ = some (.slice Bxb Mxb dxb) ∧ w'.cell? ⟨bky, 0, none⟩ = some (.int .i64 0) ∧ w'.cell? ⟨bky, 1, none⟩ = some (.slice Aya Lya cya) ∧ w'.cell? ⟨bky, 2, none⟩ = some (.int .i64 hya) ∧ w'.cell? ⟨bky, 3, none⟩ = some (.slice Bya Mya dya) ∧ w'.cell? ⟨bky, 4, none⟩ = some (.int .i64 0) ∧ w'.cell? ⟨bky, 5, none⟩ = some (.slice Ayb Lyb cyb) ∧ w'.cell? ⟨bky, 6, none⟩ = some (.int .i64 hyb) ∧ w'.cell? ⟨bky, 7, none⟩ = some (.slice Byb Myb dyb))
              ((with_reducible refine HK.out _ ?_; (with_reducible repeat' first | exact Ext.refl _ | assumption | apply Ext.alloc_r | apply Ext.drew_r | apply Ext.drewN_r | refine Ext.trans ?_ ‹Ext _ _›)))
              (fail)
          | fail
          clear HK
          obtain ⟨w7, hw⟩ : ∃ z : World, z = w6.drew := ⟨_, rfl⟩
          rw [← hw]
          have x7 : Ext w6 w7 := by rw [hw]; exact Ext.drew _
          replace e0_0 := x7.cell e0_0
          replace e0_1 := x7.cell e0_1
          replace e0_2 := x7.cell e0_2
          replace e0_3 := x7.cell e0_3
          replace e0_4 := x7.cell e0_4
          replace e0_5 := x7.cell e0_5
          replace e1_0 := x7.cell e1_0
          replace e1_1 := x7.cell e1_1
          replace e1_2 := x7.cell e1_2
          replace e1_3 := x7.cell e1_3
          replace e1_4 := x7.cell e1_4
          replace e1_5 := x7.cell e1_5
          replace x_0 := x7.cell x_0
          replace x_1 := x7.cell x_1
          replace x_2 := x7.cell x_2
          replace x_3 := x7.cell x_3
          replace x_4 := x7.cell x_4
          replace x_5 := x7.cell x_5
          replace x_6 := x7.cell x_6
          replace x_7 := x7.cell x_7
          replace y_0 := x7.cell y_0
          replace y_1 := x7.cell y_1
          replace y_2 := x7.cell y_2
          replace y_3 := x7.cell y_3
          replace y_4 := x7.cell y_4
          replace y_5 := x7.cell y_5
          replace y_6 := x7.cell y_6
          replace y_7 := x7.cell y_7
          clear hw
          go_wp2_with fail
          refine (iquo_zero (e3.ext (by with_reducible repeat' first | exact Ext.refl _ | assumption | apply Ext.alloc_r | apply Ext.drew_r | apply Ext.drewN_r | refine Ext.trans ?_ ‹Ext _ _›)) (e4.ext (by with_reducible repeat' first | exact Ext.refl _ | assumption | apply Ext.alloc_r | apply Ext.drew_r | apply Ext.drewN_r | refine Ext.trans ?_ ‹Ext _ _›)) HZ1.out HZ2.out ⟨rfl, rfl⟩).mono ?_
          rintro e w8 ⟨rfl, x8⟩
          replace e0_0 := x8.cell e0_0
          replace e0_1 := x8.cell e0_1
          replace e0_2 := x8.cell e0_2
          replace e0_3 := x8.cell e0_3
          replace e0_4 := x8.cell e0_4
          replace e0_5 := x8.cell e0_5
          replace e1_0 := x8.cell e1_0
          replace e1_1 := x8.cell e1_1
          replace e1_2 := x8.cell e1_2
          replace e1_3 := x8.cell e1_3
          replace e1_4 := x8.cell e1_4
          replace e1_5 := x8.cell e1_5
          replace x_0 := x8.cell x_0
          replace x_1 := x8.cell x_1
          replace x_2 := x8.cell x_2
          replace x_3 := x8.cell x_3
          replace x_4 := x8.cell x_4
          replace x_5 := x8.cell x_5
          replace x_6 := x8.cell x_6
          replace x_7 := x8.cell x_7
          replace y_0 := x8.cell y_0
          replace y_1 := x8.cell y_1
          replace y_2 := x8.cell y_2
          replace y_3 := x8.cell y_3
          replace y_4 := x8.cell y_4
          replace y_5 := x8.cell y_5
          replace y_6 := x8.cell y_6
          replace y_7 := x8.cell y_7
          have te0_0 := fun o => (Ext.alloc w8 o).cell e0_0
          have te0_1 := fun o => (Ext.alloc w8 o).cell e0_1
          have te0_2 := fun o => (Ext.alloc w8 o).cell e0_2
          have te0_3 := fun o => (Ext.alloc w8 o).cell e0_3
          have te0_4 := fun o => (Ext.alloc w8 o).cell e0_4
          have te0_5 := fun o => (Ext.alloc w8 o).cell e0_5
          have te1_0 := fun o => (Ext.alloc w8 o).cell e1_0
          have te1_1 := fun o => (Ext.alloc w8 o).cell e1_1
          have te1_2 := fun o => (Ext.alloc w8 o).cell e1_2
          have te1_3 := fun o => (Ext.alloc w8 o).cell e1_3
          have te1_4 := fun o => (Ext.alloc w8 o).cell e1_4
          have te1_5 := fun o => (Ext.alloc w8 o).cell e1_5
          have tx_0 := fun o => (Ext.alloc w8 o).cell x_0
          have tx_1 := fun o => (Ext.alloc w8 o).cell x_1
          have tx_2 := fun o => (Ext.alloc w8 o).cell x_2
          have tx_3 := fun o => (Ext.alloc w8 o).cell x_3
          have tx_4 := fun o => (Ext.alloc w8 o).cell x_4
          have tx_5 := fun o => (Ext.alloc w8 o).cell x_5
          have tx_6 := fun o => (Ext.alloc w8 o).cell x_6
          have tx_7 := fun o => (Ext.alloc w8 o).cell x_7
          have ty_0 := fun o => (Ext.alloc w8 o).cell y_0
          have ty_1 := fun o => (Ext.alloc w8 o).cell y_1
          have ty_2 := fun o => (Ext.alloc w8 o).cell y_2
          have ty_3 := fun o => (Ext.alloc w8 o).cell y_3
          have ty_4 := fun o => (Ext.alloc w8 o).cell y_4
          have ty_5 := fun o => (Ext.alloc w8 o).cell y_5
          have ty_6 := fun o => (Ext.alloc w8 o).cell y_6
          have ty_7 := fun o => (Ext.alloc w8 o).cell y_7
          go_wp2_with fail
          clear te0_0 te0_1 te0_2 te0_3 te0_4 te0_5 te1_0 te1_1 te1_2 te1_3 te1_4 te1_5 tx_0 tx_1 tx_2 tx_3 tx_4 tx_5 tx_6 tx_7 ty_0 ty_1 ty_2 ty_3 ty_4 ty_5 ty_6 ty_7
          obtain ⟨w9, hw⟩ : ∃ z : World, z = (w8.alloc (.cells #[.bool false, .slice none 0 0, .slice none 0 0, .bool false, .slice none 0 0, .slice none 0 0] 29)) := ⟨_, rfl⟩
          rw [← hw]
          have x9 : Ext w8 w9 := by rw [hw]; exact Ext.alloc _ _
          have bb := box_at w8 #[.bool false, .slice none 0 0, .slice none 0 0, .bool false, .slice none 0 0, .slice none 0 0] 29
          rw [← hw] at bb
          replace e0_0 := x9.cell e0_0
          replace e0_1 := x9.cell e0_1
          replace e0_2 := x9.cell e0_2
          replace e0_3 := x9.cell e0_3
          replace e0_4 := x9.cell e0_4
          replace e0_5 := x9.cell e0_5
          replace e1_0 := x9.cell e1_0
          replace e1_1 := x9.cell e1_1
          replace e1_2 := x9.cell e1_2
          replace e1_3 := x9.cell e1_3
          replace e1_4 := x9.cell e1_4
          replace e1_5 := x9.cell e1_5
          replace x_0 := x9.cell x_0
          replace x_1 := x9.cell x_1
          replace x_2 := x9.cell x_2
          replace x_3 := x9.cell x_3
          replace x_4 := x9.cell x_4
          replace x_5 := x9.cell x_5
          replace x_6 := x9.cell x_6
          replace x_7 := x9.cell x_7
          replace y_0 := x9.cell y_0
          replace y_1 := x9.cell y_1
          replace y_2 := x9.cell y_2
          replace y_3 := x9.cell y_3
          replace y_4 := x9.cell y_4
          replace y_5 := x9.cell y_5
          replace y_6 := x9.cell y_6
          replace y_7 := x9.cell y_7
          have d_0 := bb.1 0 (.bool false) rfl
          have d_1 := bb.1 1 (.slice none 0 0) rfl
          have d_2 := bb.1 2 (.slice none 0 0) rfl
          have d_3 := bb.1 3 (.bool false) rfl
          have d_4 := bb.1 4 (.slice none 0 0) rfl
          have d_5 := bb.1 5 (.slice none 0 0) rfl
          clear hw bb
          go_wp2_with fail
          refine (none6).mono ?_
          rintro e w10 ⟨rfl, x10⟩
          replace e0_0 := x10.cell e0_0
          replace e0_1 := x10.cell e0_1
          replace e0_2 := x10.cell e0_2
          replace e0_3 := x10.cell e0_3
          replace e0_4 := x10.cell e0_4
          replace e0_5 := x10.cell e0_5
          replace e1_0 := x10.cell e1_0
          replace e1_1 := x10.cell e1_1
          replace e1_2 := x10.cell e1_2
          replace e1_3 := x10.cell e1_3
          replace e1_4 := x10.cell e1_4
          replace e1_5 := x10.cell e1_5
          replace x_0 := x10.cell x_0
          replace x_1 := x10.cell x_1
          replace x_2 := x10.cell x_2
          replace x_3 := x10.cell x_3
          replace x_4 := x10.cell x_4
          replace x_5 := x10.cell x_5
          replace x_6 := x10.cell x_6
          replace x_7 := x10.cell x_7
          replace y_0 := x10.cell y_0
          replace y_1 := x10.cell y_1
          replace y_2 := x10.cell y_2
          replace y_3 := x10.cell y_3
          replace y_4 := x10.cell y_4
          replace y_5 := x10.cell y_5
          replace y_6 := x10.cell y_6
          replace y_7 := x10.cell y_7
          replace d_0 := x10.cell d_0
          replace d_1 := x10.cell d_1
          replace d_2 := x10.cell d_2
          replace d_3 := x10.cell d_3
          replace d_4 := x10.cell d_4
          replace d_5 := x10.cell d_5
          go_wp2_with fail
          go_ret
          exact ⟨rfl, (by with_reducible repeat' first | exact Ext.refl _ | assumption | apply Ext.alloc_r | apply Ext.drew_r | apply Ext.drewN_r | refine Ext.trans ?_ ‹Ext _ _›)⟩
        · subst h3
          subst hga
          subst hgb
          have HNZ := Lib.hid (HQ0.out (by omega))
          clear HQ0
          have HM := Lib.hid (And.intro (quo_lo q1 q2 q3 q4) (quo_hi q1 q2 q3 q4))
          have HZ1 := Lib.hid hz1.symm
          have HZ2 := Lib.hid hz2.symm
          clear hz1 hz2
          go_wp2_with fail
          refine (isign_eq (e3.ext (by with_reducible repeat' first | exact Ext.refl _ | assumption | apply Ext.alloc_r | apply Ext.drew_r | apply Ext.drewN_r | refine Ext.trans ?_ ‹Ext _ _›)) (e4.ext (by with_reducible repeat' first | exact Ext.refl _ | assumption | apply Ext.alloc_r | apply Ext.drew_r | apply Ext.drewN_r | refine Ext.trans ?_ ‹Ext _ _›)) HZ1.out HZ2.out rfl).mono ?_
          rintro e w6 ⟨rfl, x6⟩
          replace e0_0 := x6.cell e0_0
          replace e0_1 := x6.cell e0_1
          replace e0_2 := x6.cell e0_2
          replace e0_3 := x6.cell e0_3
          replace e0_4 := x6.cell e0_4
          replace e0_5 := x6.cell e0_5
          replace e1_0 := x6.cell e1_0
          replace e1_1 := x6.cell e1_1
          replace e1_2 := x6.cell e1_2
          replace e1_3 := x6.cell e1_3
          replace e1_4 := x6.cell e1_4
          replace e1_5 := x6.cell e1_5
          replace x_0 := x6.cell x_0
          replace x_1 := x6.cell x_1
          replace x_2 := x6.cell x_2
          replace x_3 := x6.cell x_3
          replace x_4 := x6.cell x_4
          replace x_5 := x6.cell x_5
          replace x_6 := x6.cell x_6
          replace x_7 := x6.cell x_7
          replace y_0 := x6.cell y_0
          replace y_1 := x6.cell y_1
          replace y_2 := x6.cell y_2
          replace y_3 := x6.cell y_3
          replace y_4 := x6.cell y_4
          replace y_5 := x6.cell y_5
          replace y_6 := x6.cell y_6
          replace y_7 := x6.cell y_7
          go_wp2_with fail
          have HK : Hid (∀ w', Ext w6 w' → Ext w6 w' ∧ w'.cell? ⟨w.heap.size, 0, none⟩ = some (.bool s1) ∧ w'.cell? ⟨w.heap.size, 1, none⟩ = some (.slice A1 L1 c1) ∧ w'.cell? ⟨w.heap.size, 2, none⟩ = some (.slice B1 M1 d1) ∧ w'.cell? ⟨w.heap.size, 3, none⟩ = some (.bool s2) ∧ w'.cell? ⟨w.heap.size, 4, none⟩ = some (.slice A2 L2 c2) ∧ w'.cell? ⟨w.heap.size, 5, none⟩ = some (.slice B2 M2 d2) ∧ w'.cell? ⟨w.heap.size + 1, 0, none⟩ = some (.bool s3) ∧ w'.cell? ⟨w.heap.size + 1, 1, none⟩ = some (.slice A3 L3 c3) ∧ w'.cell? ⟨w.heap.size + 1, 2, none⟩ = some (.slice B3 M3 d3) ∧ w'.cell? ⟨w.heap.size + 1, 3, none⟩ = some (.bool s4) ∧ w'.cell? ⟨w.heap.size + 1, 4, none⟩ = some (.slice A4 L4 c4) ∧ w'.cell? ⟨w.heap.size + 1, 5, none⟩ = some (.slice B4 M4 d4) ∧ w'.cell? ⟨bkx, 0, none⟩ = some (.int .i64 gxa) ∧ w'.cell? ⟨bkx, 1, none⟩ = some (.slice Axa Lxa cxa) ∧ w'.cell? ⟨bkx, 2, none⟩ = some (.int .i64 hxa) ∧ w'.cell? ⟨bkx, 3, none⟩ = some (.slice Bxa Mxa dxa) ∧ w'.cell? ⟨bkx, 4, none⟩ = some (.int .i64 gxb) ∧ w'.cell? ⟨bkx, 5, none⟩ = some (.slice Axb Lxb cxb) ∧ w'.cell? ⟨bkx, 6, none⟩ = some (.int .i64 hxb) ∧ w'.cell? ⟨bkx, 7, none⟩ = some (.slice Bxb Mxb dxb) ∧ w'.cell? ⟨bky, 0, none⟩ = some (.int .i64 1) ∧ w'.cell? ⟨bky, 1, none⟩ = some (.slice Aya Lya cya) ∧ w'.cell? ⟨bky, 2, none⟩ = some (.int .i64 hya) ∧ w'.cell? ⟨bky, 3, none⟩ = some (.slice Bya Mya dya) ∧ w'.cell? ⟨bky, 4, none⟩ = some (.int .i64 1) ∧ w'.cell? ⟨bky, 5, none⟩ = some (.slice Ayb Lyb cyb) ∧ w'.cell? ⟨bky, 6, none⟩ = some (.int .i64 hyb) ∧ w'.cell? ⟨bky, 7, none⟩ = some (.slice Byb Myb dyb)) := fun w' hk => ⟨hk, hk.cell e0_0, hk.cell e0_1, hk.cell e0_2, hk.cell e0_3, hk.cell e0_4, hk.cell e0_5, hk.cell e1_0, hk.cell e1_1, hk.cell e1_2, hk.cell e1_3, hk.cell e1_4, hk.cell e1_5, hk.cell x_0, hk.cell x_1, hk.cell x_2, hk.cell x_3, hk.cell x_4, hk.cell x_5, hk.cell x_6, hk.cell x_7, hk.cell y_0, hk.cell y_1, hk.cell y_2, hk.cell y_3, hk.cell y_4, hk.cell y_5, hk.cell y_6, hk.cell y_7⟩
          first
          | go_region_held3 (fun w' => Ext w6 w' ∧ w'.cell? ⟨w.heap.size, 0, none⟩ = some (.bool s1) ∧ w'.cell? ⟨w.heap.size, 1, none⟩ = some (.slice A1 L1 c1) ∧ w'.cell? ⟨w.heap.size, 2, none⟩ = some (.slice B1 M1 d1) ∧ w'.cell? ⟨w.heap.size, 3, none⟩ = some (.bool s2) ∧ w'.cell? ⟨w.heap.size, 4, none⟩ = some (.slice A2 L2 c2) ∧ w'.cell? ⟨w.heap.size, 5, none⟩ = some (.slice B2 M2 d2) ∧ w'.cell? ⟨w.heap.size + 1, 0, none⟩ = some (.bool s3) ∧ w'.cell? ⟨w.heap.size + 1, 1, none⟩ = some (.slice A3 L3 c3) ∧ w'.cell? ⟨w.heap.size + 1, 2, none⟩ = some (.slice B3 M3 d3) ∧ w'.cell? ⟨w.heap.size + 1, 3, none⟩ = some (.bool s4) ∧ w'.cell? ⟨w.heap.size + 1, 4, none⟩ = some (.slice A4 L4 c4) ∧ w'.cell? ⟨w.heap.size + 1, 5, none⟩ = some (.slice B4 M4 d4) ∧ w'.cell? ⟨bkx, 0, none⟩ = some (.int .i64 gxa) ∧ w'.cell? ⟨bkx, 1, none⟩ = some (.slice Axa Lxa cxa) ∧ w'.cell? ⟨bkx, 2, none⟩ = some (.int .i64 hxa) ∧ w'.cell? ⟨bkx, 3, none⟩ = some (.slice Bxa Mxa dxa) ∧ w'.cell? ⟨bkx, 4, none⟩ = some (.int .i64 gxb) ∧ w'.cell? ⟨bkx, 5, none⟩ = some (.slice Axb Lxb cxb) ∧ w'.cell? ⟨bkx, 6, none⟩ = some (.int .i64 hxb) ∧ w'.cell? ⟨bkx, 7, none⟩ = some (.slice Bxb Mxb dxb) ∧ w'.cell? ⟨bky, 0, none⟩ = some (.int .i64 1) ∧ w'.cell? ⟨bky, 1, none⟩ = some (.slice Aya Lya cya) ∧ w'.cell? ⟨bky, 2, none⟩ = some (.int .i64 hya) ∧ w'.cell? ⟨bky, 3, none⟩ = some (.slice Bya Mya dya) ∧ w'.cell? ⟨bky, 4, none⟩ = some (.int .i64 1) ∧ w'.cell? ⟨bky, 5, none⟩ = some (.slice Ayb Lyb cyb) ∧ w'.cell? ⟨bky, 6, none⟩ = some (.int .i64 hyb) ∧ w'.cell? ⟨bky, 7, none⟩ = some (.slice Byb Myb dyb))
              ((with_reducible refine HK.out _ ?_; (with_reducible repeat' first | exact Ext.refl _ | assumption | apply Ext.alloc_r | apply Ext.drew_r | apply Ext.drewN_r | refine Ext.trans ?_ ‹Ext _ _›)))
              (fail)
          | fail
          clear HK
          obtain ⟨w7, hw⟩ : ∃ z : World, z = w6.drew := ⟨_, rfl⟩
          rw [← hw]
          have x7 : Ext w6 w7 := by rw [hw]; exact Ext.drew _
          replace e0_0 := x7.cell e0_0
          replace e0_1 := x7.cell e0_1
          replace e0_2 := x7.cell e0_2
          replace e0_3 := x7.cell e0_3
          replace e0_4 := x7.cell e0_4
          replace e0_5 := x7.cell e0_5
          replace e1_0 := x7.cell e1_0
          replace e1_1 := x7.cell e1_1
          replace e1_2 := x7.cell e1_2
          replace e1_3 := x7.cell e1_3
          replace e1_4 := x7.cell e1_4
          replace e1_5 := x7.cell e1_5
          replace x_0 := x7.cell x_0
          replace x_1 := x7.cell x_1
          replace x_2 := x7.cell x_2
          replace x_3 := x7.cell x_3
          replace x_4 := x7.cell x_4
          replace x_5 := x7.cell x_5
          replace x_6 := x7.cell x_6
          replace x_7 := x7.cell x_7
          replace y_0 := x7.cell y_0
          replace y_1 := x7.cell y_1
          replace y_2 := x7.cell y_2
          replace y_3 := x7.cell y_3
          replace y_4 := x7.cell y_4
          replace y_5 := x7.cell y_5
          replace y_6 := x7.cell y_6
          replace y_7 := x7.cell y_7
          clear hw
          go_wp2_with fail
          refine (iquo_r (e1.ext (by with_reducible repeat' first | exact Ext.refl _ | assumption | apply Ext.alloc_r | apply Ext.drew_r | apply Ext.drewN_r | refine Ext.trans ?_ ‹Ext _ _›)) (e2.ext (by with_reducible repeat' first | exact Ext.refl _ | assumption | apply Ext.alloc_r | apply Ext.drew_r | apply Ext.drewN_r | refine Ext.trans ?_ ‹Ext _ _›)) (e3.ext (by with_reducible repeat' first | exact Ext.refl _ | assumption | apply Ext.alloc_r | apply Ext.drew_r | apply Ext.drewN_r | refine Ext.trans ?_ ‹Ext _ _›)) (e4.ext (by with_reducible repeat' first | exact Ext.refl _ | assumption | apply Ext.alloc_r | apply Ext.drew_r | apply Ext.drewN_r | refine Ext.trans ?_ ‹Ext _ _›)) HZ1.out HZ2.out (by omega) (by omega)).mono ?_
          rintro e w8 ⟨sda, Ada, cda, Lda, Bda, dda, Mda, sdb, Adb, cdb, Ldb, Bdb, ddb, Mdb, rfl, da, db, x8⟩
          replace e0_0 := x8.cell e0_0
          replace e0_1 := x8.cell e0_1
          replace e0_2 := x8.cell e0_2
          replace e0_3 := x8.cell e0_3
          replace e0_4 := x8.cell e0_4
          replace e0_5 := x8.cell e0_5
          replace e1_0 := x8.cell e1_0
          replace e1_1 := x8.cell e1_1
          replace e1_2 := x8.cell e1_2
          replace e1_3 := x8.cell e1_3
          replace e1_4 := x8.cell e1_4
          replace e1_5 := x8.cell e1_5
          replace x_0 := x8.cell x_0
          replace x_1 := x8.cell x_1
          replace x_2 := x8.cell x_2
          replace x_3 := x8.cell x_3
          replace x_4 := x8.cell x_4
          replace x_5 := x8.cell x_5
          replace x_6 := x8.cell x_6
          replace x_7 := x8.cell x_7
          replace y_0 := x8.cell y_0
          replace y_1 := x8.cell y_1
          replace y_2 := x8.cell y_2
          replace y_3 := x8.cell y_3
          replace y_4 := x8.cell y_4
          replace y_5 := x8.cell y_5
          replace y_6 := x8.cell y_6
          replace y_7 := x8.cell y_7
          have HD := Lib.hid (And.intro da db)
          clear da db
          have te0_0 := fun o => (Ext.alloc w8 o).cell e0_0
          have te0_1 := fun o => (Ext.alloc w8 o).cell e0_1
          have te0_2 := fun o => (Ext.alloc w8 o).cell e0_2
          have te0_3 := fun o => (Ext.alloc w8 o).cell e0_3
          have te0_4 := fun o => (Ext.alloc w8 o).cell e0_4
          have te0_5 := fun o => (Ext.alloc w8 o).cell e0_5
          have te1_0 := fun o => (Ext.alloc w8 o).cell e1_0
          have te1_1 := fun o => (Ext.alloc w8 o).cell e1_1
          have te1_2 := fun o => (Ext.alloc w8 o).cell e1_2
          have te1_3 := fun o => (Ext.alloc w8 o).cell e1_3
          have te1_4 := fun o => (Ext.alloc w8 o).cell e1_4
          have te1_5 := fun o => (Ext.alloc w8 o).cell e1_5
          have tx_0 := fun o => (Ext.alloc w8 o).cell x_0
          have tx_1 := fun o => (Ext.alloc w8 o).cell x_1
          have tx_2 := fun o => (Ext.alloc w8 o).cell x_2
          have tx_3 := fun o => (Ext.alloc w8 o).cell x_3
          have tx_4 := fun o => (Ext.alloc w8 o).cell x_4
          have tx_5 := fun o => (Ext.alloc w8 o).cell x_5
          have tx_6 := fun o => (Ext.alloc w8 o).cell x_6
          have tx_7 := fun o => (Ext.alloc w8 o).cell x_7
          have ty_0 := fun o => (Ext.alloc w8 o).cell y_0
          have ty_1 := fun o => (Ext.alloc w8 o).cell y_1
          have ty_2 := fun o => (Ext.alloc w8 o).cell y_2
          have ty_3 := fun o => (Ext.alloc w8 o).cell y_3
          have ty_4 := fun o => (Ext.alloc w8 o).cell y_4
          have ty_5 := fun o => (Ext.alloc w8 o).cell y_5
          have ty_6 := fun o => (Ext.alloc w8 o).cell y_6
          have ty_7 := fun o => (Ext.alloc w8 o).cell y_7
          go_wp2_with fail
          clear te0_0 te0_1 te0_2 te0_3 te0_4 te0_5 te1_0 te1_1 te1_2 te1_3 te1_4 te1_5 tx_0 tx_1 tx_2 tx_3 tx_4 tx_5 tx_6 tx_7 ty_0 ty_1 ty_2 ty_3 ty_4 ty_5 ty_6 ty_7
          obtain ⟨w9, hw⟩ : ∃ z : World, z = (w8.alloc (.cells #[.bool sda, .slice Ada Lda cda, .slice Bda Mda dda, .bool sdb, .slice Adb Ldb cdb, .slice Bdb Mdb ddb] 29)) := ⟨_, rfl⟩
          rw [← hw]
          have x9 : Ext w8 w9 := by rw [hw]; exact Ext.alloc _ _
          have bb := box_at w8 #[.bool sda, .slice Ada Lda cda, .slice Bda Mda dda, .bool sdb, .slice Adb Ldb cdb, .slice Bdb Mdb ddb] 29
          rw [← hw] at bb
          replace e0_0 := x9.cell e0_0
          replace e0_1 := x9.cell e0_1
          replace e0_2 := x9.cell e0_2
          replace e0_3 := x9.cell e0_3
          replace e0_4 := x9.cell e0_4
          replace e0_5 := x9.cell e0_5
          replace e1_0 := x9.cell e1_0
          replace e1_1 := x9.cell e1_1
          replace e1_2 := x9.cell e1_2
          replace e1_3 := x9.cell e1_3
          replace e1_4 := x9.cell e1_4
          replace e1_5 := x9.cell e1_5
          replace x_0 := x9.cell x_0
          replace x_1 := x9.cell x_1
          replace x_2 := x9.cell x_2
          replace x_3 := x9.cell x_3
          replace x_4 := x9.cell x_4
          replace x_5 := x9.cell x_5
          replace x_6 := x9.cell x_6
          replace x_7 := x9.cell x_7
          replace y_0 := x9.cell y_0
          replace y_1 := x9.cell y_1
          replace y_2 := x9.cell y_2
          replace y_3 := x9.cell y_3
          replace y_4 := x9.cell y_4
          replace y_5 := x9.cell y_5
          replace y_6 := x9.cell y_6
          replace y_7 := x9.cell y_7
          have d_0 := bb.1 0 (.bool sda) rfl
          have d_1 := bb.1 1 (.slice Ada Lda cda) rfl
          have d_2 := bb.1 2 (.slice Bda Mda dda) rfl
          have d_3 := bb.1 3 (.bool sdb) rfl
          have d_4 := bb.1 4 (.slice Adb Ldb cdb) rfl
          have d_5 := bb.1 5 (.slice Bdb Mdb ddb) rfl
          clear hw bb
          have da := HD.out.1
          have db := HD.out.2
          go_wp2_with fail
          have HK : Hid (∀ w', Ext w9 w' → Ext w9 w' ∧ w'.cell? ⟨w.heap.size, 0, none⟩ = some (.bool s1) ∧ w'.cell? ⟨w.heap.size, 1, none⟩ = some (.slice A1 L1 c1) ∧ w'.cell? ⟨w.heap.size, 2, none⟩ = some (.slice B1 M1 d1) ∧ w'.cell? ⟨w.heap.size, 3, none⟩ = some (.bool s2) ∧ w'.cell? ⟨w.heap.size, 4, none⟩ = some (.slice A2 L2 c2) ∧ w'.cell? ⟨w.heap.size, 5, none⟩ = some (.slice B2 M2 d2) ∧ w'.cell? ⟨w.heap.size + 1, 0, none⟩ = some (.bool s3) ∧ w'.cell? ⟨w.heap.size + 1, 1, none⟩ = some (.slice A3 L3 c3) ∧ w'.cell? ⟨w.heap.size + 1, 2, none⟩ = some (.slice B3 M3 d3) ∧ w'.cell? ⟨w.heap.size + 1, 3, none⟩ = some (.bool s4) ∧ w'.cell? ⟨w.heap.size + 1, 4, none⟩ = some (.slice A4 L4 c4) ∧ w'.cell? ⟨w.heap.size + 1, 5, none⟩ = some (.slice B4 M4 d4) ∧ w'.cell? ⟨bkx, 0, none⟩ = some (.int .i64 gxa) ∧ w'.cell? ⟨bkx, 1, none⟩ = some (.slice Axa Lxa cxa) ∧ w'.cell? ⟨bkx, 2, none⟩ = some (.int .i64 hxa) ∧ w'.cell? ⟨bkx, 3, none⟩ = some (.slice Bxa Mxa dxa) ∧ w'.cell? ⟨bkx, 4, none⟩ = some (.int .i64 gxb) ∧ w'.cell? ⟨bkx, 5, none⟩ = some (.slice Axb Lxb cxb) ∧ w'.cell? ⟨bkx, 6, none⟩ = some (.int .i64 hxb) ∧ w'.cell? ⟨bkx, 7, none⟩ = some (.slice Bxb Mxb dxb) ∧ w'.cell? ⟨bky, 0, none⟩ = some (.int .i64 1) ∧ w'.cell? ⟨bky, 1, none⟩ = some (.slice Aya Lya cya) ∧ w'.cell? ⟨bky, 2, none⟩ = some (.int .i64 hya) ∧ w'.cell? ⟨bky, 3, none⟩ = some (.slice Bya Mya dya) ∧ w'.cell? ⟨bky, 4, none⟩ = some (.int .i64 1) ∧ w'.cell? ⟨bky, 5, none⟩ = some (.slice Ayb Lyb cyb) ∧ w'.cell? ⟨bky, 6, none⟩ = some (.int .i64 hyb) ∧ w'.cell? ⟨bky, 7, none⟩ = some (.slice Byb Myb dyb) ∧ w'.cell? ⟨w8.heap.size, 0, none⟩ = some (.bool sda) ∧ w'.cell? ⟨w8.heap.size, 1, none⟩ = some (.slice Ada Lda cda) ∧ w'.cell? ⟨w8.heap.size, 2, none⟩ = some (.slice Bda Mda dda) ∧ w'.cell? ⟨w8.heap.size, 3, none⟩ = some (.bool sdb) ∧ w'.cell? ⟨w8.heap.size, 4, none⟩ = some (.slice Adb Ldb cdb) ∧ w'.cell? ⟨w8.heap.size, 5, none⟩ = some (.slice Bdb Mdb ddb)) := fun w' hk => ⟨hk, hk.cell e0_0, hk.cell e0_1, hk.cell e0_2, hk.cell e0_3, hk.cell e0_4, hk.cell e0_5, hk.cell e1_0, hk.cell e1_1, hk.cell e1_2, hk.cell e1_3, hk.cell e1_4, hk.cell e1_5, hk.cell x_0, hk.cell x_1, hk.cell x_2, hk.cell x_3, hk.cell x_4, hk.cell x_5, hk.cell x_6, hk.cell x_7, hk.cell y_0, hk.cell y_1, hk.cell y_2, hk.cell y_3, hk.cell y_4, hk.cell y_5, hk.cell y_6, hk.cell y_7, hk.cell d_0, hk.cell d_1, hk.cell d_2, hk.cell d_3, hk.cell d_4, hk.cell d_5⟩
          first
          | go_region_held3 (fun w' => Ext w9 w' ∧ w'.cell? ⟨w.heap.size, 0, none⟩ = some (.bool s1) ∧ w'.cell? ⟨w.heap.size, 1, none⟩ = some (.slice A1 L1 c1) ∧ w'.cell? ⟨w.heap.size, 2, none⟩ = some (.slice B1 M1 d1) ∧ w'.cell? ⟨w.heap.size, 3, none⟩ = some (.bool s2) ∧ w'.cell? ⟨w.heap.size, 4, none⟩ = some (.slice A2 L2 c2) ∧ w'.cell? ⟨w.heap.size, 5, none⟩ = some (.slice B2 M2 d2) ∧ w'.cell? ⟨w.heap.size + 1, 0, none⟩ = some (.bool s3) ∧ w'.cell? ⟨w.heap.size + 1, 1, none⟩ = some (.slice A3 L3 c3) ∧ w'.cell? ⟨w.heap.size + 1, 2, none⟩ = some (.slice B3 M3 d3) ∧ w'.cell? ⟨w.heap.size + 1, 3, none⟩ = some (.bool s4) ∧ w'.cell? ⟨w.heap.size + 1, 4, none⟩ = some (.slice A4 L4 c4) ∧ w'.cell? ⟨w.heap.size + 1, 5, none⟩ = some (.slice B4 M4 d4) ∧ w'.cell? ⟨bkx, 0, none⟩ = some (.int .i64 gxa) ∧ w'.cell? ⟨bkx, 1, none⟩ = some (.slice Axa Lxa cxa) ∧ w'.cell? ⟨bkx, 2, none⟩ = some (.int .i64 hxa) ∧ w'.cell? ⟨bkx, 3, none⟩ = some (.slice Bxa Mxa dxa) ∧ w'.cell? ⟨bkx, 4, none⟩ = some (.int .i64 gxb) ∧ w'.cell? ⟨bkx, 5, none⟩ = some (.slice Axb Lxb cxb) ∧ w'.cell? ⟨bkx, 6, none⟩ = some (.int .i64 hxb) ∧ w'.cell? ⟨bkx, 7, none⟩ = some (.slice Bxb Mxb dxb) ∧ w'.cell? ⟨bky, 0, none⟩ = some (.int .i64 1) ∧ w'.cell? ⟨bky, 1, none⟩ = some (.slice Aya Lya cya) ∧ w'.cell? ⟨bky, 2, none⟩ = some (.int .i64 hya) ∧ w'.cell? ⟨bky, 3, none⟩ = some (.slice Bya Mya dya) ∧ w'.cell? ⟨bky, 4, none⟩ = some (.int .i64 1) ∧ w'.cell? ⟨bky, 5, none⟩ = some (.slice Ayb Lyb cyb) ∧ w'.cell? ⟨bky, 6, none⟩ = some (.int .i64 hyb) ∧ w'.cell? ⟨bky, 7, none⟩ = some (.slice Byb Myb dyb) ∧ w'.cell? ⟨w8.heap.size, 0, none⟩ = some (.bool sda) ∧ w'.cell? ⟨w8.heap.size, 1, none⟩ = some (.slice Ada Lda cda) ∧ w'.cell? ⟨w8.heap.size, 2, none⟩ = some (.slice Bda Mda dda) ∧ w'.cell? ⟨w8.heap.size, 3, none⟩ = some (.bool sdb) ∧ w'.cell? ⟨w8.heap.size, 4, none⟩ = some (.slice Adb Ldb cdb) ∧ w'.cell? ⟨w8.heap.size, 5, none⟩ = some (.slice Bdb Mdb ddb))
              ((with_reducible refine HK.out _ ?_; (with_reducible repeat' first | exact Ext.refl _ | assumption | apply Ext.alloc_r | apply Ext.drew_r | apply Ext.drewN_r | refine Ext.trans ?_ ‹Ext _ _›)))
              (first
                | (go_at_call_of 14 (#[Value.agg #[Value.bool sda, Value.slice Ada Lda cda, Value.slice Bda Mda dda, Value.bool sdb, Value.slice Adb Ldb cdb, Value.slice Bdb Mdb ddb], Value.agg #[Value.int IntKind.i64 gjpa, Value.slice Ajpa Ljpa cjpa, Value.int IntKind.i64 hjpa, Value.slice Bjpa Mjpa djpa, Value.int IntKind.i64 gjpb, Value.slice Ajpb Ljpb cjpb, Value.int IntKind.i64 hjpb, Value.slice Bjpb Mjpb djpb]]); have hgd := jpa; clear hgd; refine (lis6 (da.ext (by with_reducible repeat' first | exact Ext.refl _ | assumption | apply Ext.alloc_r | apply Ext.drew_r | apply Ext.drewN_r | refine Ext.trans ?_ ‹Ext _ _›)) (db.ext (by with_reducible repeat' first | exact Ext.refl _ | assumption | apply Ext.alloc_r | apply Ext.drew_r | apply Ext.drewN_r | refine Ext.trans ?_ ‹Ext _ _›)) (jpa.ext (by with_reducible repeat' first | exact Ext.refl _ | assumption | apply Ext.alloc_r | apply Ext.drew_r | apply Ext.drewN_r | refine Ext.trans ?_ ‹Ext _ _›)) (jpb.ext (by with_reducible repeat' first | exact Ext.refl _ | assumption | apply Ext.alloc_r | apply Ext.drew_r | apply Ext.drewN_r | refine Ext.trans ?_ ‹Ext _ _›)) (HM.out.1) (HM.out.2) (by omega)).mono ?_; rintro e w12 ⟨rfl, x12⟩)
                | (go_at_call 15; have hgd := jva; clear hgd; refine (jmul_r (xa.ext (by with_reducible repeat' first | exact Ext.refl _ | assumption | apply Ext.alloc_r | apply Ext.drew_r | apply Ext.drewN_r | refine Ext.trans ?_ ‹Ext _ _›)) (xb.ext (by with_reducible repeat' first | exact Ext.refl _ | assumption | apply Ext.alloc_r | apply Ext.drew_r | apply Ext.drewN_r | refine Ext.trans ?_ ‹Ext _ _›)) (jva.ext (by with_reducible repeat' first | exact Ext.refl _ | assumption | apply Ext.alloc_r | apply Ext.drew_r | apply Ext.drewN_r | refine Ext.trans ?_ ‹Ext _ _›)) (jvb.ext (by with_reducible repeat' first | exact Ext.refl _ | assumption | apply Ext.alloc_r | apply Ext.drew_r | apply Ext.drewN_r | refine Ext.trans ?_ ‹Ext _ _›)) (by omega)).mono ?_; rintro e w11 ⟨gjpa, Ajpa, cjpa, Ljpa, hjpa, Bjpa, djpa, Mjpa, gjpb, Ajpb, cjpb, Ljpb, hjpb, Bjpb, djpb, Mjpb, rfl, jpa, jpb, x11⟩)
                | (go_at_call 16; refine (jinverse_r (ya.ext (by with_reducible repeat' first | exact Ext.refl _ | assumption | apply Ext.alloc_r | apply Ext.drew_r | apply Ext.drewN_r | refine Ext.trans ?_ ‹Ext _ _›)) (yb.ext (by with_reducible repeat' first | exact Ext.refl _ | assumption | apply Ext.alloc_r | apply Ext.drew_r | apply Ext.drewN_r | refine Ext.trans ?_ ‹Ext _ _›)) (by omega) HNZ.out.1 HNZ.out.2).mono ?_; rintro e w10 ⟨gjva, Ajva, cjva, Ljva, hjva, Bjva, djva, Mjva, gjvb, Ajvb, cjvb, Ljvb, hjvb, Bjvb, djvb, Mjvb, rfl, jva, jvb, x10⟩))
          | fail
          clear HK
          have xh : Ext w9 w12 := (by with_reducible repeat' first | exact Ext.refl _ | assumption | apply Ext.alloc_r | apply Ext.drew_r | apply Ext.drewN_r | refine Ext.trans ?_ ‹Ext _ _›)
          replace e0_0 := xh.cell e0_0
          replace e0_1 := xh.cell e0_1
          replace e0_2 := xh.cell e0_2
          replace e0_3 := xh.cell e0_3
          replace e0_4 := xh.cell e0_4
          replace e0_5 := xh.cell e0_5
          replace e1_0 := xh.cell e1_0
          replace e1_1 := xh.cell e1_1
          replace e1_2 := xh.cell e1_2
          replace e1_3 := xh.cell e1_3
          replace e1_4 := xh.cell e1_4
          replace e1_5 := xh.cell e1_5
          replace x_0 := xh.cell x_0
          replace x_1 := xh.cell x_1
          replace x_2 := xh.cell x_2
          replace x_3 := xh.cell x_3
          replace x_4 := xh.cell x_4
          replace x_5 := xh.cell x_5
          replace x_6 := xh.cell x_6
          replace x_7 := xh.cell x_7
          replace y_0 := xh.cell y_0
          replace y_1 := xh.cell y_1
          replace y_2 := xh.cell y_2
          replace y_3 := xh.cell y_3
          replace y_4 := xh.cell y_4
          replace y_5 := xh.cell y_5
          replace y_6 := xh.cell y_6
          replace y_7 := xh.cell y_7
          replace d_0 := xh.cell d_0
          replace d_1 := xh.cell d_1
          replace d_2 := xh.cell d_2
          replace d_3 := xh.cell d_3
          replace d_4 := xh.cell d_4
          replace d_5 := xh.cell d_5
          clear xh
          go_wp2_with fail
          go_ret
          exact ⟨rfl, (by with_reducible repeat' first | exact Ext.refl _ | assumption | apply Ext.alloc_r | apply Ext.drew_r | apply Ext.drewN_r | refine Ext.trans ?_ ‹Ext _ _›)⟩
        · subst h3
          subst hga
          subst hgb
          have HNZ := Lib.hid (HQ0.out (by omega))
          clear HQ0
          have HM := Lib.hid (And.intro (quo_lo q1 q2 q3 q4) (quo_hi q1 q2 q3 q4))
          have HZ1 := Lib.hid hz1.symm
          have HZ2 := Lib.hid hz2.symm
          clear hz1 hz2
          go_wp2_with fail
          refine (isign_eq (e3.ext (by with_reducible repeat' first | exact Ext.refl _ | assumption | apply Ext.alloc_r | apply Ext.drew_r | apply Ext.drewN_r | refine Ext.trans ?_ ‹Ext _ _›)) (e4.ext (by with_reducible repeat' first | exact Ext.refl _ | assumption | apply Ext.alloc_r | apply Ext.drew_r | apply Ext.drewN_r | refine Ext.trans ?_ ‹Ext _ _›)) HZ1.out HZ2.out rfl).mono ?_
          rintro e w6 ⟨rfl, x6⟩
          replace e0_0 := x6.cell e0_0
          replace e0_1 := x6.cell e0_1
          replace e0_2 := x6.cell e0_2
          replace e0_3 := x6.cell e0_3
          replace e0_4 := x6.cell e0_4
          replace e0_5 := x6.cell e0_5
          replace e1_0 := x6.cell e1_0
          replace e1_1 := x6.cell e1_1
          replace e1_2 := x6.cell e1_2
          replace e1_3 := x6.cell e1_3
          replace e1_4 := x6.cell e1_4
          replace e1_5 := x6.cell e1_5
          replace x_0 := x6.cell x_0
          replace x_1 := x6.cell x_1
          replace x_2 := x6.cell x_2
          replace x_3 := x6.cell x_3
          replace x_4 := x6.cell x_4
          replace x_5 := x6.cell x_5
          replace x_6 := x6.cell x_6
          replace x_7 := x6.cell x_7
          replace y_0 := x6.cell y_0
          replace y_1 := x6.cell y_1
          replace y_2 := x6.cell y_2
          replace y_3 := x6.cell y_3
          replace y_4 := x6.cell y_4
          replace y_5 := x6.cell y_5
          replace y_6 := x6.cell y_6
          replace y_7 := x6.cell y_7
          go_wp2_with fail
          have HK : Hid (∀ w', Ext w6 w' → Ext w6 w' ∧ w'.cell? ⟨w.heap.size, 0, none⟩ = some (.bool s1) ∧ w'.cell? ⟨w.heap.size, 1, none⟩ = some (.slice A1 L1 c1) ∧ w'.cell? ⟨w.heap.size, 2, none⟩ = some (.slice B1 M1 d1) ∧ w'.cell? ⟨w.heap.size, 3, none⟩ = some (.bool s2) ∧ w'.cell? ⟨w.heap.size, 4, none⟩ = some (.slice A2 L2 c2) ∧ w'.cell? ⟨w.heap.size, 5, none⟩ = some (.slice B2 M2 d2) ∧ w'.cell? ⟨w.heap.size + 1, 0, none⟩ = some (.bool s3) ∧ w'.cell? ⟨w.heap.size + 1, 1, none⟩ = some (.slice A3 L3 c3) ∧ w'.cell? ⟨w.heap.size + 1, 2, none⟩ = some (.slice B3 M3 d3) ∧ w'.cell? ⟨w.heap.size + 1, 3, none⟩ = some (.bool s4) ∧ w'.cell? ⟨w.heap.size + 1, 4, none⟩ = some (.slice A4 L4 c4) ∧ w'.cell? ⟨w.heap.size + 1, 5, none⟩ = some (.slice B4 M4 d4) ∧ w'.cell? ⟨bkx, 0, none⟩ = some (.int .i64 gxa) ∧ w'.cell? ⟨bkx, 1, none⟩ = some (.slice Axa Lxa cxa) ∧ w'.cell? ⟨bkx, 2, none⟩ = some (.int .i64 hxa) ∧ w'.cell? ⟨bkx, 3, none⟩ = some (.slice Bxa Mxa dxa) ∧ w'.cell? ⟨bkx, 4, none⟩ = some (.int .i64 gxb) ∧ w'.cell? ⟨bkx, 5, none⟩ = some (.slice Axb Lxb cxb) ∧ w'.cell? ⟨bkx, 6, none⟩ = some (.int .i64 hxb) ∧ w'.cell? ⟨bkx, 7, none⟩ = some (.slice Bxb Mxb dxb) ∧ w'.cell? ⟨bky, 0, none⟩ = some (.int .i64 (-1)) ∧ w'.cell? ⟨bky, 1, none⟩ = some (.slice Aya Lya cya) ∧ w'.cell? ⟨bky, 2, none⟩ = some (.int .i64 hya) ∧ w'.cell? ⟨bky, 3, none⟩ = some (.slice Bya Mya dya) ∧ w'.cell? ⟨bky, 4, none⟩ = some (.int .i64 (-1)) ∧ w'.cell? ⟨bky, 5, none⟩ = some (.slice Ayb Lyb cyb) ∧ w'.cell? ⟨bky, 6, none⟩ = some (.int .i64 hyb) ∧ w'.cell? ⟨bky, 7, none⟩ = some (.slice Byb Myb dyb)) := fun w' hk => ⟨hk, hk.cell e0_0, hk.cell e0_1, hk.cell e0_2, hk.cell e0_3, hk.cell e0_4, hk.cell e0_5, hk.cell e1_0, hk.cell e1_1, hk.cell e1_2, hk.cell e1_3, hk.cell e1_4, hk.cell e1_5, hk.cell x_0, hk.cell x_1, hk.cell x_2, hk.cell x_3, hk.cell x_4, hk.cell x_5, hk.cell x_6, hk.cell x_7, hk.cell y_0, hk.cell y_1, hk.cell y_2, hk.cell y_3, hk.cell y_4, hk.cell y_5, hk.cell y_6, hk.cell y_7⟩
          first
          | go_region_held3 (fun w' => Ext w6 w' ∧ w'.cell? ⟨w.heap.size, 0, none⟩ = some (.bool s1) ∧ w'.cell? ⟨w.heap.size, 1, none⟩ = some (.slice A1 L1 c1) ∧ w'.cell? ⟨w.heap.size, 2, none⟩ = some (.slice B1 M1 d1) ∧ w'.cell? ⟨w.heap.size, 3, none⟩ = some (.bool s2) ∧ w'.cell? ⟨w.heap.size, 4, none⟩ = some (.slice A2 L2 c2) ∧ w'.cell? ⟨w.heap.size, 5, none⟩ = some (.slice B2 M2 d2) ∧ w'.cell? ⟨w.heap.size + 1, 0, none⟩ = some (.bool s3) ∧ w'.cell? ⟨w.heap.size + 1, 1, none⟩ = some (.slice A3 L3 c3) ∧ w'.cell? ⟨w.heap.size + 1, 2, none⟩ = some (.slice B3 M3 d3) ∧ w'.cell? ⟨w.heap.size + 1, 3, none⟩ = some (.bool s4) ∧ w'.cell? ⟨w.heap.size + 1, 4, none⟩ = some (.slice A4 L4 c4) ∧ w'.cell? ⟨w.heap.size + 1, 5, none⟩ = some (.slice B4 M4 d4) ∧ w'.cell? ⟨bkx, 0, none⟩ = some (.int .i64 gxa) ∧ w'.cell? ⟨bkx, 1, none⟩ = some (.slice Axa Lxa cxa) ∧ w'.cell? ⟨bkx, 2, none⟩ = some (.int .i64 hxa) ∧ w'.cell? ⟨bkx, 3, none⟩ = some (.slice Bxa Mxa dxa) ∧ w'.cell? ⟨bkx, 4, none⟩ = some (.int .i64 gxb) ∧ w'.cell? ⟨bkx, 5, none⟩ = some (.slice Axb Lxb cxb) ∧ w'.cell? ⟨bkx, 6, none⟩ = some (.int .i64 hxb) ∧ w'.cell? ⟨bkx, 7, none⟩ = some (.slice Bxb Mxb dxb) ∧ w'.cell? ⟨bky, 0, none⟩ = some (.int .i64 (-1)) ∧ w'.cell? ⟨bky, 1, none⟩ = some (.slice Aya Lya cya) ∧ w'.cell? ⟨bky, 2, none⟩ = some (.int .i64 hya) ∧ w'.cell? ⟨bky, 3, none⟩ = some (.slice Bya Mya dya) ∧ w'.cell? ⟨bky, 4, none⟩ = some (.int .i64 (-1)) ∧ w'.cell? ⟨bky, 5, none⟩ = some (.slice Ayb Lyb cyb) ∧ w'.cell? ⟨bky, 6, none⟩ = some (.int .i64 hyb) ∧ w'.cell? ⟨bky, 7, none⟩ = some (.slice Byb Myb dyb))
              ((with_reducible refine HK.out _ ?_; (with_reducible repeat' first | exact Ext.refl _ | assumption | apply Ext.alloc_r | apply Ext.drew_r | apply Ext.drewN_r | refine Ext.trans ?_ ‹Ext _ _›)))
              (fail)
          | fail
          clear HK
          obtain ⟨w7, hw⟩ : ∃ z : World, z = w6.drew := ⟨_, rfl⟩
          rw [← hw]
          have x7 : Ext w6 w7 := by rw [hw]; exact Ext.drew _
          replace e0_0 := x7.cell e0_0
          replace e0_1 := x7.cell e0_1
          replace e0_2 := x7.cell e0_2
          replace e0_3 := x7.cell e0_3
          replace e0_4 := x7.cell e0_4
          replace e0_5 := x7.cell e0_5
          replace e1_0 := x7.cell e1_0
          replace e1_1 := x7.cell e1_1
          replace e1_2 := x7.cell e1_2
          replace e1_3 := x7.cell e1_3
          replace e1_4 := x7.cell e1_4
          replace e1_5 := x7.cell e1_5
          replace x_0 := x7.cell x_0
          replace x_1 := x7.cell x_1
          replace x_2 := x7.cell x_2
          replace x_3 := x7.cell x_3
          replace x_4 := x7.cell x_4
          replace x_5 := x7.cell x_5
          replace x_6 := x7.cell x_6
          replace x_7 := x7.cell x_7
          replace y_0 := x7.cell y_0
          replace y_1 := x7.cell y_1
          replace y_2 := x7.cell y_2
          replace y_3 := x7.cell y_3
          replace y_4 := x7.cell y_4
          replace y_5 := x7.cell y_5
          replace y_6 := x7.cell y_6
          replace y_7 := x7.cell y_7
          clear hw
          go_wp2_with fail
          refine (iquo_r (e1.ext (by with_reducible repeat' first | exact Ext.refl _ | assumption | apply Ext.alloc_r | apply Ext.drew_r | apply Ext.drewN_r | refine Ext.trans ?_ ‹Ext _ _›)) (e2.ext (by with_reducible repeat' first | exact Ext.refl _ | assumption | apply Ext.alloc_r | apply Ext.drew_r | apply Ext.drewN_r | refine Ext.trans ?_ ‹Ext _ _›)) (e3.ext (by with_reducible repeat' first | exact Ext.refl _ | assumption | apply Ext.alloc_r | apply Ext.drew_r | apply Ext.drewN_r | refine Ext.trans ?_ ‹Ext _ _›)) (e4.ext (by with_reducible repeat' first | exact Ext.refl _ | assumption | apply Ext.alloc_r | apply Ext.drew_r | apply Ext.drewN_r | refine Ext.trans ?_ ‹Ext _ _›)) HZ1.out HZ2.out (by omega) (by omega)).mono ?_
          rintro e w8 ⟨sda, Ada, cda, Lda, Bda, dda, Mda, sdb, Adb, cdb, Ldb, Bdb, ddb, Mdb, rfl, da, db, x8⟩
          replace e0_0 := x8.cell e0_0
          replace e0_1 := x8.cell e0_1
          replace e0_2 := x8.cell e0_2
          replace e0_3 := x8.cell e0_3
          replace e0_4 := x8.cell e0_4
          replace e0_5 := x8.cell e0_5
          replace e1_0 := x8.cell e1_0
          replace e1_1 := x8.cell e1_1
          replace e1_2 := x8.cell e1_2
          replace e1_3 := x8.cell e1_3
          replace e1_4 := x8.cell e1_4
          replace e1_5 := x8.cell e1_5
          replace x_0 := x8.cell x_0
          replace x_1 := x8.cell x_1
          replace x_2 := x8.cell x_2
          replace x_3 := x8.cell x_3
          replace x_4 := x8.cell x_4
          replace x_5 := x8.cell x_5
          replace x_6 := x8.cell x_6
          replace x_7 := x8.cell x_7
          replace y_0 := x8.cell y_0
          replace y_1 := x8.cell y_1
          replace y_2 := x8.cell y_2
          replace y_3 := x8.cell y_3
          replace y_4 := x8.cell y_4
          replace y_5 := x8.cell y_5
          replace y_6 := x8.cell y_6
          replace y_7 := x8.cell y_7
          have HD := Lib.hid (And.intro da db)
          clear da db
          have te0_0 := fun o => (Ext.alloc w8 o).cell e0_0
          have te0_1 := fun o => (Ext.alloc w8 o).cell e0_1
          have te0_2 := fun o => (Ext.alloc w8 o).cell e0_2
          have te0_3 := fun o => (Ext.alloc w8 o).cell e0_3
          have te0_4 := fun o => (Ext.alloc w8 o).cell e0_4
          have te0_5 := fun o => (Ext.alloc w8 o).cell e0_5
          have te1_0 := fun o => (Ext.alloc w8 o).cell e1_0
          have te1_1 := fun o => (Ext.alloc w8 o).cell e1_1
          have te1_2 := fun o => (Ext.alloc w8 o).cell e1_2
          have te1_3 := fun o => (Ext.alloc w8 o).cell e1_3
          have te1_4 := fun o => (Ext.alloc w8 o).cell e1_4
          have te1_5 := fun o => (Ext.alloc w8 o).cell e1_5
          have tx_0 := fun o => (Ext.alloc w8 o).cell x_0
          have tx_1 := fun o => (Ext.alloc w8 o).cell x_1
          have tx_2 := fun o => (Ext.alloc w8 o).cell x_2
          have tx_3 := fun o => (Ext.alloc w8 o).cell x_3
          have tx_4 := fun o => (Ext.alloc w8 o).cell x_4
          have tx_5 := fun o => (Ext.alloc w8 o).cell x_5
          have tx_6 := fun o => (Ext.alloc w8 o).cell x_6
          have tx_7 := fun o => (Ext.alloc w8 o).cell x_7
          have ty_0 := fun o => (Ext.alloc w8 o).cell y_0
          have ty_1 := fun o => (Ext.alloc w8 o).cell y_1
          have ty_2 := fun o => (Ext.alloc w8 o).cell y_2
          have ty_3 := fun o => (Ext.alloc w8 o).cell y_3
          have ty_4 := fun o => (Ext.alloc w8 o).cell y_4
          have ty_5 := fun o => (Ext.alloc w8 o).cell y_5
          have ty_6 := fun o => (Ext.alloc w8 o).cell y_6
          have ty_7 := fun o => (Ext.alloc w8 o).cell y_7
          go_wp2_with fail
          clear te0_0 te0_1 te0_2 te0_3 te0_4 te0_5 te1_0 te1_1 te1_2 te1_3 te1_4 te1_5 tx_0 tx_1 tx_2 tx_3 tx_4 tx_5 tx_6 tx_7 ty_0 ty_1 ty_2 ty_3 ty_4 ty_5 ty_6 ty_7
          obtain ⟨w9, hw⟩ : ∃ z : World, z = (w8.alloc (.cells #[.bool sda, .slice Ada Lda cda, .slice Bda Mda dda, .bool sdb, .slice Adb Ldb cdb, .slice Bdb Mdb ddb] 29)) := ⟨_, rfl⟩
          rw [← hw]
          have x9 : Ext w8 w9 := by rw [hw]; exact Ext.alloc _ _
          have bb := box_at w8 #[.bool sda, .slice Ada Lda cda, .slice Bda Mda dda, .bool sdb, .slice Adb Ldb cdb, .slice Bdb Mdb ddb] 29
          rw [← hw] at bb
          replace e0_0 := x9.cell e0_0
          replace e0_1 := x9.cell e0_1
          replace e0_2 := x9.cell e0_2
          replace e0_3 := x9.cell e0_3
          replace e0_4 := x9.cell e0_4
          replace e0_5 := x9.cell e0_5
          replace e1_0 := x9.cell e1_0
          replace e1_1 := x9.cell e1_1
          replace e1_2 := x9.cell e1_2
          replace e1_3 := x9.cell e1_3
          replace e1_4 := x9.cell e1_4
          replace e1_5 := x9.cell e1_5
          replace x_0 := x9.cell x_0
          replace x_1 := x9.cell x_1
          replace x_2 := x9.cell x_2
          replace x_3 := x9.cell x_3
          replace x_4 := x9.cell x_4
          replace x_5 := x9.cell x_5
          replace x_6 := x9.cell x_6
          replace x_7 := x9.cell x_7
          replace y_0 := x9.cell y_0
          replace y_1 := x9.cell y_1
          replace y_2 := x9.cell y_2
          replace y_3 := x9.cell y_3
          replace y_4 := x9.cell y_4
          replace y_5 := x9.cell y_5
          replace y_6 := x9.cell y_6
          replace y_7 := x9.cell y_7
          have d_0 := bb.1 0 (.bool sda) rfl
          have d_1 := bb.1 1 (.slice Ada Lda cda) rfl
          have d_2 := bb.1 2 (.slice Bda Mda dda) rfl
          have d_3 := bb.1 3 (.bool sdb) rfl
          have d_4 := bb.1 4 (.slice Adb Ldb cdb) rfl
          have d_5 := bb.1 5 (.slice Bdb Mdb ddb) rfl
          clear hw bb
          have da := HD.out.1
          have db := HD.out.2
          go_wp2_with fail
          have HK : Hid (∀ w', Ext w9 w' → Ext w9 w' ∧ w'.cell? ⟨w.heap.size, 0, none⟩ = some (.bool s1) ∧ w'.cell? ⟨w.heap.size, 1, none⟩ = some (.slice A1 L1 c1) ∧ w'.cell? ⟨w.heap.size, 2, none⟩ = some (.slice B1 M1 d1) ∧ w'.cell? ⟨w.heap.size, 3, none⟩ = some (.bool s2) ∧ w'.cell? ⟨w.heap.size, 4, none⟩ = some (.slice A2 L2 c2) ∧ w'.cell? ⟨w.heap.size, 5, none⟩ = some (.slice B2 M2 d2) ∧ w'.cell? ⟨w.heap.size + 1, 0, none⟩ = some (.bool s3) ∧ w'.cell? ⟨w.heap.size + 1, 1, none⟩ = some (.slice A3 L3 c3) ∧ w'.cell? ⟨w.heap.size + 1, 2, none⟩ = some (.slice B3 M3 d3) ∧ w'.cell? ⟨w.heap.size + 1, 3, none⟩ = some (.bool s4) ∧ w'.cell? ⟨w.heap.size + 1, 4, none⟩ = some (.slice A4 L4 c4) ∧ w'.cell? ⟨w.heap.size + 1, 5, none⟩ = some (.slice B4 M4 d4) ∧ w'.cell? ⟨bkx, 0, none⟩ = some (.int .i64 gxa) ∧ w'.cell? ⟨bkx, 1, none⟩ = some (.slice Axa Lxa cxa) ∧ w'.cell? ⟨bkx, 2, none⟩ = some (.int .i64 hxa) ∧ w'.cell? ⟨bkx, 3, none⟩ = some (.slice Bxa Mxa dxa) ∧ w'.cell? ⟨bkx, 4, none⟩ = some (.int .i64 gxb) ∧ w'.cell? ⟨bkx, 5, none⟩ = some (.slice Axb Lxb cxb) ∧ w'.cell? ⟨bkx, 6, none⟩ = some (.int .i64 hxb) ∧ w'.cell? ⟨bkx, 7, none⟩ = some (.slice Bxb Mxb dxb) ∧ w'.cell? ⟨bky, 0, none⟩ = some (.int .i64 (-1)) ∧ w'.cell? ⟨bky, 1, none⟩ = some (.slice Aya Lya cya) ∧ w'.cell? ⟨bky, 2, none⟩ = some (.int .i64 hya) ∧ w'.cell? ⟨bky, 3, none⟩ = some (.slice Bya Mya dya) ∧ w'.cell? ⟨bky, 4, none⟩ = some (.int .i64 (-1)) ∧ w'.cell? ⟨bky, 5, none⟩ = some (.slice Ayb Lyb cyb) ∧ w'.cell? ⟨bky, 6, none⟩ = some (.int .i64 hyb) ∧ w'.cell? ⟨bky, 7, none⟩ = some (.slice Byb Myb dyb) ∧ w'.cell? ⟨w8.heap.size, 0, none⟩ = some (.bool sda) ∧ w'.cell? ⟨w8.heap.size, 1, none⟩ = some (.slice Ada Lda cda) ∧ w'.cell? ⟨w8.heap.size, 2, none⟩ = some (.slice Bda Mda dda) ∧ w'.cell? ⟨w8.heap.size, 3, none⟩ = some (.bool sdb) ∧ w'.cell? ⟨w8.heap.size, 4, none⟩ = some (.slice Adb Ldb cdb) ∧ w'.cell? ⟨w8.heap.size, 5, none⟩ = some (.slice Bdb Mdb ddb)) := fun w' hk => ⟨hk, hk.cell e0_0, hk.cell e0_1, hk.cell e0_2, hk.cell e0_3, hk.cell e0_4, hk.cell e0_5, hk.cell e1_0, hk.cell e1_1, hk.cell e1_2, hk.cell e1_3, hk.cell e1_4, hk.cell e1_5, hk.cell x_0, hk.cell x_1, hk.cell x_2, hk.cell x_3, hk.cell x_4, hk.cell x_5, hk.cell x_6, hk.cell x_7, hk.cell y_0, hk.cell y_1, hk.cell y_2, hk.cell y_3, hk.cell y_4, hk.cell y_5, hk.cell y_6, hk.cell y_7, hk.cell d_0, hk.cell d_1, hk.cell d_2, hk.cell d_3, hk.cell d_4, hk.cell d_5⟩
          first
          | go_region_held3 (fun w' => Ext w9 w' ∧ w'.cell? ⟨w.heap.size, 0, none⟩ = some (.bool s1) ∧ w'.cell? ⟨w.heap.size, 1, none⟩ = some (.slice A1 L1 c1) ∧ w'.cell? ⟨w.heap.size, 2, none⟩ = some (.slice B1 M1 d1) ∧ w'.cell? ⟨w.heap.size, 3, none⟩ = some (.bool s2) ∧ w'.cell? ⟨w.heap.size, 4, none⟩ = some (.slice A2 L2 c2) ∧ w'.cell? ⟨w.heap.size, 5, none⟩ = some (.slice B2 M2 d2) ∧ w'.cell? ⟨w.heap.size + 1, 0, none⟩ = some (.bool s3) ∧ w'.cell? ⟨w.heap.size + 1, 1, none⟩ = some (.slice A3 L3 c3) ∧ w'.cell? ⟨w.heap.size + 1, 2, none⟩ = some (.slice B3 M3 d3) ∧ w'.cell? ⟨w.heap.size + 1, 3, none⟩ = some (.bool s4) ∧ w'.cell? ⟨w.heap.size + 1, 4, none⟩ = some (.slice A4 L4 c4) ∧ w'.cell? ⟨w.heap.size + 1, 5, none⟩ = some (.slice B4 M4 d4) ∧ w'.cell? ⟨bkx, 0, none⟩ = some (.int .i64 gxa) ∧ w'.cell? ⟨bkx, 1, none⟩ = some (.slice Axa Lxa cxa) ∧ w'.cell? ⟨bkx, 2, none⟩ = some (.int .i64 hxa) ∧ w'.cell? ⟨bkx, 3, none⟩ = some (.slice Bxa Mxa dxa) ∧ w'.cell? ⟨bkx, 4, none⟩ = some (.int .i64 gxb) ∧ w'.cell? ⟨bkx, 5, none⟩ = some (.slice Axb Lxb cxb) ∧ w'.cell? ⟨bkx, 6, none⟩ = some (.int .i64 hxb) ∧ w'.cell? ⟨bkx, 7, none⟩ = some (.slice Bxb Mxb dxb) ∧ w'.cell? ⟨bky, 0, none⟩ = some (.int .i64 (-1)) ∧ w'.cell? ⟨bky, 1, none⟩ = some (.slice Aya Lya cya) ∧ w'.cell? ⟨bky, 2, none⟩ = some (.int .i64 hya) ∧ w'.cell? ⟨bky, 3, none⟩ = some (.slice Bya Mya dya) ∧ w'.cell? ⟨bky, 4, none⟩ = some (.int .i64 (-1)) ∧ w'.cell? ⟨bky, 5, none⟩ = some (.slice Ayb Lyb cyb) ∧ w'.cell? ⟨bky, 6, none⟩ = some (.int .i64 hyb) ∧ w'.cell? ⟨bky, 7, none⟩ = some (.slice Byb Myb dyb) ∧ w'.cell? ⟨w8.heap.size, 0, none⟩ = some (.bool sda) ∧ w'.cell? ⟨w8.heap.size, 1, none⟩ = some (.slice Ada Lda cda) ∧ w'.cell? ⟨w8.heap.size, 2, none⟩ = some (.slice Bda Mda dda) ∧ w'.cell? ⟨w8.heap.size, 3, none⟩ = some (.bool sdb) ∧ w'.cell? ⟨w8.heap.size, 4, none⟩ = some (.slice Adb Ldb cdb) ∧ w'.cell? ⟨w8.heap.size, 5, none⟩ = some (.slice Bdb Mdb ddb))
              ((with_reducible refine HK.out _ ?_; (with_reducible repeat' first | exact Ext.refl _ | assumption | apply Ext.alloc_r | apply Ext.drew_r | apply Ext.drewN_r | refine Ext.trans ?_ ‹Ext _ _›)))
              (first
                | (go_at_call_of 14 (#[Value.agg #[Value.bool sda, Value.slice Ada Lda cda, Value.slice Bda Mda dda, Value.bool sdb, Value.slice Adb Ldb cdb, Value.slice Bdb Mdb ddb], Value.agg #[Value.int IntKind.i64 gjpa, Value.slice Ajpa Ljpa cjpa, Value.int IntKind.i64 hjpa, Value.slice Bjpa Mjpa djpa, Value.int IntKind.i64 gjpb, Value.slice Ajpb Ljpb cjpb, Value.int IntKind.i64 hjpb, Value.slice Bjpb Mjpb djpb]]); have hgd := jpa; clear hgd; refine (lis6 (da.ext (by with_reducible repeat' first | exact Ext.refl _ | assumption | apply Ext.alloc_r | apply Ext.drew_r | apply Ext.drewN_r | refine Ext.trans ?_ ‹Ext _ _›)) (db.ext (by with_reducible repeat' first | exact Ext.refl _ | assumption | apply Ext.alloc_r | apply Ext.drew_r | apply Ext.drewN_r | refine Ext.trans ?_ ‹Ext _ _›)) (jpa.ext (by with_reducible repeat' first | exact Ext.refl _ | assumption | apply Ext.alloc_r | apply Ext.drew_r | apply Ext.drewN_r | refine Ext.trans ?_ ‹Ext _ _›)) (jpb.ext (by with_reducible repeat' first | exact Ext.refl _ | assumption | apply Ext.alloc_r | apply Ext.drew_r | apply Ext.drewN_r | refine Ext.trans ?_ ‹Ext _ _›)) (HM.out.1) (HM.out.2) (by omega)).mono ?_; rintro e w12 ⟨rfl, x12⟩)
                | (go_at_call 15; have hgd := jva; clear hgd; refine (jmul_r (xa.ext (by with_reducible repeat' first | exact Ext.refl _ | assumption | apply Ext.alloc_r | apply Ext.drew_r | apply Ext.drewN_r | refine Ext.trans ?_ ‹Ext _ _›)) (xb.ext (by with_reducible repeat' first | exact Ext.refl _ | assumption | apply Ext.alloc_r | apply Ext.drew_r | apply Ext.drewN_r | refine Ext.trans ?_ ‹Ext _ _›)) (jva.ext (by with_reducible repeat' first | exact Ext.refl _ | assumption | apply Ext.alloc_r | apply Ext.drew_r | apply Ext.drewN_r | refine Ext.trans ?_ ‹Ext _ _›)) (jvb.ext (by with_reducible repeat' first | exact Ext.refl _ | assumption | apply Ext.alloc_r | apply Ext.drew_r | apply Ext.drewN_r | refine Ext.trans ?_ ‹Ext _ _›)) (by omega)).mono ?_; rintro e w11 ⟨gjpa, Ajpa, cjpa, Ljpa, hjpa, Bjpa, djpa, Mjpa, gjpb, Ajpb, cjpb, Ljpb, hjpb, Bjpb, djpb, Mjpb, rfl, jpa, jpb, x11⟩)
                | (go_at_call 16; refine (jinverse_r (ya.ext (by with_reducible repeat' first | exact Ext.refl _ | assumption | apply Ext.alloc_r | apply Ext.drew_r | apply Ext.drewN_r | refine Ext.trans ?_ ‹Ext _ _›)) (yb.ext (by with_reducible repeat' first | exact Ext.refl _ | assumption | apply Ext.alloc_r | apply Ext.drew_r | apply Ext.drewN_r | refine Ext.trans ?_ ‹Ext _ _›)) (by omega) HNZ.out.1 HNZ.out.2).mono ?_; rintro e w10 ⟨gjva, Ajva, cjva, Ljva, hjva, Bjva, djva, Mjva, gjvb, Ajvb, cjvb, Ljvb, hjvb, Bjvb, djvb, Mjvb, rfl, jva, jvb, x10⟩))
          | fail
          clear HK
          have xh : Ext w9 w12 := (by with_reducible repeat' first | exact Ext.refl _ | assumption | apply Ext.alloc_r | apply Ext.drew_r | apply Ext.drewN_r | refine Ext.trans ?_ ‹Ext _ _›)
          replace e0_0 := xh.cell e0_0
          replace e0_1 := xh.cell e0_1
          replace e0_2 := xh.cell e0_2
          replace e0_3 := xh.cell e0_3
          replace e0_4 := xh.cell e0_4
          replace e0_5 := xh.cell e0_5
          replace e1_0 := xh.cell e1_0
          replace e1_1 := xh.cell e1_1
          replace e1_2 := xh.cell e1_2
          replace e1_3 := xh.cell e1_3
          replace e1_4 := xh.cell e1_4
          replace e1_5 := xh.cell e1_5
          replace x_0 := xh.cell x_0
          replace x_1 := xh.cell x_1
          replace x_2 := xh.cell x_2
          replace x_3 := xh.cell x_3
          replace x_4 := xh.cell x_4
          replace x_5 := xh.cell x_5
          replace x_6 := xh.cell x_6
          replace x_7 := xh.cell x_7
          replace y_0 := xh.cell y_0
          replace y_1 := xh.cell y_1
          replace y_2 := xh.cell y_2
          replace y_3 := xh.cell y_3
          replace y_4 := xh.cell y_4
          replace y_5 := xh.cell y_5
          replace y_6 := xh.cell y_6
          replace y_7 := xh.cell y_7
          replace d_0 := xh.cell d_0
          replace d_1 := xh.cell d_1
          replace d_2 := xh.cell d_2
          replace d_3 := xh.cell d_3
          replace d_4 := xh.cell d_4
          replace d_5 := xh.cell d_5
          clear xh
          go_wp2_with fail
          go_ret
          exact ⟨rfl, (by with_reducible repeat' first | exact Ext.refl _ | assumption | apply Ext.alloc_r | apply Ext.drew_r | apply Ext.drewN_r | refine Ext.trans ?_ ‹Ext _ _›)⟩
      · obtain ⟨hm1, hm2, hm3⟩ := sgn_mm_ne (a := q3) (b := q4) (by rw [← hz1, ← hz2]; exact hs)
        have hd1 : (gya == gyb) = false := by rw [hga, hgb]; exact beq_eq_false_iff_ne.2 hm1
        have hd2 : gya ≤ 0 := by rw [hga]; exact hm2
        have hd3 : 0 ≤ gyb := by rw [hgb]; exact hm3
        have hd4 : decide (gyb ≥ 0) = true := decide_eq_true hd3
        have hd5 : ¬ gya = gyb := by rw [hga, hgb]; exact hm1
        have HZ1 := Lib.hid hz1.symm
        have HZ2 := Lib.hid hz2.symm
        have HS := Lib.hid hs
        clear hs hz1 hz2 hga hgb hm1 hm2 hm3
        go_wp2_with fail
        refine (isign_ne (e3.ext (by with_reducible repeat' first | exact Ext.refl _ | assumption | apply Ext.alloc_r | apply Ext.drew_r | apply Ext.drewN_r | refine Ext.trans ?_ ‹Ext _ _›)) (e4.ext (by with_reducible repeat' first | exact Ext.refl _ | assumption | apply Ext.alloc_r | apply Ext.drew_r | apply Ext.drewN_r | refine Ext.trans ?_ ‹Ext _ _›)) HZ1.out HZ2.out HS.out).mono ?_
        rintro e w6 ⟨rfl, x6⟩
        replace e0_0 := x6.cell e0_0
        replace e0_1 := x6.cell e0_1
        replace e0_2 := x6.cell e0_2
        replace e0_3 := x6.cell e0_3
        replace e0_4 := x6.cell e0_4
        replace e0_5 := x6.cell e0_5
        replace e1_0 := x6.cell e1_0
        replace e1_1 := x6.cell e1_1
        replace e1_2 := x6.cell e1_2
        replace e1_3 := x6.cell e1_3
        replace e1_4 := x6.cell e1_4
        replace e1_5 := x6.cell e1_5
        replace x_0 := x6.cell x_0
        replace x_1 := x6.cell x_1
        replace x_2 := x6.cell x_2
        replace x_3 := x6.cell x_3
        replace x_4 := x6.cell x_4
        replace x_5 := x6.cell x_5
        replace x_6 := x6.cell x_6
        replace x_7 := x6.cell x_7
        replace y_0 := x6.cell y_0
        replace y_1 := x6.cell y_1
        replace y_2 := x6.cell y_2
        replace y_3 := x6.cell y_3
        replace y_4 := x6.cell y_4
        replace y_5 := x6.cell y_5
        replace y_6 := x6.cell y_6
        replace y_7 := x6.cell y_7
        go_wp2_with fail
        have HK : Hid (∀ w', Ext w6 w' → Ext w6 w' ∧ w'.cell? ⟨w.heap.size, 0, none⟩ = some (.bool s1) ∧ w'.cell? ⟨w.heap.size, 1, none⟩ = some (.slice A1 L1 c1) ∧ w'.cell? ⟨w.heap.size, 2, none⟩ = some (.slice B1 M1 d1) ∧ w'.cell? ⟨w.heap.size, 3, none⟩ = some (.bool s2) ∧ w'.cell? ⟨w.heap.size, 4, none⟩ = some (.slice A2 L2 c2) ∧ w'.cell? ⟨w.heap.size, 5, none⟩ = some (.slice B2 M2 d2) ∧ w'.cell? ⟨w.heap.size + 1, 0, none⟩ = some (.bool s3) ∧ w'.cell? ⟨w.heap.size + 1, 1, none⟩ = some (.slice A3 L3 c3) ∧ w'.cell? ⟨w.heap.size + 1, 2, none⟩ = some (.slice B3 M3 d3) ∧ w'.cell? ⟨w.heap.size + 1, 3, none⟩ = some (.bool s4) ∧ w'.cell? ⟨w.heap.size + 1, 4, none⟩ = some (.slice A4 L4 c4) ∧ w'.cell? ⟨w.heap.size + 1, 5, none⟩ = some (.slice B4 M4 d4) ∧ w'.cell? ⟨bkx, 0, none⟩ = some (.int .i64 gxa) ∧ w'.cell? ⟨bkx, 1, none⟩ = some (.slice Axa Lxa cxa) ∧ w'.cell? ⟨bkx, 2, none⟩ = some (.int .i64 hxa) ∧ w'.cell? ⟨bkx, 3, none⟩ = some (.slice Bxa Mxa dxa) ∧ w'.cell? ⟨bkx, 4, none⟩ = some (.int .i64 gxb) ∧ w'.cell? ⟨bkx, 5, none⟩ = some (.slice Axb Lxb cxb) ∧ w'.cell? ⟨bkx, 6, none⟩ = some (.int .i64 hxb) ∧ w'.cell? ⟨bkx, 7, none⟩ = some (.slice Bxb Mxb dxb) ∧ w'.cell? ⟨bky, 0, none⟩ = some (.int .i64 gya) ∧ w'.cell? ⟨bky, 1, none⟩ = some (.slice Aya Lya cya) ∧ w'.cell? ⟨bky, 2, none⟩ = some (.int .i64 hya) ∧ w'.cell? ⟨bky, 3, none⟩ = some (.slice Bya Mya dya) ∧ w'.cell? ⟨bky, 4, none⟩ = some (.int .i64 gyb) ∧ w'.cell? ⟨bky, 5, none⟩ = some (.slice Ayb Lyb cyb) ∧ w'.cell? ⟨bky, 6, none⟩ = some (.int .i64 hyb) ∧ w'.cell? ⟨bky, 7, none⟩ = some (.slice Byb Myb dyb)) := fun w' hk => ⟨hk, hk.cell e0_0, hk.cell e0_1, hk.cell e0_2, hk.cell e0_3, hk.cell e0_4, hk.cell e0_5, hk.cell e1_0, hk.cell e1_1, hk.cell e1_2, hk.cell e1_3, hk.cell e1_4, hk.cell e1_5, hk.cell x_0, hk.cell x_1, hk.cell x_2, hk.cell x_3, hk.cell x_4, hk.cell x_5, hk.cell x_6, hk.cell x_7, hk.cell y_0, hk.cell y_1, hk.cell y_2, hk.cell y_3, hk.cell y_4, hk.cell y_5, hk.cell y_6, hk.cell y_7⟩
        first
        | go_region_held3 (fun w' => Ext w6 w' ∧ w'.cell? ⟨w.heap.size, 0, none⟩ = some (.bool s1) ∧ w'.cell? ⟨w.heap.size, 1, none⟩ = some (.slice A1 L1 c1) ∧ w'.cell? ⟨w.heap.size, 2, none⟩ = some (.slice B1 M1 d1) ∧ w'.cell? ⟨w.heap.size, 3, none⟩ = some (.bool s2) ∧ w'.cell? ⟨w.heap.size, 4, none⟩ = some (.slice A2 L2 c2) ∧ w'.cell? ⟨w.heap.size, 5, none⟩ = some (.slice B2 M2 d2) ∧ w'.cell? ⟨w.heap.size + 1, 0, none⟩ = some (.bool s3) ∧ w'.cell? ⟨w.heap.size + 1, 1, none⟩ = some (.slice A3 L3 c3) ∧ w'.cell? ⟨w.heap.size + 1, 2, none⟩ = some (.slice B3 M3 d3) ∧ w'.cell? ⟨w.heap.size + 1, 3, none⟩ = some (.bool s4) ∧ w'.cell? ⟨w.heap.size + 1, 4, none⟩ = some (.slice A4 L4 c4) ∧ w'.cell? ⟨w.heap.size + 1, 5, none⟩ = some (.slice B4 M4 d4) ∧ w'.cell? ⟨bkx, 0, none⟩ = some (.int .i64 gxa) ∧ w'.cell? ⟨bkx, 1, none⟩ = some (.slice Axa Lxa cxa) ∧ w'.cell? ⟨bkx, 2, none⟩ = some (.int .i64 hxa) ∧ w'.cell? ⟨bkx, 3, none⟩ = some (.slice Bxa Mxa dxa) ∧ w'.cell? ⟨bkx, 4, none⟩ = some (.int .i64 gxb) ∧ w'.cell? ⟨bkx, 5, none⟩ = some (.slice Axb Lxb cxb) ∧ w'.cell? ⟨bkx, 6, none⟩ = some (.int .i64 hxb) ∧ w'.cell? ⟨bkx, 7, none⟩ = some (.slice Bxb Mxb dxb) ∧ w'.cell? ⟨bky, 0, none⟩ = some (.int .i64 gya) ∧ w'.cell? ⟨bky, 1, none⟩ = some (.slice Aya Lya cya) ∧ w'.cell? ⟨bky, 2, none⟩ = some (.int .i64 hya) ∧ w'.cell? ⟨bky, 3, none⟩ = some (.slice Bya Mya dya) ∧ w'.cell? ⟨bky, 4, none⟩ = some (.int .i64 gyb) ∧ w'.cell? ⟨bky, 5, none⟩ = some (.slice Ayb Lyb cyb) ∧ w'.cell? ⟨bky, 6, none⟩ = some (.int .i64 hyb) ∧ w'.cell? ⟨bky, 7, none⟩ = some (.slice Byb Myb dyb))
            ((with_reducible refine HK.out _ ?_; (with_reducible repeat' first | exact Ext.refl _ | assumption | apply Ext.alloc_r | apply Ext.drew_r | apply Ext.drewN_r | refine Ext.trans ?_ ‹Ext _ _›)))
            (fail)
        | fail
        clear HK
        obtain ⟨w7, hw⟩ : ∃ z : World, z = w6.drew := ⟨_, rfl⟩
        rw [← hw]
        have x7 : Ext w6 w7 := by rw [hw]; exact Ext.drew _
        replace e0_0 := x7.cell e0_0
        replace e0_1 := x7.cell e0_1
        replace e0_2 := x7.cell e0_2
        replace e0_3 := x7.cell e0_3
        replace e0_4 := x7.cell e0_4
        replace e0_5 := x7.cell e0_5
        replace e1_0 := x7.cell e1_0
        replace e1_1 := x7.cell e1_1
        replace e1_2 := x7.cell e1_2
        replace e1_3 := x7.cell e1_3
        replace e1_4 := x7.cell e1_4
        replace e1_5 := x7.cell e1_5
        replace x_0 := x7.cell x_0
        replace x_1 := x7.cell x_1
        replace x_2 := x7.cell x_2
        replace x_3 := x7.cell x_3
        replace x_4 := x7.cell x_4
        replace x_5 := x7.cell x_5
        replace x_6 := x7.cell x_6
        replace x_7 := x7.cell x_7
        replace y_0 := x7.cell y_0
        replace y_1 := x7.cell y_1
        replace y_2 := x7.cell y_2
        replace y_3 := x7.cell y_3
        replace y_4 := x7.cell y_4
        replace y_5 := x7.cell y_5
        replace y_6 := x7.cell y_6
        replace y_7 := x7.cell y_7
        clear hw
        go_wp2_with fail
        refine (iquo_ne (e3.ext (by with_reducible repeat' first | exact Ext.refl _ | assumption | apply Ext.alloc_r | apply Ext.drew_r | apply Ext.drewN_r | refine Ext.trans ?_ ‹Ext _ _›)) (e4.ext (by with_reducible repeat' first | exact Ext.refl _ | assumption | apply Ext.alloc_r | apply Ext.drew_r | apply Ext.drewN_r | refine Ext.trans ?_ ‹Ext _ _›)) HZ1.out HZ2.out HS.out).mono ?_
        rintro e w8 ⟨rfl, x8⟩
        replace e0_0 := x8.cell e0_0
        replace e0_1 := x8.cell e0_1
        replace e0_2 := x8.cell e0_2
        replace e0_3 := x8.cell e0_3
        replace e0_4 := x8.cell e0_4
        replace e0_5 := x8.cell e0_5
        replace e1_0 := x8.cell e1_0
        replace e1_1 := x8.cell e1_1
        replace e1_2 := x8.cell e1_2
        replace e1_3 := x8.cell e1_3
        replace e1_4 := x8.cell e1_4
        replace e1_5 := x8.cell e1_5
        replace x_0 := x8.cell x_0
        replace x_1 := x8.cell x_1
        replace x_2 := x8.cell x_2
        replace x_3 := x8.cell x_3
        replace x_4 := x8.cell x_4
        replace x_5 := x8.cell x_5
        replace x_6 := x8.cell x_6
        replace x_7 := x8.cell x_7
        replace y_0 := x8.cell y_0
        replace y_1 := x8.cell y_1
        replace y_2 := x8.cell y_2
        replace y_3 := x8.cell y_3
        replace y_4 := x8.cell y_4
        replace y_5 := x8.cell y_5
        replace y_6 := x8.cell y_6
        replace y_7 := x8.cell y_7
        have te0_0 := fun o => (Ext.alloc w8 o).cell e0_0
        have te0_1 := fun o => (Ext.alloc w8 o).cell e0_1
        have te0_2 := fun o => (Ext.alloc w8 o).cell e0_2
        have te0_3 := fun o => (Ext.alloc w8 o).cell e0_3
        have te0_4 := fun o => (Ext.alloc w8 o).cell e0_4
        have te0_5 := fun o => (Ext.alloc w8 o).cell e0_5
        have te1_0 := fun o => (Ext.alloc w8 o).cell e1_0
        have te1_1 := fun o => (Ext.alloc w8 o).cell e1_1
        have te1_2 := fun o => (Ext.alloc w8 o).cell e1_2
        have te1_3 := fun o => (Ext.alloc w8 o).cell e1_3
        have te1_4 := fun o => (Ext.alloc w8 o).cell e1_4
        have te1_5 := fun o => (Ext.alloc w8 o).cell e1_5
        have tx_0 := fun o => (Ext.alloc w8 o).cell x_0
        have tx_1 := fun o => (Ext.alloc w8 o).cell x_1
        have tx_2 := fun o => (Ext.alloc w8 o).cell x_2
        have tx_3 := fun o => (Ext.alloc w8 o).cell x_3
        have tx_4 := fun o => (Ext.alloc w8 o).cell x_4
        have tx_5 := fun o => (Ext.alloc w8 o).cell x_5
        have tx_6 := fun o => (Ext.alloc w8 o).cell x_6
        have tx_7 := fun o => (Ext.alloc w8 o).cell x_7
        have ty_0 := fun o => (Ext.alloc w8 o).cell y_0
        have ty_1 := fun o => (Ext.alloc w8 o).cell y_1
        have ty_2 := fun o => (Ext.alloc w8 o).cell y_2
        have ty_3 := fun o => (Ext.alloc w8 o).cell y_3
        have ty_4 := fun o => (Ext.alloc w8 o).cell y_4
        have ty_5 := fun o => (Ext.alloc w8 o).cell y_5
        have ty_6 := fun o => (Ext.alloc w8 o).cell y_6
        have ty_7 := fun o => (Ext.alloc w8 o).cell y_7
        go_wp2_with fail
        clear te0_0 te0_1 te0_2 te0_3 te0_4 te0_5 te1_0 te1_1 te1_2 te1_3 te1_4 te1_5 tx_0 tx_1 tx_2 tx_3 tx_4 tx_5 tx_6 tx_7 ty_0 ty_1 ty_2 ty_3 ty_4 ty_5 ty_6 ty_7
        obtain ⟨w9, hw⟩ : ∃ z : World, z = (w8.alloc (.cells #[.bool false, .slice none 0 0, .slice none 0 0, .bool false, .slice none 0 0, .slice none 0 0] 29)) := ⟨_, rfl⟩
        rw [← hw]
        have x9 : Ext w8 w9 := by rw [hw]; exact Ext.alloc _ _
        have bb := box_at w8 #[.bool false, .slice none 0 0, .slice none 0 0, .bool false, .slice none 0 0, .slice none 0 0] 29
        rw [← hw] at bb
        replace e0_0 := x9.cell e0_0
        replace e0_1 := x9.cell e0_1
        replace e0_2 := x9.cell e0_2
        replace e0_3 := x9.cell e0_3
        replace e0_4 := x9.cell e0_4
        replace e0_5 := x9.cell e0_5
        replace e1_0 := x9.cell e1_0
        replace e1_1 := x9.cell e1_1
        replace e1_2 := x9.cell e1_2
        replace e1_3 := x9.cell e1_3
        replace e1_4 := x9.cell e1_4
        replace e1_5 := x9.cell e1_5
        replace x_0 := x9.cell x_0
        replace x_1 := x9.cell x_1
        replace x_2 := x9.cell x_2
        replace x_3 := x9.cell x_3
        replace x_4 := x9.cell x_4
        replace x_5 := x9.cell x_5
        replace x_6 := x9.cell x_6
        replace x_7 := x9.cell x_7
        replace y_0 := x9.cell y_0
        replace y_1 := x9.cell y_1
        replace y_2 := x9.cell y_2
        replace y_3 := x9.cell y_3
        replace y_4 := x9.cell y_4
        replace y_5 := x9.cell y_5
        replace y_6 := x9.cell y_6
        replace y_7 := x9.cell y_7
        have d_0 := bb.1 0 (.bool false) rfl
        have d_1 := bb.1 1 (.slice none 0 0) rfl
        have d_2 := bb.1 2 (.slice none 0 0) rfl
        have d_3 := bb.1 3 (.bool false) rfl
        have d_4 := bb.1 4 (.slice none 0 0) rfl
        have d_5 := bb.1 5 (.slice none 0 0) rfl
        clear hw bb
        go_wp2_with fail
        refine (none6).mono ?_
        rintro e w10 ⟨rfl, x10⟩
        replace e0_0 := x10.cell e0_0
        replace e0_1 := x10.cell e0_1
        replace e0_2 := x10.cell e0_2
        replace e0_3 := x10.cell e0_3
        replace e0_4 := x10.cell e0_4
        replace e0_5 := x10.cell e0_5
        replace e1_0 := x10.cell e1_0
        replace e1_1 := x10.cell e1_1
        replace e1_2 := x10.cell e1_2
        replace e1_3 := x10.cell e1_3
        replace e1_4 := x10.cell e1_4
        replace e1_5 := x10.cell e1_5
        replace x_0 := x10.cell x_0
        replace x_1 := x10.cell x_1
        replace x_2 := x10.cell x_2
        replace x_3 := x10.cell x_3
        replace x_4 := x10.cell x_4
        replace x_5 := x10.cell x_5
        replace x_6 := x10.cell x_6
        replace x_7 := x10.cell x_7
        replace y_0 := x10.cell y_0
        replace y_1 := x10.cell y_1
        replace y_2 := x10.cell y_2
        replace y_3 := x10.cell y_3
        replace y_4 := x10.cell y_4
        replace y_5 := x10.cell y_5
        replace y_6 := x10.cell y_6
        replace y_7 := x10.cell y_7
        replace d_0 := x10.cell d_0
        replace d_1 := x10.cell d_1
        replace d_2 := x10.cell d_2
        replace d_3 := x10.cell d_3
        replace d_4 := x10.cell d_4
        replace d_5 := x10.cell d_5
        go_wp2_with fail
        go_ret
        exact ⟨rfl, (by with_reducible repeat' first | exact Ext.refl _ | assumption | apply Ext.alloc_r | apply Ext.drew_r | apply Ext.drewN_r | refine Ext.trans ?_ ‹Ext _ _›)⟩
  · have HN := Lib.hid hf
    clear hf 
    go_enter Tryz.func3, Tryz.ntmps3
    go_wp2_with fail
    obtain ⟨w0, hw0⟩ : ∃ z : World, z = ((w.alloc (.cells #[.bool s1, .slice A1 L1 c1, .slice B1 M1 d1, .bool s2, .slice A2 L2 c2, .slice B2 M2 d2] 29)).alloc (.cells #[.bool s3, .slice A3 L3 c3, .slice B3 M3 d3, .bool s4, .slice A4 L4 c4, .slice B4 M4 d4] 29)) := ⟨_, rfl⟩
    rw [← hw0]
    have b0 := box_at w #[.bool s1, .slice A1 L1 c1, .slice B1 M1 d1, .bool s2, .slice A2 L2 c2, .slice B2 M2 d2] 29
    have b1 := box_at (w.alloc (.cells #[.bool s1, .slice A1 L1 c1, .slice B1 M1 d1, .bool s2, .slice A2 L2 c2, .slice B2 M2 d2] 29)) #[.bool s3, .slice A3 L3 c3, .slice B3 M3 d3, .bool s4, .slice A4 L4 c4, .slice B4 M4 d4] 29
    have hsz : w0.heap.size = w.heap.size + 1 + 1 := by rw [hw0]; simp
    rw [← hw0] at b1
    have y1 : Ext (w.alloc (.cells #[.bool s1, .slice A1 L1 c1, .slice B1 M1 d1, .bool s2, .slice A2 L2 c2, .slice B2 M2 d2] 29)) w0 := by rw [hw0]; exact Ext.alloc _ _
    have y0 : Ext w w0 := (Ext.alloc _ _).trans y1
    have x0 : Ext w w0 := y0
    have e0_0 := y1.cell (b0.1 0 (.bool s1) rfl)
    have e0_1 := y1.cell (b0.1 1 (.slice A1 L1 c1) rfl)
    have e0_2 := y1.cell (b0.1 2 (.slice B1 M1 d1) rfl)
    have e0_3 := y1.cell (b0.1 3 (.bool s2) rfl)
    have e0_4 := y1.cell (b0.1 4 (.slice A2 L2 c2) rfl)
    have e0_5 := y1.cell (b0.1 5 (.slice B2 M2 d2) rfl)
    have e1_0 := b1.1 0 (.bool s3) rfl
    have e1_1 := b1.1 1 (.slice A3 L3 c3) rfl
    have e1_2 := b1.1 2 (.slice B3 M3 d3) rfl
    have e1_3 := b1.1 3 (.bool s4) rfl
    have e1_4 := b1.1 4 (.slice A4 L4 c4) rfl
    have e1_5 := b1.1 5 (.slice B4 M4 d4) rfl
    simp only [World.size_alloc] at e1_0 e1_1 e1_2 e1_3 e1_4 e1_5
    clear hw0 b0 b1 y0 y1
    go_wp2_with fail
    refine (awake6 _).mono ?_
    rintro e w1 ⟨rfl, x1⟩
    replace e0_0 := x1.cell e0_0
    replace e0_1 := x1.cell e0_1
    replace e0_2 := x1.cell e0_2
    replace e0_3 := x1.cell e0_3
    replace e0_4 := x1.cell e0_4
    replace e0_5 := x1.cell e0_5
    replace e1_0 := x1.cell e1_0
    replace e1_1 := x1.cell e1_1
    replace e1_2 := x1.cell e1_2
    replace e1_3 := x1.cell e1_3
    replace e1_4 := x1.cell e1_4
    replace e1_5 := x1.cell e1_5
    go_wp2_with fail
    refine (few6_no (by omega) (by omega) (by omega) (by omega) (by omega) (by omega) (by omega) (by omega) HN.out).mono ?_
    rintro e w2 ⟨rfl, x2⟩
    replace e0_0 := x2.cell e0_0
    replace e0_1 := x2.cell e0_1
    replace e0_2 := x2.cell e0_2
    replace e0_3 := x2.cell e0_3
    replace e0_4 := x2.cell e0_4
    replace e0_5 := x2.cell e0_5
    replace e1_0 := x2.cell e1_0
    replace e1_1 := x2.cell e1_1
    replace e1_2 := x2.cell e1_2
    replace e1_3 := x2.cell e1_3
    replace e1_4 := x2.cell e1_4
    replace e1_5 := x2.cell e1_5
    clear hsz
    go_wp2_with fail
    refine (awake6 _).mono ?_
    rintro e w3 ⟨rfl, x3⟩
    replace e0_0 := x3.cell e0_0
    replace e0_1 := x3.cell e0_1
    replace e0_2 := x3.cell e0_2
    replace e0_3 := x3.cell e0_3
    replace e0_4 := x3.cell e0_4
    replace e0_5 := x3.cell e0_5
    replace e1_0 := x3.cell e1_0
    replace e1_1 := x3.cell e1_1
    replace e1_2 := x3.cell e1_2
    replace e1_3 := x3.cell e1_3
    replace e1_4 := x3.cell e1_4
    replace e1_5 := x3.cell e1_5
    go_wp2_with fail
    go_ret
    exact ⟨rfl, (by with_reducible repeat' first | exact Ext.refl _ | assumption | apply Ext.alloc_r | apply Ext.drew_r | apply Ext.drewN_r | refine Ext.trans ?_ ‹Ext _ _›)⟩
end Go.Proofs.YtehhkeenjlpikaaGreat
