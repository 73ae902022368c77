/- The walk of IntervalArithmetic. -/
import Derived.Test.YtehhkeenjlpikaaGreatArLaw6
import Derived.Test.YtehhkeenjlpikaaGreatArIvD
import Derived.Test.YtehhkeenjlpikaaGreatArOpenV
import Derived.Test.YtehhkeenjlpikaaGreatArPutI
import Derived.Test.YtehhkeenjlpikaaGreatArJvD
namespace Go.Proofs.YtehhkeenjlpikaaGreat
open Go.RowKit
theorem scale_lo (a b c : Rat) : mlo (minQ a b) (maxQ a b) c c = minQ (c * a) (c * b) := by
  refine eq_of_lower fun m => ?_
  rw [le_mlo, le_minQ, Rat.mul_comm c a, Rat.mul_comm c b]
  rcases min_max a b with ⟨e1, e2⟩ | ⟨e1, e2⟩ <;> rw [e1, e2] <;> grind
theorem scale_hi (a b c : Rat) : mhi (minQ a b) (maxQ a b) c c = maxQ (c * a) (c * b) := by
  refine eq_of_upper fun m => ?_
  rw [mhi_le, maxQ_le, Rat.mul_comm c a, Rat.mul_comm c b]
  rcases min_max a b with ⟨e1, e2⟩ | ⟨e1, e2⟩ <;> rw [e1, e2] <;> grind
set_option maxHeartbeats 40000000 in
set_option maxRecDepth 100000 in
theorem intervalArithmetic_walk {w : World} {s1 : Bool} {A1 B1 : Option Addr} {c1 L1 d1 M1 : Nat} {x1 : Int} {y1 : Nat} {s2 : Bool} {A2 B2 : Option Addr} {c2 L2 d2 M2 : Nat} {x2 : Int} {y2 : Nat} {s3 : Bool} {A3 B3 : Option Addr} {c3 L3 d3 M3 : Nat} {x3 : Int} {y3 : Nat} {s4 : Bool} {A4 B4 : Option Addr} {c4 L4 d4 M4 : Nat} {x4 : Int} {y4 : Nat} {s5 : Bool} {A5 B5 : Option Addr} {c5 L5 d5 M5 : Nat} {x5 : Int} {y5 : Nat} (h1 : RW w s1 A1 c1 L1 B1 d1 M1 x1 y1) (h2 : RW w s2 A2 c2 L2 B2 d2 M2 x2 y2) (h3 : RW w s3 A3 c3 L3 B3 d3 M3 x3 y3) (h4 : RW w s4 A4 c4 L4 B4 d4 M4 x4 y4) (h5 : RW w s5 A5 c5 L5 B5 d5 M5 x5 y5) :
    Calls Tryz.prog 5 #[Value.agg #[Value.bool s1, Value.slice A1 L1 c1, Value.slice B1 M1 d1, Value.bool s2, Value.slice A2 L2 c2, Value.slice B2 M2 d2], Value.agg #[Value.bool s3, Value.slice A3 L3 c3, Value.slice B3 M3 d3, Value.bool s4, Value.slice A4 L4 c4, Value.slice B4 M4 d4], Value.agg #[Value.bool s5, Value.slice A5 L5 c5, Value.slice B5 M5 d5]] w fun e w' => e = .returned (.bool true) ∧ Ext w w' := by
  have pa1 := h1.num.nv.cap
  have pb1 := h1.den.cap
  have qa1 := h1.num.nv.le
  have qb1 := h1.den.le
  have pa2 := h2.num.nv.cap
  have pb2 := h2.den.cap
  have qa2 := h2.num.nv.le
  have qb2 := h2.den.le
  have pa3 := h3.num.nv.cap
  have pb3 := h3.den.cap
  have qa3 := h3.num.nv.le
  have qb3 := h3.den.le
  have pa4 := h4.num.nv.cap
  have pb4 := h4.den.cap
  have qa4 := h4.num.nv.le
  have qb4 := h4.den.le
  have pa5 := h5.num.nv.cap
  have pb5 := h5.den.cap
  have qa5 := h5.num.nv.le
  have qb5 := h5.den.le
  by_cases hf : L1 ≤ 4 ∧ M1 ≤ 4 ∧ L2 ≤ 4 ∧ M2 ≤ 4 ∧ L3 ≤ 4 ∧ M3 ≤ 4 ∧ L4 ≤ 4 ∧ M4 ≤ 4
  · by_cases hg5 : (decide (L5 ≤ 4) && decide (M5 ≤ 4)) = true
    · have hm5 : L5 ≤ 4 ∧ M5 ≤ 4 := by simpa using hg5
      have HF := Lib.hid hf
      have HG5 := Lib.hid hg5
      have e1 := h1.rv (N := 4) (by omega) (by omega) (by omega)
      have e2 := h2.rv (N := 4) (by omega) (by omega) (by omega)
      have e3 := h3.rv (N := 4) (by omega) (by omega) (by omega)
      have e4 := h4.rv (N := 4) (by omega) (by omega) (by omega)
      have e5 := h5.rv (N := 4) (by omega) (by omega) (by omega)
      have HO1 : Hid (∀ w', Ext w w' → Calls Tryz.prog 10 #[Value.agg #[Value.bool s1, Value.slice A1 L1 c1, Value.slice B1 M1 d1, Value.bool s2, Value.slice A2 L2 c2, Value.slice B2 M2 d2]] w' (RetJ w' 128 (minQ (mkRat x1 y1) (mkRat x2 y2)) (maxQ (mkRat x1 y1) (mkRat x2 y2)))) := fun w' hx => lof6 (h1.ext hx) (h2.ext hx) (by omega) (by omega) (by omega) (by omega) (by omega) (by omega)
      have HO3 : Hid (∀ w', Ext w w' → Calls Tryz.prog 10 #[Value.agg #[Value.bool s3, Value.slice A3 L3 c3, Value.slice B3 M3 d3, Value.bool s4, Value.slice A4 L4 c4, Value.slice B4 M4 d4]] w' (RetJ w' 128 (minQ (mkRat x3 y3) (mkRat x4 y4)) (maxQ (mkRat x3 y3) (mkRat x4 y4)))) := fun w' hx => lof6 (h3.ext hx) (h4.ext hx) (by omega) (by omega) (by omega) (by omega) (by omega) (by omega)
      have HQ5 : Hid (∀ w', Ext w w' → Calls Tryz.prog 18 #[Value.agg #[Value.bool s5, Value.slice A5 L5 c5, Value.slice B5 M5 d5]] w' (RetQ w' 128 (mkRat x5 y5))) := fun w' hx => lq6 (h5.ext hx) (by omega) (by omega) (by omega) (by omega)
      generalize mkRat x1 y1 = q1 at *
      generalize mkRat x2 y2 = q2 at *
      generalize mkRat x3 y3 = q3 at *
      generalize mkRat x4 y4 = q4 at *
      generalize mkRat x5 y5 = q5 at *
      clear hf hg5 hm5 h1 h2 h3 h4 h5
      go_enter Tryz.func5, Tryz.ntmps5
      go_wp2_with fail
      obtain ⟨w0, hw0⟩ : ∃ z : World, z = (((w.alloc (.cells #[.bool s1, .slice A1 L1 c1, .slice B1 M1 d1, .bool s2, .slice A2 L2 c2, .slice B2 M2 d2] 29)).alloc (.cells #[.bool s3, .slice A3 L3 c3, .slice B3 M3 d3, .bool s4, .slice A4 L4 c4, .slice B4 M4 d4] 29)).alloc (.cells #[.bool s5, .slice A5 L5 c5, .slice B5 M5 d5] 27)) := ⟨_, rfl⟩
      rw [← hw0]
      have b0 := box_at w #[.bool s1, .slice A1 L1 c1, .slice B1 M1 d1, .bool s2, .slice A2 L2 c2, .slice B2 M2 d2] 29
      have b1 := box_at (w.alloc (.cells #[.bool s1, .slice A1 L1 c1, .slice B1 M1 d1, .bool s2, .slice A2 L2 c2, .slice B2 M2 d2] 29)) #[.bool s3, .slice A3 L3 c3, .slice B3 M3 d3, .bool s4, .slice A4 L4 c4, .slice B4 M4 d4] 29
      have b2 := box_at ((w.alloc (.cells #[.bool s1, .slice A1 L1 c1, .slice B1 M1 d1, .bool s2, .slice A2 L2 c2, .slice B2 M2 d2] 29)).alloc (.cells #[.bool s3, .slice A3 L3 c3, .slice B3 M3 d3, .bool s4, .slice A4 L4 c4, .slice B4 M4 d4] 29)) #[.bool s5, .slice A5 L5 c5, .slice B5 M5 d5] 27
      have hsz : w0.heap.size = w.heap.size + 1 + 1 + 1 := by rw [hw0]; simp
      rw [← hw0] at b2
      have y2 : Ext ((w.alloc (.cells #[.bool s1, .slice A1 L1 c1, .slice B1 M1 d1, .bool s2, .slice A2 L2 c2, .slice B2 M2 d2] 29)).alloc (.cells #[.bool s3, .slice A3 L3 c3, .slice B3 M3 d3, .bool s4, .slice A4 L4 c4, .slice B4 M4 d4] 29)) w0 := by rw [hw0]; exact Ext.alloc _ _
      have y1 : Ext (w.alloc (.cells #[.bool s1, .slice A1 L1 c1, .slice B1 M1 d1, .bool s2, .slice A2 L2 c2, .slice B2 M2 d2] 29)) w0 := (Ext.alloc _ _).trans y2
      have y0 : Ext w w0 := (Ext.alloc _ _).trans y1
      have x0 : Ext w w0 := y0
      have e0_0 := y1.cell (b0.1 0 (.bool s1) rfl)
      have e0_1 := y1.cell (b0.1 1 (.slice A1 L1 c1) rfl)
      have e0_2 := y1.cell (b0.1 2 (.slice B1 M1 d1) rfl)
      have e0_3 := y1.cell (b0.1 3 (.bool s2) rfl)
      have e0_4 := y1.cell (b0.1 4 (.slice A2 L2 c2) rfl)
      have e0_5 := y1.cell (b0.1 5 (.slice B2 M2 d2) rfl)
      have e1_0 := y2.cell (b1.1 0 (.bool s3) rfl)
      have e1_1 := y2.cell (b1.1 1 (.slice A3 L3 c3) rfl)
      have e1_2 := y2.cell (b1.1 2 (.slice B3 M3 d3) rfl)
      have e1_3 := y2.cell (b1.1 3 (.bool s4) rfl)
      have e1_4 := y2.cell (b1.1 4 (.slice A4 L4 c4) rfl)
      have e1_5 := y2.cell (b1.1 5 (.slice B4 M4 d4) rfl)
      have e2_0 := b2.1 0 (.bool s5) rfl
      have e2_1 := b2.1 1 (.slice A5 L5 c5) rfl
      have e2_2 := b2.1 2 (.slice B5 M5 d5) rfl
      simp only [World.size_alloc] at e1_0 e1_1 e1_2 e1_3 e1_4 e1_5 e2_0 e2_1 e2_2
      clear hw0 b0 b1 b2 y0 y1 y2
      go_wp2_with fail
      refine (awake6 _).mono ?_
      rintro e w1 ⟨rfl, x1⟩
      replace e0_0 := x1.cell e0_0
      replace e0_1 := x1.cell e0_1
      replace e0_2 := x1.cell e0_2
      replace e0_3 := x1.cell e0_3
      replace e0_4 := x1.cell e0_4
      replace e0_5 := x1.cell e0_5
      replace e1_0 := x1.cell e1_0
      replace e1_1 := x1.cell e1_1
      replace e1_2 := x1.cell e1_2
      replace e1_3 := x1.cell e1_3
      replace e1_4 := x1.cell e1_4
      replace e1_5 := x1.cell e1_5
      replace e2_0 := x1.cell e2_0
      replace e2_1 := x1.cell e2_1
      replace e2_2 := x1.cell e2_2
      go_wp2_with fail
      refine (few6_yes (by omega) (by omega) (by omega) (by omega) (by omega) (by omega) (by omega) (by omega) HF.out).mono ?_
      rintro e w2 ⟨rfl, x2⟩
      replace e0_0 := x2.cell e0_0
      replace e0_1 := x2.cell e0_1
      replace e0_2 := x2.cell e0_2
      replace e0_3 := x2.cell e0_3
      replace e0_4 := x2.cell e0_4
      replace e0_5 := x2.cell e0_5
      replace e1_0 := x2.cell e1_0
      replace e1_1 := x2.cell e1_1
      replace e1_2 := x2.cell e1_2
      replace e1_3 := x2.cell e1_3
      replace e1_4 := x2.cell e1_4
      replace e1_5 := x2.cell e1_5
      replace e2_0 := x2.cell e2_0
      replace e2_1 := x2.cell e2_1
      replace e2_2 := x2.cell e2_2
      go_wp2_with fail
      refine (small_is (by omega) (by omega) HG5.out).mono ?_
      rintro e w3 ⟨rfl, x3⟩
      replace e0_0 := x3.cell e0_0
      replace e0_1 := x3.cell e0_1
      replace e0_2 := x3.cell e0_2
      replace e0_3 := x3.cell e0_3
      replace e0_4 := x3.cell e0_4
      replace e0_5 := x3.cell e0_5
      replace e1_0 := x3.cell e1_0
      replace e1_1 := x3.cell e1_1
      replace e1_2 := x3.cell e1_2
      replace e1_3 := x3.cell e1_3
      replace e1_4 := x3.cell e1_4
      replace e1_5 := x3.cell e1_5
      replace e2_0 := x3.cell e2_0
      replace e2_1 := x3.cell e2_1
      replace e2_2 := x3.cell e2_2
      clear hsz HF HG5
      go_wp2_with fail
      go_cut [7, 8] (fun s7 s8 wx => PutJ w3 wx 128 (minQ q1 q2) (maxQ q1 q2) s7 ∧ PutJ w3 wx 128 (minQ q3 q4) (maxQ q3 q4) s8)
      case first =>
        have HK : Hid (∀ w', Ext w3 w' → Ext w3 w' ∧ w'.cell? ⟨w.heap.size, 0, none⟩ = some (.bool s1) ∧ w'.cell? ⟨w.heap.size, 1, none⟩ = some (.slice A1 L1 c1) ∧ w'.cell? ⟨w.heap.size, 2, none⟩ = some (.slice B1 M1 d1) ∧ w'.cell? ⟨w.heap.size, 3, none⟩ = some (.bool s2) ∧ w'.cell? ⟨w.heap.size, 4, none⟩ = some (.slice A2 L2 c2) ∧ w'.cell? ⟨w.heap.size, 5, none⟩ = some (.slice B2 M2 d2) ∧ w'.cell? ⟨w.heap.size + 1, 0, none⟩ = some (.bool s3) ∧ w'.cell? ⟨w.heap.size + 1, 1, none⟩ = some (.slice A3 L3 c3) ∧ w'.cell? ⟨w.heap.size + 1, 2, none⟩ = some (.slice B3 M3 d3) ∧ w'.cell? ⟨w.heap.size + 1, 3, none⟩ = some (.bool s4) ∧ w'.cell? ⟨w.heap.size + 1, 4, none⟩ = some (.slice A4 L4 c4) ∧ w'.cell? ⟨w.heap.size + 1, 5, none⟩ = some (.slice B4 M4 d4) ∧ w'.cell? ⟨w.heap.size + 1 + 1, 0, none⟩ = some (.bool s5) ∧ w'.cell? ⟨w.heap.size + 1 + 1, 1, none⟩ = some (.slice A5 L5 c5) ∧ w'.cell? ⟨w.heap.size + 1 + 1, 2, none⟩ = some (.slice B5 M5 d5)) := fun w' hk => ⟨hk, hk.cell e0_0, hk.cell e0_1, hk.cell e0_2, hk.cell e0_3, hk.cell e0_4, hk.cell e0_5, hk.cell e1_0, hk.cell e1_1, hk.cell e1_2, hk.cell e1_3, hk.cell e1_4, hk.cell e1_5, hk.cell e2_0, hk.cell e2_1, hk.cell e2_2⟩
        first
        | go_region_held3 (fun w' => Ext w3 w' ∧ w'.cell? ⟨w.heap.size, 0, none⟩ = some (.bool s1) ∧ w'.cell? ⟨w.heap.size, 1, none⟩ = some (.slice A1 L1 c1) ∧ w'.cell? ⟨w.heap.size, 2, none⟩ = some (.slice B1 M1 d1) ∧ w'.cell? ⟨w.heap.size, 3, none⟩ = some (.bool s2) ∧ w'.cell? ⟨w.heap.size, 4, none⟩ = some (.slice A2 L2 c2) ∧ w'.cell? ⟨w.heap.size, 5, none⟩ = some (.slice B2 M2 d2) ∧ w'.cell? ⟨w.heap.size + 1, 0, none⟩ = some (.bool s3) ∧ w'.cell? ⟨w.heap.size + 1, 1, none⟩ = some (.slice A3 L3 c3) ∧ w'.cell? ⟨w.heap.size + 1, 2, none⟩ = some (.slice B3 M3 d3) ∧ w'.cell? ⟨w.heap.size + 1, 3, none⟩ = some (.bool s4) ∧ w'.cell? ⟨w.heap.size + 1, 4, none⟩ = some (.slice A4 L4 c4) ∧ w'.cell? ⟨w.heap.size + 1, 5, none⟩ = some (.slice B4 M4 d4) ∧ w'.cell? ⟨w.heap.size + 1 + 1, 0, none⟩ = some (.bool s5) ∧ w'.cell? ⟨w.heap.size + 1 + 1, 1, none⟩ = some (.slice A5 L5 c5) ∧ w'.cell? ⟨w.heap.size + 1 + 1, 2, none⟩ = some (.slice B5 M5 d5))
            ((with_reducible refine HK.out _ ?_; (repeat' (first | with_reducible exact Ext.refl _ | with_reducible assumption | with_reducible apply Ext.alloc_r | with_reducible apply Ext.drew_r | with_reducible apply Ext.drewN_r | with_reducible apply Ext.set_r | with_reducible exact Nat.le_refl _ | omega | with_reducible refine Ext.trans ?_ ‹Ext _ _›))))
            (first
              | (go_at_call_of 10 (#[Value.agg #[Value.bool s3, Value.slice A3 L3 c3, Value.slice B3 M3 d3, Value.bool s4, Value.slice A4 L4 c4, Value.slice B4 M4 d4]]); have hgd := oxa; clear hgd; refine (HO3.out _ (by with_reducible repeat' first | exact Ext.refl _ | assumption | apply Ext.alloc_r | apply Ext.drew_r | apply Ext.drewN_r | refine Ext.trans ?_ ‹Ext _ _›)).mono ?_; rintro e w5 ⟨goya, Aoya, coya, Loya, hoya, Boya, doya, Moya, goyb, Aoyb, coyb, Loyb, hoyb, Boyb, doyb, Moyb, rfl, oya, oyb, x5⟩; (have zs5 := x5.size); (try simp only [World.size_alloc] at zs5); (try ((with_reducible have h5_0 := box_ext (vs := #[.int .i64 0, .slice none 0 0, .int .i64 0, .slice none 0 0, .int .i64 0, .slice none 0 0, .int .i64 0, .slice none 0 0]) x5); have h5_0c0 := (h5_0.1 0 (.int .i64 0) rfl).1; have h5_0f0 := (h5_0.1 0 (.int .i64 0) rfl).2; have h5_0c1 := (h5_0.1 1 (.slice none 0 0) rfl).1; have h5_0f1 := (h5_0.1 1 (.slice none 0 0) rfl).2; have h5_0c2 := (h5_0.1 2 (.int .i64 0) rfl).1; have h5_0f2 := (h5_0.1 2 (.int .i64 0) rfl).2; have h5_0c3 := (h5_0.1 3 (.slice none 0 0) rfl).1; have h5_0f3 := (h5_0.1 3 (.slice none 0 0) rfl).2; have h5_0c4 := (h5_0.1 4 (.int .i64 0) rfl).1; have h5_0f4 := (h5_0.1 4 (.int .i64 0) rfl).2; have h5_0c5 := (h5_0.1 5 (.slice none 0 0) rfl).1; have h5_0f5 := (h5_0.1 5 (.slice none 0 0) rfl).2; have h5_0c6 := (h5_0.1 6 (.int .i64 0) rfl).1; have h5_0f6 := (h5_0.1 6 (.int .i64 0) rfl).2; have h5_0c7 := (h5_0.1 7 (.slice none 0 0) rfl).1; have h5_0f7 := (h5_0.1 7 (.slice none 0 0) rfl).2; have h5_0b := h5_0.2.1; have h5_0z := h5_0.2.2; (try simp only [World.size_alloc] at h5_0b h5_0z h5_0c0 h5_0f0 h5_0c1 h5_0f1 h5_0c2 h5_0f2 h5_0c3 h5_0f3 h5_0c4 h5_0f4 h5_0c5 h5_0f5 h5_0c6 h5_0f6 h5_0c7 h5_0f7); have h5_0m := Nat.ne_of_lt h5_0z; have h5_0n := Nat.ne_of_gt h5_0z; clear h5_0)); (try ((with_reducible have h5_1 := box_ext (vs := #[.int .i64 0, .slice none 0 0, .int .i64 0, .slice none 0 0, .int .i64 0, .slice none 0 0, .int .i64 0, .slice none 0 0]) ((Ext.alloc _ _).trans x5)); have h5_1c0 := (h5_1.1 0 (.int .i64 0) rfl).1; have h5_1f0 := (h5_1.1 0 (.int .i64 0) rfl).2; have h5_1c1 := (h5_1.1 1 (.slice none 0 0) rfl).1; have h5_1f1 := (h5_1.1 1 (.slice none 0 0) rfl).2; have h5_1c2 := (h5_1.1 2 (.int .i64 0) rfl).1; have h5_1f2 := (h5_1.1 2 (.int .i64 0) rfl).2; have h5_1c3 := (h5_1.1 3 (.slice none 0 0) rfl).1; have h5_1f3 := (h5_1.1 3 (.slice none 0 0) rfl).2; have h5_1c4 := (h5_1.1 4 (.int .i64 0) rfl).1; have h5_1f4 := (h5_1.1 4 (.int .i64 0) rfl).2; have h5_1c5 := (h5_1.1 5 (.slice none 0 0) rfl).1; have h5_1f5 := (h5_1.1 5 (.slice none 0 0) rfl).2; have h5_1c6 := (h5_1.1 6 (.int .i64 0) rfl).1; have h5_1f6 := (h5_1.1 6 (.int .i64 0) rfl).2; have h5_1c7 := (h5_1.1 7 (.slice none 0 0) rfl).1; have h5_1f7 := (h5_1.1 7 (.slice none 0 0) rfl).2; have h5_1b := h5_1.2.1; have h5_1z := h5_1.2.2; (try simp only [World.size_alloc] at h5_1b h5_1z h5_1c0 h5_1f0 h5_1c1 h5_1f1 h5_1c2 h5_1f2 h5_1c3 h5_1f3 h5_1c4 h5_1f4 h5_1c5 h5_1f5 h5_1c6 h5_1f6 h5_1c7 h5_1f7); have h5_1m := Nat.ne_of_lt h5_1z; have h5_1n := Nat.ne_of_gt h5_1z; clear h5_1)); (try (have hh : Ext w4 w5 := ?g500; (case g500 => ((with_reducible repeat' first | exact Ext.refl _ | assumption | apply Ext.alloc_r | apply Ext.drew_r | apply Ext.drewN_r | refine Ext.trans ?_ ‹Ext _ _›); done)); replace h4_0f0 := hh.frozen h4_0c0 h4_0f0; replace h4_0c0 := hh.cell h4_0c0; replace h4_0f1 := hh.frozen h4_0c1 h4_0f1; replace h4_0c1 := hh.cell h4_0c1; replace h4_0f2 := hh.frozen h4_0c2 h4_0f2; replace h4_0c2 := hh.cell h4_0c2; replace h4_0f3 := hh.frozen h4_0c3 h4_0f3; replace h4_0c3 := hh.cell h4_0c3; replace h4_0f4 := hh.frozen h4_0c4 h4_0f4; replace h4_0c4 := hh.cell h4_0c4; replace h4_0f5 := hh.frozen h4_0c5 h4_0f5; replace h4_0c5 := hh.cell h4_0c5; replace h4_0f6 := hh.frozen h4_0c6 h4_0f6; replace h4_0c6 := hh.cell h4_0c6; replace h4_0f7 := hh.frozen h4_0c7 h4_0f7; replace h4_0c7 := hh.cell h4_0c7; replace h4_0b := h4_0b.ext hh; have h4_0z2 := Nat.lt_of_lt_of_le h4_0z hh.size; have h4_0m2 := Nat.ne_of_lt h4_0z2; have h4_0n2 := Nat.ne_of_gt h4_0z2; clear hh)); (try (have hh : Ext w4 w5 := ?g501; (case g501 => ((with_reducible repeat' first | exact Ext.refl _ | assumption | apply Ext.alloc_r | apply Ext.drew_r | apply Ext.drewN_r | refine Ext.trans ?_ ‹Ext _ _›); done)); replace h4_1f0 := hh.frozen h4_1c0 h4_1f0; replace h4_1c0 := hh.cell h4_1c0; replace h4_1f1 := hh.frozen h4_1c1 h4_1f1; replace h4_1c1 := hh.cell h4_1c1; replace h4_1f2 := hh.frozen h4_1c2 h4_1f2; replace h4_1c2 := hh.cell h4_1c2; replace h4_1f3 := hh.frozen h4_1c3 h4_1f3; replace h4_1c3 := hh.cell h4_1c3; replace h4_1f4 := hh.frozen h4_1c4 h4_1f4; replace h4_1c4 := hh.cell h4_1c4; replace h4_1f5 := hh.frozen h4_1c5 h4_1f5; replace h4_1c5 := hh.cell h4_1c5; replace h4_1f6 := hh.frozen h4_1c6 h4_1f6; replace h4_1c6 := hh.cell h4_1c6; replace h4_1f7 := hh.frozen h4_1c7 h4_1f7; replace h4_1c7 := hh.cell h4_1c7; replace h4_1b := h4_1b.ext hh; have h4_1z2 := Nat.lt_of_lt_of_le h4_1z hh.size; have h4_1m2 := Nat.ne_of_lt h4_1z2; have h4_1n2 := Nat.ne_of_gt h4_1z2; clear hh)))
              | (go_at_call_of 10 (#[Value.agg #[Value.bool s1, Value.slice A1 L1 c1, Value.slice B1 M1 d1, Value.bool s2, Value.slice A2 L2 c2, Value.slice B2 M2 d2]]); refine (HO1.out _ (by with_reducible repeat' first | exact Ext.refl _ | assumption | apply Ext.alloc_r | apply Ext.drew_r | apply Ext.drewN_r | refine Ext.trans ?_ ‹Ext _ _›)).mono ?_; rintro e w4 ⟨goxa, Aoxa, coxa, Loxa, hoxa, Boxa, doxa, Moxa, goxb, Aoxb, coxb, Loxb, hoxb, Boxb, doxb, Moxb, rfl, oxa, oxb, x4⟩; (have zs4 := x4.size); (try simp only [World.size_alloc, World.size_drew] at zs4); (try ((with_reducible have h4_0 := box_ext (vs := #[.int .i64 0, .slice none 0 0, .int .i64 0, .slice none 0 0, .int .i64 0, .slice none 0 0, .int .i64 0, .slice none 0 0]) ((Ext.drew _).trans x4)); have h4_0c0 := (h4_0.1 0 (.int .i64 0) rfl).1; have h4_0f0 := (h4_0.1 0 (.int .i64 0) rfl).2; have h4_0c1 := (h4_0.1 1 (.slice none 0 0) rfl).1; have h4_0f1 := (h4_0.1 1 (.slice none 0 0) rfl).2; have h4_0c2 := (h4_0.1 2 (.int .i64 0) rfl).1; have h4_0f2 := (h4_0.1 2 (.int .i64 0) rfl).2; have h4_0c3 := (h4_0.1 3 (.slice none 0 0) rfl).1; have h4_0f3 := (h4_0.1 3 (.slice none 0 0) rfl).2; have h4_0c4 := (h4_0.1 4 (.int .i64 0) rfl).1; have h4_0f4 := (h4_0.1 4 (.int .i64 0) rfl).2; have h4_0c5 := (h4_0.1 5 (.slice none 0 0) rfl).1; have h4_0f5 := (h4_0.1 5 (.slice none 0 0) rfl).2; have h4_0c6 := (h4_0.1 6 (.int .i64 0) rfl).1; have h4_0f6 := (h4_0.1 6 (.int .i64 0) rfl).2; have h4_0c7 := (h4_0.1 7 (.slice none 0 0) rfl).1; have h4_0f7 := (h4_0.1 7 (.slice none 0 0) rfl).2; have h4_0b := h4_0.2.1; have h4_0z := h4_0.2.2; (try simp only [World.size_alloc] at h4_0b h4_0z h4_0c0 h4_0f0 h4_0c1 h4_0f1 h4_0c2 h4_0f2 h4_0c3 h4_0f3 h4_0c4 h4_0f4 h4_0c5 h4_0f5 h4_0c6 h4_0f6 h4_0c7 h4_0f7); have h4_0m := Nat.ne_of_lt h4_0z; have h4_0n := Nat.ne_of_gt h4_0z; clear h4_0)); (try ((with_reducible have h4_1 := box_ext (vs := #[.int .i64 0, .slice none 0 0, .int .i64 0, .slice none 0 0, .int .i64 0, .slice none 0 0, .int .i64 0, .slice none 0 0]) (((Ext.alloc _ _).trans (Ext.drew _)).trans x4)); have h4_1c0 := (h4_1.1 0 (.int .i64 0) rfl).1; have h4_1f0 := (h4_1.1 0 (.int .i64 0) rfl).2; have h4_1c1 := (h4_1.1 1 (.slice none 0 0) rfl).1; have h4_1f1 := (h4_1.1 1 (.slice none 0 0) rfl).2; have h4_1c2 := (h4_1.1 2 (.int .i64 0) rfl).1; have h4_1f2 := (h4_1.1 2 (.int .i64 0) rfl).2; have h4_1c3 := (h4_1.1 3 (.slice none 0 0) rfl).1; have h4_1f3 := (h4_1.1 3 (.slice none 0 0) rfl).2; have h4_1c4 := (h4_1.1 4 (.int .i64 0) rfl).1; have h4_1f4 := (h4_1.1 4 (.int .i64 0) rfl).2; have h4_1c5 := (h4_1.1 5 (.slice none 0 0) rfl).1; have h4_1f5 := (h4_1.1 5 (.slice none 0 0) rfl).2; have h4_1c6 := (h4_1.1 6 (.int .i64 0) rfl).1; have h4_1f6 := (h4_1.1 6 (.int .i64 0) rfl).2; have h4_1c7 := (h4_1.1 7 (.slice none 0 0) rfl).1; have h4_1f7 := (h4_1.1 7 (.slice none 0 0) rfl).2; have h4_1b := h4_1.2.1; have h4_1z := h4_1.2.2; (try simp only [World.size_alloc] at h4_1b h4_1z h4_1c0 h4_1f0 h4_1c1 h4_1f1 h4_1c2 h4_1f2 h4_1c3 h4_1f3 h4_1c4 h4_1f4 h4_1c5 h4_1f5 h4_1c6 h4_1f6 h4_1c7 h4_1f7); have h4_1m := Nat.ne_of_lt h4_1z; have h4_1n := Nat.ne_of_gt h4_1z; clear h4_1))))
        | fail
        all_goals (clear HK; go_wp2_with fail; go_meet)
        all_goals
          refine ⟨?_, ?_⟩
          · refine PutJ.mk (g := goxa) (A := Aoxa) (c := coxa) (L := Loxa) (h := hoxa) (B := Boxa) (d := doxa) (M := Moxa) (g' := goxb) (A' := Aoxb) (c' := coxb) (L' := Loxb) (h' := hoxb) (B' := Boxb) (d' := doxb) (M' := Moxb) ?_ (oxa.kept ?_) (oxb.kept ?_) ?_
            · refine Bx.mk8 ?_ ?_ ?_ ?_ ?_ ?_ ?_ ?_
              · go_simp
              · go_simp
              · go_simp
              · go_simp
              · go_simp
              · go_simp
              · go_simp
              · go_simp
            · (repeat' (first | with_reducible exact Kept.refl _ | with_reducible apply Kept.alloc_r | with_reducible apply Kept.drew_r | (with_reducible apply Kept.setJ; (case hb => ((repeat' (first | with_reducible assumption | with_reducible apply IsBox.set_ | (with_reducible apply IsBox.new; (first | (with_reducible rfl) | simp); done) | with_reducible apply IsBox.alloc_ | with_reducible apply IsBox.drew_ | with_reducible refine IsBox.ext ?_ ‹Ext _ _›)); done))) | (with_reducible apply Kept.setQ; (case hb => ((repeat' (first | with_reducible assumption | with_reducible apply IsBox.set_ | (with_reducible apply IsBox.new; (first | (with_reducible rfl) | simp); done) | with_reducible apply IsBox.alloc_ | with_reducible apply IsBox.drew_ | with_reducible refine IsBox.ext ?_ ‹Ext _ _›)); done))) | (with_reducible apply Kept.setR; (case hb => ((repeat' (first | with_reducible assumption | with_reducible apply IsBox.set_ | (with_reducible apply IsBox.new; (first | (with_reducible rfl) | simp); done) | with_reducible apply IsBox.alloc_ | with_reducible apply IsBox.drew_ | with_reducible refine IsBox.ext ?_ ‹Ext _ _›)); done))) | (with_reducible apply Kept.setZ; (case hb => ((repeat' (first | with_reducible assumption | with_reducible apply IsBox.set_ | (with_reducible apply IsBox.new; (first | (with_reducible rfl) | simp); done) | with_reducible apply IsBox.alloc_ | with_reducible apply IsBox.drew_ | with_reducible refine IsBox.ext ?_ ‹Ext _ _›)); done))) | (with_reducible apply Kept.setI; (case hb => ((repeat' (first | with_reducible assumption | with_reducible apply IsBox.set_ | (with_reducible apply IsBox.new; (first | (with_reducible rfl) | simp); done) | with_reducible apply IsBox.alloc_ | with_reducible apply IsBox.drew_ | with_reducible refine IsBox.ext ?_ ‹Ext _ _›)); done))) | with_reducible refine Kept.trans ?_ (Ext.kept ‹Ext _ _›)))
            · (repeat' (first | with_reducible exact Kept.refl _ | with_reducible apply Kept.alloc_r | with_reducible apply Kept.drew_r | (with_reducible apply Kept.setJ; (case hb => ((repeat' (first | with_reducible assumption | with_reducible apply IsBox.set_ | (with_reducible apply IsBox.new; (first | (with_reducible rfl) | simp); done) | with_reducible apply IsBox.alloc_ | with_reducible apply IsBox.drew_ | with_reducible refine IsBox.ext ?_ ‹Ext _ _›)); done))) | (with_reducible apply Kept.setQ; (case hb => ((repeat' (first | with_reducible assumption | with_reducible apply IsBox.set_ | (with_reducible apply IsBox.new; (first | (with_reducible rfl) | simp); done) | with_reducible apply IsBox.alloc_ | with_reducible apply IsBox.drew_ | with_reducible refine IsBox.ext ?_ ‹Ext _ _›)); done))) | (with_reducible apply Kept.setR; (case hb => ((repeat' (first | with_reducible assumption | with_reducible apply IsBox.set_ | (with_reducible apply IsBox.new; (first | (with_reducible rfl) | simp); done) | with_reducible apply IsBox.alloc_ | with_reducible apply IsBox.drew_ | with_reducible refine IsBox.ext ?_ ‹Ext _ _›)); done))) | (with_reducible apply Kept.setZ; (case hb => ((repeat' (first | with_reducible assumption | with_reducible apply IsBox.set_ | (with_reducible apply IsBox.new; (first | (with_reducible rfl) | simp); done) | with_reducible apply IsBox.alloc_ | with_reducible apply IsBox.drew_ | with_reducible refine IsBox.ext ?_ ‹Ext _ _›)); done))) | (with_reducible apply Kept.setI; (case hb => ((repeat' (first | with_reducible assumption | with_reducible apply IsBox.set_ | (with_reducible apply IsBox.new; (first | (with_reducible rfl) | simp); done) | with_reducible apply IsBox.alloc_ | with_reducible apply IsBox.drew_ | with_reducible refine IsBox.ext ?_ ‹Ext _ _›)); done))) | with_reducible refine Kept.trans ?_ (Ext.kept ‹Ext _ _›)))
            · (repeat' (first | with_reducible exact Ext.refl _ | with_reducible assumption | with_reducible apply Ext.alloc_r | with_reducible apply Ext.drew_r | with_reducible apply Ext.drewN_r | with_reducible apply Ext.set_r | with_reducible exact Nat.le_refl _ | omega | with_reducible refine Ext.trans ?_ ‹Ext _ _›))
          · refine PutJ.mk (g := goya) (A := Aoya) (c := coya) (L := Loya) (h := hoya) (B := Boya) (d := doya) (M := Moya) (g' := goyb) (A' := Aoyb) (c' := coyb) (L' := Loyb) (h' := hoyb) (B' := Boyb) (d' := doyb) (M' := Moyb) ?_ (oya.kept ?_) (oyb.kept ?_) ?_
            · refine Bx.mk8 ?_ ?_ ?_ ?_ ?_ ?_ ?_ ?_
              · go_simp
              · go_simp
              · go_simp
              · go_simp
              · go_simp
              · go_simp
              · go_simp
              · go_simp
            · (repeat' (first | with_reducible exact Kept.refl _ | with_reducible apply Kept.alloc_r | with_reducible apply Kept.drew_r | (with_reducible apply Kept.setJ; (case hb => ((repeat' (first | with_reducible assumption | with_reducible apply IsBox.set_ | (with_reducible apply IsBox.new; (first | (with_reducible rfl) | simp); done) | with_reducible apply IsBox.alloc_ | with_reducible apply IsBox.drew_ | with_reducible refine IsBox.ext ?_ ‹Ext _ _›)); done))) | (with_reducible apply Kept.setQ; (case hb => ((repeat' (first | with_reducible assumption | with_reducible apply IsBox.set_ | (with_reducible apply IsBox.new; (first | (with_reducible rfl) | simp); done) | with_reducible apply IsBox.alloc_ | with_reducible apply IsBox.drew_ | with_reducible refine IsBox.ext ?_ ‹Ext _ _›)); done))) | (with_reducible apply Kept.setR; (case hb => ((repeat' (first | with_reducible assumption | with_reducible apply IsBox.set_ | (with_reducible apply IsBox.new; (first | (with_reducible rfl) | simp); done) | with_reducible apply IsBox.alloc_ | with_reducible apply IsBox.drew_ | with_reducible refine IsBox.ext ?_ ‹Ext _ _›)); done))) | (with_reducible apply Kept.setZ; (case hb => ((repeat' (first | with_reducible assumption | with_reducible apply IsBox.set_ | (with_reducible apply IsBox.new; (first | (with_reducible rfl) | simp); done) | with_reducible apply IsBox.alloc_ | with_reducible apply IsBox.drew_ | with_reducible refine IsBox.ext ?_ ‹Ext _ _›)); done))) | (with_reducible apply Kept.setI; (case hb => ((repeat' (first | with_reducible assumption | with_reducible apply IsBox.set_ | (with_reducible apply IsBox.new; (first | (with_reducible rfl) | simp); done) | with_reducible apply IsBox.alloc_ | with_reducible apply IsBox.drew_ | with_reducible refine IsBox.ext ?_ ‹Ext _ _›)); done))) | with_reducible refine Kept.trans ?_ (Ext.kept ‹Ext _ _›)))
            · (repeat' (first | with_reducible exact Kept.refl _ | with_reducible apply Kept.alloc_r | with_reducible apply Kept.drew_r | (with_reducible apply Kept.setJ; (case hb => ((repeat' (first | with_reducible assumption | with_reducible apply IsBox.set_ | (with_reducible apply IsBox.new; (first | (with_reducible rfl) | simp); done) | with_reducible apply IsBox.alloc_ | with_reducible apply IsBox.drew_ | with_reducible refine IsBox.ext ?_ ‹Ext _ _›)); done))) | (with_reducible apply Kept.setQ; (case hb => ((repeat' (first | with_reducible assumption | with_reducible apply IsBox.set_ | (with_reducible apply IsBox.new; (first | (with_reducible rfl) | simp); done) | with_reducible apply IsBox.alloc_ | with_reducible apply IsBox.drew_ | with_reducible refine IsBox.ext ?_ ‹Ext _ _›)); done))) | (with_reducible apply Kept.setR; (case hb => ((repeat' (first | with_reducible assumption | with_reducible apply IsBox.set_ | (with_reducible apply IsBox.new; (first | (with_reducible rfl) | simp); done) | with_reducible apply IsBox.alloc_ | with_reducible apply IsBox.drew_ | with_reducible refine IsBox.ext ?_ ‹Ext _ _›)); done))) | (with_reducible apply Kept.setZ; (case hb => ((repeat' (first | with_reducible assumption | with_reducible apply IsBox.set_ | (with_reducible apply IsBox.new; (first | (with_reducible rfl) | simp); done) | with_reducible apply IsBox.alloc_ | with_reducible apply IsBox.drew_ | with_reducible refine IsBox.ext ?_ ‹Ext _ _›)); done))) | (with_reducible apply Kept.setI; (case hb => ((repeat' (first | with_reducible assumption | with_reducible apply IsBox.set_ | (with_reducible apply IsBox.new; (first | (with_reducible rfl) | simp); done) | with_reducible apply IsBox.alloc_ | with_reducible apply IsBox.drew_ | with_reducible refine IsBox.ext ?_ ‹Ext _ _›)); done))) | with_reducible refine Kept.trans ?_ (Ext.kept ‹Ext _ _›)))
            · (repeat' (first | with_reducible exact Ext.refl _ | with_reducible assumption | with_reducible apply Ext.alloc_r | with_reducible apply Ext.drew_r | with_reducible apply Ext.drewN_r | with_reducible apply Ext.set_r | with_reducible exact Nat.le_refl _ | omega | with_reducible refine Ext.trans ?_ ‹Ext _ _›))
      case rest =>
        have hcw := hcut
        obtain ⟨hc_0, hc_1⟩ := hcw
        obtain ⟨gxa, Axa, cxa, Lxa, hxa, Bxa, dxa, Mxa, gxb, Axb, cxb, Lxb, hxb, Bxb, dxb, Mxb, ⟨bkx, rfl, ccx⟩, xa, xb, xxx⟩ := hc_0
        obtain ⟨gya, Aya, cya, Lya, hya, Bya, dya, Mya, gyb, Ayb, cyb, Lyb, hyb, Byb, dyb, Myb, ⟨bky, rfl, ccy⟩, ya, yb, xxy⟩ := hc_1
        have x6 := xxx
        clear xxx
        clear xxy
        obtain ⟨wc6, rfl⟩ : ∃ z : World, z = wc := ⟨_, rfl⟩
        replace e0_0 := x6.cell e0_0
        replace e0_1 := x6.cell e0_1
        replace e0_2 := x6.cell e0_2
        replace e0_3 := x6.cell e0_3
        replace e0_4 := x6.cell e0_4
        replace e0_5 := x6.cell e0_5
        replace e1_0 := x6.cell e1_0
        replace e1_1 := x6.cell e1_1
        replace e1_2 := x6.cell e1_2
        replace e1_3 := x6.cell e1_3
        replace e1_4 := x6.cell e1_4
        replace e1_5 := x6.cell e1_5
        replace e2_0 := x6.cell e2_0
        replace e2_1 := x6.cell e2_1
        replace e2_2 := x6.cell e2_2
        have x_0 := ccx 0 (.int .i64 gxa) rfl
        have x_1 := ccx 1 (.slice Axa Lxa cxa) rfl
        have x_2 := ccx 2 (.int .i64 hxa) rfl
        have x_3 := ccx 3 (.slice Bxa Mxa dxa) rfl
        have x_4 := ccx 4 (.int .i64 gxb) rfl
        have x_5 := ccx 5 (.slice Axb Lxb cxb) rfl
        have x_6 := ccx 6 (.int .i64 hxb) rfl
        have x_7 := ccx 7 (.slice Bxb Mxb dxb) rfl
        clear ccx
        have y_0 := ccy 0 (.int .i64 gya) rfl
        have y_1 := ccy 1 (.slice Aya Lya cya) rfl
        have y_2 := ccy 2 (.int .i64 hya) rfl
        have y_3 := ccy 3 (.slice Bya Mya dya) rfl
        have y_4 := ccy 4 (.int .i64 gyb) rfl
        have y_5 := ccy 5 (.slice Ayb Lyb cyb) rfl
        have y_6 := ccy 6 (.int .i64 hyb) rfl
        have y_7 := ccy 7 (.slice Byb Myb dyb) rfl
        clear ccy
        have HM : Hid (mlo (minQ q1 q2) (maxQ q1 q2) (minQ q3 q4) (maxQ q3 q4) = mlo q1 q2 q3 q4 ∧ mhi (minQ q1 q2) (maxQ q1 q2) (minQ q3 q4) (maxQ q3 q4) = mhi q1 q2 q3 q4) := ⟨mlo_norm _ _ _ _, mhi_norm _ _ _ _⟩
        have HC : Hid (mlo (minQ q1 q2) (maxQ q1 q2) q5 q5 = minQ (q5 * q1) (q5 * q2) ∧ mhi (minQ q1 q2) (maxQ q1 q2) q5 q5 = maxQ (q5 * q1) (q5 * q2)) := ⟨scale_lo _ _ _, scale_hi _ _ _⟩
        go_wp2_with fail
        have HK : Hid (∀ w', Ext wc6 w' → Ext wc6 w' ∧ w'.cell? ⟨w.heap.size, 0, none⟩ = some (.bool s1) ∧ w'.cell? ⟨w.heap.size, 1, none⟩ = some (.slice A1 L1 c1) ∧ w'.cell? ⟨w.heap.size, 2, none⟩ = some (.slice B1 M1 d1) ∧ w'.cell? ⟨w.heap.size, 3, none⟩ = some (.bool s2) ∧ w'.cell? ⟨w.heap.size, 4, none⟩ = some (.slice A2 L2 c2) ∧ w'.cell? ⟨w.heap.size, 5, none⟩ = some (.slice B2 M2 d2) ∧ w'.cell? ⟨w.heap.size + 1, 0, none⟩ = some (.bool s3) ∧ w'.cell? ⟨w.heap.size + 1, 1, none⟩ = some (.slice A3 L3 c3) ∧ w'.cell? ⟨w.heap.size + 1, 2, none⟩ = some (.slice B3 M3 d3) ∧ w'.cell? ⟨w.heap.size + 1, 3, none⟩ = some (.bool s4) ∧ w'.cell? ⟨w.heap.size + 1, 4, none⟩ = some (.slice A4 L4 c4) ∧ w'.cell? ⟨w.heap.size + 1, 5, none⟩ = some (.slice B4 M4 d4) ∧ w'.cell? ⟨w.heap.size + 1 + 1, 0, none⟩ = some (.bool s5) ∧ w'.cell? ⟨w.heap.size + 1 + 1, 1, none⟩ = some (.slice A5 L5 c5) ∧ w'.cell? ⟨w.heap.size + 1 + 1, 2, none⟩ = some (.slice B5 M5 d5) ∧ w'.cell? ⟨bkx, 0, none⟩ = some (.int .i64 gxa) ∧ w'.cell? ⟨bkx, 1, none⟩ = some (.slice Axa Lxa cxa) ∧ w'.cell? ⟨bkx, 2, none⟩ = some (.int .i64 hxa) ∧ w'.cell? ⟨bkx, 3, none⟩ = some (.slice Bxa Mxa dxa) ∧ w'.cell? ⟨bkx, 4, none⟩ = some (.int .i64 gxb) ∧ w'.cell? ⟨bkx, 5, none⟩ = some (.slice Axb Lxb cxb) ∧ w'.cell? ⟨bkx, 6, none⟩ = some (.int .i64 hxb) ∧ w'.cell? ⟨bkx, 7, none⟩ = some (.slice Bxb Mxb dxb) ∧ w'.cell? ⟨bky, 0, none⟩ = some (.int .i64 gya) ∧ w'.cell? ⟨bky, 1, none⟩ = some (.slice Aya Lya cya) ∧ w'.cell? ⟨bky, 2, none⟩ = some (.int .i64 hya) ∧ w'.cell? ⟨bky, 3, none⟩ = some (.slice Bya Mya dya) ∧ w'.cell? ⟨bky, 4, none⟩ = some (.int .i64 gyb) ∧ w'.cell? ⟨bky, 5, none⟩ = some (.slice Ayb Lyb cyb) ∧ w'.cell? ⟨bky, 6, none⟩ = some (.int .i64 hyb) ∧ w'.cell? ⟨bky, 7, none⟩ = some (.slice Byb Myb dyb)) := fun w' hk => ⟨hk, hk.cell e0_0, hk.cell e0_1, hk.cell e0_2, hk.cell e0_3, hk.cell e0_4, hk.cell e0_5, hk.cell e1_0, hk.cell e1_1, hk.cell e1_2, hk.cell e1_3, hk.cell e1_4, hk.cell e1_5, hk.cell e2_0, hk.cell e2_1, hk.cell e2_2, hk.cell x_0, hk.cell x_1, hk.cell x_2, hk.cell x_3, hk.cell x_4, hk.cell x_5, hk.cell x_6, hk.cell x_7, hk.cell y_0, hk.cell y_1, hk.cell y_2, hk.cell y_3, hk.cell y_4, hk.cell y_5, hk.cell y_6, hk.cell y_7⟩
        try dsimp only [List.append]
        first
        | go_region_held3 (fun w' => Ext wc6 w' ∧ w'.cell? ⟨w.heap.size, 0, none⟩ = some (.bool s1) ∧ w'.cell? ⟨w.heap.size, 1, none⟩ = some (.slice A1 L1 c1) ∧ w'.cell? ⟨w.heap.size, 2, none⟩ = some (.slice B1 M1 d1) ∧ w'.cell? ⟨w.heap.size, 3, none⟩ = some (.bool s2) ∧ w'.cell? ⟨w.heap.size, 4, none⟩ = some (.slice A2 L2 c2) ∧ w'.cell? ⟨w.heap.size, 5, none⟩ = some (.slice B2 M2 d2) ∧ w'.cell? ⟨w.heap.size + 1, 0, none⟩ = some (.bool s3) ∧ w'.cell? ⟨w.heap.size + 1, 1, none⟩ = some (.slice A3 L3 c3) ∧ w'.cell? ⟨w.heap.size + 1, 2, none⟩ = some (.slice B3 M3 d3) ∧ w'.cell? ⟨w.heap.size + 1, 3, none⟩ = some (.bool s4) ∧ w'.cell? ⟨w.heap.size + 1, 4, none⟩ = some (.slice A4 L4 c4) ∧ w'.cell? ⟨w.heap.size + 1, 5, none⟩ = some (.slice B4 M4 d4) ∧ w'.cell? ⟨w.heap.size + 1 + 1, 0, none⟩ = some (.bool s5) ∧ w'.cell? ⟨w.heap.size + 1 + 1, 1, none⟩ = some (.slice A5 L5 c5) ∧ w'.cell? ⟨w.heap.size + 1 + 1, 2, none⟩ = some (.slice B5 M5 d5) ∧ w'.cell? ⟨bkx, 0, none⟩ = some (.int .i64 gxa) ∧ w'.cell? ⟨bkx, 1, none⟩ = some (.slice Axa Lxa cxa) ∧ w'.cell? ⟨bkx, 2, none⟩ = some (.int .i64 hxa) ∧ w'.cell? ⟨bkx, 3, none⟩ = some (.slice Bxa Mxa dxa) ∧ w'.cell? ⟨bkx, 4, none⟩ = some (.int .i64 gxb) ∧ w'.cell? ⟨bkx, 5, none⟩ = some (.slice Axb Lxb cxb) ∧ w'.cell? ⟨bkx, 6, none⟩ = some (.int .i64 hxb) ∧ w'.cell? ⟨bkx, 7, none⟩ = some (.slice Bxb Mxb dxb) ∧ w'.cell? ⟨bky, 0, none⟩ = some (.int .i64 gya) ∧ w'.cell? ⟨bky, 1, none⟩ = some (.slice Aya Lya cya) ∧ w'.cell? ⟨bky, 2, none⟩ = some (.int .i64 hya) ∧ w'.cell? ⟨bky, 3, none⟩ = some (.slice Bya Mya dya) ∧ w'.cell? ⟨bky, 4, none⟩ = some (.int .i64 gyb) ∧ w'.cell? ⟨bky, 5, none⟩ = some (.slice Ayb Lyb cyb) ∧ w'.cell? ⟨bky, 6, none⟩ = some (.int .i64 hyb) ∧ w'.cell? ⟨bky, 7, none⟩ = some (.slice Byb Myb dyb))
            ((with_reducible refine HK.out _ ?_; (with_reducible repeat' first | exact Ext.refl _ | assumption | apply Ext.alloc_r | apply Ext.drew_r | apply Ext.drewN_r | refine Ext.trans ?_ ‹Ext _ _›)))
            (first
              | (go_at_call_of 14 (#[Value.agg #[Value.bool scaa, Value.slice Acaa Lcaa ccaa, Value.slice Bcaa Mcaa dcaa, Value.bool scab, Value.slice Acab Lcab ccab, Value.slice Bcab Mcab dcab], Value.agg #[Value.int IntKind.i64 gjba, Value.slice Ajba Ljba cjba, Value.int IntKind.i64 hjba, Value.slice Bjba Mjba djba, Value.int IntKind.i64 gjbb, Value.slice Ajbb Ljbb cjbb, Value.int IntKind.i64 hjbb, Value.slice Bjbb Mjbb djbb]]); have hgd := jba; clear hgd; refine (lis6 (caa.ext (by with_reducible repeat' first | exact Ext.refl _ | assumption | apply Ext.alloc_r | apply Ext.drew_r | apply Ext.drewN_r | refine Ext.trans ?_ ‹Ext _ _›)) (cab.ext (by with_reducible repeat' first | exact Ext.refl _ | assumption | apply Ext.alloc_r | apply Ext.drew_r | apply Ext.drewN_r | refine Ext.trans ?_ ‹Ext _ _›)) (jba.ext (by with_reducible repeat' first | exact Ext.refl _ | assumption | apply Ext.alloc_r | apply Ext.drew_r | apply Ext.drewN_r | refine Ext.trans ?_ ‹Ext _ _›)) (jbb.ext (by with_reducible repeat' first | exact Ext.refl _ | assumption | apply Ext.alloc_r | apply Ext.drew_r | apply Ext.drewN_r | refine Ext.trans ?_ ‹Ext _ _›)) (HC.out.1) (HC.out.2) (by omega)).mono ?_; rintro e w24 ⟨rfl, x24⟩)
              | (go_at_call_of 15 (#[Value.agg #[Value.int IntKind.i64 gxa, Value.slice Axa Lxa cxa, Value.int IntKind.i64 hxa, Value.slice Bxa Mxa dxa, Value.int IntKind.i64 gxb, Value.slice Axb Lxb cxb, Value.int IntKind.i64 hxb, Value.slice Bxb Mxb dxb], Value.agg #[Value.int IntKind.i64 gjca, Value.slice Ajca Ljca cjca, Value.int IntKind.i64 hjca, Value.slice Bjca Mjca djca, Value.int IntKind.i64 gjcb, Value.slice Ajcb Ljcb cjcb, Value.int IntKind.i64 hjcb, Value.slice Bjcb Mjcb djcb]]); have hgd := jca; clear hgd; refine (jmul_r (xa.ext (by with_reducible repeat' first | exact Ext.refl _ | assumption | apply Ext.alloc_r | apply Ext.drew_r | apply Ext.drewN_r | refine Ext.trans ?_ ‹Ext _ _›)) (xb.ext (by with_reducible repeat' first | exact Ext.refl _ | assumption | apply Ext.alloc_r | apply Ext.drew_r | apply Ext.drewN_r | refine Ext.trans ?_ ‹Ext _ _›)) (jca.ext (by with_reducible repeat' first | exact Ext.refl _ | assumption | apply Ext.alloc_r | apply Ext.drew_r | apply Ext.drewN_r | refine Ext.trans ?_ ‹Ext _ _›)) (jcb.ext (by with_reducible repeat' first | exact Ext.refl _ | assumption | apply Ext.alloc_r | apply Ext.drew_r | apply Ext.drewN_r | refine Ext.trans ?_ ‹Ext _ _›)) (by omega)).mono ?_; rintro e w23 ⟨gjba, Ajba, cjba, Ljba, hjba, Bjba, djba, Mjba, gjbb, Ajbb, cjbb, Ljbb, hjbb, Bjbb, djbb, Mjbb, rfl, jba, jbb, x23⟩)
              | (go_at_call_of 30 (#[Value.agg #[Value.int IntKind.i64 gqc, Value.slice Aqc Lqc cqc, Value.int IntKind.i64 hqc, Value.slice Bqc Mqc dqc]]); have hgd := qc; clear hgd; refine (jpoint_r (qc.ext (by with_reducible repeat' first | exact Ext.refl _ | assumption | apply Ext.alloc_r | apply Ext.drew_r | apply Ext.drewN_r | refine Ext.trans ?_ ‹Ext _ _›))).mono ?_; rintro e w22 ⟨gjca, Ajca, cjca, Ljca, hjca, Bjca, djca, Mjca, gjcb, Ajcb, cjcb, Ljcb, hjcb, Bjcb, djcb, Mjcb, rfl, jca, jcb, x22⟩)
              | (go_at_call_of 18 (#[Value.agg #[Value.bool s5, Value.slice A5 L5 c5, Value.slice B5 M5 d5]]); have hgd := caa; clear hgd; refine (HQ5.out _ (by with_reducible repeat' first | exact Ext.refl _ | assumption | apply Ext.alloc_r | apply Ext.drew_r | apply Ext.drewN_r | refine Ext.trans ?_ ‹Ext _ _›)).mono ?_; rintro e w21 ⟨gqc, Aqc, cqc, Lqc, hqc, Bqc, dqc, Mqc, rfl, qc, x21⟩)
              | (go_at_call_of 29 (#[Value.agg #[Value.bool s1, Value.slice A1 L1 c1, Value.slice B1 M1 d1, Value.bool s2, Value.slice A2 L2 c2, Value.slice B2 M2 d2], Value.agg #[Value.bool s5, Value.slice A5 L5 c5, Value.slice B5 M5 d5]]); have hgd := jpa; clear hgd; refine (iscale_r (e1.ext (by with_reducible repeat' first | exact Ext.refl _ | assumption | apply Ext.alloc_r | apply Ext.drew_r | apply Ext.drewN_r | refine Ext.trans ?_ ‹Ext _ _›)) (e2.ext (by with_reducible repeat' first | exact Ext.refl _ | assumption | apply Ext.alloc_r | apply Ext.drew_r | apply Ext.drewN_r | refine Ext.trans ?_ ‹Ext _ _›)) (e5.ext (by with_reducible repeat' first | exact Ext.refl _ | assumption | apply Ext.alloc_r | apply Ext.drew_r | apply Ext.drewN_r | refine Ext.trans ?_ ‹Ext _ _›)) (by omega)).mono ?_; rintro e w20 ⟨scaa, Acaa, ccaa, Lcaa, Bcaa, dcaa, Mcaa, scab, Acab, ccab, Lcab, Bcab, dcab, Mcab, rfl, caa, cab, x20⟩)
              | (go_at_call_of 14 (#[Value.agg #[Value.bool smaa, Value.slice Amaa Lmaa cmaa, Value.slice Bmaa Mmaa dmaa, Value.bool smab, Value.slice Amab Lmab cmab, Value.slice Bmab Mmab dmab], Value.agg #[Value.int IntKind.i64 gjpa, Value.slice Ajpa Ljpa cjpa, Value.int IntKind.i64 hjpa, Value.slice Bjpa Mjpa djpa, Value.int IntKind.i64 gjpb, Value.slice Ajpb Ljpb cjpb, Value.int IntKind.i64 hjpb, Value.slice Bjpb Mjpb djpb]]); have hgd := jpa; clear hgd; refine (lis6 (maa.ext (by with_reducible repeat' first | exact Ext.refl _ | assumption | apply Ext.alloc_r | apply Ext.drew_r | apply Ext.drewN_r | refine Ext.trans ?_ ‹Ext _ _›)) (mab.ext (by with_reducible repeat' first | exact Ext.refl _ | assumption | apply Ext.alloc_r | apply Ext.drew_r | apply Ext.drewN_r | refine Ext.trans ?_ ‹Ext _ _›)) (jpa.ext (by with_reducible repeat' first | exact Ext.refl _ | assumption | apply Ext.alloc_r | apply Ext.drew_r | apply Ext.drewN_r | refine Ext.trans ?_ ‹Ext _ _›)) (jpb.ext (by with_reducible repeat' first | exact Ext.refl _ | assumption | apply Ext.alloc_r | apply Ext.drew_r | apply Ext.drewN_r | refine Ext.trans ?_ ‹Ext _ _›)) (HM.out.1) (HM.out.2) (by omega)).mono ?_; rintro e w19 ⟨rfl, x19⟩)
              | (go_at_call_of 15 (#[Value.agg #[Value.int IntKind.i64 gxa, Value.slice Axa Lxa cxa, Value.int IntKind.i64 hxa, Value.slice Bxa Mxa dxa, Value.int IntKind.i64 gxb, Value.slice Axb Lxb cxb, Value.int IntKind.i64 hxb, Value.slice Bxb Mxb dxb], Value.agg #[Value.int IntKind.i64 gya, Value.slice Aya Lya cya, Value.int IntKind.i64 hya, Value.slice Bya Mya dya, Value.int IntKind.i64 gyb, Value.slice Ayb Lyb cyb, Value.int IntKind.i64 hyb, Value.slice Byb Myb dyb]]); have hgd := maa; clear hgd; refine (jmul_r (xa.ext (by with_reducible repeat' first | exact Ext.refl _ | assumption | apply Ext.alloc_r | apply Ext.drew_r | apply Ext.drewN_r | refine Ext.trans ?_ ‹Ext _ _›)) (xb.ext (by with_reducible repeat' first | exact Ext.refl _ | assumption | apply Ext.alloc_r | apply Ext.drew_r | apply Ext.drewN_r | refine Ext.trans ?_ ‹Ext _ _›)) (ya.ext (by with_reducible repeat' first | exact Ext.refl _ | assumption | apply Ext.alloc_r | apply Ext.drew_r | apply Ext.drewN_r | refine Ext.trans ?_ ‹Ext _ _›)) (yb.ext (by with_reducible repeat' first | exact Ext.refl _ | assumption | apply Ext.alloc_r | apply Ext.drew_r | apply Ext.drewN_r | refine Ext.trans ?_ ‹Ext _ _›)) (by omega)).mono ?_; rintro e w18 ⟨gjpa, Ajpa, cjpa, Ljpa, hjpa, Bjpa, djpa, Mjpa, gjpb, Ajpb, cjpb, Ljpb, hjpb, Bjpb, djpb, Mjpb, rfl, jpa, jpb, x18⟩)
              | (go_at_call_of 28 (#[Value.agg #[Value.bool s1, Value.slice A1 L1 c1, Value.slice B1 M1 d1, Value.bool s2, Value.slice A2 L2 c2, Value.slice B2 M2 d2], Value.agg #[Value.bool s3, Value.slice A3 L3 c3, Value.slice B3 M3 d3, Value.bool s4, Value.slice A4 L4 c4, Value.slice B4 M4 d4]]); have hgd := jsa; clear hgd; refine (imul_r (e1.ext (by with_reducible repeat' first | exact Ext.refl _ | assumption | apply Ext.alloc_r | apply Ext.drew_r | apply Ext.drewN_r | refine Ext.trans ?_ ‹Ext _ _›)) (e2.ext (by with_reducible repeat' first | exact Ext.refl _ | assumption | apply Ext.alloc_r | apply Ext.drew_r | apply Ext.drewN_r | refine Ext.trans ?_ ‹Ext _ _›)) (e3.ext (by with_reducible repeat' first | exact Ext.refl _ | assumption | apply Ext.alloc_r | apply Ext.drew_r | apply Ext.drewN_r | refine Ext.trans ?_ ‹Ext _ _›)) (e4.ext (by with_reducible repeat' first | exact Ext.refl _ | assumption | apply Ext.alloc_r | apply Ext.drew_r | apply Ext.drewN_r | refine Ext.trans ?_ ‹Ext _ _›)) (by omega)).mono ?_; rintro e w17 ⟨smaa, Amaa, cmaa, Lmaa, Bmaa, dmaa, Mmaa, smab, Amab, cmab, Lmab, Bmab, dmab, Mmab, rfl, maa, mab, x17⟩)
              | (go_at_call_of 14 (#[Value.agg #[Value.bool ssaa, Value.slice Asaa Lsaa csaa, Value.slice Bsaa Msaa dsaa, Value.bool ssab, Value.slice Asab Lsab csab, Value.slice Bsab Msab dsab], Value.agg #[Value.int IntKind.i64 gjsa, Value.slice Ajsa Ljsa cjsa, Value.int IntKind.i64 hjsa, Value.slice Bjsa Mjsa djsa, Value.int IntKind.i64 gjsb, Value.slice Ajsb Ljsb cjsb, Value.int IntKind.i64 hjsb, Value.slice Bjsb Mjsb djsb]]); have hgd := jsa; clear hgd; refine (lis6 (saa.ext (by with_reducible repeat' first | exact Ext.refl _ | assumption | apply Ext.alloc_r | apply Ext.drew_r | apply Ext.drewN_r | refine Ext.trans ?_ ‹Ext _ _›)) (sab.ext (by with_reducible repeat' first | exact Ext.refl _ | assumption | apply Ext.alloc_r | apply Ext.drew_r | apply Ext.drewN_r | refine Ext.trans ?_ ‹Ext _ _›)) (jsa.ext (by with_reducible repeat' first | exact Ext.refl _ | assumption | apply Ext.alloc_r | apply Ext.drew_r | apply Ext.drewN_r | refine Ext.trans ?_ ‹Ext _ _›)) (jsb.ext (by with_reducible repeat' first | exact Ext.refl _ | assumption | apply Ext.alloc_r | apply Ext.drew_r | apply Ext.drewN_r | refine Ext.trans ?_ ‹Ext _ _›)) ((Rat.sub_eq_add_neg _ _).symm) ((Rat.sub_eq_add_neg _ _).symm) (by omega)).mono ?_; rintro e w16 ⟨rfl, x16⟩)
              | (go_at_call_of 26 (#[Value.agg #[Value.int IntKind.i64 gxa, Value.slice Axa Lxa cxa, Value.int IntKind.i64 hxa, Value.slice Bxa Mxa dxa, Value.int IntKind.i64 gxb, Value.slice Axb Lxb cxb, Value.int IntKind.i64 hxb, Value.slice Bxb Mxb dxb], Value.agg #[Value.int IntKind.i64 gjma, Value.slice Ajma Ljma cjma, Value.int IntKind.i64 hjma, Value.slice Bjma Mjma djma, Value.int IntKind.i64 gjmb, Value.slice Ajmb Ljmb cjmb, Value.int IntKind.i64 hjmb, Value.slice Bjmb Mjmb djmb]]); have hgd := jma; clear hgd; refine (jadd_r (xa.ext (by with_reducible repeat' first | exact Ext.refl _ | assumption | apply Ext.alloc_r | apply Ext.drew_r | apply Ext.drewN_r | refine Ext.trans ?_ ‹Ext _ _›)) (xb.ext (by with_reducible repeat' first | exact Ext.refl _ | assumption | apply Ext.alloc_r | apply Ext.drew_r | apply Ext.drewN_r | refine Ext.trans ?_ ‹Ext _ _›)) (jma.ext (by with_reducible repeat' first | exact Ext.refl _ | assumption | apply Ext.alloc_r | apply Ext.drew_r | apply Ext.drewN_r | refine Ext.trans ?_ ‹Ext _ _›)) (jmb.ext (by with_reducible repeat' first | exact Ext.refl _ | assumption | apply Ext.alloc_r | apply Ext.drew_r | apply Ext.drewN_r | refine Ext.trans ?_ ‹Ext _ _›)) (by omega) (by omega)).mono ?_; rintro e w15 ⟨gjsa, Ajsa, cjsa, Ljsa, hjsa, Bjsa, djsa, Mjsa, gjsb, Ajsb, cjsb, Ljsb, hjsb, Bjsb, djsb, Mjsb, rfl, jsa, jsb, x15⟩)
              | (go_at_call_of 24 (#[Value.agg #[Value.int IntKind.i64 gya, Value.slice Aya Lya cya, Value.int IntKind.i64 hya, Value.slice Bya Mya dya, Value.int IntKind.i64 gyb, Value.slice Ayb Lyb cyb, Value.int IntKind.i64 hyb, Value.slice Byb Myb dyb]]); have hgd := saa; clear hgd; refine (jneg_r (ya.ext (by with_reducible repeat' first | exact Ext.refl _ | assumption | apply Ext.alloc_r | apply Ext.drew_r | apply Ext.drewN_r | refine Ext.trans ?_ ‹Ext _ _›)) (yb.ext (by with_reducible repeat' first | exact Ext.refl _ | assumption | apply Ext.alloc_r | apply Ext.drew_r | apply Ext.drewN_r | refine Ext.trans ?_ ‹Ext _ _›))).mono ?_; rintro e w14 ⟨gjma, Ajma, cjma, Ljma, hjma, Bjma, djma, Mjma, gjmb, Ajmb, cjmb, Ljmb, hjmb, Bjmb, djmb, Mjmb, rfl, jma, jmb, x14⟩)
              | (go_at_call_of 27 (#[Value.agg #[Value.bool s1, Value.slice A1 L1 c1, Value.slice B1 M1 d1, Value.bool s2, Value.slice A2 L2 c2, Value.slice B2 M2 d2], Value.agg #[Value.bool s3, Value.slice A3 L3 c3, Value.slice B3 M3 d3, Value.bool s4, Value.slice A4 L4 c4, Value.slice B4 M4 d4]]); have hgd := jaa; clear hgd; refine (isub_r (e1.ext (by with_reducible repeat' first | exact Ext.refl _ | assumption | apply Ext.alloc_r | apply Ext.drew_r | apply Ext.drewN_r | refine Ext.trans ?_ ‹Ext _ _›)) (e2.ext (by with_reducible repeat' first | exact Ext.refl _ | assumption | apply Ext.alloc_r | apply Ext.drew_r | apply Ext.drewN_r | refine Ext.trans ?_ ‹Ext _ _›)) (e3.ext (by with_reducible repeat' first | exact Ext.refl _ | assumption | apply Ext.alloc_r | apply Ext.drew_r | apply Ext.drewN_r | refine Ext.trans ?_ ‹Ext _ _›)) (e4.ext (by with_reducible repeat' first | exact Ext.refl _ | assumption | apply Ext.alloc_r | apply Ext.drew_r | apply Ext.drewN_r | refine Ext.trans ?_ ‹Ext _ _›)) (by omega) (by omega)).mono ?_; rintro e w13 ⟨ssaa, Asaa, csaa, Lsaa, Bsaa, dsaa, Msaa, ssab, Asab, csab, Lsab, Bsab, dsab, Msab, rfl, saa, sab, x13⟩)
              | (go_at_call_of 14 (#[Value.agg #[Value.bool saaa, Value.slice Aaaa Laaa caaa, Value.slice Baaa Maaa daaa, Value.bool saab, Value.slice Aaab Laab caab, Value.slice Baab Maab daab], Value.agg #[Value.int IntKind.i64 gjaa, Value.slice Ajaa Ljaa cjaa, Value.int IntKind.i64 hjaa, Value.slice Bjaa Mjaa djaa, Value.int IntKind.i64 gjab, Value.slice Ajab Ljab cjab, Value.int IntKind.i64 hjab, Value.slice Bjab Mjab djab]]); have hgd := jaa; clear hgd; refine (lis6 (aaa.ext (by with_reducible repeat' first | exact Ext.refl _ | assumption | apply Ext.alloc_r | apply Ext.drew_r | apply Ext.drewN_r | refine Ext.trans ?_ ‹Ext _ _›)) (aab.ext (by with_reducible repeat' first | exact Ext.refl _ | assumption | apply Ext.alloc_r | apply Ext.drew_r | apply Ext.drewN_r | refine Ext.trans ?_ ‹Ext _ _›)) (jaa.ext (by with_reducible repeat' first | exact Ext.refl _ | assumption | apply Ext.alloc_r | apply Ext.drew_r | apply Ext.drewN_r | refine Ext.trans ?_ ‹Ext _ _›)) (jab.ext (by with_reducible repeat' first | exact Ext.refl _ | assumption | apply Ext.alloc_r | apply Ext.drew_r | apply Ext.drewN_r | refine Ext.trans ?_ ‹Ext _ _›)) (rfl) (rfl) (by omega)).mono ?_; rintro e w12 ⟨rfl, x12⟩)
              | (go_at_call_of 26 (#[Value.agg #[Value.int IntKind.i64 gxa, Value.slice Axa Lxa cxa, Value.int IntKind.i64 hxa, Value.slice Bxa Mxa dxa, Value.int IntKind.i64 gxb, Value.slice Axb Lxb cxb, Value.int IntKind.i64 hxb, Value.slice Bxb Mxb dxb], Value.agg #[Value.int IntKind.i64 gya, Value.slice Aya Lya cya, Value.int IntKind.i64 hya, Value.slice Bya Mya dya, Value.int IntKind.i64 gyb, Value.slice Ayb Lyb cyb, Value.int IntKind.i64 hyb, Value.slice Byb Myb dyb]]); have hgd := aaa; clear hgd; refine (jadd_r (xa.ext (by with_reducible repeat' first | exact Ext.refl _ | assumption | apply Ext.alloc_r | apply Ext.drew_r | apply Ext.drewN_r | refine Ext.trans ?_ ‹Ext _ _›)) (xb.ext (by with_reducible repeat' first | exact Ext.refl _ | assumption | apply Ext.alloc_r | apply Ext.drew_r | apply Ext.drewN_r | refine Ext.trans ?_ ‹Ext _ _›)) (ya.ext (by with_reducible repeat' first | exact Ext.refl _ | assumption | apply Ext.alloc_r | apply Ext.drew_r | apply Ext.drewN_r | refine Ext.trans ?_ ‹Ext _ _›)) (yb.ext (by with_reducible repeat' first | exact Ext.refl _ | assumption | apply Ext.alloc_r | apply Ext.drew_r | apply Ext.drewN_r | refine Ext.trans ?_ ‹Ext _ _›)) (by omega) (by omega)).mono ?_; rintro e w11 ⟨gjaa, Ajaa, cjaa, Ljaa, hjaa, Bjaa, djaa, Mjaa, gjab, Ajab, cjab, Ljab, hjab, Bjab, djab, Mjab, rfl, jaa, jab, x11⟩)
              | (go_at_call_of 25 (#[Value.agg #[Value.bool s1, Value.slice A1 L1 c1, Value.slice B1 M1 d1, Value.bool s2, Value.slice A2 L2 c2, Value.slice B2 M2 d2], Value.agg #[Value.bool s3, Value.slice A3 L3 c3, Value.slice B3 M3 d3, Value.bool s4, Value.slice A4 L4 c4, Value.slice B4 M4 d4]]); have hgd := jna; clear hgd; refine (iadd_r (e1.ext (by with_reducible repeat' first | exact Ext.refl _ | assumption | apply Ext.alloc_r | apply Ext.drew_r | apply Ext.drewN_r | refine Ext.trans ?_ ‹Ext _ _›)) (e2.ext (by with_reducible repeat' first | exact Ext.refl _ | assumption | apply Ext.alloc_r | apply Ext.drew_r | apply Ext.drewN_r | refine Ext.trans ?_ ‹Ext _ _›)) (e3.ext (by with_reducible repeat' first | exact Ext.refl _ | assumption | apply Ext.alloc_r | apply Ext.drew_r | apply Ext.drewN_r | refine Ext.trans ?_ ‹Ext _ _›)) (e4.ext (by with_reducible repeat' first | exact Ext.refl _ | assumption | apply Ext.alloc_r | apply Ext.drew_r | apply Ext.drewN_r | refine Ext.trans ?_ ‹Ext _ _›)) (by omega) (by omega)).mono ?_; rintro e w10 ⟨saaa, Aaaa, caaa, Laaa, Baaa, daaa, Maaa, saab, Aaab, caab, Laab, Baab, daab, Maab, rfl, aaa, aab, x10⟩)
              | (go_at_call_of 14 (#[Value.agg #[Value.bool snaa, Value.slice Anaa Lnaa cnaa, Value.slice Bnaa Mnaa dnaa, Value.bool snab, Value.slice Anab Lnab cnab, Value.slice Bnab Mnab dnab], Value.agg #[Value.int IntKind.i64 gjna, Value.slice Ajna Ljna cjna, Value.int IntKind.i64 hjna, Value.slice Bjna Mjna djna, Value.int IntKind.i64 gjnb, Value.slice Ajnb Ljnb cjnb, Value.int IntKind.i64 hjnb, Value.slice Bjnb Mjnb djnb]]); have hgd := jna; clear hgd; refine (lis6 (naa.ext (by with_reducible repeat' first | exact Ext.refl _ | assumption | apply Ext.alloc_r | apply Ext.drew_r | apply Ext.drewN_r | refine Ext.trans ?_ ‹Ext _ _›)) (nab.ext (by with_reducible repeat' first | exact Ext.refl _ | assumption | apply Ext.alloc_r | apply Ext.drew_r | apply Ext.drewN_r | refine Ext.trans ?_ ‹Ext _ _›)) (jna.ext (by with_reducible repeat' first | exact Ext.refl _ | assumption | apply Ext.alloc_r | apply Ext.drew_r | apply Ext.drewN_r | refine Ext.trans ?_ ‹Ext _ _›)) (jnb.ext (by with_reducible repeat' first | exact Ext.refl _ | assumption | apply Ext.alloc_r | apply Ext.drew_r | apply Ext.drewN_r | refine Ext.trans ?_ ‹Ext _ _›)) (rfl) (rfl) (by omega)).mono ?_; rintro e w9 ⟨rfl, x9⟩)
              | (go_at_call_of 24 (#[Value.agg #[Value.int IntKind.i64 gxa, Value.slice Axa Lxa cxa, Value.int IntKind.i64 hxa, Value.slice Bxa Mxa dxa, Value.int IntKind.i64 gxb, Value.slice Axb Lxb cxb, Value.int IntKind.i64 hxb, Value.slice Bxb Mxb dxb]]); have hgd := naa; clear hgd; refine (jneg_r (xa.ext (by with_reducible repeat' first | exact Ext.refl _ | assumption | apply Ext.alloc_r | apply Ext.drew_r | apply Ext.drewN_r | refine Ext.trans ?_ ‹Ext _ _›)) (xb.ext (by with_reducible repeat' first | exact Ext.refl _ | assumption | apply Ext.alloc_r | apply Ext.drew_r | apply Ext.drewN_r | refine Ext.trans ?_ ‹Ext _ _›))).mono ?_; rintro e w8 ⟨gjna, Ajna, cjna, Ljna, hjna, Bjna, djna, Mjna, gjnb, Ajnb, cjnb, Ljnb, hjnb, Bjnb, djnb, Mjnb, rfl, jna, jnb, x8⟩)
              | (go_at_call_of 23 (#[Value.agg #[Value.bool s1, Value.slice A1 L1 c1, Value.slice B1 M1 d1, Value.bool s2, Value.slice A2 L2 c2, Value.slice B2 M2 d2]]); refine (ineg_r (e1.ext (by with_reducible repeat' first | exact Ext.refl _ | assumption | apply Ext.alloc_r | apply Ext.drew_r | apply Ext.drewN_r | refine Ext.trans ?_ ‹Ext _ _›)) (e2.ext (by with_reducible repeat' first | exact Ext.refl _ | assumption | apply Ext.alloc_r | apply Ext.drew_r | apply Ext.drewN_r | refine Ext.trans ?_ ‹Ext _ _›)) (by omega)).mono ?_; rintro e w7 ⟨snaa, Anaa, cnaa, Lnaa, Bnaa, dnaa, Mnaa, snab, Anab, cnab, Lnab, Bnab, dnab, Mnab, rfl, naa, nab, x7⟩))
        | fail
        clear HK
        have xh : Ext wc6 w24 := (by with_reducible repeat' first | exact Ext.refl _ | assumption | apply Ext.alloc_r | apply Ext.drew_r | apply Ext.drewN_r | refine Ext.trans ?_ ‹Ext _ _›)
        replace e0_0 := xh.cell e0_0
        replace e0_1 := xh.cell e0_1
        replace e0_2 := xh.cell e0_2
        replace e0_3 := xh.cell e0_3
        replace e0_4 := xh.cell e0_4
        replace e0_5 := xh.cell e0_5
        replace e1_0 := xh.cell e1_0
        replace e1_1 := xh.cell e1_1
        replace e1_2 := xh.cell e1_2
        replace e1_3 := xh.cell e1_3
        replace e1_4 := xh.cell e1_4
        replace e1_5 := xh.cell e1_5
        replace e2_0 := xh.cell e2_0
        replace e2_1 := xh.cell e2_1
        replace e2_2 := xh.cell e2_2
        replace x_0 := xh.cell x_0
        replace x_1 := xh.cell x_1
        replace x_2 := xh.cell x_2
        replace x_3 := xh.cell x_3
        replace x_4 := xh.cell x_4
        replace x_5 := xh.cell x_5
        replace x_6 := xh.cell x_6
        replace x_7 := xh.cell x_7
        replace y_0 := xh.cell y_0
        replace y_1 := xh.cell y_1
        replace y_2 := xh.cell y_2
        replace y_3 := xh.cell y_3
        replace y_4 := xh.cell y_4
        replace y_5 := xh.cell y_5
        replace y_6 := xh.cell y_6
        replace y_7 := xh.cell y_7
        clear xh
        go_wp2_with fail
        go_ret
        exact ⟨rfl, (by with_reducible repeat' first | exact Ext.refl _ | assumption | apply Ext.alloc_r | apply Ext.drew_r | apply Ext.drewN_r | refine Ext.trans ?_ ‹Ext _ _›)⟩
    · have HN : Hid ((decide (L5 ≤ 4) && decide (M5 ≤ 4)) = false) := by show _ = _; simpa using hg5
      have HF := Lib.hid hf
      clear hf hg5
      go_enter Tryz.func5, Tryz.ntmps5
      go_wp2_with fail
      obtain ⟨w0, hw0⟩ : ∃ z : World, z = (((w.alloc (.cells #[.bool s1, .slice A1 L1 c1, .slice B1 M1 d1, .bool s2, .slice A2 L2 c2, .slice B2 M2 d2] 29)).alloc (.cells #[.bool s3, .slice A3 L3 c3, .slice B3 M3 d3, .bool s4, .slice A4 L4 c4, .slice B4 M4 d4] 29)).alloc (.cells #[.bool s5, .slice A5 L5 c5, .slice B5 M5 d5] 27)) := ⟨_, rfl⟩
      rw [← hw0]
      have b0 := box_at w #[.bool s1, .slice A1 L1 c1, .slice B1 M1 d1, .bool s2, .slice A2 L2 c2, .slice B2 M2 d2] 29
      have b1 := box_at (w.alloc (.cells #[.bool s1, .slice A1 L1 c1, .slice B1 M1 d1, .bool s2, .slice A2 L2 c2, .slice B2 M2 d2] 29)) #[.bool s3, .slice A3 L3 c3, .slice B3 M3 d3, .bool s4, .slice A4 L4 c4, .slice B4 M4 d4] 29
      have b2 := box_at ((w.alloc (.cells #[.bool s1, .slice A1 L1 c1, .slice B1 M1 d1, .bool s2, .slice A2 L2 c2, .slice B2 M2 d2] 29)).alloc (.cells #[.bool s3, .slice A3 L3 c3, .slice B3 M3 d3, .bool s4, .slice A4 L4 c4, .slice B4 M4 d4] 29)) #[.bool s5, .slice A5 L5 c5, .slice B5 M5 d5] 27
      have hsz : w0.heap.size = w.heap.size + 1 + 1 + 1 := by rw [hw0]; simp
      rw [← hw0] at b2
      have y2 : Ext ((w.alloc (.cells #[.bool s1, .slice A1 L1 c1, .slice B1 M1 d1, .bool s2, .slice A2 L2 c2, .slice B2 M2 d2] 29)).alloc (.cells #[.bool s3, .slice A3 L3 c3, .slice B3 M3 d3, .bool s4, .slice A4 L4 c4, .slice B4 M4 d4] 29)) w0 := by rw [hw0]; exact Ext.alloc _ _
      have y1 : Ext (w.alloc (.cells #[.bool s1, .slice A1 L1 c1, .slice B1 M1 d1, .bool s2, .slice A2 L2 c2, .slice B2 M2 d2] 29)) w0 := (Ext.alloc _ _).trans y2
      have y0 : Ext w w0 := (Ext.alloc _ _).trans y1
      have x0 : Ext w w0 := y0
      have e0_0 := y1.cell (b0.1 0 (.bool s1) rfl)
      have e0_1 := y1.cell (b0.1 1 (.slice A1 L1 c1) rfl)
      have e0_2 := y1.cell (b0.1 2 (.slice B1 M1 d1) rfl)
      have e0_3 := y1.cell (b0.1 3 (.bool s2) rfl)
      have e0_4 := y1.cell (b0.1 4 (.slice A2 L2 c2) rfl)
      have e0_5 := y1.cell (b0.1 5 (.slice B2 M2 d2) rfl)
      have e1_0 := y2.cell (b1.1 0 (.bool s3) rfl)
      have e1_1 := y2.cell (b1.1 1 (.slice A3 L3 c3) rfl)
      have e1_2 := y2.cell (b1.1 2 (.slice B3 M3 d3) rfl)
      have e1_3 := y2.cell (b1.1 3 (.bool s4) rfl)
      have e1_4 := y2.cell (b1.1 4 (.slice A4 L4 c4) rfl)
      have e1_5 := y2.cell (b1.1 5 (.slice B4 M4 d4) rfl)
      have e2_0 := b2.1 0 (.bool s5) rfl
      have e2_1 := b2.1 1 (.slice A5 L5 c5) rfl
      have e2_2 := b2.1 2 (.slice B5 M5 d5) rfl
      simp only [World.size_alloc] at e1_0 e1_1 e1_2 e1_3 e1_4 e1_5 e2_0 e2_1 e2_2
      clear hw0 b0 b1 b2 y0 y1 y2
      go_wp2_with fail
      refine (awake6 _).mono ?_
      rintro e w1 ⟨rfl, x1⟩
      replace e0_0 := x1.cell e0_0
      replace e0_1 := x1.cell e0_1
      replace e0_2 := x1.cell e0_2
      replace e0_3 := x1.cell e0_3
      replace e0_4 := x1.cell e0_4
      replace e0_5 := x1.cell e0_5
      replace e1_0 := x1.cell e1_0
      replace e1_1 := x1.cell e1_1
      replace e1_2 := x1.cell e1_2
      replace e1_3 := x1.cell e1_3
      replace e1_4 := x1.cell e1_4
      replace e1_5 := x1.cell e1_5
      replace e2_0 := x1.cell e2_0
      replace e2_1 := x1.cell e2_1
      replace e2_2 := x1.cell e2_2
      go_wp2_with fail
      refine (few6_yes (by omega) (by omega) (by omega) (by omega) (by omega) (by omega) (by omega) (by omega) HF.out).mono ?_
      rintro e w2 ⟨rfl, x2⟩
      replace e0_0 := x2.cell e0_0
      replace e0_1 := x2.cell e0_1
      replace e0_2 := x2.cell e0_2
      replace e0_3 := x2.cell e0_3
      replace e0_4 := x2.cell e0_4
      replace e0_5 := x2.cell e0_5
      replace e1_0 := x2.cell e1_0
      replace e1_1 := x2.cell e1_1
      replace e1_2 := x2.cell e1_2
      replace e1_3 := x2.cell e1_3
      replace e1_4 := x2.cell e1_4
      replace e1_5 := x2.cell e1_5
      replace e2_0 := x2.cell e2_0
      replace e2_1 := x2.cell e2_1
      replace e2_2 := x2.cell e2_2
      go_wp2_with fail
      refine (small_is (by omega) (by omega) HN.out).mono ?_
      rintro e w3 ⟨rfl, x3⟩
      replace e0_0 := x3.cell e0_0
      replace e0_1 := x3.cell e0_1
      replace e0_2 := x3.cell e0_2
      replace e0_3 := x3.cell e0_3
      replace e0_4 := x3.cell e0_4
      replace e0_5 := x3.cell e0_5
      replace e1_0 := x3.cell e1_0
      replace e1_1 := x3.cell e1_1
      replace e1_2 := x3.cell e1_2
      replace e1_3 := x3.cell e1_3
      replace e1_4 := x3.cell e1_4
      replace e1_5 := x3.cell e1_5
      replace e2_0 := x3.cell e2_0
      replace e2_1 := x3.cell e2_1
      replace e2_2 := x3.cell e2_2
      clear hsz
      go_wp2_with fail
      refine (awake6 _).mono ?_
      rintro e w4 ⟨rfl, x4⟩
      replace e0_0 := x4.cell e0_0
      replace e0_1 := x4.cell e0_1
      replace e0_2 := x4.cell e0_2
      replace e0_3 := x4.cell e0_3
      replace e0_4 := x4.cell e0_4
      replace e0_5 := x4.cell e0_5
      replace e1_0 := x4.cell e1_0
      replace e1_1 := x4.cell e1_1
      replace e1_2 := x4.cell e1_2
      replace e1_3 := x4.cell e1_3
      replace e1_4 := x4.cell e1_4
      replace e1_5 := x4.cell e1_5
      replace e2_0 := x4.cell e2_0
      replace e2_1 := x4.cell e2_1
      replace e2_2 := x4.cell e2_2
      go_wp2_with fail
      go_ret
      exact ⟨rfl, (by with_reducible repeat' first | exact Ext.refl _ | assumption | apply Ext.alloc_r | apply Ext.drew_r | apply Ext.drewN_r | refine Ext.trans ?_ ‹Ext _ _›)⟩
  · have HN := Lib.hid hf
    clear hf 
    go_enter Tryz.func5, Tryz.ntmps5
    go_wp2_with fail
    obtain ⟨w0, hw0⟩ : ∃ z : World, z = (((w.alloc (.cells #[.bool s1, .slice A1 L1 c1, .slice B1 M1 d1, .bool s2, .slice A2 L2 c2, .slice B2 M2 d2] 29)).alloc (.cells #[.bool s3, .slice A3 L3 c3, .slice B3 M3 d3, .bool s4, .slice A4 L4 c4, .slice B4 M4 d4] 29)).alloc (.cells #[.bool s5, .slice A5 L5 c5, .slice B5 M5 d5] 27)) := ⟨_, rfl⟩
    rw [← hw0]
    have b0 := box_at w #[.bool s1, .slice A1 L1 c1, .slice B1 M1 d1, .bool s2, .slice A2 L2 c2, .slice B2 M2 d2] 29
    have b1 := box_at (w.alloc (.cells #[.bool s1, .slice A1 L1 c1, .slice B1 M1 d1, .bool s2, .slice A2 L2 c2, .slice B2 M2 d2] 29)) #[.bool s3, .slice A3 L3 c3, .slice B3 M3 d3, .bool s4, .slice A4 L4 c4, .slice B4 M4 d4] 29
    have b2 := box_at ((w.alloc (.cells #[.bool s1, .slice A1 L1 c1, .slice B1 M1 d1, .bool s2, .slice A2 L2 c2, .slice B2 M2 d2] 29)).alloc (.cells #[.bool s3, .slice A3 L3 c3, .slice B3 M3 d3, .bool s4, .slice A4 L4 c4, .slice B4 M4 d4] 29)) #[.bool s5, .slice A5 L5 c5, .slice B5 M5 d5] 27
    have hsz : w0.heap.size = w.heap.size + 1 + 1 + 1 := by rw [hw0]; simp
    rw [← hw0] at b2
    have y2 : Ext ((w.alloc (.cells #[.bool s1, .slice A1 L1 c1, .slice B1 M1 d1, .bool s2, .slice A2 L2 c2, .slice B2 M2 d2] 29)).alloc (.cells #[.bool s3, .slice A3 L3 c3, .slice B3 M3 d3, .bool s4, .slice A4 L4 c4, .slice B4 M4 d4] 29)) w0 := by rw [hw0]; exact Ext.alloc _ _
    have y1 : Ext (w.alloc (.cells #[.bool s1, .slice A1 L1 c1, .slice B1 M1 d1, .bool s2, .slice A2 L2 c2, .slice B2 M2 d2] 29)) w0 := (Ext.alloc _ _).trans y2
    have y0 : Ext w w0 := (Ext.alloc _ _).trans y1
    have x0 : Ext w w0 := y0
    have e0_0 := y1.cell (b0.1 0 (.bool s1) rfl)
    have e0_1 := y1.cell (b0.1 1 (.slice A1 L1 c1) rfl)
    have e0_2 := y1.cell (b0.1 2 (.slice B1 M1 d1) rfl)
    have e0_3 := y1.cell (b0.1 3 (.bool s2) rfl)
    have e0_4 := y1.cell (b0.1 4 (.slice A2 L2 c2) rfl)
    have e0_5 := y1.cell (b0.1 5 (.slice B2 M2 d2) rfl)
    have e1_0 := y2.cell (b1.1 0 (.bool s3) rfl)
    have e1_1 := y2.cell (b1.1 1 (.slice A3 L3 c3) rfl)
    have e1_2 := y2.cell (b1.1 2 (.slice B3 M3 d3) rfl)
    have e1_3 := y2.cell (b1.1 3 (.bool s4) rfl)
    have e1_4 := y2.cell (b1.1 4 (.slice A4 L4 c4) rfl)
    have e1_5 := y2.cell (b1.1 5 (.slice B4 M4 d4) rfl)
    have e2_0 := b2.1 0 (.bool s5) rfl
    have e2_1 := b2.1 1 (.slice A5 L5 c5) rfl
    have e2_2 := b2.1 2 (.slice B5 M5 d5) rfl
    simp only [World.size_alloc] at e1_0 e1_1 e1_2 e1_3 e1_4 e1_5 e2_0 e2_1 e2_2
    clear hw0 b0 b1 b2 y0 y1 y2
    go_wp2_with fail
    refine (awake6 _).mono ?_
    rintro e w1 ⟨rfl, x1⟩
    replace e0_0 := x1.cell e0_0
    replace e0_1 := x1.cell e0_1
    replace e0_2 := x1.cell e0_2
    replace e0_3 := x1.cell e0_3
    replace e0_4 := x1.cell e0_4
    replace e0_5 := x1.cell e0_5
    replace e1_0 := x1.cell e1_0
    replace e1_1 := x1.cell e1_1
    replace e1_2 := x1.cell e1_2
    replace e1_3 := x1.cell e1_3
    replace e1_4 := x1.cell e1_4
    replace e1_5 := x1.cell e1_5
    replace e2_0 := x1.cell e2_0
    replace e2_1 := x1.cell e2_1
    replace e2_2 := x1.cell e2_2
    go_wp2_with fail
    refine (few6_no (by omega) (by omega) (by omega) (by omega) (by omega) (by omega) (by omega) (by omega) HN.out).mono ?_
    rintro e w2 ⟨rfl, x2⟩
    replace e0_0 := x2.cell e0_0
    replace e0_1 := x2.cell e0_1
    replace e0_2 := x2.cell e0_2
    replace e0_3 := x2.cell e0_3
    replace e0_4 := x2.cell e0_4
    replace e0_5 := x2.cell e0_5
    replace e1_0 := x2.cell e1_0
    replace e1_1 := x2.cell e1_1
    replace e1_2 := x2.cell e1_2
    replace e1_3 := x2.cell e1_3
    replace e1_4 := x2.cell e1_4
    replace e1_5 := x2.cell e1_5
    replace e2_0 := x2.cell e2_0
    replace e2_1 := x2.cell e2_1
    replace e2_2 := x2.cell e2_2
    clear hsz
    go_wp2_with fail
    refine (awake6 _).mono ?_
    rintro e w3 ⟨rfl, x3⟩
    replace e0_0 := x3.cell e0_0
    replace e0_1 := x3.cell e0_1
    replace e0_2 := x3.cell e0_2
    replace e0_3 := x3.cell e0_3
    replace e0_4 := x3.cell e0_4
    replace e0_5 := x3.cell e0_5
    replace e1_0 := x3.cell e1_0
    replace e1_1 := x3.cell e1_1
    replace e1_2 := x3.cell e1_2
    replace e1_3 := x3.cell e1_3
    replace e1_4 := x3.cell e1_4
    replace e1_5 := x3.cell e1_5
    replace e2_0 := x3.cell e2_0
    replace e2_1 := x3.cell e2_1
    replace e2_2 := x3.cell e2_2
    go_wp2_with fail
    go_ret
    exact ⟨rfl, (by with_reducible repeat' first | exact Ext.refl _ | assumption | apply Ext.alloc_r | apply Ext.drew_r | apply Ext.drewN_r | refine Ext.trans ?_ ‹Ext _ _›)⟩
end Go.Proofs.YtehhkeenjlpikaaGreat
