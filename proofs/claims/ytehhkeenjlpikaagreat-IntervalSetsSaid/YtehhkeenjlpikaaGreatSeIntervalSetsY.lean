/- The walk of IntervalSets behind its guards. -/
import Derived.Test.YtehhkeenjlpikaaGreatSeLaw6
import Derived.Test.YtehhkeenjlpikaaGreatSeIvD
import Derived.Test.YtehhkeenjlpikaaGreatSeOpenV
import Derived.Test.YtehhkeenjlpikaaGreatSePutI
import Derived.Test.YtehhkeenjlpikaaGreatSeJvE
import Derived.Test.YtehhkeenjlpikaaGreatSeIntervalSetsH
namespace Go.Proofs.YtehhkeenjlpikaaGreat
open Go.RowKit
set_option maxHeartbeats 40000000 in
set_option maxRecDepth 100000 in
theorem intervalSets_any {w : World} {s1 : Bool} {A1 B1 : Option Addr} {c1 L1 d1 M1 : Nat} {x1 : Int} {y1 : Nat} {s2 : Bool} {A2 B2 : Option Addr} {c2 L2 d2 M2 : Nat} {x2 : Int} {y2 : Nat} {s3 : Bool} {A3 B3 : Option Addr} {c3 L3 d3 M3 : Nat} {x3 : Int} {y3 : Nat} {s4 : Bool} {A4 B4 : Option Addr} {c4 L4 d4 M4 : Nat} {x4 : Int} {y4 : Nat} {s5 : Bool} {A5 B5 : Option Addr} {c5 L5 d5 M5 : Nat} {x5 : Int} {y5 : Nat} (h1 : RW w s1 A1 c1 L1 B1 d1 M1 x1 y1) (h2 : RW w s2 A2 c2 L2 B2 d2 M2 x2 y2) (h3 : RW w s3 A3 c3 L3 B3 d3 M3 x3 y3) (h4 : RW w s4 A4 c4 L4 B4 d4 M4 x4 y4) (h5 : RW w s5 A5 c5 L5 B5 d5 M5 x5 y5) (hf : L1 ≤ 4 ∧ M1 ≤ 4 ∧ L2 ≤ 4 ∧ M2 ≤ 4 ∧ L3 ≤ 4 ∧ M3 ≤ 4 ∧ L4 ≤ 4 ∧ M4 ≤ 4) (hg5 : (decide (L5 ≤ 4) && decide (M5 ≤ 4)) = true) :
    Calls Tryz.prog 6 #[Value.agg #[Value.bool s1, Value.slice A1 L1 c1, Value.slice B1 M1 d1, Value.bool s2, Value.slice A2 L2 c2, Value.slice B2 M2 d2], Value.agg #[Value.bool s3, Value.slice A3 L3 c3, Value.slice B3 M3 d3, Value.bool s4, Value.slice A4 L4 c4, Value.slice B4 M4 d4], Value.agg #[Value.bool s5, Value.slice A5 L5 c5, Value.slice B5 M5 d5]] w fun e w' => e = .returned (.bool true) ∧ Ext w w' := by
  have pa1 := h1.num.nv.cap
  have pb1 := h1.den.cap
  have qa1 := h1.num.nv.le
  have qb1 := h1.den.le
  have pa2 := h2.num.nv.cap
  have pb2 := h2.den.cap
  have qa2 := h2.num.nv.le
  have qb2 := h2.den.le
  have pa3 := h3.num.nv.cap
  have pb3 := h3.den.cap
  have qa3 := h3.num.nv.le
  have qb3 := h3.den.le
  have pa4 := h4.num.nv.cap
  have pb4 := h4.den.cap
  have qa4 := h4.num.nv.le
  have qb4 := h4.den.le
  have pa5 := h5.num.nv.cap
  have pb5 := h5.den.cap
  have qa5 := h5.num.nv.le
  have qb5 := h5.den.le
  have hm5 : L5 ≤ 4 ∧ M5 ≤ 4 := by simpa using hg5
  have HF := Lib.hid hf
  have HG5 := Lib.hid hg5
  have e1 := h1.rv (N := 4) (by omega) (by omega) (by omega)
  have e2 := h2.rv (N := 4) (by omega) (by omega) (by omega)
  have e3 := h3.rv (N := 4) (by omega) (by omega) (by omega)
  have e4 := h4.rv (N := 4) (by omega) (by omega) (by omega)
  have e5 := h5.rv (N := 4) (by omega) (by omega) (by omega)
  have HO1 : Hid (∀ w', Ext w w' → Calls Tryz.prog 10 #[Value.agg #[Value.bool s1, Value.slice A1 L1 c1, Value.slice B1 M1 d1, Value.bool s2, Value.slice A2 L2 c2, Value.slice B2 M2 d2]] w' (RetJ w' 128 (minQ (mkRat x1 y1) (mkRat x2 y2)) (maxQ (mkRat x1 y1) (mkRat x2 y2)))) := fun w' hx => lof6 (h1.ext hx) (h2.ext hx) (by omega) (by omega) (by omega) (by omega) (by omega) (by omega)
  have HO3 : Hid (∀ w', Ext w w' → Calls Tryz.prog 10 #[Value.agg #[Value.bool s3, Value.slice A3 L3 c3, Value.slice B3 M3 d3, Value.bool s4, Value.slice A4 L4 c4, Value.slice B4 M4 d4]] w' (RetJ w' 128 (minQ (mkRat x3 y3) (mkRat x4 y4)) (maxQ (mkRat x3 y3) (mkRat x4 y4)))) := fun w' hx => lof6 (h3.ext hx) (h4.ext hx) (by omega) (by omega) (by omega) (by omega) (by omega) (by omega)
  have HQ5 : Hid (∀ w', Ext w w' → Calls Tryz.prog 18 #[Value.agg #[Value.bool s5, Value.slice A5 L5 c5, Value.slice B5 M5 d5]] w' (RetQ w' 128 (mkRat x5 y5))) := fun w' hx => lq6 (h5.ext hx) (by omega) (by omega) (by omega) (by omega)
  generalize mkRat x1 y1 = q1 at *
  generalize mkRat x2 y2 = q2 at *
  generalize mkRat x3 y3 = q3 at *
  generalize mkRat x4 y4 = q4 at *
  generalize mkRat x5 y5 = q5 at *
  clear hf hg5 hm5 h1 h2 h3 h4 h5
  go_enter Tryz.func6, Tryz.ntmps6
  go_wp2_with fail
  obtain ⟨w0, hw0⟩ : ∃ z : World, z = (((w.alloc (.cells #[.bool s1, .slice A1 L1 c1, .slice B1 M1 d1, .bool s2, .slice A2 L2 c2, .slice B2 M2 d2] 29)).alloc (.cells #[.bool s3, .slice A3 L3 c3, .slice B3 M3 d3, .bool s4, .slice A4 L4 c4, .slice B4 M4 d4] 29)).alloc (.cells #[.bool s5, .slice A5 L5 c5, .slice B5 M5 d5] 27)) := ⟨_, rfl⟩
  rw [← hw0]
  have b0 := box_at w #[.bool s1, .slice A1 L1 c1, .slice B1 M1 d1, .bool s2, .slice A2 L2 c2, .slice B2 M2 d2] 29
  have b1 := box_at (w.alloc (.cells #[.bool s1, .slice A1 L1 c1, .slice B1 M1 d1, .bool s2, .slice A2 L2 c2, .slice B2 M2 d2] 29)) #[.bool s3, .slice A3 L3 c3, .slice B3 M3 d3, .bool s4, .slice A4 L4 c4, .slice B4 M4 d4] 29
  have b2 := box_at ((w.alloc (.cells #[.bool s1, .slice A1 L1 c1, .slice B1 M1 d1, .bool s2, .slice A2 L2 c2, .slice B2 M2 d2] 29)).alloc (.cells #[.bool s3, .slice A3 L3 c3, .slice B3 M3 d3, .bool s4, .slice A4 L4 c4, .slice B4 M4 d4] 29)) #[.bool s5, .slice A5 L5 c5, .slice B5 M5 d5] 27
  have hsz : w0.heap.size = w.heap.size + 1 + 1 + 1 := by rw [hw0]; simp
  rw [← hw0] at b2
  have y2 : Ext ((w.alloc (.cells #[.bool s1, .slice A1 L1 c1, .slice B1 M1 d1, .bool s2, .slice A2 L2 c2, .slice B2 M2 d2] 29)).alloc (.cells #[.bool s3, .slice A3 L3 c3, .slice B3 M3 d3, .bool s4, .slice A4 L4 c4, .slice B4 M4 d4] 29)) w0 := by rw [hw0]; exact Ext.alloc _ _
  have y1 : Ext (w.alloc (.cells #[.bool s1, .slice A1 L1 c1, .slice B1 M1 d1, .bool s2, .slice A2 L2 c2, .slice B2 M2 d2] 29)) w0 := (Ext.alloc _ _).trans y2
  have y0 : Ext w w0 := (Ext.alloc _ _).trans y1
  have x0 : Ext w w0 := y0
  have e0_0 := y1.cell (b0.1 0 (.bool s1) rfl)
  have e0_1 := y1.cell (b0.1 1 (.slice A1 L1 c1) rfl)
  have e0_2 := y1.cell (b0.1 2 (.slice B1 M1 d1) rfl)
  have e0_3 := y1.cell (b0.1 3 (.bool s2) rfl)
  have e0_4 := y1.cell (b0.1 4 (.slice A2 L2 c2) rfl)
  have e0_5 := y1.cell (b0.1 5 (.slice B2 M2 d2) rfl)
  have e1_0 := y2.cell (b1.1 0 (.bool s3) rfl)
  have e1_1 := y2.cell (b1.1 1 (.slice A3 L3 c3) rfl)
  have e1_2 := y2.cell (b1.1 2 (.slice B3 M3 d3) rfl)
  have e1_3 := y2.cell (b1.1 3 (.bool s4) rfl)
  have e1_4 := y2.cell (b1.1 4 (.slice A4 L4 c4) rfl)
  have e1_5 := y2.cell (b1.1 5 (.slice B4 M4 d4) rfl)
  have e2_0 := b2.1 0 (.bool s5) rfl
  have e2_1 := b2.1 1 (.slice A5 L5 c5) rfl
  have e2_2 := b2.1 2 (.slice B5 M5 d5) rfl
  simp only [World.size_alloc] at e1_0 e1_1 e1_2 e1_3 e1_4 e1_5 e2_0 e2_1 e2_2
  clear hw0 b0 b1 b2 y0 y1 y2
  go_wp2_with fail
  refine (awake6 _).mono ?_
  rintro e w1 ⟨rfl, x1⟩
  replace e0_0 := x1.cell e0_0; replace e0_1 := x1.cell e0_1; replace e0_2 := x1.cell e0_2; replace e0_3 := x1.cell e0_3; replace e0_4 := x1.cell e0_4; replace e0_5 := x1.cell e0_5; replace e1_0 := x1.cell e1_0; replace e1_1 := x1.cell e1_1; replace e1_2 := x1.cell e1_2; replace e1_3 := x1.cell e1_3; replace e1_4 := x1.cell e1_4; replace e1_5 := x1.cell e1_5; replace e2_0 := x1.cell e2_0; replace e2_1 := x1.cell e2_1; replace e2_2 := x1.cell e2_2
  go_wp2_with fail
  refine (few6_yes (by omega) (by omega) (by omega) (by omega) (by omega) (by omega) (by omega) (by omega) HF.out).mono ?_
  rintro e w2 ⟨rfl, x2⟩
  replace e0_0 := x2.cell e0_0; replace e0_1 := x2.cell e0_1; replace e0_2 := x2.cell e0_2; replace e0_3 := x2.cell e0_3; replace e0_4 := x2.cell e0_4; replace e0_5 := x2.cell e0_5; replace e1_0 := x2.cell e1_0; replace e1_1 := x2.cell e1_1; replace e1_2 := x2.cell e1_2; replace e1_3 := x2.cell e1_3; replace e1_4 := x2.cell e1_4; replace e1_5 := x2.cell e1_5; replace e2_0 := x2.cell e2_0; replace e2_1 := x2.cell e2_1; replace e2_2 := x2.cell e2_2
  go_wp2_with fail
  refine (small_is (by omega) (by omega) HG5.out).mono ?_
  rintro e w3 ⟨rfl, x3⟩
  replace e0_0 := x3.cell e0_0; replace e0_1 := x3.cell e0_1; replace e0_2 := x3.cell e0_2; replace e0_3 := x3.cell e0_3; replace e0_4 := x3.cell e0_4; replace e0_5 := x3.cell e0_5; replace e1_0 := x3.cell e1_0; replace e1_1 := x3.cell e1_1; replace e1_2 := x3.cell e1_2; replace e1_3 := x3.cell e1_3; replace e1_4 := x3.cell e1_4; replace e1_5 := x3.cell e1_5; replace e2_0 := x3.cell e2_0; replace e2_1 := x3.cell e2_1; replace e2_2 := x3.cell e2_2
  clear hsz HF HG5
  go_wp2_with fail
  go_cut [7, 8] (fun s7 s8 wx => PutJ w3 wx 128 (minQ q1 q2) (maxQ q1 q2) s7 ∧ PutJ w3 wx 128 (minQ q3 q4) (maxQ q3 q4) s8)
  case first =>
    have HK : Hid (∀ w', Ext w3 w' → Ext w3 w' ∧ w'.cell? ⟨w.heap.size, 0, none⟩ = some (.bool s1) ∧ w'.cell? ⟨w.heap.size, 1, none⟩ = some (.slice A1 L1 c1) ∧ w'.cell? ⟨w.heap.size, 2, none⟩ = some (.slice B1 M1 d1) ∧ w'.cell? ⟨w.heap.size, 3, none⟩ = some (.bool s2) ∧ w'.cell? ⟨w.heap.size, 4, none⟩ = some (.slice A2 L2 c2) ∧ w'.cell? ⟨w.heap.size, 5, none⟩ = some (.slice B2 M2 d2) ∧ w'.cell? ⟨w.heap.size + 1, 0, none⟩ = some (.bool s3) ∧ w'.cell? ⟨w.heap.size + 1, 1, none⟩ = some (.slice A3 L3 c3) ∧ w'.cell? ⟨w.heap.size + 1, 2, none⟩ = some (.slice B3 M3 d3) ∧ w'.cell? ⟨w.heap.size + 1, 3, none⟩ = some (.bool s4) ∧ w'.cell? ⟨w.heap.size + 1, 4, none⟩ = some (.slice A4 L4 c4) ∧ w'.cell? ⟨w.heap.size + 1, 5, none⟩ = some (.slice B4 M4 d4)) := fun w' hk => ⟨hk, hk.cell e0_0, hk.cell e0_1, hk.cell e0_2, hk.cell e0_3, hk.cell e0_4, hk.cell e0_5, hk.cell e1_0, hk.cell e1_1, hk.cell e1_2, hk.cell e1_3, hk.cell e1_4, hk.cell e1_5⟩
    first
    | go_region_held3 (fun w' => Ext w3 w' ∧ w'.cell? ⟨w.heap.size, 0, none⟩ = some (.bool s1) ∧ w'.cell? ⟨w.heap.size, 1, none⟩ = some (.slice A1 L1 c1) ∧ w'.cell? ⟨w.heap.size, 2, none⟩ = some (.slice B1 M1 d1) ∧ w'.cell? ⟨w.heap.size, 3, none⟩ = some (.bool s2) ∧ w'.cell? ⟨w.heap.size, 4, none⟩ = some (.slice A2 L2 c2) ∧ w'.cell? ⟨w.heap.size, 5, none⟩ = some (.slice B2 M2 d2) ∧ w'.cell? ⟨w.heap.size + 1, 0, none⟩ = some (.bool s3) ∧ w'.cell? ⟨w.heap.size + 1, 1, none⟩ = some (.slice A3 L3 c3) ∧ w'.cell? ⟨w.heap.size + 1, 2, none⟩ = some (.slice B3 M3 d3) ∧ w'.cell? ⟨w.heap.size + 1, 3, none⟩ = some (.bool s4) ∧ w'.cell? ⟨w.heap.size + 1, 4, none⟩ = some (.slice A4 L4 c4) ∧ w'.cell? ⟨w.heap.size + 1, 5, none⟩ = some (.slice B4 M4 d4))
        ((with_reducible refine HK.out _ ?_; (repeat' first | (with_reducible first | exact Ext.refl _ | assumption | apply Ext.alloc_r | apply Ext.drew_r | apply Ext.drewN_r | apply Ext.set_r | exact Nat.le_refl _) | omega | with_reducible refine Ext.trans ?_ ‹Ext _ _›)))
        (first
          | (go_at_call_of 10 (#[Value.agg #[Value.bool s3, Value.slice A3 L3 c3, Value.slice B3 M3 d3, Value.bool s4, Value.slice A4 L4 c4, Value.slice B4 M4 d4]]); have hgd := oxa; clear hgd; refine (HO3.out _ (by with_reducible repeat' first | exact Ext.refl _ | assumption | apply Ext.alloc_r | apply Ext.drew_r | apply Ext.drewN_r | refine Ext.trans ?_ ‹Ext _ _›)).mono ?_; rintro e w5 ⟨goya, Aoya, coya, Loya, hoya, Boya, doya, Moya, goyb, Aoyb, coyb, Loyb, hoyb, Boyb, doyb, Moyb, rfl, oya, oyb, x5⟩; (have zs5 := x5.size); (try simp only [World.size_alloc] at zs5); (try ((with_reducible have h5_0 := box_ext (vs := #[.int .i64 0, .slice none 0 0, .int .i64 0, .slice none 0 0, .int .i64 0, .slice none 0 0, .int .i64 0, .slice none 0 0]) x5); have h5_0c0 := (h5_0.1 0 (.int .i64 0) rfl).1; have h5_0f0 := (h5_0.1 0 (.int .i64 0) rfl).2; have h5_0c1 := (h5_0.1 1 (.slice none 0 0) rfl).1; have h5_0f1 := (h5_0.1 1 (.slice none 0 0) rfl).2; have h5_0c2 := (h5_0.1 2 (.int .i64 0) rfl).1; have h5_0f2 := (h5_0.1 2 (.int .i64 0) rfl).2; have h5_0c3 := (h5_0.1 3 (.slice none 0 0) rfl).1; have h5_0f3 := (h5_0.1 3 (.slice none 0 0) rfl).2; have h5_0c4 := (h5_0.1 4 (.int .i64 0) rfl).1; have h5_0f4 := (h5_0.1 4 (.int .i64 0) rfl).2; have h5_0c5 := (h5_0.1 5 (.slice none 0 0) rfl).1; have h5_0f5 := (h5_0.1 5 (.slice none 0 0) rfl).2; have h5_0c6 := (h5_0.1 6 (.int .i64 0) rfl).1; have h5_0f6 := (h5_0.1 6 (.int .i64 0) rfl).2; have h5_0c7 := (h5_0.1 7 (.slice none 0 0) rfl).1; have h5_0f7 := (h5_0.1 7 (.slice none 0 0) rfl).2; have h5_0b := h5_0.2.1; have h5_0z := h5_0.2.2; (try simp only [World.size_alloc] at h5_0b h5_0z h5_0c0 h5_0f0 h5_0c1 h5_0f1 h5_0c2 h5_0f2 h5_0c3 h5_0f3 h5_0c4 h5_0f4 h5_0c5 h5_0f5 h5_0c6 h5_0f6 h5_0c7 h5_0f7); have h5_0m := Nat.ne_of_lt h5_0z; have h5_0n := Nat.ne_of_gt h5_0z; clear h5_0)); (try ((with_reducible have h5_1 := box_ext (vs := #[.int .i64 0, .slice none 0 0, .int .i64 0, .slice none 0 0, .int .i64 0, .slice none 0 0, .int .i64 0, .slice none 0 0]) ((Ext.alloc _ _).trans x5)); have h5_1c0 := (h5_1.1 0 (.int .i64 0) rfl).1; have h5_1f0 := (h5_1.1 0 (.int .i64 0) rfl).2; have h5_1c1 := (h5_1.1 1 (.slice none 0 0) rfl).1; have h5_1f1 := (h5_1.1 1 (.slice none 0 0) rfl).2; have h5_1c2 := (h5_1.1 2 (.int .i64 0) rfl).1; have h5_1f2 := (h5_1.1 2 (.int .i64 0) rfl).2; have h5_1c3 := (h5_1.1 3 (.slice none 0 0) rfl).1; have h5_1f3 := (h5_1.1 3 (.slice none 0 0) rfl).2; have h5_1c4 := (h5_1.1 4 (.int .i64 0) rfl).1; have h5_1f4 := (h5_1.1 4 (.int .i64 0) rfl).2; have h5_1c5 := (h5_1.1 5 (.slice none 0 0) rfl).1; have h5_1f5 := (h5_1.1 5 (.slice none 0 0) rfl).2; have h5_1c6 := (h5_1.1 6 (.int .i64 0) rfl).1; have h5_1f6 := (h5_1.1 6 (.int .i64 0) rfl).2; have h5_1c7 := (h5_1.1 7 (.slice none 0 0) rfl).1; have h5_1f7 := (h5_1.1 7 (.slice none 0 0) rfl).2; have h5_1b := h5_1.2.1; have h5_1z := h5_1.2.2; (try simp only [World.size_alloc] at h5_1b h5_1z h5_1c0 h5_1f0 h5_1c1 h5_1f1 h5_1c2 h5_1f2 h5_1c3 h5_1f3 h5_1c4 h5_1f4 h5_1c5 h5_1f5 h5_1c6 h5_1f6 h5_1c7 h5_1f7); have h5_1m := Nat.ne_of_lt h5_1z; have h5_1n := Nat.ne_of_gt h5_1z; clear h5_1)); (try (have hh : Ext w4 w5 := ?g500; (case g500 => ((with_reducible repeat' first | exact Ext.refl _ | assumption | apply Ext.alloc_r | apply Ext.drew_r | apply Ext.drewN_r | refine Ext.trans ?_ ‹Ext _ _›); done)); replace h4_0f0 := hh.frozen h4_0c0 h4_0f0; replace h4_0c0 := hh.cell h4_0c0; replace h4_0f1 := hh.frozen h4_0c1 h4_0f1; replace h4_0c1 := hh.cell h4_0c1; replace h4_0f2 := hh.frozen h4_0c2 h4_0f2; replace h4_0c2 := hh.cell h4_0c2; replace h4_0f3 := hh.frozen h4_0c3 h4_0f3; replace h4_0c3 := hh.cell h4_0c3; replace h4_0f4 := hh.frozen h4_0c4 h4_0f4; replace h4_0c4 := hh.cell h4_0c4; replace h4_0f5 := hh.frozen h4_0c5 h4_0f5; replace h4_0c5 := hh.cell h4_0c5; replace h4_0f6 := hh.frozen h4_0c6 h4_0f6; replace h4_0c6 := hh.cell h4_0c6; replace h4_0f7 := hh.frozen h4_0c7 h4_0f7; replace h4_0c7 := hh.cell h4_0c7; replace h4_0b := h4_0b.ext hh; have h4_0z2 := Nat.lt_of_lt_of_le h4_0z hh.size; have h4_0m2 := Nat.ne_of_lt h4_0z2; have h4_0n2 := Nat.ne_of_gt h4_0z2; clear hh)); (try (have hh : Ext w4 w5 := ?g501; (case g501 => ((with_reducible repeat' first | exact Ext.refl _ | assumption | apply Ext.alloc_r | apply Ext.drew_r | apply Ext.drewN_r | refine Ext.trans ?_ ‹Ext _ _›); done)); replace h4_1f0 := hh.frozen h4_1c0 h4_1f0; replace h4_1c0 := hh.cell h4_1c0; replace h4_1f1 := hh.frozen h4_1c1 h4_1f1; replace h4_1c1 := hh.cell h4_1c1; replace h4_1f2 := hh.frozen h4_1c2 h4_1f2; replace h4_1c2 := hh.cell h4_1c2; replace h4_1f3 := hh.frozen h4_1c3 h4_1f3; replace h4_1c3 := hh.cell h4_1c3; replace h4_1f4 := hh.frozen h4_1c4 h4_1f4; replace h4_1c4 := hh.cell h4_1c4; replace h4_1f5 := hh.frozen h4_1c5 h4_1f5; replace h4_1c5 := hh.cell h4_1c5; replace h4_1f6 := hh.frozen h4_1c6 h4_1f6; replace h4_1c6 := hh.cell h4_1c6; replace h4_1f7 := hh.frozen h4_1c7 h4_1f7; replace h4_1c7 := hh.cell h4_1c7; replace h4_1b := h4_1b.ext hh; have h4_1z2 := Nat.lt_of_lt_of_le h4_1z hh.size; have h4_1m2 := Nat.ne_of_lt h4_1z2; have h4_1n2 := Nat.ne_of_gt h4_1z2; clear hh)))
          | (go_at_call_of 10 (#[Value.agg #[Value.bool s1, Value.slice A1 L1 c1, Value.slice B1 M1 d1, Value.bool s2, Value.slice A2 L2 c2, Value.slice B2 M2 d2]]); refine (HO1.out _ (by with_reducible repeat' first | exact Ext.refl _ | assumption | apply Ext.alloc_r | apply Ext.drew_r | apply Ext.drewN_r | refine Ext.trans ?_ ‹Ext _ _›)).mono ?_; rintro e w4 ⟨goxa, Aoxa, coxa, Loxa, hoxa, Boxa, doxa, Moxa, goxb, Aoxb, coxb, Loxb, hoxb, Boxb, doxb, Moxb, rfl, oxa, oxb, x4⟩; (have zs4 := x4.size); (try simp only [World.size_alloc, World.size_drew] at zs4); (try ((with_reducible have h4_0 := box_ext (vs := #[.int .i64 0, .slice none 0 0, .int .i64 0, .slice none 0 0, .int .i64 0, .slice none 0 0, .int .i64 0, .slice none 0 0]) ((Ext.drew _).trans x4)); have h4_0c0 := (h4_0.1 0 (.int .i64 0) rfl).1; have h4_0f0 := (h4_0.1 0 (.int .i64 0) rfl).2; have h4_0c1 := (h4_0.1 1 (.slice none 0 0) rfl).1; have h4_0f1 := (h4_0.1 1 (.slice none 0 0) rfl).2; have h4_0c2 := (h4_0.1 2 (.int .i64 0) rfl).1; have h4_0f2 := (h4_0.1 2 (.int .i64 0) rfl).2; have h4_0c3 := (h4_0.1 3 (.slice none 0 0) rfl).1; have h4_0f3 := (h4_0.1 3 (.slice none 0 0) rfl).2; have h4_0c4 := (h4_0.1 4 (.int .i64 0) rfl).1; have h4_0f4 := (h4_0.1 4 (.int .i64 0) rfl).2; have h4_0c5 := (h4_0.1 5 (.slice none 0 0) rfl).1; have h4_0f5 := (h4_0.1 5 (.slice none 0 0) rfl).2; have h4_0c6 := (h4_0.1 6 (.int .i64 0) rfl).1; have h4_0f6 := (h4_0.1 6 (.int .i64 0) rfl).2; have h4_0c7 := (h4_0.1 7 (.slice none 0 0) rfl).1; have h4_0f7 := (h4_0.1 7 (.slice none 0 0) rfl).2; have h4_0b := h4_0.2.1; have h4_0z := h4_0.2.2; (try simp only [World.size_alloc] at h4_0b h4_0z h4_0c0 h4_0f0 h4_0c1 h4_0f1 h4_0c2 h4_0f2 h4_0c3 h4_0f3 h4_0c4 h4_0f4 h4_0c5 h4_0f5 h4_0c6 h4_0f6 h4_0c7 h4_0f7); have h4_0m := Nat.ne_of_lt h4_0z; have h4_0n := Nat.ne_of_gt h4_0z; clear h4_0)); (try ((with_reducible have h4_1 := box_ext (vs := #[.int .i64 0, .slice none 0 0, .int .i64 0, .slice none 0 0, .int .i64 0, .slice none 0 0, .int .i64 0, .slice none 0 0]) (((Ext.alloc _ _).trans (Ext.drew _)).trans x4)); have h4_1c0 := (h4_1.1 0 (.int .i64 0) rfl).1; have h4_1f0 := (h4_1.1 0 (.int .i64 0) rfl).2; have h4_1c1 := (h4_1.1 1 (.slice none 0 0) rfl).1; have h4_1f1 := (h4_1.1 1 (.slice none 0 0) rfl).2; have h4_1c2 := (h4_1.1 2 (.int .i64 0) rfl).1; have h4_1f2 := (h4_1.1 2 (.int .i64 0) rfl).2; have h4_1c3 := (h4_1.1 3 (.slice none 0 0) rfl).1; have h4_1f3 := (h4_1.1 3 (.slice none 0 0) rfl).2; have h4_1c4 := (h4_1.1 4 (.int .i64 0) rfl).1; have h4_1f4 := (h4_1.1 4 (.int .i64 0) rfl).2; have h4_1c5 := (h4_1.1 5 (.slice none 0 0) rfl).1; have h4_1f5 := (h4_1.1 5 (.slice none 0 0) rfl).2; have h4_1c6 := (h4_1.1 6 (.int .i64 0) rfl).1; have h4_1f6 := (h4_1.1 6 (.int .i64 0) rfl).2; have h4_1c7 := (h4_1.1 7 (.slice none 0 0) rfl).1; have h4_1f7 := (h4_1.1 7 (.slice none 0 0) rfl).2; have h4_1b := h4_1.2.1; have h4_1z := h4_1.2.2; (try simp only [World.size_alloc] at h4_1b h4_1z h4_1c0 h4_1f0 h4_1c1 h4_1f1 h4_1c2 h4_1f2 h4_1c3 h4_1f3 h4_1c4 h4_1f4 h4_1c5 h4_1f5 h4_1c6 h4_1f6 h4_1c7 h4_1f7); have h4_1m := Nat.ne_of_lt h4_1z; have h4_1n := Nat.ne_of_gt h4_1z; clear h4_1))))
    all_goals (clear HK; go_wp2_with fail; go_meet)
    all_goals
      refine ⟨?_, ?_⟩
      · refine PutJ.mk (g := goxa) (A := Aoxa) (c := coxa) (L := Loxa) (h := hoxa) (B := Boxa) (d := doxa) (M := Moxa) (g' := goxb) (A' := Aoxb) (c' := coxb) (L' := Loxb) (h' := hoxb) (B' := Boxb) (d' := doxb) (M' := Moxb) ?_ (oxa.kept ?_) (oxb.kept ?_) ?_
        · refine Bx.mk8 ?_ ?_ ?_ ?_ ?_ ?_ ?_ ?_
          · go_simp
          · go_simp
          · go_simp
          · go_simp
          · go_simp
          · go_simp
          · go_simp
          · go_simp
        · (repeat' (first | with_reducible exact Kept.refl _ | with_reducible apply Kept.alloc_r | with_reducible apply Kept.drew_r | (with_reducible apply Kept.set8J_r; (case hb => ((repeat' (first | with_reducible apply IsBox.set8_ | with_reducible assumption | with_reducible apply IsBox.set_ | (with_reducible apply IsBox.new; (first | (with_reducible rfl) | simp); done) | with_reducible apply IsBox.alloc_ | with_reducible apply IsBox.drew_ | with_reducible refine IsBox.ext ?_ ‹Ext _ _›)); done))) | (with_reducible apply Kept.setJ; (case hb => ((with_reducible repeat' first | assumption | apply IsBox.set_ | (apply IsBox.new; (first | rfl | simp); done) | apply IsBox.alloc_ | apply IsBox.drew_ | refine IsBox.ext ?_ ‹Ext _ _›); done))) | (with_reducible apply Kept.setQ; (case hb => ((with_reducible repeat' first | assumption | apply IsBox.set_ | (apply IsBox.new; (first | rfl | simp); done) | apply IsBox.alloc_ | apply IsBox.drew_ | refine IsBox.ext ?_ ‹Ext _ _›); done))) | (with_reducible apply Kept.setR; (case hb => ((with_reducible repeat' first | assumption | apply IsBox.set_ | (apply IsBox.new; (first | rfl | simp); done) | apply IsBox.alloc_ | apply IsBox.drew_ | refine IsBox.ext ?_ ‹Ext _ _›); done))) | (with_reducible apply Kept.setZ; (case hb => ((with_reducible repeat' first | assumption | apply IsBox.set_ | (apply IsBox.new; (first | rfl | simp); done) | apply IsBox.alloc_ | apply IsBox.drew_ | refine IsBox.ext ?_ ‹Ext _ _›); done))) | (with_reducible apply Kept.setI; (case hb => ((with_reducible repeat' first | assumption | apply IsBox.set_ | (apply IsBox.new; (first | rfl | simp); done) | apply IsBox.alloc_ | apply IsBox.drew_ | refine IsBox.ext ?_ ‹Ext _ _›); done))) | with_reducible refine Kept.trans ?_ (Ext.kept ‹Ext _ _›)))
        · (repeat' (first | with_reducible exact Kept.refl _ | with_reducible apply Kept.alloc_r | with_reducible apply Kept.drew_r | (with_reducible apply Kept.set8J_r; (case hb => ((repeat' (first | with_reducible apply IsBox.set8_ | with_reducible assumption | with_reducible apply IsBox.set_ | (with_reducible apply IsBox.new; (first | (with_reducible rfl) | simp); done) | with_reducible apply IsBox.alloc_ | with_reducible apply IsBox.drew_ | with_reducible refine IsBox.ext ?_ ‹Ext _ _›)); done))) | (with_reducible apply Kept.setJ; (case hb => ((with_reducible repeat' first | assumption | apply IsBox.set_ | (apply IsBox.new; (first | rfl | simp); done) | apply IsBox.alloc_ | apply IsBox.drew_ | refine IsBox.ext ?_ ‹Ext _ _›); done))) | (with_reducible apply Kept.setQ; (case hb => ((with_reducible repeat' first | assumption | apply IsBox.set_ | (apply IsBox.new; (first | rfl | simp); done) | apply IsBox.alloc_ | apply IsBox.drew_ | refine IsBox.ext ?_ ‹Ext _ _›); done))) | (with_reducible apply Kept.setR; (case hb => ((with_reducible repeat' first | assumption | apply IsBox.set_ | (apply IsBox.new; (first | rfl | simp); done) | apply IsBox.alloc_ | apply IsBox.drew_ | refine IsBox.ext ?_ ‹Ext _ _›); done))) | (with_reducible apply Kept.setZ; (case hb => ((with_reducible repeat' first | assumption | apply IsBox.set_ | (apply IsBox.new; (first | rfl | simp); done) | apply IsBox.alloc_ | apply IsBox.drew_ | refine IsBox.ext ?_ ‹Ext _ _›); done))) | (with_reducible apply Kept.setI; (case hb => ((with_reducible repeat' first | assumption | apply IsBox.set_ | (apply IsBox.new; (first | rfl | simp); done) | apply IsBox.alloc_ | apply IsBox.drew_ | refine IsBox.ext ?_ ‹Ext _ _›); done))) | with_reducible refine Kept.trans ?_ (Ext.kept ‹Ext _ _›)))
        · (repeat' first | (with_reducible first | exact Ext.refl _ | assumption | apply Ext.alloc_r | apply Ext.drew_r | apply Ext.drewN_r | apply Ext.set_r | exact Nat.le_refl _) | omega | with_reducible refine Ext.trans ?_ ‹Ext _ _›)
      · refine PutJ.mk (g := goya) (A := Aoya) (c := coya) (L := Loya) (h := hoya) (B := Boya) (d := doya) (M := Moya) (g' := goyb) (A' := Aoyb) (c' := coyb) (L' := Loyb) (h' := hoyb) (B' := Boyb) (d' := doyb) (M' := Moyb) ?_ (oya.kept ?_) (oyb.kept ?_) ?_
        · refine Bx.mk8 ?_ ?_ ?_ ?_ ?_ ?_ ?_ ?_
          · go_simp
          · go_simp
          · go_simp
          · go_simp
          · go_simp
          · go_simp
          · go_simp
          · go_simp
        · (repeat' (first | with_reducible exact Kept.refl _ | with_reducible apply Kept.alloc_r | with_reducible apply Kept.drew_r | (with_reducible apply Kept.set8J_r; (case hb => ((repeat' (first | with_reducible apply IsBox.set8_ | with_reducible assumption | with_reducible apply IsBox.set_ | (with_reducible apply IsBox.new; (first | (with_reducible rfl) | simp); done) | with_reducible apply IsBox.alloc_ | with_reducible apply IsBox.drew_ | with_reducible refine IsBox.ext ?_ ‹Ext _ _›)); done))) | (with_reducible apply Kept.setJ; (case hb => ((with_reducible repeat' first | assumption | apply IsBox.set_ | (apply IsBox.new; (first | rfl | simp); done) | apply IsBox.alloc_ | apply IsBox.drew_ | refine IsBox.ext ?_ ‹Ext _ _›); done))) | (with_reducible apply Kept.setQ; (case hb => ((with_reducible repeat' first | assumption | apply IsBox.set_ | (apply IsBox.new; (first | rfl | simp); done) | apply IsBox.alloc_ | apply IsBox.drew_ | refine IsBox.ext ?_ ‹Ext _ _›); done))) | (with_reducible apply Kept.setR; (case hb => ((with_reducible repeat' first | assumption | apply IsBox.set_ | (apply IsBox.new; (first | rfl | simp); done) | apply IsBox.alloc_ | apply IsBox.drew_ | refine IsBox.ext ?_ ‹Ext _ _›); done))) | (with_reducible apply Kept.setZ; (case hb => ((with_reducible repeat' first | assumption | apply IsBox.set_ | (apply IsBox.new; (first | rfl | simp); done) | apply IsBox.alloc_ | apply IsBox.drew_ | refine IsBox.ext ?_ ‹Ext _ _›); done))) | (with_reducible apply Kept.setI; (case hb => ((with_reducible repeat' first | assumption | apply IsBox.set_ | (apply IsBox.new; (first | rfl | simp); done) | apply IsBox.alloc_ | apply IsBox.drew_ | refine IsBox.ext ?_ ‹Ext _ _›); done))) | with_reducible refine Kept.trans ?_ (Ext.kept ‹Ext _ _›)))
        · (repeat' (first | with_reducible exact Kept.refl _ | with_reducible apply Kept.alloc_r | with_reducible apply Kept.drew_r | (with_reducible apply Kept.set8J_r; (case hb => ((repeat' (first | with_reducible apply IsBox.set8_ | with_reducible assumption | with_reducible apply IsBox.set_ | (with_reducible apply IsBox.new; (first | (with_reducible rfl) | simp); done) | with_reducible apply IsBox.alloc_ | with_reducible apply IsBox.drew_ | with_reducible refine IsBox.ext ?_ ‹Ext _ _›)); done))) | (with_reducible apply Kept.setJ; (case hb => ((with_reducible repeat' first | assumption | apply IsBox.set_ | (apply IsBox.new; (first | rfl | simp); done) | apply IsBox.alloc_ | apply IsBox.drew_ | refine IsBox.ext ?_ ‹Ext _ _›); done))) | (with_reducible apply Kept.setQ; (case hb => ((with_reducible repeat' first | assumption | apply IsBox.set_ | (apply IsBox.new; (first | rfl | simp); done) | apply IsBox.alloc_ | apply IsBox.drew_ | refine IsBox.ext ?_ ‹Ext _ _›); done))) | (with_reducible apply Kept.setR; (case hb => ((with_reducible repeat' first | assumption | apply IsBox.set_ | (apply IsBox.new; (first | rfl | simp); done) | apply IsBox.alloc_ | apply IsBox.drew_ | refine IsBox.ext ?_ ‹Ext _ _›); done))) | (with_reducible apply Kept.setZ; (case hb => ((with_reducible repeat' first | assumption | apply IsBox.set_ | (apply IsBox.new; (first | rfl | simp); done) | apply IsBox.alloc_ | apply IsBox.drew_ | refine IsBox.ext ?_ ‹Ext _ _›); done))) | (with_reducible apply Kept.setI; (case hb => ((with_reducible repeat' first | assumption | apply IsBox.set_ | (apply IsBox.new; (first | rfl | simp); done) | apply IsBox.alloc_ | apply IsBox.drew_ | refine IsBox.ext ?_ ‹Ext _ _›); done))) | with_reducible refine Kept.trans ?_ (Ext.kept ‹Ext _ _›)))
        · (repeat' first | (with_reducible first | exact Ext.refl _ | assumption | apply Ext.alloc_r | apply Ext.drew_r | apply Ext.drewN_r | apply Ext.set_r | exact Nat.le_refl _) | omega | with_reducible refine Ext.trans ?_ ‹Ext _ _›)
  case rest =>
    have hcw := hcut
    obtain ⟨hc_0, hc_1⟩ := hcw
    obtain ⟨gxa, Axa, cxa, Lxa, hxa, Bxa, dxa, Mxa, gxb, Axb, cxb, Lxb, hxb, Bxb, dxb, Mxb, ⟨bkx, rfl, ccx⟩, xa, xb, xxx⟩ := hc_0
    obtain ⟨gya, Aya, cya, Lya, hya, Bya, dya, Mya, gyb, Ayb, cyb, Lyb, hyb, Byb, dyb, Myb, ⟨bky, rfl, ccy⟩, ya, yb, xxy⟩ := hc_1
    have x6 := xxx
    clear xxx
    clear xxy
    obtain ⟨wc6, rfl⟩ : ∃ z : World, z = wc := ⟨_, rfl⟩
    replace e0_0 := x6.cell e0_0; replace e0_1 := x6.cell e0_1; replace e0_2 := x6.cell e0_2; replace e0_3 := x6.cell e0_3; replace e0_4 := x6.cell e0_4; replace e0_5 := x6.cell e0_5; replace e1_0 := x6.cell e1_0; replace e1_1 := x6.cell e1_1; replace e1_2 := x6.cell e1_2; replace e1_3 := x6.cell e1_3; replace e1_4 := x6.cell e1_4; replace e1_5 := x6.cell e1_5; replace e2_0 := x6.cell e2_0; replace e2_1 := x6.cell e2_1; replace e2_2 := x6.cell e2_2
    have x_0 := ccx 0 (.int .i64 gxa) rfl
    have x_1 := ccx 1 (.slice Axa Lxa cxa) rfl
    have x_2 := ccx 2 (.int .i64 hxa) rfl
    have x_3 := ccx 3 (.slice Bxa Mxa dxa) rfl
    have x_4 := ccx 4 (.int .i64 gxb) rfl
    have x_5 := ccx 5 (.slice Axb Lxb cxb) rfl
    have x_6 := ccx 6 (.int .i64 hxb) rfl
    have x_7 := ccx 7 (.slice Bxb Mxb dxb) rfl
    clear ccx
    have y_0 := ccy 0 (.int .i64 gya) rfl
    have y_1 := ccy 1 (.slice Aya Lya cya) rfl
    have y_2 := ccy 2 (.int .i64 hya) rfl
    have y_3 := ccy 3 (.slice Bya Mya dya) rfl
    have y_4 := ccy 4 (.int .i64 gyb) rfl
    have y_5 := ccy 5 (.slice Ayb Lyb cyb) rfl
    have y_6 := ccy 6 (.int .i64 hyb) rfl
    have y_7 := ccy 7 (.slice Byb Myb dyb) rfl
    clear ccy
    go_wp2_with fail
    refine (iwidth_r (e1.ext (by with_reducible repeat' first | exact Ext.refl _ | assumption | apply Ext.alloc_r | apply Ext.drew_r | apply Ext.drewN_r | refine Ext.trans ?_ ‹Ext _ _›)) (e2.ext (by with_reducible repeat' first | exact Ext.refl _ | assumption | apply Ext.alloc_r | apply Ext.drew_r | apply Ext.drewN_r | refine Ext.trans ?_ ‹Ext _ _›)) (by omega)).mono ?_
    rintro e w7 ⟨swd, Awd, cwd, Lwd, Bwd, dwd, Mwd, rfl, wd, x7⟩
    replace e0_0 := x7.cell e0_0; replace e0_1 := x7.cell e0_1; replace e0_2 := x7.cell e0_2; replace e0_3 := x7.cell e0_3; replace e0_4 := x7.cell e0_4; replace e0_5 := x7.cell e0_5; replace e1_0 := x7.cell e1_0; replace e1_1 := x7.cell e1_1; replace e1_2 := x7.cell e1_2; replace e1_3 := x7.cell e1_3; replace e1_4 := x7.cell e1_4; replace e1_5 := x7.cell e1_5; replace e2_0 := x7.cell e2_0; replace e2_1 := x7.cell e2_1; replace e2_2 := x7.cell e2_2; replace x_0 := x7.cell x_0; replace x_1 := x7.cell x_1; replace x_2 := x7.cell x_2; replace x_3 := x7.cell x_3; replace x_4 := x7.cell x_4; replace x_5 := x7.cell x_5; replace x_6 := x7.cell x_6; replace x_7 := x7.cell x_7; replace y_0 := x7.cell y_0; replace y_1 := x7.cell y_1; replace y_2 := x7.cell y_2; replace y_3 := x7.cell y_3; replace y_4 := x7.cell y_4; replace y_5 := x7.cell y_5; replace y_6 := x7.cell y_6; replace y_7 := x7.cell y_7
    have HWD := Lib.hid wd
    clear wd
    have te0_0 := fun o => (Ext.alloc w7 o).cell e0_0; have te0_1 := fun o => (Ext.alloc w7 o).cell e0_1; have te0_2 := fun o => (Ext.alloc w7 o).cell e0_2; have te0_3 := fun o => (Ext.alloc w7 o).cell e0_3; have te0_4 := fun o => (Ext.alloc w7 o).cell e0_4; have te0_5 := fun o => (Ext.alloc w7 o).cell e0_5; have te1_0 := fun o => (Ext.alloc w7 o).cell e1_0; have te1_1 := fun o => (Ext.alloc w7 o).cell e1_1; have te1_2 := fun o => (Ext.alloc w7 o).cell e1_2; have te1_3 := fun o => (Ext.alloc w7 o).cell e1_3; have te1_4 := fun o => (Ext.alloc w7 o).cell e1_4; have te1_5 := fun o => (Ext.alloc w7 o).cell e1_5; have te2_0 := fun o => (Ext.alloc w7 o).cell e2_0; have te2_1 := fun o => (Ext.alloc w7 o).cell e2_1; have te2_2 := fun o => (Ext.alloc w7 o).cell e2_2; have tx_0 := fun o => (Ext.alloc w7 o).cell x_0; have tx_1 := fun o => (Ext.alloc w7 o).cell x_1; have tx_2 := fun o => (Ext.alloc w7 o).cell x_2; have tx_3 := fun o => (Ext.alloc w7 o).cell x_3; have tx_4 := fun o => (Ext.alloc w7 o).cell x_4; have tx_5 := fun o => (Ext.alloc w7 o).cell x_5; have tx_6 := fun o => (Ext.alloc w7 o).cell x_6; have tx_7 := fun o => (Ext.alloc w7 o).cell x_7; have ty_0 := fun o => (Ext.alloc w7 o).cell y_0; have ty_1 := fun o => (Ext.alloc w7 o).cell y_1; have ty_2 := fun o => (Ext.alloc w7 o).cell y_2; have ty_3 := fun o => (Ext.alloc w7 o).cell y_3; have ty_4 := fun o => (Ext.alloc w7 o).cell y_4; have ty_5 := fun o => (Ext.alloc w7 o).cell y_5; have ty_6 := fun o => (Ext.alloc w7 o).cell y_6; have ty_7 := fun o => (Ext.alloc w7 o).cell y_7
    go_wp2_with fail
    clear te0_0 te0_1 te0_2 te0_3 te0_4 te0_5 te1_0 te1_1 te1_2 te1_3 te1_4 te1_5 te2_0 te2_1 te2_2 tx_0 tx_1 tx_2 tx_3 tx_4 tx_5 tx_6 tx_7 ty_0 ty_1 ty_2 ty_3 ty_4 ty_5 ty_6 ty_7
    obtain ⟨w8, hw⟩ : ∃ z : World, z = (w7.alloc (.cells #[.bool swd, .slice Awd Lwd cwd, .slice Bwd Mwd dwd] 27)) := ⟨_, rfl⟩
    rw [← hw]
    have x8 : Ext w7 w8 := by rw [hw]; exact Ext.alloc _ _
    have bb := box_at w7 #[.bool swd, .slice Awd Lwd cwd, .slice Bwd Mwd dwd] 27
    rw [← hw] at bb
    replace e0_0 := x8.cell e0_0; replace e0_1 := x8.cell e0_1; replace e0_2 := x8.cell e0_2; replace e0_3 := x8.cell e0_3; replace e0_4 := x8.cell e0_4; replace e0_5 := x8.cell e0_5; replace e1_0 := x8.cell e1_0; replace e1_1 := x8.cell e1_1; replace e1_2 := x8.cell e1_2; replace e1_3 := x8.cell e1_3; replace e1_4 := x8.cell e1_4; replace e1_5 := x8.cell e1_5; replace e2_0 := x8.cell e2_0; replace e2_1 := x8.cell e2_1; replace e2_2 := x8.cell e2_2; replace x_0 := x8.cell x_0; replace x_1 := x8.cell x_1; replace x_2 := x8.cell x_2; replace x_3 := x8.cell x_3; replace x_4 := x8.cell x_4; replace x_5 := x8.cell x_5; replace x_6 := x8.cell x_6; replace x_7 := x8.cell x_7; replace y_0 := x8.cell y_0; replace y_1 := x8.cell y_1; replace y_2 := x8.cell y_2; replace y_3 := x8.cell y_3; replace y_4 := x8.cell y_4; replace y_5 := x8.cell y_5; replace y_6 := x8.cell y_6; replace y_7 := x8.cell y_7
    have wd_0 := bb.1 0 (.bool swd) rfl
    have wd_1 := bb.1 1 (.slice Awd Lwd cwd) rfl
    have wd_2 := bb.1 2 (.slice Bwd Mwd dwd) rfl
    clear hw bb
    have wd := HWD.out
    go_wp2_with fail
    go_cut [10] (fun s10 wx => PutQ w8 wx 257 (maxQ q1 q2 + -minQ q1 q2) s10)
    case first => as_aux_lemma =>
      have HK : Hid (∀ w', Ext w8 w' → Ext w8 w' ∧ w'.cell? ⟨bkx, 0, none⟩ = some (.int .i64 gxa) ∧ w'.cell? ⟨bkx, 1, none⟩ = some (.slice Axa Lxa cxa) ∧ w'.cell? ⟨bkx, 2, none⟩ = some (.int .i64 hxa) ∧ w'.cell? ⟨bkx, 3, none⟩ = some (.slice Bxa Mxa dxa) ∧ w'.cell? ⟨bkx, 4, none⟩ = some (.int .i64 gxb) ∧ w'.cell? ⟨bkx, 5, none⟩ = some (.slice Axb Lxb cxb) ∧ w'.cell? ⟨bkx, 6, none⟩ = some (.int .i64 hxb) ∧ w'.cell? ⟨bkx, 7, none⟩ = some (.slice Bxb Mxb dxb)) := fun w' hk => ⟨hk, hk.cell x_0, hk.cell x_1, hk.cell x_2, hk.cell x_3, hk.cell x_4, hk.cell x_5, hk.cell x_6, hk.cell x_7⟩
      first
      | go_region_held3 (fun w' => Ext w8 w' ∧ w'.cell? ⟨bkx, 0, none⟩ = some (.int .i64 gxa) ∧ w'.cell? ⟨bkx, 1, none⟩ = some (.slice Axa Lxa cxa) ∧ w'.cell? ⟨bkx, 2, none⟩ = some (.int .i64 hxa) ∧ w'.cell? ⟨bkx, 3, none⟩ = some (.slice Bxa Mxa dxa) ∧ w'.cell? ⟨bkx, 4, none⟩ = some (.int .i64 gxb) ∧ w'.cell? ⟨bkx, 5, none⟩ = some (.slice Axb Lxb cxb) ∧ w'.cell? ⟨bkx, 6, none⟩ = some (.int .i64 hxb) ∧ w'.cell? ⟨bkx, 7, none⟩ = some (.slice Bxb Mxb dxb))
          ((with_reducible refine HK.out _ ?_; (repeat' first | (with_reducible first | exact Ext.refl _ | assumption | apply Ext.alloc_r | apply Ext.drew_r | apply Ext.drewN_r | apply Ext.set_r | exact Nat.le_refl _) | omega | with_reducible refine Ext.trans ?_ ‹Ext _ _›)))
          (first
            | (go_at_call_of 32 (#[Value.agg #[Value.int IntKind.i64 gxb, Value.slice Axb Lxb cxb, Value.int IntKind.i64 hxb, Value.slice Bxb Mxb dxb], Value.agg #[Value.int IntKind.i64 gwn, Value.slice Awn Lwn cwn, Value.int IntKind.i64 hwn, Value.slice Bwn Mwn dwn]]); have hgd := wn; clear hgd; refine (qadd_r (xb.ext (by with_reducible repeat' first | exact Ext.refl _ | assumption | apply Ext.alloc_r | apply Ext.drew_r | apply Ext.drewN_r | refine Ext.trans ?_ ‹Ext _ _›)) (wn.ext (by with_reducible repeat' first | exact Ext.refl _ | assumption | apply Ext.alloc_r | apply Ext.drew_r | apply Ext.drewN_r | refine Ext.trans ?_ ‹Ext _ _›)) (by omega) (by omega)).mono ?_; rintro e w10 ⟨gwi, Awi, cwi, Lwi, hwi, Bwi, dwi, Mwi, rfl, wi, x10⟩; (have zs10 := x10.size); (try simp only [World.size_alloc] at zs10); (try ((with_reducible have h10_0 := box_ext (vs := #[.int .i64 0, .slice none 0 0, .int .i64 0, .slice none 0 0]) x10); have h10_0c0 := (h10_0.1 0 (.int .i64 0) rfl).1; have h10_0f0 := (h10_0.1 0 (.int .i64 0) rfl).2; have h10_0c1 := (h10_0.1 1 (.slice none 0 0) rfl).1; have h10_0f1 := (h10_0.1 1 (.slice none 0 0) rfl).2; have h10_0c2 := (h10_0.1 2 (.int .i64 0) rfl).1; have h10_0f2 := (h10_0.1 2 (.int .i64 0) rfl).2; have h10_0c3 := (h10_0.1 3 (.slice none 0 0) rfl).1; have h10_0f3 := (h10_0.1 3 (.slice none 0 0) rfl).2; have h10_0b := h10_0.2.1; have h10_0z := h10_0.2.2; (try simp only [World.size_alloc] at h10_0b h10_0z h10_0c0 h10_0f0 h10_0c1 h10_0f1 h10_0c2 h10_0f2 h10_0c3 h10_0f3); have h10_0m := Nat.ne_of_lt h10_0z; have h10_0n := Nat.ne_of_gt h10_0z; clear h10_0)); (try (have hh : Ext w9 w10 := ?g1000; (case g1000 => ((with_reducible repeat' first | exact Ext.refl _ | assumption | apply Ext.alloc_r | apply Ext.drew_r | apply Ext.drewN_r | refine Ext.trans ?_ ‹Ext _ _›); done)); replace h9_0f0 := hh.frozen h9_0c0 h9_0f0; replace h9_0c0 := hh.cell h9_0c0; replace h9_0f1 := hh.frozen h9_0c1 h9_0f1; replace h9_0c1 := hh.cell h9_0c1; replace h9_0f2 := hh.frozen h9_0c2 h9_0f2; replace h9_0c2 := hh.cell h9_0c2; replace h9_0f3 := hh.frozen h9_0c3 h9_0f3; replace h9_0c3 := hh.cell h9_0c3; replace h9_0b := h9_0b.ext hh; have h9_0z2 := Nat.lt_of_lt_of_le h9_0z hh.size; have h9_0m2 := Nat.ne_of_lt h9_0z2; have h9_0n2 := Nat.ne_of_gt h9_0z2; clear hh)))
            | (go_at_call_of 33 (#[Value.agg #[Value.int IntKind.i64 gxa, Value.slice Axa Lxa cxa, Value.int IntKind.i64 hxa, Value.slice Bxa Mxa dxa]]); refine (qneg_r (xa.ext (by with_reducible repeat' first | exact Ext.refl _ | assumption | apply Ext.alloc_r | apply Ext.drew_r | apply Ext.drewN_r | refine Ext.trans ?_ ‹Ext _ _›))).mono ?_; rintro e w9 ⟨gwn, Awn, cwn, Lwn, hwn, Bwn, dwn, Mwn, rfl, wn, x9⟩; (have zs9 := x9.size); (try simp only [World.size_alloc, World.size_drew] at zs9); (try ((with_reducible have h9_0 := box_ext (vs := #[.int .i64 0, .slice none 0 0, .int .i64 0, .slice none 0 0]) ((Ext.drew _).trans x9)); have h9_0c0 := (h9_0.1 0 (.int .i64 0) rfl).1; have h9_0f0 := (h9_0.1 0 (.int .i64 0) rfl).2; have h9_0c1 := (h9_0.1 1 (.slice none 0 0) rfl).1; have h9_0f1 := (h9_0.1 1 (.slice none 0 0) rfl).2; have h9_0c2 := (h9_0.1 2 (.int .i64 0) rfl).1; have h9_0f2 := (h9_0.1 2 (.int .i64 0) rfl).2; have h9_0c3 := (h9_0.1 3 (.slice none 0 0) rfl).1; have h9_0f3 := (h9_0.1 3 (.slice none 0 0) rfl).2; have h9_0b := h9_0.2.1; have h9_0z := h9_0.2.2; (try simp only [World.size_alloc] at h9_0b h9_0z h9_0c0 h9_0f0 h9_0c1 h9_0f1 h9_0c2 h9_0f2 h9_0c3 h9_0f3); have h9_0m := Nat.ne_of_lt h9_0z; have h9_0n := Nat.ne_of_gt h9_0z; clear h9_0))))
      all_goals (clear HK; go_wp2_with fail; go_meet)
      all_goals
        refine PutQ.mk (g := gwi) (A := Awi) (c := cwi) (L := Lwi) (h := hwi) (B := Bwi) (d := dwi) (M := Mwi) ?_ (wi.kept ?_) ?_
        · refine Bx.mk4 ?_ ?_ ?_ ?_
          · go_simp
          · go_simp
          · go_simp
          · go_simp
        · (repeat' (first | with_reducible exact Kept.refl _ | with_reducible apply Kept.alloc_r | with_reducible apply Kept.drew_r | (with_reducible apply Kept.setQ; (case hb => ((with_reducible repeat' first | assumption | apply IsBox.set_ | (apply IsBox.new; (first | rfl | simp); done) | apply IsBox.alloc_ | apply IsBox.drew_ | refine IsBox.ext ?_ ‹Ext _ _›); done))) | (with_reducible apply Kept.setR; (case hb => ((with_reducible repeat' first | assumption | apply IsBox.set_ | (apply IsBox.new; (first | rfl | simp); done) | apply IsBox.alloc_ | apply IsBox.drew_ | refine IsBox.ext ?_ ‹Ext _ _›); done))) | (with_reducible apply Kept.setZ; (case hb => ((with_reducible repeat' first | assumption | apply IsBox.set_ | (apply IsBox.new; (first | rfl | simp); done) | apply IsBox.alloc_ | apply IsBox.drew_ | refine IsBox.ext ?_ ‹Ext _ _›); done))) | (with_reducible apply Kept.setI; (case hb => ((with_reducible repeat' first | assumption | apply IsBox.set_ | (apply IsBox.new; (first | rfl | simp); done) | apply IsBox.alloc_ | apply IsBox.drew_ | refine IsBox.ext ?_ ‹Ext _ _›); done))) | with_reducible refine Kept.trans ?_ (Ext.kept ‹Ext _ _›)))
        · (repeat' first | (with_reducible first | exact Ext.refl _ | assumption | apply Ext.alloc_r | apply Ext.drew_r | apply Ext.drewN_r | apply Ext.set_r | exact Nat.le_refl _) | omega | with_reducible refine Ext.trans ?_ ‹Ext _ _›)
    case rest =>
      have hcw := hcut
      have hc_0 := hcw
      obtain ⟨gwi, Awi, cwi, Lwi, hwi, Bwi, dwi, Mwi, ⟨bkwi, rfl, ccwi⟩, wi, xxwi⟩ := hc_0
      have x11 := xxwi
      clear xxwi
      obtain ⟨wc11, rfl⟩ : ∃ z : World, z = wc := ⟨_, rfl⟩
      replace e0_0 := x11.cell e0_0; replace e0_1 := x11.cell e0_1; replace e0_2 := x11.cell e0_2; replace e0_3 := x11.cell e0_3; replace e0_4 := x11.cell e0_4; replace e0_5 := x11.cell e0_5; replace e1_0 := x11.cell e1_0; replace e1_1 := x11.cell e1_1; replace e1_2 := x11.cell e1_2; replace e1_3 := x11.cell e1_3; replace e1_4 := x11.cell e1_4; replace e1_5 := x11.cell e1_5; replace e2_0 := x11.cell e2_0; replace e2_1 := x11.cell e2_1; replace e2_2 := x11.cell e2_2; replace x_0 := x11.cell x_0; replace x_1 := x11.cell x_1; replace x_2 := x11.cell x_2; replace x_3 := x11.cell x_3; replace x_4 := x11.cell x_4; replace x_5 := x11.cell x_5; replace x_6 := x11.cell x_6; replace x_7 := x11.cell x_7; replace y_0 := x11.cell y_0; replace y_1 := x11.cell y_1; replace y_2 := x11.cell y_2; replace y_3 := x11.cell y_3; replace y_4 := x11.cell y_4; replace y_5 := x11.cell y_5; replace y_6 := x11.cell y_6; replace y_7 := x11.cell y_7; replace wd_0 := x11.cell wd_0; replace wd_1 := x11.cell wd_1; replace wd_2 := x11.cell wd_2
      have wi_0 := ccwi 0 (.int .i64 gwi) rfl
      have wi_1 := ccwi 1 (.slice Awi Lwi cwi) rfl
      have wi_2 := ccwi 2 (.int .i64 hwi) rfl
      have wi_3 := ccwi 3 (.slice Bwi Mwi dwi) rfl
      clear ccwi
      obtain ⟨bb, hbb⟩ : ∃ b, b = decide (inI q5 q1 q2) := ⟨_, rfl⟩
      have HB1 := Lib.hid hbb.symm
      have HB2 : Hid (decide (minQ q1 q2 ≤ q5 ∧ q5 ≤ maxQ q1 q2) = bb) := by
        show _ = _
        rw [hbb]
        by_cases h : minQ q1 q2 ≤ q5 ∧ q5 ≤ maxQ q1 q2
        · rw [decide_eq_true h, decide_eq_true (show inI q5 q1 q2 from h)]
        · rw [decide_eq_false h, decide_eq_false (show ¬ inI q5 q1 q2 from h)]
      clear hbb
      have hbb : (bb != bb) = false := by cases bb <;> rfl
      obtain ⟨bW, hbW⟩ : ∃ b, b = decide (subI q1 q2 q3 q4) := ⟨_, rfl⟩
      have HW := Lib.hid hbW.symm
      clear hbW
      have hbW : (bW != bW) = false := by cases bW <;> rfl
      go_wp2_with fail
      go_cut [78] (fun s78 wx => s78 = Value.bool false ∧ Ext wc11 wx)
      case first => as_aux_lemma =>
        have HK : Hid (∀ w', Ext wc11 w' → Ext wc11 w' ∧ w'.cell? ⟨w.heap.size, 0, none⟩ = some (.bool s1) ∧ w'.cell? ⟨w.heap.size, 1, none⟩ = some (.slice A1 L1 c1) ∧ w'.cell? ⟨w.heap.size, 2, none⟩ = some (.slice B1 M1 d1) ∧ w'.cell? ⟨w.heap.size, 3, none⟩ = some (.bool s2) ∧ w'.cell? ⟨w.heap.size, 4, none⟩ = some (.slice A2 L2 c2) ∧ w'.cell? ⟨w.heap.size, 5, none⟩ = some (.slice B2 M2 d2) ∧ w'.cell? ⟨w.heap.size + 1 + 1, 0, none⟩ = some (.bool s5) ∧ w'.cell? ⟨w.heap.size + 1 + 1, 1, none⟩ = some (.slice A5 L5 c5) ∧ w'.cell? ⟨w.heap.size + 1 + 1, 2, none⟩ = some (.slice B5 M5 d5) ∧ w'.cell? ⟨bkx, 0, none⟩ = some (.int .i64 gxa) ∧ w'.cell? ⟨bkx, 1, none⟩ = some (.slice Axa Lxa cxa) ∧ w'.cell? ⟨bkx, 2, none⟩ = some (.int .i64 hxa) ∧ w'.cell? ⟨bkx, 3, none⟩ = some (.slice Bxa Mxa dxa) ∧ w'.cell? ⟨bkx, 4, none⟩ = some (.int .i64 gxb) ∧ w'.cell? ⟨bkx, 5, none⟩ = some (.slice Axb Lxb cxb) ∧ w'.cell? ⟨bkx, 6, none⟩ = some (.int .i64 hxb) ∧ w'.cell? ⟨bkx, 7, none⟩ = some (.slice Bxb Mxb dxb) ∧ w'.cell? ⟨w7.heap.size, 0, none⟩ = some (.bool swd) ∧ w'.cell? ⟨w7.heap.size, 1, none⟩ = some (.slice Awd Lwd cwd) ∧ w'.cell? ⟨w7.heap.size, 2, none⟩ = some (.slice Bwd Mwd dwd) ∧ w'.cell? ⟨bkwi, 0, none⟩ = some (.int .i64 gwi) ∧ w'.cell? ⟨bkwi, 1, none⟩ = some (.slice Awi Lwi cwi) ∧ w'.cell? ⟨bkwi, 2, none⟩ = some (.int .i64 hwi) ∧ w'.cell? ⟨bkwi, 3, none⟩ = some (.slice Bwi Mwi dwi)) := fun w' hk => ⟨hk, hk.cell e0_0, hk.cell e0_1, hk.cell e0_2, hk.cell e0_3, hk.cell e0_4, hk.cell e0_5, hk.cell e2_0, hk.cell e2_1, hk.cell e2_2, hk.cell x_0, hk.cell x_1, hk.cell x_2, hk.cell x_3, hk.cell x_4, hk.cell x_5, hk.cell x_6, hk.cell x_7, hk.cell wd_0, hk.cell wd_1, hk.cell wd_2, hk.cell wi_0, hk.cell wi_1, hk.cell wi_2, hk.cell wi_3⟩
        try dsimp only [List.append]
        first
        | go_region_held3 (fun w' => Ext wc11 w' ∧ w'.cell? ⟨w.heap.size, 0, none⟩ = some (.bool s1) ∧ w'.cell? ⟨w.heap.size, 1, none⟩ = some (.slice A1 L1 c1) ∧ w'.cell? ⟨w.heap.size, 2, none⟩ = some (.slice B1 M1 d1) ∧ w'.cell? ⟨w.heap.size, 3, none⟩ = some (.bool s2) ∧ w'.cell? ⟨w.heap.size, 4, none⟩ = some (.slice A2 L2 c2) ∧ w'.cell? ⟨w.heap.size, 5, none⟩ = some (.slice B2 M2 d2) ∧ w'.cell? ⟨w.heap.size + 1 + 1, 0, none⟩ = some (.bool s5) ∧ w'.cell? ⟨w.heap.size + 1 + 1, 1, none⟩ = some (.slice A5 L5 c5) ∧ w'.cell? ⟨w.heap.size + 1 + 1, 2, none⟩ = some (.slice B5 M5 d5) ∧ w'.cell? ⟨bkx, 0, none⟩ = some (.int .i64 gxa) ∧ w'.cell? ⟨bkx, 1, none⟩ = some (.slice Axa Lxa cxa) ∧ w'.cell? ⟨bkx, 2, none⟩ = some (.int .i64 hxa) ∧ w'.cell? ⟨bkx, 3, none⟩ = some (.slice Bxa Mxa dxa) ∧ w'.cell? ⟨bkx, 4, none⟩ = some (.int .i64 gxb) ∧ w'.cell? ⟨bkx, 5, none⟩ = some (.slice Axb Lxb cxb) ∧ w'.cell? ⟨bkx, 6, none⟩ = some (.int .i64 hxb) ∧ w'.cell? ⟨bkx, 7, none⟩ = some (.slice Bxb Mxb dxb) ∧ w'.cell? ⟨w7.heap.size, 0, none⟩ = some (.bool swd) ∧ w'.cell? ⟨w7.heap.size, 1, none⟩ = some (.slice Awd Lwd cwd) ∧ w'.cell? ⟨w7.heap.size, 2, none⟩ = some (.slice Bwd Mwd dwd) ∧ w'.cell? ⟨bkwi, 0, none⟩ = some (.int .i64 gwi) ∧ w'.cell? ⟨bkwi, 1, none⟩ = some (.slice Awi Lwi cwi) ∧ w'.cell? ⟨bkwi, 2, none⟩ = some (.int .i64 hwi) ∧ w'.cell? ⟨bkwi, 3, none⟩ = some (.slice Bwi Mwi dwi))
            ((with_reducible refine HK.out _ ?_; (with_reducible repeat' first | exact Ext.refl _ | assumption | apply Ext.alloc_r | apply Ext.drew_r | apply Ext.drewN_r | refine Ext.trans ?_ ‹Ext _ _›)))
            (first
              | (go_at_call_of 37 (#[Value.bool swd, Value.slice Awd Lwd cwd, Value.slice Bwd Mwd dwd, Value.agg #[Value.int IntKind.i64 gwi, Value.slice Awi Lwi cwi, Value.int IntKind.i64 hwi, Value.slice Bwi Mwi dwi]]); have hgd := qd; clear hgd; refine (qis_r (wd.ext (by with_reducible repeat' first | exact Ext.refl _ | assumption | apply Ext.alloc_r | apply Ext.drew_r | apply Ext.drewN_r | refine Ext.trans ?_ ‹Ext _ _›)) (wi.ext (by with_reducible repeat' first | exact Ext.refl _ | assumption | apply Ext.alloc_r | apply Ext.drew_r | apply Ext.drewN_r | refine Ext.trans ?_ ‹Ext _ _›)) (Rat.sub_eq_add_neg _ _).symm (by omega)).mono ?_; rintro e w21 ⟨rfl, x21⟩)
              | (go_at_call_of 21 (#[Value.agg #[Value.int IntKind.i64 gxa, Value.slice Axa Lxa cxa, Value.int IntKind.i64 hxa, Value.slice Bxa Mxa dxa, Value.int IntKind.i64 gxb, Value.slice Axb Lxb cxb, Value.int IntKind.i64 hxb, Value.slice Bxb Mxb dxb], Value.agg #[Value.int IntKind.i64 gqd, Value.slice Aqd Lqd cqd, Value.int IntKind.i64 hqd, Value.slice Bqd Mqd dqd]]); have hgd := qd; clear hgd; refine (jcontains_is (xa.ext (by with_reducible repeat' first | exact Ext.refl _ | assumption | apply Ext.alloc_r | apply Ext.drew_r | apply Ext.drewN_r | refine Ext.trans ?_ ‹Ext _ _›)) (xb.ext (by with_reducible repeat' first | exact Ext.refl _ | assumption | apply Ext.alloc_r | apply Ext.drew_r | apply Ext.drewN_r | refine Ext.trans ?_ ‹Ext _ _›)) (qd.ext (by with_reducible repeat' first | exact Ext.refl _ | assumption | apply Ext.alloc_r | apply Ext.drew_r | apply Ext.drewN_r | refine Ext.trans ?_ ‹Ext _ _›)) (by omega) HB2.out).mono ?_; rintro e w20 ⟨rfl, x20⟩)
              | (go_at_call_of 18 (#[Value.agg #[Value.bool s5, Value.slice A5 L5 c5, Value.slice B5 M5 d5]]); have hgd := jca; clear hgd; refine (HQ5.out _ (by with_reducible repeat' first | exact Ext.refl _ | assumption | apply Ext.alloc_r | apply Ext.drew_r | apply Ext.drewN_r | refine Ext.trans ?_ ‹Ext _ _›)).mono ?_; rintro e w19 ⟨gqd, Aqd, cqd, Lqd, hqd, Bqd, dqd, Mqd, rfl, qd, x19⟩)
              | (go_at_call_of 36 (#[Value.agg #[Value.bool s1, Value.slice A1 L1 c1, Value.slice B1 M1 d1, Value.bool s2, Value.slice A2 L2 c2, Value.slice B2 M2 d2], Value.agg #[Value.bool s5, Value.slice A5 L5 c5, Value.slice B5 M5 d5]]); have hgd := jca; clear hgd; refine (contains_is (e1.ext (by with_reducible repeat' first | exact Ext.refl _ | assumption | apply Ext.alloc_r | apply Ext.drew_r | apply Ext.drewN_r | refine Ext.trans ?_ ‹Ext _ _›)) (e2.ext (by with_reducible repeat' first | exact Ext.refl _ | assumption | apply Ext.alloc_r | apply Ext.drew_r | apply Ext.drewN_r | refine Ext.trans ?_ ‹Ext _ _›)) (e5.ext (by with_reducible repeat' first | exact Ext.refl _ | assumption | apply Ext.alloc_r | apply Ext.drew_r | apply Ext.drewN_r | refine Ext.trans ?_ ‹Ext _ _›)) (by omega) HB1.out).mono ?_; rintro e w18 ⟨rfl, x18⟩)
              | (go_at_call_of 14 (#[Value.agg #[Value.bool spta, Value.slice Apta Lpta cpta, Value.slice Bpta Mpta dpta, Value.bool sptb, Value.slice Aptb Lptb cptb, Value.slice Bptb Mptb dptb], Value.agg #[Value.int IntKind.i64 gjca, Value.slice Ajca Ljca cjca, Value.int IntKind.i64 hjca, Value.slice Bjca Mjca djca, Value.int IntKind.i64 gjcb, Value.slice Ajcb Ljcb cjcb, Value.int IntKind.i64 hjcb, Value.slice Bjcb Mjcb djcb]]); have hgd := jca; clear hgd; refine (lis6 (pta.ext (by with_reducible repeat' first | exact Ext.refl _ | assumption | apply Ext.alloc_r | apply Ext.drew_r | apply Ext.drewN_r | refine Ext.trans ?_ ‹Ext _ _›)) (ptb.ext (by with_reducible repeat' first | exact Ext.refl _ | assumption | apply Ext.alloc_r | apply Ext.drew_r | apply Ext.drewN_r | refine Ext.trans ?_ ‹Ext _ _›)) (jca.ext (by with_reducible repeat' first | exact Ext.refl _ | assumption | apply Ext.alloc_r | apply Ext.drew_r | apply Ext.drewN_r | refine Ext.trans ?_ ‹Ext _ _›)) (jcb.ext (by with_reducible repeat' first | exact Ext.refl _ | assumption | apply Ext.alloc_r | apply Ext.drew_r | apply Ext.drewN_r | refine Ext.trans ?_ ‹Ext _ _›)) (rfl) (rfl) (by omega)).mono ?_; rintro e w17 ⟨rfl, x17⟩)
              | (go_at_call_of 30 (#[Value.agg #[Value.int IntKind.i64 gqc, Value.slice Aqc Lqc cqc, Value.int IntKind.i64 hqc, Value.slice Bqc Mqc dqc]]); have hgd := qc; clear hgd; refine (jpoint_r (qc.ext (by with_reducible repeat' first | exact Ext.refl _ | assumption | apply Ext.alloc_r | apply Ext.drew_r | apply Ext.drewN_r | refine Ext.trans ?_ ‹Ext _ _›))).mono ?_; rintro e w16 ⟨gjca, Ajca, cjca, Ljca, hjca, Bjca, djca, Mjca, gjcb, Ajcb, cjcb, Ljcb, hjcb, Bjcb, djcb, Mjcb, rfl, jca, jcb, x16⟩)
              | (go_at_call_of 18 (#[Value.agg #[Value.bool s5, Value.slice A5 L5 c5, Value.slice B5 M5 d5]]); have hgd := pta; clear hgd; refine (HQ5.out _ (by with_reducible repeat' first | exact Ext.refl _ | assumption | apply Ext.alloc_r | apply Ext.drew_r | apply Ext.drewN_r | refine Ext.trans ?_ ‹Ext _ _›)).mono ?_; rintro e w15 ⟨gqc, Aqc, cqc, Lqc, hqc, Bqc, dqc, Mqc, rfl, qc, x15⟩)
              | (go_at_call_of 35 (#[Value.agg #[Value.bool s5, Value.slice A5 L5 c5, Value.slice B5 M5 d5]]); have hgd := nma; clear hgd; refine (point_r (e5.ext (by with_reducible repeat' first | exact Ext.refl _ | assumption | apply Ext.alloc_r | apply Ext.drew_r | apply Ext.drewN_r | refine Ext.trans ?_ ‹Ext _ _›)) (by omega)).mono ?_; rintro e w14 ⟨spta, Apta, cpta, Lpta, Bpta, dpta, Mpta, sptb, Aptb, cptb, Lptb, Bptb, dptb, Mptb, rfl, pta, ptb, x14⟩)
              | (go_at_call_of 14 (#[Value.agg #[Value.bool snma, Value.slice Anma Lnma cnma, Value.slice Bnma Mnma dnma, Value.bool snmb, Value.slice Anmb Lnmb cnmb, Value.slice Bnmb Mnmb dnmb], Value.agg #[Value.int IntKind.i64 gxa, Value.slice Axa Lxa cxa, Value.int IntKind.i64 hxa, Value.slice Bxa Mxa dxa, Value.int IntKind.i64 gxb, Value.slice Axb Lxb cxb, Value.int IntKind.i64 hxb, Value.slice Bxb Mxb dxb]]); have hgd := nma; clear hgd; refine (lis6 (nma.ext (by with_reducible repeat' first | exact Ext.refl _ | assumption | apply Ext.alloc_r | apply Ext.drew_r | apply Ext.drewN_r | refine Ext.trans ?_ ‹Ext _ _›)) (nmb.ext (by with_reducible repeat' first | exact Ext.refl _ | assumption | apply Ext.alloc_r | apply Ext.drew_r | apply Ext.drewN_r | refine Ext.trans ?_ ‹Ext _ _›)) (xa.ext (by with_reducible repeat' first | exact Ext.refl _ | assumption | apply Ext.alloc_r | apply Ext.drew_r | apply Ext.drewN_r | refine Ext.trans ?_ ‹Ext _ _›)) (xb.ext (by with_reducible repeat' first | exact Ext.refl _ | assumption | apply Ext.alloc_r | apply Ext.drew_r | apply Ext.drewN_r | refine Ext.trans ?_ ‹Ext _ _›)) (rfl) (rfl) (by omega)).mono ?_; rintro e w13 ⟨rfl, x13⟩)
              | (go_at_call_of 34 (#[Value.agg #[Value.bool s1, Value.slice A1 L1 c1, Value.slice B1 M1 d1, Value.bool s2, Value.slice A2 L2 c2, Value.slice B2 M2 d2]]); refine (inormal_r (e1.ext (by with_reducible repeat' first | exact Ext.refl _ | assumption | apply Ext.alloc_r | apply Ext.drew_r | apply Ext.drewN_r | refine Ext.trans ?_ ‹Ext _ _›)) (e2.ext (by with_reducible repeat' first | exact Ext.refl _ | assumption | apply Ext.alloc_r | apply Ext.drew_r | apply Ext.drewN_r | refine Ext.trans ?_ ‹Ext _ _›)) (by omega)).mono ?_; rintro e w12 ⟨snma, Anma, cnma, Lnma, Bnma, dnma, Mnma, snmb, Anmb, cnmb, Lnmb, Bnmb, dnmb, Mnmb, rfl, nma, nmb, x12⟩))
        all_goals (clear HK; go_wp2_with fail; go_meet)
        all_goals exact ⟨rfl, (by with_reducible repeat' first | exact Ext.refl _ | assumption | apply Ext.alloc_r | apply Ext.drew_r | apply Ext.drewN_r | refine Ext.trans ?_ ‹Ext _ _›)⟩
      case rest =>
        clear e2_0 e2_1 e2_2 wd_0 wd_1 wd_2 wi_0 wi_1 wi_2 wi_3 wd wi
        obtain ⟨rfl, xr27⟩ := hcut
        obtain ⟨wr27, rfl⟩ : ∃ z : World, z = wc := ⟨_, rfl⟩
        replace e0_0 := xr27.cell e0_0; replace e0_1 := xr27.cell e0_1; replace e0_2 := xr27.cell e0_2; replace e0_3 := xr27.cell e0_3; replace e0_4 := xr27.cell e0_4; replace e0_5 := xr27.cell e0_5; replace e1_0 := xr27.cell e1_0; replace e1_1 := xr27.cell e1_1; replace e1_2 := xr27.cell e1_2; replace e1_3 := xr27.cell e1_3; replace e1_4 := xr27.cell e1_4; replace e1_5 := xr27.cell e1_5; replace x_0 := xr27.cell x_0; replace x_1 := xr27.cell x_1; replace x_2 := xr27.cell x_2; replace x_3 := xr27.cell x_3; replace x_4 := xr27.cell x_4; replace x_5 := xr27.cell x_5; replace x_6 := xr27.cell x_6; replace x_7 := xr27.cell x_7; replace y_0 := xr27.cell y_0; replace y_1 := xr27.cell y_1; replace y_2 := xr27.cell y_2; replace y_3 := xr27.cell y_3; replace y_4 := xr27.cell y_4; replace y_5 := xr27.cell y_5; replace y_6 := xr27.cell y_6; replace y_7 := xr27.cell y_7
        clear hbb HB1 HB2 HWD
        go_upto_region 8 with fail
        go_cut [11] (fun s11 wx => s11 = Value.bool bW ∧ Ext wr27 wx)
        case first => as_aux_lemma =>
          by_cases h1 : minQ q3 q4 ≤ minQ q1 q2 ∧ minQ q1 q2 ≤ maxQ q3 q4
          · have H1 : Hid (decide (minQ q3 q4 ≤ minQ q1 q2 ∧ minQ q1 q2 ≤ maxQ q3 q4) = true) := decide_eq_true h1
            have H2 : Hid (decide (minQ q3 q4 ≤ maxQ q1 q2 ∧ maxQ q1 q2 ≤ maxQ q3 q4) = bW) := (sub_dec h1 _).trans HW.out
            clear h1
            go_wp2_with fail
            refine (jcontains_is (ya.ext (by with_reducible repeat' first | exact Ext.refl _ | assumption | apply Ext.alloc_r | apply Ext.drew_r | apply Ext.drewN_r | refine Ext.trans ?_ ‹Ext _ _›)) (yb.ext (by with_reducible repeat' first | exact Ext.refl _ | assumption | apply Ext.alloc_r | apply Ext.drew_r | apply Ext.drewN_r | refine Ext.trans ?_ ‹Ext _ _›)) (xa.ext (by with_reducible repeat' first | exact Ext.refl _ | assumption | apply Ext.alloc_r | apply Ext.drew_r | apply Ext.drewN_r | refine Ext.trans ?_ ‹Ext _ _›)) (by omega) H1.out).mono ?_
            rintro e w28 ⟨rfl, x28⟩
            replace e0_0 := x28.cell e0_0; replace e0_1 := x28.cell e0_1; replace e0_2 := x28.cell e0_2; replace e0_3 := x28.cell e0_3; replace e0_4 := x28.cell e0_4; replace e0_5 := x28.cell e0_5; replace e1_0 := x28.cell e1_0; replace e1_1 := x28.cell e1_1; replace e1_2 := x28.cell e1_2; replace e1_3 := x28.cell e1_3; replace e1_4 := x28.cell e1_4; replace e1_5 := x28.cell e1_5; replace x_0 := x28.cell x_0; replace x_1 := x28.cell x_1; replace x_2 := x28.cell x_2; replace x_3 := x28.cell x_3; replace x_4 := x28.cell x_4; replace x_5 := x28.cell x_5; replace x_6 := x28.cell x_6; replace x_7 := x28.cell x_7; replace y_0 := x28.cell y_0; replace y_1 := x28.cell y_1; replace y_2 := x28.cell y_2; replace y_3 := x28.cell y_3; replace y_4 := x28.cell y_4; replace y_5 := x28.cell y_5; replace y_6 := x28.cell y_6; replace y_7 := x28.cell y_7
            go_wp2_with fail
            refine (jcontains_is (ya.ext (by with_reducible repeat' first | exact Ext.refl _ | assumption | apply Ext.alloc_r | apply Ext.drew_r | apply Ext.drewN_r | refine Ext.trans ?_ ‹Ext _ _›)) (yb.ext (by with_reducible repeat' first | exact Ext.refl _ | assumption | apply Ext.alloc_r | apply Ext.drew_r | apply Ext.drewN_r | refine Ext.trans ?_ ‹Ext _ _›)) (xb.ext (by with_reducible repeat' first | exact Ext.refl _ | assumption | apply Ext.alloc_r | apply Ext.drew_r | apply Ext.drewN_r | refine Ext.trans ?_ ‹Ext _ _›)) (by omega) H2.out).mono ?_
            rintro e w29 ⟨rfl, x29⟩
            replace e0_0 := x29.cell e0_0; replace e0_1 := x29.cell e0_1; replace e0_2 := x29.cell e0_2; replace e0_3 := x29.cell e0_3; replace e0_4 := x29.cell e0_4; replace e0_5 := x29.cell e0_5; replace e1_0 := x29.cell e1_0; replace e1_1 := x29.cell e1_1; replace e1_2 := x29.cell e1_2; replace e1_3 := x29.cell e1_3; replace e1_4 := x29.cell e1_4; replace e1_5 := x29.cell e1_5; replace x_0 := x29.cell x_0; replace x_1 := x29.cell x_1; replace x_2 := x29.cell x_2; replace x_3 := x29.cell x_3; replace x_4 := x29.cell x_4; replace x_5 := x29.cell x_5; replace x_6 := x29.cell x_6; replace x_7 := x29.cell x_7; replace y_0 := x29.cell y_0; replace y_1 := x29.cell y_1; replace y_2 := x29.cell y_2; replace y_3 := x29.cell y_3; replace y_4 := x29.cell y_4; replace y_5 := x29.cell y_5; replace y_6 := x29.cell y_6; replace y_7 := x29.cell y_7
            go_wp2_with fail
            go_meet
            exact ⟨rfl, (by with_reducible repeat' first | exact Ext.refl _ | assumption | apply Ext.alloc_r | apply Ext.drew_r | apply Ext.drewN_r | refine Ext.trans ?_ ‹Ext _ _›)⟩
          · have H1 : Hid (decide (minQ q3 q4 ≤ minQ q1 q2 ∧ minQ q1 q2 ≤ maxQ q3 q4) = false) := decide_eq_false h1
            obtain rfl : bW = false := by rw [← HW.out]; exact sub_dec_no h1
            clear h1
            go_wp2_with fail
            refine (jcontains_is (ya.ext (by with_reducible repeat' first | exact Ext.refl _ | assumption | apply Ext.alloc_r | apply Ext.drew_r | apply Ext.drewN_r | refine Ext.trans ?_ ‹Ext _ _›)) (yb.ext (by with_reducible repeat' first | exact Ext.refl _ | assumption | apply Ext.alloc_r | apply Ext.drew_r | apply Ext.drewN_r | refine Ext.trans ?_ ‹Ext _ _›)) (xa.ext (by with_reducible repeat' first | exact Ext.refl _ | assumption | apply Ext.alloc_r | apply Ext.drew_r | apply Ext.drewN_r | refine Ext.trans ?_ ‹Ext _ _›)) (by omega) H1.out).mono ?_
            rintro e w28 ⟨rfl, x28⟩
            replace e0_0 := x28.cell e0_0; replace e0_1 := x28.cell e0_1; replace e0_2 := x28.cell e0_2; replace e0_3 := x28.cell e0_3; replace e0_4 := x28.cell e0_4; replace e0_5 := x28.cell e0_5; replace e1_0 := x28.cell e1_0; replace e1_1 := x28.cell e1_1; replace e1_2 := x28.cell e1_2; replace e1_3 := x28.cell e1_3; replace e1_4 := x28.cell e1_4; replace e1_5 := x28.cell e1_5; replace x_0 := x28.cell x_0; replace x_1 := x28.cell x_1; replace x_2 := x28.cell x_2; replace x_3 := x28.cell x_3; replace x_4 := x28.cell x_4; replace x_5 := x28.cell x_5; replace x_6 := x28.cell x_6; replace x_7 := x28.cell x_7; replace y_0 := x28.cell y_0; replace y_1 := x28.cell y_1; replace y_2 := x28.cell y_2; replace y_3 := x28.cell y_3; replace y_4 := x28.cell y_4; replace y_5 := x28.cell y_5; replace y_6 := x28.cell y_6; replace y_7 := x28.cell y_7
            go_wp2_with fail
            go_meet
            exact ⟨rfl, (by with_reducible repeat' first | exact Ext.refl _ | assumption | apply Ext.alloc_r | apply Ext.drew_r | apply Ext.drewN_r | refine Ext.trans ?_ ‹Ext _ _›)⟩
        case rest =>
          obtain ⟨rfl, xr28⟩ := hcut
          obtain ⟨wr28, rfl⟩ : ∃ z : World, z = wc := ⟨_, rfl⟩
          replace e0_0 := xr28.cell e0_0; replace e0_1 := xr28.cell e0_1; replace e0_2 := xr28.cell e0_2; replace e0_3 := xr28.cell e0_3; replace e0_4 := xr28.cell e0_4; replace e0_5 := xr28.cell e0_5; replace e1_0 := xr28.cell e1_0; replace e1_1 := xr28.cell e1_1; replace e1_2 := xr28.cell e1_2; replace e1_3 := xr28.cell e1_3; replace e1_4 := xr28.cell e1_4; replace e1_5 := xr28.cell e1_5; replace x_0 := xr28.cell x_0; replace x_1 := xr28.cell x_1; replace x_2 := xr28.cell x_2; replace x_3 := xr28.cell x_3; replace x_4 := xr28.cell x_4; replace x_5 := xr28.cell x_5; replace x_6 := xr28.cell x_6; replace x_7 := xr28.cell x_7; replace y_0 := xr28.cell y_0; replace y_1 := xr28.cell y_1; replace y_2 := xr28.cell y_2; replace y_3 := xr28.cell y_3; replace y_4 := xr28.cell y_4; replace y_5 := xr28.cell y_5; replace y_6 := xr28.cell y_6; replace y_7 := xr28.cell y_7
          have HH : Hid (minQ (minQ (minQ (minQ q1 q2) (maxQ q1 q2)) (minQ q3 q4)) (maxQ q3 q4) = minQ (minQ q1 q2) (minQ q3 q4) ∧ maxQ (maxQ (maxQ (minQ q1 q2) (maxQ q1 q2)) (minQ q3 q4)) (maxQ q3 q4) = maxQ (maxQ q1 q2) (maxQ q3 q4)) := ⟨hull_lo _ _ _ _, hull_hi _ _ _ _⟩
          go_wp2_with fail
          go_cut [110] (fun s110 wx => s110 = Value.bool false ∧ Ext wr28 wx)
          case first =>
            have HK : Hid (∀ w', Ext wr28 w' → Ext wr28 w' ∧ w'.cell? ⟨w.heap.size, 0, none⟩ = some (.bool s1) ∧ w'.cell? ⟨w.heap.size, 1, none⟩ = some (.slice A1 L1 c1) ∧ w'.cell? ⟨w.heap.size, 2, none⟩ = some (.slice B1 M1 d1) ∧ w'.cell? ⟨w.heap.size, 3, none⟩ = some (.bool s2) ∧ w'.cell? ⟨w.heap.size, 4, none⟩ = some (.slice A2 L2 c2) ∧ w'.cell? ⟨w.heap.size, 5, none⟩ = some (.slice B2 M2 d2) ∧ w'.cell? ⟨w.heap.size + 1, 0, none⟩ = some (.bool s3) ∧ w'.cell? ⟨w.heap.size + 1, 1, none⟩ = some (.slice A3 L3 c3) ∧ w'.cell? ⟨w.heap.size + 1, 2, none⟩ = some (.slice B3 M3 d3) ∧ w'.cell? ⟨w.heap.size + 1, 3, none⟩ = some (.bool s4) ∧ w'.cell? ⟨w.heap.size + 1, 4, none⟩ = some (.slice A4 L4 c4) ∧ w'.cell? ⟨w.heap.size + 1, 5, none⟩ = some (.slice B4 M4 d4) ∧ w'.cell? ⟨bkx, 0, none⟩ = some (.int .i64 gxa) ∧ w'.cell? ⟨bkx, 1, none⟩ = some (.slice Axa Lxa cxa) ∧ w'.cell? ⟨bkx, 2, none⟩ = some (.int .i64 hxa) ∧ w'.cell? ⟨bkx, 3, none⟩ = some (.slice Bxa Mxa dxa) ∧ w'.cell? ⟨bkx, 4, none⟩ = some (.int .i64 gxb) ∧ w'.cell? ⟨bkx, 5, none⟩ = some (.slice Axb Lxb cxb) ∧ w'.cell? ⟨bkx, 6, none⟩ = some (.int .i64 hxb) ∧ w'.cell? ⟨bkx, 7, none⟩ = some (.slice Bxb Mxb dxb) ∧ w'.cell? ⟨bky, 0, none⟩ = some (.int .i64 gya) ∧ w'.cell? ⟨bky, 1, none⟩ = some (.slice Aya Lya cya) ∧ w'.cell? ⟨bky, 2, none⟩ = some (.int .i64 hya) ∧ w'.cell? ⟨bky, 3, none⟩ = some (.slice Bya Mya dya) ∧ w'.cell? ⟨bky, 4, none⟩ = some (.int .i64 gyb) ∧ w'.cell? ⟨bky, 5, none⟩ = some (.slice Ayb Lyb cyb) ∧ w'.cell? ⟨bky, 6, none⟩ = some (.int .i64 hyb) ∧ w'.cell? ⟨bky, 7, none⟩ = some (.slice Byb Myb dyb)) := fun w' hk => ⟨hk, hk.cell e0_0, hk.cell e0_1, hk.cell e0_2, hk.cell e0_3, hk.cell e0_4, hk.cell e0_5, hk.cell e1_0, hk.cell e1_1, hk.cell e1_2, hk.cell e1_3, hk.cell e1_4, hk.cell e1_5, hk.cell x_0, hk.cell x_1, hk.cell x_2, hk.cell x_3, hk.cell x_4, hk.cell x_5, hk.cell x_6, hk.cell x_7, hk.cell y_0, hk.cell y_1, hk.cell y_2, hk.cell y_3, hk.cell y_4, hk.cell y_5, hk.cell y_6, hk.cell y_7⟩
            first
            | go_region_held3 (fun w' => Ext wr28 w' ∧ w'.cell? ⟨w.heap.size, 0, none⟩ = some (.bool s1) ∧ w'.cell? ⟨w.heap.size, 1, none⟩ = some (.slice A1 L1 c1) ∧ w'.cell? ⟨w.heap.size, 2, none⟩ = some (.slice B1 M1 d1) ∧ w'.cell? ⟨w.heap.size, 3, none⟩ = some (.bool s2) ∧ w'.cell? ⟨w.heap.size, 4, none⟩ = some (.slice A2 L2 c2) ∧ w'.cell? ⟨w.heap.size, 5, none⟩ = some (.slice B2 M2 d2) ∧ w'.cell? ⟨w.heap.size + 1, 0, none⟩ = some (.bool s3) ∧ w'.cell? ⟨w.heap.size + 1, 1, none⟩ = some (.slice A3 L3 c3) ∧ w'.cell? ⟨w.heap.size + 1, 2, none⟩ = some (.slice B3 M3 d3) ∧ w'.cell? ⟨w.heap.size + 1, 3, none⟩ = some (.bool s4) ∧ w'.cell? ⟨w.heap.size + 1, 4, none⟩ = some (.slice A4 L4 c4) ∧ w'.cell? ⟨w.heap.size + 1, 5, none⟩ = some (.slice B4 M4 d4) ∧ w'.cell? ⟨bkx, 0, none⟩ = some (.int .i64 gxa) ∧ w'.cell? ⟨bkx, 1, none⟩ = some (.slice Axa Lxa cxa) ∧ w'.cell? ⟨bkx, 2, none⟩ = some (.int .i64 hxa) ∧ w'.cell? ⟨bkx, 3, none⟩ = some (.slice Bxa Mxa dxa) ∧ w'.cell? ⟨bkx, 4, none⟩ = some (.int .i64 gxb) ∧ w'.cell? ⟨bkx, 5, none⟩ = some (.slice Axb Lxb cxb) ∧ w'.cell? ⟨bkx, 6, none⟩ = some (.int .i64 hxb) ∧ w'.cell? ⟨bkx, 7, none⟩ = some (.slice Bxb Mxb dxb) ∧ w'.cell? ⟨bky, 0, none⟩ = some (.int .i64 gya) ∧ w'.cell? ⟨bky, 1, none⟩ = some (.slice Aya Lya cya) ∧ w'.cell? ⟨bky, 2, none⟩ = some (.int .i64 hya) ∧ w'.cell? ⟨bky, 3, none⟩ = some (.slice Bya Mya dya) ∧ w'.cell? ⟨bky, 4, none⟩ = some (.int .i64 gyb) ∧ w'.cell? ⟨bky, 5, none⟩ = some (.slice Ayb Lyb cyb) ∧ w'.cell? ⟨bky, 6, none⟩ = some (.int .i64 hyb) ∧ w'.cell? ⟨bky, 7, none⟩ = some (.slice Byb Myb dyb))
                ((with_reducible refine HK.out _ ?_; (with_reducible repeat' first | exact Ext.refl _ | assumption | apply Ext.alloc_r | apply Ext.drew_r | apply Ext.drewN_r | refine Ext.trans ?_ ‹Ext _ _›)))
                (first
                  | (go_at_call_of 14 (#[Value.agg #[Value.bool shla, Value.slice Ahla Lhla chla, Value.slice Bhla Mhla dhla, Value.bool shlb, Value.slice Ahlb Lhlb chlb, Value.slice Bhlb Mhlb dhlb], Value.agg #[Value.int IntKind.i64 gjha, Value.slice Ajha Ljha cjha, Value.int IntKind.i64 hjha, Value.slice Bjha Mjha djha, Value.int IntKind.i64 gjhb, Value.slice Ajhb Ljhb cjhb, Value.int IntKind.i64 hjhb, Value.slice Bjhb Mjhb djhb]]); have hgd := jha; clear hgd; refine (lis6 (hla.ext (by with_reducible repeat' first | exact Ext.refl _ | assumption | apply Ext.alloc_r | apply Ext.drew_r | apply Ext.drewN_r | refine Ext.trans ?_ ‹Ext _ _›)) (hlb.ext (by with_reducible repeat' first | exact Ext.refl _ | assumption | apply Ext.alloc_r | apply Ext.drew_r | apply Ext.drewN_r | refine Ext.trans ?_ ‹Ext _ _›)) (jha.ext (by with_reducible repeat' first | exact Ext.refl _ | assumption | apply Ext.alloc_r | apply Ext.drew_r | apply Ext.drewN_r | refine Ext.trans ?_ ‹Ext _ _›)) (jhb.ext (by with_reducible repeat' first | exact Ext.refl _ | assumption | apply Ext.alloc_r | apply Ext.drew_r | apply Ext.drewN_r | refine Ext.trans ?_ ‹Ext _ _›)) (HH.out.1) (HH.out.2) (by omega)).mono ?_; rintro e w32 ⟨rfl, x32⟩)
                  | (go_at_call 40; have hgd := hla; clear hgd; first | (refine (hull4x x30 (xa.ext (by with_reducible repeat' first | exact Ext.refl _ | assumption | apply Ext.alloc_r | apply Ext.drew_r | apply Ext.drewN_r | refine Ext.trans ?_ ‹Ext _ _›)) (xb.ext (by with_reducible repeat' first | exact Ext.refl _ | assumption | apply Ext.alloc_r | apply Ext.drew_r | apply Ext.drewN_r | refine Ext.trans ?_ ‹Ext _ _›)) (ya.ext (by with_reducible repeat' first | exact Ext.refl _ | assumption | apply Ext.alloc_r | apply Ext.drew_r | apply Ext.drewN_r | refine Ext.trans ?_ ‹Ext _ _›)) (yb.ext (by with_reducible repeat' first | exact Ext.refl _ | assumption | apply Ext.alloc_r | apply Ext.drew_r | apply Ext.drewN_r | refine Ext.trans ?_ ‹Ext _ _›)) (by omega)).mono ?_; rintro e w31 ⟨gjha, Ajha, cjha, Ljha, hjha, Bjha, djha, Mjha, gjhb, Ajhb, cjhb, Ljhb, hjhb, Bjhb, djhb, Mjhb, rfl, jha, jhb, x31⟩) | (refine (hull4 (xa.ext (by with_reducible repeat' first | exact Ext.refl _ | assumption | apply Ext.alloc_r | apply Ext.drew_r | apply Ext.drewN_r | refine Ext.trans ?_ ‹Ext _ _›)) (xb.ext (by with_reducible repeat' first | exact Ext.refl _ | assumption | apply Ext.alloc_r | apply Ext.drew_r | apply Ext.drewN_r | refine Ext.trans ?_ ‹Ext _ _›)) (ya.ext (by with_reducible repeat' first | exact Ext.refl _ | assumption | apply Ext.alloc_r | apply Ext.drew_r | apply Ext.drewN_r | refine Ext.trans ?_ ‹Ext _ _›)) (yb.ext (by with_reducible repeat' first | exact Ext.refl _ | assumption | apply Ext.alloc_r | apply Ext.drew_r | apply Ext.drewN_r | refine Ext.trans ?_ ‹Ext _ _›)) (by omega)).mono ?_; rintro e w31 ⟨gjha, Ajha, cjha, Ljha, hjha, Bjha, djha, Mjha, gjhb, Ajhb, cjhb, Ljhb, hjhb, Bjhb, djhb, Mjhb, rfl, jha, jhb, x31⟩))
                  | (go_at_call_of 39 (#[Value.agg #[Value.bool s1, Value.slice A1 L1 c1, Value.slice B1 M1 d1, Value.bool s2, Value.slice A2 L2 c2, Value.slice B2 M2 d2], Value.agg #[Value.bool s3, Value.slice A3 L3 c3, Value.slice B3 M3 d3, Value.bool s4, Value.slice A4 L4 c4, Value.slice B4 M4 d4]]); refine (ihull_r (e1.ext (by with_reducible repeat' first | exact Ext.refl _ | assumption | apply Ext.alloc_r | apply Ext.drew_r | apply Ext.drewN_r | refine Ext.trans ?_ ‹Ext _ _›)) (e2.ext (by with_reducible repeat' first | exact Ext.refl _ | assumption | apply Ext.alloc_r | apply Ext.drew_r | apply Ext.drewN_r | refine Ext.trans ?_ ‹Ext _ _›)) (e3.ext (by with_reducible repeat' first | exact Ext.refl _ | assumption | apply Ext.alloc_r | apply Ext.drew_r | apply Ext.drewN_r | refine Ext.trans ?_ ‹Ext _ _›)) (e4.ext (by with_reducible repeat' first | exact Ext.refl _ | assumption | apply Ext.alloc_r | apply Ext.drew_r | apply Ext.drewN_r | refine Ext.trans ?_ ‹Ext _ _›)) (by omega)).mono ?_; rintro e w30 ⟨shla, Ahla, chla, Lhla, Bhla, dhla, Mhla, shlb, Ahlb, chlb, Lhlb, Bhlb, dhlb, Mhlb, rfl, hla, hlb, x30⟩)
                  | (go_at_call_of 38 (#[Value.agg #[Value.bool s1, Value.slice A1 L1 c1, Value.slice B1 M1 d1, Value.bool s2, Value.slice A2 L2 c2, Value.slice B2 M2 d2], Value.agg #[Value.bool s3, Value.slice A3 L3 c3, Value.slice B3 M3 d3, Value.bool s4, Value.slice A4 L4 c4, Value.slice B4 M4 d4]]); refine (within_b (e1.ext (by with_reducible repeat' first | exact Ext.refl _ | assumption | apply Ext.alloc_r | apply Ext.drew_r | apply Ext.drewN_r | refine Ext.trans ?_ ‹Ext _ _›)) (e2.ext (by with_reducible repeat' first | exact Ext.refl _ | assumption | apply Ext.alloc_r | apply Ext.drew_r | apply Ext.drewN_r | refine Ext.trans ?_ ‹Ext _ _›)) (e3.ext (by with_reducible repeat' first | exact Ext.refl _ | assumption | apply Ext.alloc_r | apply Ext.drew_r | apply Ext.drewN_r | refine Ext.trans ?_ ‹Ext _ _›)) (e4.ext (by with_reducible repeat' first | exact Ext.refl _ | assumption | apply Ext.alloc_r | apply Ext.drew_r | apply Ext.drewN_r | refine Ext.trans ?_ ‹Ext _ _›)) (by omega) HW.out).mono ?_; rintro e w29 ⟨rfl, x29⟩))
            all_goals (clear HK; go_wp2_with fail; go_meet)
            all_goals exact ⟨rfl, (by with_reducible repeat' first | exact Ext.refl _ | assumption | apply Ext.alloc_r | apply Ext.drew_r | apply Ext.drewN_r | refine Ext.trans ?_ ‹Ext _ _›)⟩
          case rest =>
            obtain ⟨rfl, xr39⟩ := hcut
            obtain ⟨wr39, rfl⟩ : ∃ z : World, z = wc := ⟨_, rfl⟩
            replace e0_0 := xr39.cell e0_0; replace e0_1 := xr39.cell e0_1; replace e0_2 := xr39.cell e0_2; replace e0_3 := xr39.cell e0_3; replace e0_4 := xr39.cell e0_4; replace e0_5 := xr39.cell e0_5; replace e1_0 := xr39.cell e1_0; replace e1_1 := xr39.cell e1_1; replace e1_2 := xr39.cell e1_2; replace e1_3 := xr39.cell e1_3; replace e1_4 := xr39.cell e1_4; replace e1_5 := xr39.cell e1_5; replace x_0 := xr39.cell x_0; replace x_1 := xr39.cell x_1; replace x_2 := xr39.cell x_2; replace x_3 := xr39.cell x_3; replace x_4 := xr39.cell x_4; replace x_5 := xr39.cell x_5; replace x_6 := xr39.cell x_6; replace x_7 := xr39.cell x_7; replace y_0 := xr39.cell y_0; replace y_1 := xr39.cell y_1; replace y_2 := xr39.cell y_2; replace y_3 := xr39.cell y_3; replace y_4 := xr39.cell y_4; replace y_5 := xr39.cell y_5; replace y_6 := xr39.cell y_6; replace y_7 := xr39.cell y_7
            clear hbW HW HH
            by_cases hM : maxQ (minQ q1 q2) (minQ q3 q4) ≤ minQ (maxQ q1 q2) (maxQ q3 q4)
            · have HM := Lib.hid hM
              clear hM
              go_wp2_with fail
              refine (imeet_yes (e1.ext (by with_reducible repeat' first | exact Ext.refl _ | assumption | apply Ext.alloc_r | apply Ext.drew_r | apply Ext.drewN_r | refine Ext.trans ?_ ‹Ext _ _›)) (e2.ext (by with_reducible repeat' first | exact Ext.refl _ | assumption | apply Ext.alloc_r | apply Ext.drew_r | apply Ext.drewN_r | refine Ext.trans ?_ ‹Ext _ _›)) (e3.ext (by with_reducible repeat' first | exact Ext.refl _ | assumption | apply Ext.alloc_r | apply Ext.drew_r | apply Ext.drewN_r | refine Ext.trans ?_ ‹Ext _ _›)) (e4.ext (by with_reducible repeat' first | exact Ext.refl _ | assumption | apply Ext.alloc_r | apply Ext.drew_r | apply Ext.drewN_r | refine Ext.trans ?_ ‹Ext _ _›)) (by omega) HM.out).mono ?_
              rintro e w40 ⟨sma, Ama, cma, Lma, Bma, dma, Mma, smb, Amb, cmb, Lmb, Bmb, dmb, Mmb, rfl, ma, mb, x40⟩
              replace e0_0 := x40.cell e0_0; replace e0_1 := x40.cell e0_1; replace e0_2 := x40.cell e0_2; replace e0_3 := x40.cell e0_3; replace e0_4 := x40.cell e0_4; replace e0_5 := x40.cell e0_5; replace e1_0 := x40.cell e1_0; replace e1_1 := x40.cell e1_1; replace e1_2 := x40.cell e1_2; replace e1_3 := x40.cell e1_3; replace e1_4 := x40.cell e1_4; replace e1_5 := x40.cell e1_5; replace x_0 := x40.cell x_0; replace x_1 := x40.cell x_1; replace x_2 := x40.cell x_2; replace x_3 := x40.cell x_3; replace x_4 := x40.cell x_4; replace x_5 := x40.cell x_5; replace x_6 := x40.cell x_6; replace x_7 := x40.cell x_7; replace y_0 := x40.cell y_0; replace y_1 := x40.cell y_1; replace y_2 := x40.cell y_2; replace y_3 := x40.cell y_3; replace y_4 := x40.cell y_4; replace y_5 := x40.cell y_5; replace y_6 := x40.cell y_6; replace y_7 := x40.cell y_7
              have HMM := Lib.hid (And.intro ma mb)
              clear ma mb
              have te0_0 := fun o => (Ext.alloc w40 o).cell e0_0; have te0_1 := fun o => (Ext.alloc w40 o).cell e0_1; have te0_2 := fun o => (Ext.alloc w40 o).cell e0_2; have te0_3 := fun o => (Ext.alloc w40 o).cell e0_3; have te0_4 := fun o => (Ext.alloc w40 o).cell e0_4; have te0_5 := fun o => (Ext.alloc w40 o).cell e0_5; have te1_0 := fun o => (Ext.alloc w40 o).cell e1_0; have te1_1 := fun o => (Ext.alloc w40 o).cell e1_1; have te1_2 := fun o => (Ext.alloc w40 o).cell e1_2; have te1_3 := fun o => (Ext.alloc w40 o).cell e1_3; have te1_4 := fun o => (Ext.alloc w40 o).cell e1_4; have te1_5 := fun o => (Ext.alloc w40 o).cell e1_5; have tx_0 := fun o => (Ext.alloc w40 o).cell x_0; have tx_1 := fun o => (Ext.alloc w40 o).cell x_1; have tx_2 := fun o => (Ext.alloc w40 o).cell x_2; have tx_3 := fun o => (Ext.alloc w40 o).cell x_3; have tx_4 := fun o => (Ext.alloc w40 o).cell x_4; have tx_5 := fun o => (Ext.alloc w40 o).cell x_5; have tx_6 := fun o => (Ext.alloc w40 o).cell x_6; have tx_7 := fun o => (Ext.alloc w40 o).cell x_7; have ty_0 := fun o => (Ext.alloc w40 o).cell y_0; have ty_1 := fun o => (Ext.alloc w40 o).cell y_1; have ty_2 := fun o => (Ext.alloc w40 o).cell y_2; have ty_3 := fun o => (Ext.alloc w40 o).cell y_3; have ty_4 := fun o => (Ext.alloc w40 o).cell y_4; have ty_5 := fun o => (Ext.alloc w40 o).cell y_5; have ty_6 := fun o => (Ext.alloc w40 o).cell y_6; have ty_7 := fun o => (Ext.alloc w40 o).cell y_7
              go_wp2_with fail
              clear te0_0 te0_1 te0_2 te0_3 te0_4 te0_5 te1_0 te1_1 te1_2 te1_3 te1_4 te1_5 tx_0 tx_1 tx_2 tx_3 tx_4 tx_5 tx_6 tx_7 ty_0 ty_1 ty_2 ty_3 ty_4 ty_5 ty_6 ty_7
              obtain ⟨w41, hw⟩ : ∃ z : World, z = (w40.alloc (.cells #[.bool sma, .slice Ama Lma cma, .slice Bma Mma dma, .bool smb, .slice Amb Lmb cmb, .slice Bmb Mmb dmb] 29)) := ⟨_, rfl⟩
              rw [← hw]
              have x41 : Ext w40 w41 := by rw [hw]; exact Ext.alloc _ _
              have bb := box_at w40 #[.bool sma, .slice Ama Lma cma, .slice Bma Mma dma, .bool smb, .slice Amb Lmb cmb, .slice Bmb Mmb dmb] 29
              rw [← hw] at bb
              replace e0_0 := x41.cell e0_0; replace e0_1 := x41.cell e0_1; replace e0_2 := x41.cell e0_2; replace e0_3 := x41.cell e0_3; replace e0_4 := x41.cell e0_4; replace e0_5 := x41.cell e0_5; replace e1_0 := x41.cell e1_0; replace e1_1 := x41.cell e1_1; replace e1_2 := x41.cell e1_2; replace e1_3 := x41.cell e1_3; replace e1_4 := x41.cell e1_4; replace e1_5 := x41.cell e1_5; replace x_0 := x41.cell x_0; replace x_1 := x41.cell x_1; replace x_2 := x41.cell x_2; replace x_3 := x41.cell x_3; replace x_4 := x41.cell x_4; replace x_5 := x41.cell x_5; replace x_6 := x41.cell x_6; replace x_7 := x41.cell x_7; replace y_0 := x41.cell y_0; replace y_1 := x41.cell y_1; replace y_2 := x41.cell y_2; replace y_3 := x41.cell y_3; replace y_4 := x41.cell y_4; replace y_5 := x41.cell y_5; replace y_6 := x41.cell y_6; replace y_7 := x41.cell y_7
              have m_0 := bb.1 0 (.bool sma) rfl
              have m_1 := bb.1 1 (.slice Ama Lma cma) rfl
              have m_2 := bb.1 2 (.slice Bma Mma dma) rfl
              have m_3 := bb.1 3 (.bool smb) rfl
              have m_4 := bb.1 4 (.slice Amb Lmb cmb) rfl
              have m_5 := bb.1 5 (.slice Bmb Mmb dmb) rfl
              clear hw bb
              go_wp2_with fail
              go_cut [14, 15] (fun s14 s15 wx => PutLQ w41 wx #[.int .i64 gxa, .slice Axa Lxa cxa, .int .i64 hxa, .slice Bxa Mxa dxa] #[.int .i64 gxb, .slice Axb Lxb cxb, .int .i64 hxb, .slice Bxb Mxb dxb] s14 s15)
              case first => as_aux_lemma =>
                have HK : Hid (∀ w', Ext w41 w' → Ext w41 w' ∧ w'.cell? ⟨bkx, 0, none⟩ = some (.int .i64 gxa) ∧ w'.cell? ⟨bkx, 1, none⟩ = some (.slice Axa Lxa cxa) ∧ w'.cell? ⟨bkx, 2, none⟩ = some (.int .i64 hxa) ∧ w'.cell? ⟨bkx, 3, none⟩ = some (.slice Bxa Mxa dxa) ∧ w'.cell? ⟨bkx, 4, none⟩ = some (.int .i64 gxb) ∧ w'.cell? ⟨bkx, 5, none⟩ = some (.slice Axb Lxb cxb) ∧ w'.cell? ⟨bkx, 6, none⟩ = some (.int .i64 hxb) ∧ w'.cell? ⟨bkx, 7, none⟩ = some (.slice Bxb Mxb dxb)) := fun w' hk => ⟨hk, hk.cell x_0, hk.cell x_1, hk.cell x_2, hk.cell x_3, hk.cell x_4, hk.cell x_5, hk.cell x_6, hk.cell x_7⟩
                first
                | go_region_held3 (fun w' => Ext w41 w' ∧ w'.cell? ⟨bkx, 0, none⟩ = some (.int .i64 gxa) ∧ w'.cell? ⟨bkx, 1, none⟩ = some (.slice Axa Lxa cxa) ∧ w'.cell? ⟨bkx, 2, none⟩ = some (.int .i64 hxa) ∧ w'.cell? ⟨bkx, 3, none⟩ = some (.slice Bxa Mxa dxa) ∧ w'.cell? ⟨bkx, 4, none⟩ = some (.int .i64 gxb) ∧ w'.cell? ⟨bkx, 5, none⟩ = some (.slice Axb Lxb cxb) ∧ w'.cell? ⟨bkx, 6, none⟩ = some (.int .i64 hxb) ∧ w'.cell? ⟨bkx, 7, none⟩ = some (.slice Bxb Mxb dxb))
                    ((with_reducible refine HK.out _ ?_; (repeat' first | (with_reducible first | exact Ext.refl _ | assumption | apply Ext.alloc_r | apply Ext.drew_r | apply Ext.drewN_r | apply Ext.set_r | exact Nat.le_refl _) | omega | with_reducible refine Ext.trans ?_ ‹Ext _ _›)))
                    (fail)
                all_goals (clear HK; go_wp2_with fail; go_meet)
                all_goals
                  refine PutLQ.mk ?_ ?_ ?_ ?_ ?_ ?_
                  · (first | exact Nat.le_refl _ | omega | (simp only [World.size_alloc, World.size_drew]; omega) | (simp; omega))
                  · (first | exact Nat.le_refl _ | omega | (simp only [World.size_alloc, World.size_drew]; omega) | (simp; omega))
                  · (first | omega | (simp; done) | (simp; omega))
                  · (repeat' (first | with_reducible assumption | with_reducible apply BK.set4 | (with_reducible apply BK.far4; (case hne => (first | assumption | omega | (simp; done)))) | (with_reducible apply BK.new_; (first | rfl | (simp; done))) | with_reducible apply BK.alloc_ | with_reducible apply BK.drew_ | with_reducible refine BK.ext ?_ ‹Ext _ _›))
                  · (repeat' (first | with_reducible assumption | with_reducible apply BK.set4 | (with_reducible apply BK.far4; (case hne => (first | assumption | omega | (simp; done)))) | (with_reducible apply BK.new_; (first | rfl | (simp; done))) | with_reducible apply BK.alloc_ | with_reducible apply BK.drew_ | with_reducible refine BK.ext ?_ ‹Ext _ _›))
                  · (repeat' first | (with_reducible first | exact Ext.refl _ | assumption | apply Ext.alloc_r | apply Ext.drew_r | apply Ext.drewN_r | apply Ext.set_r | exact Nat.le_refl _) | omega | with_reducible refine Ext.trans ?_ ‹Ext _ _›)
              case rest =>
                obtain ⟨b4, b5, rfl, rfl, hb4, hb5, hne, bxl, bxh, hxE⟩ := hcut
                obtain ⟨wp, rfl⟩ : ∃ z : World, z = wc := ⟨_, rfl⟩
                have HL : Hid (LHQ wp b4 b5 128 (minQ q1 q2) (maxQ q1 q2)) := LHQ.mk bxl bxh (xa.ext (by with_reducible repeat' first | exact Ext.refl _ | assumption | apply Ext.alloc_r | apply Ext.drew_r | apply Ext.drewN_r | refine Ext.trans ?_ ‹Ext _ _›)) (xb.ext (by with_reducible repeat' first | exact Ext.refl _ | assumption | apply Ext.alloc_r | apply Ext.drew_r | apply Ext.drewN_r | refine Ext.trans ?_ ‹Ext _ _›))
                clear bxl bxh
                obtain ⟨gla0, Ala0, cla0, Lla0, hla0, Bla0, dla0, Mla0, glb0, Alb0, clb0, Llb0, hlb0, Blb0, dlb0, Mlb0, bxl, bxh, lo, hi⟩ := HL.out
                obtain ⟨K1, hK1⟩ : ∃ k : Int, k = cmpQ (minQ q3 q4) (minQ q1 q2) := ⟨_, rfl⟩
                have gK1 : K1 > 0 ↔ (minQ q1 q2) < (minQ q3 q4) := by rw [hK1]; exact cmpQ_gt _ _
                have HC := Lib.hid hK1.symm
                have GK := Lib.hid gK1
                clear gK1 hK1 HL
                have v0 := hxE.cell y_0
                have v1 := hxE.cell y_1
                have v2 := hxE.cell y_2
                have v3 := hxE.cell y_3
                have v4 := hxE.cell y_4
                have v5 := hxE.cell y_5
                have v6 := hxE.cell y_6
                have v7 := hxE.cell y_7
                have kl0 := bxl.c 0 (.int .i64 gla0) rfl
                have kl1 := bxl.c 1 (.slice Ala0 Lla0 cla0) rfl
                have kl2 := bxl.c 2 (.int .i64 hla0) rfl
                have kl3 := bxl.c 3 (.slice Bla0 Mla0 dla0) rfl
                have kh0 := bxh.c 0 (.int .i64 glb0) rfl
                have kh1 := bxh.c 1 (.slice Alb0 Llb0 clb0) rfl
                have kh2 := bxh.c 2 (.int .i64 hlb0) rfl
                have kh3 := bxh.c 3 (.slice Blb0 Mlb0 dlb0) rfl
                go_wp2_with fail
                clear v0 v1 v2 v3 v4 v5 v6 v7 kl0 kl1 kl2 kl3 kh0 kh1 kh2 kh3
                refine (qcmp_k (ya.ext (by with_reducible repeat' first | exact Ext.refl _ | assumption | apply Ext.alloc_r | apply Ext.drew_r | apply Ext.drewN_r | refine Ext.trans ?_ ‹Ext _ _›)) (lo.ext (by with_reducible repeat' first | exact Ext.refl _ | assumption | apply Ext.alloc_r | apply Ext.drew_r | apply Ext.drewN_r | refine Ext.trans ?_ ‹Ext _ _›)) (by omega) HC.out).mono ?_
                rintro e wq0 ⟨rfl, xq0⟩
                have xE0 : Ext w41 wq0 := hxE.trans xq0
                replace bxl := bxl.ext xq0
                replace bxh := bxh.ext xq0
                replace lo := lo.ext xq0
                replace hi := hi.ext xq0
                clear HC
                have v0 := xE0.cell y_0
                have v1 := xE0.cell y_1
                have v2 := xE0.cell y_2
                have v3 := xE0.cell y_3
                have v4 := xE0.cell y_4
                have v5 := xE0.cell y_5
                have v6 := xE0.cell y_6
                have v7 := xE0.cell y_7
                have kl0 := bxl.c 0 (.int .i64 gla0) rfl
                have kl1 := bxl.c 1 (.slice Ala0 Lla0 cla0) rfl
                have kl2 := bxl.c 2 (.int .i64 hla0) rfl
                have kl3 := bxl.c 3 (.slice Bla0 Mla0 dla0) rfl
                have kh0 := bxh.c 0 (.int .i64 glb0) rfl
                have kh1 := bxh.c 1 (.slice Alb0 Llb0 clb0) rfl
                have kh2 := bxh.c 2 (.int .i64 hlb0) rfl
                have kh3 := bxh.c 3 (.slice Blb0 Mlb0 dlb0) rfl
                have fz0 := bxl.f 0
                have fz1 := bxl.f 1
                have fz2 := bxl.f 2
                have fz3 := bxl.f 3
                go_upto_if 125 with fail
                go_cut [] (fun wx => LHQ wx b4 b5 128 (maxQ (minQ q1 q2) (minQ q3 q4)) (maxQ q1 q2) ∧ Ext w41 wx)
                case first => as_aux_lemma =>
                  by_cases hA : K1 > 0
                  · have HE : Hid ((maxQ (minQ q1 q2) (minQ q3 q4)) = (minQ q3 q4)) := max_of_le (Rat.le_of_lt (GK.out.1 hA))
                    clear GK
                    have hAb : decide (K1 > 0) = true := decide_eq_true hA
                    have hAc : decide (0 < K1) = true := decide_eq_true hA
                    go_wp2_with fail
                    clear v0 v1 v2 v3 v4 v5 v6 v7 kl0 kl1 kl2 kl3 kh0 kh1 kh2 kh3 fz0 fz1 fz2 fz3
                    go_meet
                    have yz := ya.ext (show Ext _ wq0 from (by with_reducible repeat' first | exact Ext.refl _ | assumption | apply Ext.alloc_r | apply Ext.drew_r | apply Ext.drewN_r | refine Ext.trans ?_ ‹Ext _ _›))
                    refine ⟨?_, ?_⟩
                    · rw [HE.out]
                      exact LHQ.set_lo hne bxl bxh yz hi
                    · exact Ext.set4 xE0 hb4
                  · have HE : Hid ((maxQ (minQ q1 q2) (minQ q3 q4)) = (minQ q1 q2)) := (maxQ_comm _ _).trans (max_of_le (Rat.not_lt.1 (fun h => hA (GK.out.2 h))))
                    clear GK
                    have hAb : decide (K1 > 0) = false := decide_eq_false hA
                    have hAc : decide (0 < K1) = false := decide_eq_false hA
                    go_wp2_with fail
                    clear v0 v1 v2 v3 v4 v5 v6 v7 kl0 kl1 kl2 kl3 kh0 kh1 kh2 kh3 fz0 fz1 fz2 fz3
                    go_meet
                    refine ⟨?_, xE0⟩
                    rw [HE.out]
                    exact LHQ.mk bxl bxh lo hi
                case rest =>
                  clear v0 v1 v2 v3 v4 v5 v6 v7 kl0 kl1 kl2 kl3 kh0 kh1 kh2 kh3 fz0 fz1 fz2 fz3 bxl bxh lo hi GK
                  obtain ⟨hl0, hxE0⟩ := hcut
                  have HL := Lib.hid hl0
                  clear hl0
                  obtain ⟨wp0, rfl⟩ : ∃ z : World, z = wc := ⟨_, rfl⟩
                  obtain ⟨gla1, Ala1, cla1, Lla1, hla1, Bla1, dla1, Mla1, glb1, Alb1, clb1, Llb1, hlb1, Blb1, dlb1, Mlb1, bxl, bxh, lo, hi⟩ := HL.out
                  obtain ⟨K2, hK2⟩ : ∃ k : Int, k = cmpQ (maxQ q3 q4) (maxQ q1 q2) := ⟨_, rfl⟩
                  have gK2 : K2 < 0 ↔ (maxQ q3 q4) < (maxQ q1 q2) := by rw [hK2]; exact cmpQ_lt _ _
                  have HC := Lib.hid hK2.symm
                  have GK := Lib.hid gK2
                  clear gK2 hK2 HL
                  have v0 := hxE0.cell y_0
                  have v1 := hxE0.cell y_1
                  have v2 := hxE0.cell y_2
                  have v3 := hxE0.cell y_3
                  have v4 := hxE0.cell y_4
                  have v5 := hxE0.cell y_5
                  have v6 := hxE0.cell y_6
                  have v7 := hxE0.cell y_7
                  have kl0 := bxl.c 0 (.int .i64 gla1) rfl
                  have kl1 := bxl.c 1 (.slice Ala1 Lla1 cla1) rfl
                  have kl2 := bxl.c 2 (.int .i64 hla1) rfl
                  have kl3 := bxl.c 3 (.slice Bla1 Mla1 dla1) rfl
                  have kh0 := bxh.c 0 (.int .i64 glb1) rfl
                  have kh1 := bxh.c 1 (.slice Alb1 Llb1 clb1) rfl
                  have kh2 := bxh.c 2 (.int .i64 hlb1) rfl
                  have kh3 := bxh.c 3 (.slice Blb1 Mlb1 dlb1) rfl
                  go_wp2_with fail
                  clear v0 v1 v2 v3 v4 v5 v6 v7 kl0 kl1 kl2 kl3 kh0 kh1 kh2 kh3
                  refine (qcmp_k (yb.ext (by with_reducible repeat' first | exact Ext.refl _ | assumption | apply Ext.alloc_r | apply Ext.drew_r | apply Ext.drewN_r | refine Ext.trans ?_ ‹Ext _ _›)) (hi.ext (by with_reducible repeat' first | exact Ext.refl _ | assumption | apply Ext.alloc_r | apply Ext.drew_r | apply Ext.drewN_r | refine Ext.trans ?_ ‹Ext _ _›)) (by omega) HC.out).mono ?_
                  rintro e wq1 ⟨rfl, xq1⟩
                  have xE1 : Ext w41 wq1 := hxE0.trans xq1
                  replace bxl := bxl.ext xq1
                  replace bxh := bxh.ext xq1
                  replace lo := lo.ext xq1
                  replace hi := hi.ext xq1
                  clear HC
                  have v0 := xE1.cell y_0
                  have v1 := xE1.cell y_1
                  have v2 := xE1.cell y_2
                  have v3 := xE1.cell y_3
                  have v4 := xE1.cell y_4
                  have v5 := xE1.cell y_5
                  have v6 := xE1.cell y_6
                  have v7 := xE1.cell y_7
                  have kl0 := bxl.c 0 (.int .i64 gla1) rfl
                  have kl1 := bxl.c 1 (.slice Ala1 Lla1 cla1) rfl
                  have kl2 := bxl.c 2 (.int .i64 hla1) rfl
                  have kl3 := bxl.c 3 (.slice Bla1 Mla1 dla1) rfl
                  have kh0 := bxh.c 0 (.int .i64 glb1) rfl
                  have kh1 := bxh.c 1 (.slice Alb1 Llb1 clb1) rfl
                  have kh2 := bxh.c 2 (.int .i64 hlb1) rfl
                  have kh3 := bxh.c 3 (.slice Blb1 Mlb1 dlb1) rfl
                  have fz0 := bxh.f 0
                  have fz1 := bxh.f 1
                  have fz2 := bxh.f 2
                  have fz3 := bxh.f 3
                  go_upto_if 132 with fail
                  go_cut [] (fun wx => LHQ wx b4 b5 128 (maxQ (minQ q1 q2) (minQ q3 q4)) (minQ (maxQ q1 q2) (maxQ q3 q4)) ∧ Ext w41 wx)
                  case first => as_aux_lemma =>
                    by_cases hA : K2 < 0
                    · have HE : Hid ((minQ (maxQ q1 q2) (maxQ q3 q4)) = (maxQ q3 q4)) := (minQ_comm _ _).trans (min_of_le (Rat.le_of_lt (GK.out.1 hA)))
                      clear GK
                      have hAb : decide (K2 < 0) = true := decide_eq_true hA
                      go_wp2_with fail
                      clear v0 v1 v2 v3 v4 v5 v6 v7 kl0 kl1 kl2 kl3 kh0 kh1 kh2 kh3 fz0 fz1 fz2 fz3
                      go_meet
                      have yz := yb.ext (show Ext _ wq1 from (by with_reducible repeat' first | exact Ext.refl _ | assumption | apply Ext.alloc_r | apply Ext.drew_r | apply Ext.drewN_r | refine Ext.trans ?_ ‹Ext _ _›))
                      refine ⟨?_, ?_⟩
                      · rw [HE.out]
                        exact LHQ.set_hi hne bxl bxh lo yz
                      · exact Ext.set4 xE1 hb5
                    · have HE : Hid ((minQ (maxQ q1 q2) (maxQ q3 q4)) = (maxQ q1 q2)) := min_of_le (Rat.not_lt.1 (fun h => hA (GK.out.2 h)))
                      clear GK
                      have hAb : decide (K2 < 0) = false := decide_eq_false hA
                      go_wp2_with fail
                      clear v0 v1 v2 v3 v4 v5 v6 v7 kl0 kl1 kl2 kl3 kh0 kh1 kh2 kh3 fz0 fz1 fz2 fz3
                      go_meet
                      refine ⟨?_, xE1⟩
                      rw [HE.out]
                      exact LHQ.mk bxl bxh lo hi
                  case rest =>
                    clear v0 v1 v2 v3 v4 v5 v6 v7 kl0 kl1 kl2 kl3 kh0 kh1 kh2 kh3 fz0 fz1 fz2 fz3 bxl bxh lo hi GK
                    obtain ⟨hl0, hxE1⟩ := hcut
                    have HL := Lib.hid hl0
                    clear hl0
                    obtain ⟨wp1, rfl⟩ : ∃ z : World, z = wc := ⟨_, rfl⟩
                    obtain ⟨glz, Alz, clz, Llz, hlz, Blz, dlz, Mlz, ghz, Ahz, chz, Lhz, hhz, Bhz, dhz, Mhz, bxl, bxh, lo, hi⟩ := HL.out
                    obtain ⟨K3, hK3⟩ : ∃ k : Int, k = cmpQ (maxQ (minQ q1 q2) (minQ q3 q4)) (minQ (maxQ q1 q2) (maxQ q3 q4)) := ⟨_, rfl⟩
                    have hk3 : ¬ K3 > 0 := by rw [hK3]; exact fun h => Rat.not_lt.2 HM.out ((cmpQ_gt _ _).1 h)
                    have HC := Lib.hid hK3.symm
                    clear hK3 HL
                    have v0 := hxE1.cell y_0
                    have v1 := hxE1.cell y_1
                    have v2 := hxE1.cell y_2
                    have v3 := hxE1.cell y_3
                    have v4 := hxE1.cell y_4
                    have v5 := hxE1.cell y_5
                    have v6 := hxE1.cell y_6
                    have v7 := hxE1.cell y_7
                    have kl0 := bxl.c 0 (.int .i64 glz) rfl
                    have kl1 := bxl.c 1 (.slice Alz Llz clz) rfl
                    have kl2 := bxl.c 2 (.int .i64 hlz) rfl
                    have kl3 := bxl.c 3 (.slice Blz Mlz dlz) rfl
                    have kh0 := bxh.c 0 (.int .i64 ghz) rfl
                    have kh1 := bxh.c 1 (.slice Ahz Lhz chz) rfl
                    have kh2 := bxh.c 2 (.int .i64 hhz) rfl
                    have kh3 := bxh.c 3 (.slice Bhz Mhz dhz) rfl
                    go_wp2_with fail
                    clear v0 v1 v2 v3 v4 v5 v6 v7 kl0 kl1 kl2 kl3 kh0 kh1 kh2 kh3
                    refine (qcmp_k (lo.ext (by with_reducible repeat' first | exact Ext.refl _ | assumption | apply Ext.alloc_r | apply Ext.drew_r | apply Ext.drewN_r | refine Ext.trans ?_ ‹Ext _ _›)) (hi.ext (by with_reducible repeat' first | exact Ext.refl _ | assumption | apply Ext.alloc_r | apply Ext.drew_r | apply Ext.drewN_r | refine Ext.trans ?_ ‹Ext _ _›)) (by omega) HC.out).mono ?_
                    rintro e wq9 ⟨rfl, xq9⟩
                    have xE9 : Ext w41 wq9 := hxE1.trans xq9
                    replace bxl := bxl.ext xq9
                    replace bxh := bxh.ext xq9
                    clear HC
                    have v0 := xE9.cell y_0
                    have v1 := xE9.cell y_1
                    have v2 := xE9.cell y_2
                    have v3 := xE9.cell y_3
                    have v4 := xE9.cell y_4
                    have v5 := xE9.cell y_5
                    have v6 := xE9.cell y_6
                    have v7 := xE9.cell y_7
                    have kl0 := bxl.c 0 (.int .i64 glz) rfl
                    have kl1 := bxl.c 1 (.slice Alz Llz clz) rfl
                    have kl2 := bxl.c 2 (.int .i64 hlz) rfl
                    have kl3 := bxl.c 3 (.slice Blz Mlz dlz) rfl
                    have kh0 := bxh.c 0 (.int .i64 ghz) rfl
                    have kh1 := bxh.c 1 (.slice Ahz Lhz chz) rfl
                    have kh2 := bxh.c 2 (.int .i64 hhz) rfl
                    have kh3 := bxh.c 3 (.slice Bhz Mhz dhz) rfl
                    have vm0 := xE9.cell m_0
                    have vm1 := xE9.cell m_1
                    have vm2 := xE9.cell m_2
                    have vm3 := xE9.cell m_3
                    have vm4 := xE9.cell m_4
                    have vm5 := xE9.cell m_5
                    go_wp2_with fail
                    clear v0 v1 v2 v3 v4 v5 v6 v7 kl0 kl1 kl2 kl3 kh0 kh1 kh2 kh3 vm0 vm1 vm2 vm3 vm4 vm5
                    refine (lis6 (HMM.out.1.ext (by with_reducible repeat' first | exact Ext.refl _ | assumption | apply Ext.alloc_r | apply Ext.drew_r | apply Ext.drewN_r | refine Ext.trans ?_ ‹Ext _ _›)) (HMM.out.2.ext (by with_reducible repeat' first | exact Ext.refl _ | assumption | apply Ext.alloc_r | apply Ext.drew_r | apply Ext.drewN_r | refine Ext.trans ?_ ‹Ext _ _›)) (lo.ext (by with_reducible repeat' first | exact Ext.refl _ | assumption | apply Ext.alloc_r | apply Ext.drew_r | apply Ext.drewN_r | refine Ext.trans ?_ ‹Ext _ _›)) (hi.ext (by with_reducible repeat' first | exact Ext.refl _ | assumption | apply Ext.alloc_r | apply Ext.drew_r | apply Ext.drewN_r | refine Ext.trans ?_ ‹Ext _ _›)) rfl rfl (by omega)).mono ?_
                    rintro e wq10 ⟨rfl, xq10⟩
                    go_wp2_with fail
                    go_ret
                    exact ⟨rfl, (by with_reducible repeat' first | exact Ext.refl _ | assumption | apply Ext.alloc_r | apply Ext.drew_r | apply Ext.drewN_r | refine Ext.trans ?_ ‹Ext _ _›)⟩
            · have HM := Lib.hid hM
              clear hM
              go_wp2_with fail
              refine (imeet_no (e1.ext (by with_reducible repeat' first | exact Ext.refl _ | assumption | apply Ext.alloc_r | apply Ext.drew_r | apply Ext.drewN_r | refine Ext.trans ?_ ‹Ext _ _›)) (e2.ext (by with_reducible repeat' first | exact Ext.refl _ | assumption | apply Ext.alloc_r | apply Ext.drew_r | apply Ext.drewN_r | refine Ext.trans ?_ ‹Ext _ _›)) (e3.ext (by with_reducible repeat' first | exact Ext.refl _ | assumption | apply Ext.alloc_r | apply Ext.drew_r | apply Ext.drewN_r | refine Ext.trans ?_ ‹Ext _ _›)) (e4.ext (by with_reducible repeat' first | exact Ext.refl _ | assumption | apply Ext.alloc_r | apply Ext.drew_r | apply Ext.drewN_r | refine Ext.trans ?_ ‹Ext _ _›)) (by omega) (Rat.not_le.1 HM.out)).mono ?_
              rintro e w40 ⟨rfl, x40⟩
              replace e0_0 := x40.cell e0_0; replace e0_1 := x40.cell e0_1; replace e0_2 := x40.cell e0_2; replace e0_3 := x40.cell e0_3; replace e0_4 := x40.cell e0_4; replace e0_5 := x40.cell e0_5; replace e1_0 := x40.cell e1_0; replace e1_1 := x40.cell e1_1; replace e1_2 := x40.cell e1_2; replace e1_3 := x40.cell e1_3; replace e1_4 := x40.cell e1_4; replace e1_5 := x40.cell e1_5; replace x_0 := x40.cell x_0; replace x_1 := x40.cell x_1; replace x_2 := x40.cell x_2; replace x_3 := x40.cell x_3; replace x_4 := x40.cell x_4; replace x_5 := x40.cell x_5; replace x_6 := x40.cell x_6; replace x_7 := x40.cell x_7; replace y_0 := x40.cell y_0; replace y_1 := x40.cell y_1; replace y_2 := x40.cell y_2; replace y_3 := x40.cell y_3; replace y_4 := x40.cell y_4; replace y_5 := x40.cell y_5; replace y_6 := x40.cell y_6; replace y_7 := x40.cell y_7
              have te0_0 := fun o => (Ext.alloc w40 o).cell e0_0; have te0_1 := fun o => (Ext.alloc w40 o).cell e0_1; have te0_2 := fun o => (Ext.alloc w40 o).cell e0_2; have te0_3 := fun o => (Ext.alloc w40 o).cell e0_3; have te0_4 := fun o => (Ext.alloc w40 o).cell e0_4; have te0_5 := fun o => (Ext.alloc w40 o).cell e0_5; have te1_0 := fun o => (Ext.alloc w40 o).cell e1_0; have te1_1 := fun o => (Ext.alloc w40 o).cell e1_1; have te1_2 := fun o => (Ext.alloc w40 o).cell e1_2; have te1_3 := fun o => (Ext.alloc w40 o).cell e1_3; have te1_4 := fun o => (Ext.alloc w40 o).cell e1_4; have te1_5 := fun o => (Ext.alloc w40 o).cell e1_5; have tx_0 := fun o => (Ext.alloc w40 o).cell x_0; have tx_1 := fun o => (Ext.alloc w40 o).cell x_1; have tx_2 := fun o => (Ext.alloc w40 o).cell x_2; have tx_3 := fun o => (Ext.alloc w40 o).cell x_3; have tx_4 := fun o => (Ext.alloc w40 o).cell x_4; have tx_5 := fun o => (Ext.alloc w40 o).cell x_5; have tx_6 := fun o => (Ext.alloc w40 o).cell x_6; have tx_7 := fun o => (Ext.alloc w40 o).cell x_7; have ty_0 := fun o => (Ext.alloc w40 o).cell y_0; have ty_1 := fun o => (Ext.alloc w40 o).cell y_1; have ty_2 := fun o => (Ext.alloc w40 o).cell y_2; have ty_3 := fun o => (Ext.alloc w40 o).cell y_3; have ty_4 := fun o => (Ext.alloc w40 o).cell y_4; have ty_5 := fun o => (Ext.alloc w40 o).cell y_5; have ty_6 := fun o => (Ext.alloc w40 o).cell y_6; have ty_7 := fun o => (Ext.alloc w40 o).cell y_7
              go_wp2_with fail
              clear te0_0 te0_1 te0_2 te0_3 te0_4 te0_5 te1_0 te1_1 te1_2 te1_3 te1_4 te1_5 tx_0 tx_1 tx_2 tx_3 tx_4 tx_5 tx_6 tx_7 ty_0 ty_1 ty_2 ty_3 ty_4 ty_5 ty_6 ty_7
              obtain ⟨w41, hw⟩ : ∃ z : World, z = (w40.alloc (.cells #[.bool false, .slice none 0 0, .slice none 0 0, .bool false, .slice none 0 0, .slice none 0 0] 29)) := ⟨_, rfl⟩
              rw [← hw]
              have x41 : Ext w40 w41 := by rw [hw]; exact Ext.alloc _ _
              have bb := box_at w40 #[.bool false, .slice none 0 0, .slice none 0 0, .bool false, .slice none 0 0, .slice none 0 0] 29
              rw [← hw] at bb
              replace e0_0 := x41.cell e0_0; replace e0_1 := x41.cell e0_1; replace e0_2 := x41.cell e0_2; replace e0_3 := x41.cell e0_3; replace e0_4 := x41.cell e0_4; replace e0_5 := x41.cell e0_5; replace e1_0 := x41.cell e1_0; replace e1_1 := x41.cell e1_1; replace e1_2 := x41.cell e1_2; replace e1_3 := x41.cell e1_3; replace e1_4 := x41.cell e1_4; replace e1_5 := x41.cell e1_5; replace x_0 := x41.cell x_0; replace x_1 := x41.cell x_1; replace x_2 := x41.cell x_2; replace x_3 := x41.cell x_3; replace x_4 := x41.cell x_4; replace x_5 := x41.cell x_5; replace x_6 := x41.cell x_6; replace x_7 := x41.cell x_7; replace y_0 := x41.cell y_0; replace y_1 := x41.cell y_1; replace y_2 := x41.cell y_2; replace y_3 := x41.cell y_3; replace y_4 := x41.cell y_4; replace y_5 := x41.cell y_5; replace y_6 := x41.cell y_6; replace y_7 := x41.cell y_7
              have m_0 := bb.1 0 (.bool false) rfl
              have m_1 := bb.1 1 (.slice none 0 0) rfl
              have m_2 := bb.1 2 (.slice none 0 0) rfl
              have m_3 := bb.1 3 (.bool false) rfl
              have m_4 := bb.1 4 (.slice none 0 0) rfl
              have m_5 := bb.1 5 (.slice none 0 0) rfl
              clear hw bb
              go_wp2_with fail
              go_cut [14, 15] (fun s14 s15 wx => PutLQ w41 wx #[.int .i64 gxa, .slice Axa Lxa cxa, .int .i64 hxa, .slice Bxa Mxa dxa] #[.int .i64 gxb, .slice Axb Lxb cxb, .int .i64 hxb, .slice Bxb Mxb dxb] s14 s15)
              case first => as_aux_lemma =>
                have HK : Hid (∀ w', Ext w41 w' → Ext w41 w' ∧ w'.cell? ⟨bkx, 0, none⟩ = some (.int .i64 gxa) ∧ w'.cell? ⟨bkx, 1, none⟩ = some (.slice Axa Lxa cxa) ∧ w'.cell? ⟨bkx, 2, none⟩ = some (.int .i64 hxa) ∧ w'.cell? ⟨bkx, 3, none⟩ = some (.slice Bxa Mxa dxa) ∧ w'.cell? ⟨bkx, 4, none⟩ = some (.int .i64 gxb) ∧ w'.cell? ⟨bkx, 5, none⟩ = some (.slice Axb Lxb cxb) ∧ w'.cell? ⟨bkx, 6, none⟩ = some (.int .i64 hxb) ∧ w'.cell? ⟨bkx, 7, none⟩ = some (.slice Bxb Mxb dxb)) := fun w' hk => ⟨hk, hk.cell x_0, hk.cell x_1, hk.cell x_2, hk.cell x_3, hk.cell x_4, hk.cell x_5, hk.cell x_6, hk.cell x_7⟩
                first
                | go_region_held3 (fun w' => Ext w41 w' ∧ w'.cell? ⟨bkx, 0, none⟩ = some (.int .i64 gxa) ∧ w'.cell? ⟨bkx, 1, none⟩ = some (.slice Axa Lxa cxa) ∧ w'.cell? ⟨bkx, 2, none⟩ = some (.int .i64 hxa) ∧ w'.cell? ⟨bkx, 3, none⟩ = some (.slice Bxa Mxa dxa) ∧ w'.cell? ⟨bkx, 4, none⟩ = some (.int .i64 gxb) ∧ w'.cell? ⟨bkx, 5, none⟩ = some (.slice Axb Lxb cxb) ∧ w'.cell? ⟨bkx, 6, none⟩ = some (.int .i64 hxb) ∧ w'.cell? ⟨bkx, 7, none⟩ = some (.slice Bxb Mxb dxb))
                    ((with_reducible refine HK.out _ ?_; (repeat' first | (with_reducible first | exact Ext.refl _ | assumption | apply Ext.alloc_r | apply Ext.drew_r | apply Ext.drewN_r | apply Ext.set_r | exact Nat.le_refl _) | omega | with_reducible refine Ext.trans ?_ ‹Ext _ _›)))
                    (fail)
                all_goals (clear HK; go_wp2_with fail; go_meet)
                all_goals
                  refine PutLQ.mk ?_ ?_ ?_ ?_ ?_ ?_
                  · (first | exact Nat.le_refl _ | omega | (simp only [World.size_alloc, World.size_drew]; omega) | (simp; omega))
                  · (first | exact Nat.le_refl _ | omega | (simp only [World.size_alloc, World.size_drew]; omega) | (simp; omega))
                  · (first | omega | (simp; done) | (simp; omega))
                  · (repeat' (first | with_reducible assumption | with_reducible apply BK.set4 | (with_reducible apply BK.far4; (case hne => (first | assumption | omega | (simp; done)))) | (with_reducible apply BK.new_; (first | rfl | (simp; done))) | with_reducible apply BK.alloc_ | with_reducible apply BK.drew_ | with_reducible refine BK.ext ?_ ‹Ext _ _›))
                  · (repeat' (first | with_reducible assumption | with_reducible apply BK.set4 | (with_reducible apply BK.far4; (case hne => (first | assumption | omega | (simp; done)))) | (with_reducible apply BK.new_; (first | rfl | (simp; done))) | with_reducible apply BK.alloc_ | with_reducible apply BK.drew_ | with_reducible refine BK.ext ?_ ‹Ext _ _›))
                  · (repeat' first | (with_reducible first | exact Ext.refl _ | assumption | apply Ext.alloc_r | apply Ext.drew_r | apply Ext.drewN_r | apply Ext.set_r | exact Nat.le_refl _) | omega | with_reducible refine Ext.trans ?_ ‹Ext _ _›)
              case rest =>
                obtain ⟨b4, b5, rfl, rfl, hb4, hb5, hne, bxl, bxh, hxE⟩ := hcut
                obtain ⟨wp, rfl⟩ : ∃ z : World, z = wc := ⟨_, rfl⟩
                have HL : Hid (LHQ wp b4 b5 128 (minQ q1 q2) (maxQ q1 q2)) := LHQ.mk bxl bxh (xa.ext (by with_reducible repeat' first | exact Ext.refl _ | assumption | apply Ext.alloc_r | apply Ext.drew_r | apply Ext.drewN_r | refine Ext.trans ?_ ‹Ext _ _›)) (xb.ext (by with_reducible repeat' first | exact Ext.refl _ | assumption | apply Ext.alloc_r | apply Ext.drew_r | apply Ext.drewN_r | refine Ext.trans ?_ ‹Ext _ _›))
                clear bxl bxh
                obtain ⟨gla0, Ala0, cla0, Lla0, hla0, Bla0, dla0, Mla0, glb0, Alb0, clb0, Llb0, hlb0, Blb0, dlb0, Mlb0, bxl, bxh, lo, hi⟩ := HL.out
                obtain ⟨K1, hK1⟩ : ∃ k : Int, k = cmpQ (minQ q3 q4) (minQ q1 q2) := ⟨_, rfl⟩
                have gK1 : K1 > 0 ↔ (minQ q1 q2) < (minQ q3 q4) := by rw [hK1]; exact cmpQ_gt _ _
                have HC := Lib.hid hK1.symm
                have GK := Lib.hid gK1
                clear gK1 hK1 HL
                have v0 := hxE.cell y_0
                have v1 := hxE.cell y_1
                have v2 := hxE.cell y_2
                have v3 := hxE.cell y_3
                have v4 := hxE.cell y_4
                have v5 := hxE.cell y_5
                have v6 := hxE.cell y_6
                have v7 := hxE.cell y_7
                have kl0 := bxl.c 0 (.int .i64 gla0) rfl
                have kl1 := bxl.c 1 (.slice Ala0 Lla0 cla0) rfl
                have kl2 := bxl.c 2 (.int .i64 hla0) rfl
                have kl3 := bxl.c 3 (.slice Bla0 Mla0 dla0) rfl
                have kh0 := bxh.c 0 (.int .i64 glb0) rfl
                have kh1 := bxh.c 1 (.slice Alb0 Llb0 clb0) rfl
                have kh2 := bxh.c 2 (.int .i64 hlb0) rfl
                have kh3 := bxh.c 3 (.slice Blb0 Mlb0 dlb0) rfl
                go_wp2_with fail
                clear v0 v1 v2 v3 v4 v5 v6 v7 kl0 kl1 kl2 kl3 kh0 kh1 kh2 kh3
                refine (qcmp_k (ya.ext (by with_reducible repeat' first | exact Ext.refl _ | assumption | apply Ext.alloc_r | apply Ext.drew_r | apply Ext.drewN_r | refine Ext.trans ?_ ‹Ext _ _›)) (lo.ext (by with_reducible repeat' first | exact Ext.refl _ | assumption | apply Ext.alloc_r | apply Ext.drew_r | apply Ext.drewN_r | refine Ext.trans ?_ ‹Ext _ _›)) (by omega) HC.out).mono ?_
                rintro e wq0 ⟨rfl, xq0⟩
                have xE0 : Ext w41 wq0 := hxE.trans xq0
                replace bxl := bxl.ext xq0
                replace bxh := bxh.ext xq0
                replace lo := lo.ext xq0
                replace hi := hi.ext xq0
                clear HC
                have v0 := xE0.cell y_0
                have v1 := xE0.cell y_1
                have v2 := xE0.cell y_2
                have v3 := xE0.cell y_3
                have v4 := xE0.cell y_4
                have v5 := xE0.cell y_5
                have v6 := xE0.cell y_6
                have v7 := xE0.cell y_7
                have kl0 := bxl.c 0 (.int .i64 gla0) rfl
                have kl1 := bxl.c 1 (.slice Ala0 Lla0 cla0) rfl
                have kl2 := bxl.c 2 (.int .i64 hla0) rfl
                have kl3 := bxl.c 3 (.slice Bla0 Mla0 dla0) rfl
                have kh0 := bxh.c 0 (.int .i64 glb0) rfl
                have kh1 := bxh.c 1 (.slice Alb0 Llb0 clb0) rfl
                have kh2 := bxh.c 2 (.int .i64 hlb0) rfl
                have kh3 := bxh.c 3 (.slice Blb0 Mlb0 dlb0) rfl
                have fz0 := bxl.f 0
                have fz1 := bxl.f 1
                have fz2 := bxl.f 2
                have fz3 := bxl.f 3
                go_upto_if 125 with fail
                go_cut [] (fun wx => LHQ wx b4 b5 128 (maxQ (minQ q1 q2) (minQ q3 q4)) (maxQ q1 q2) ∧ Ext w41 wx)
                case first => as_aux_lemma =>
                  by_cases hA : K1 > 0
                  · have HE : Hid ((maxQ (minQ q1 q2) (minQ q3 q4)) = (minQ q3 q4)) := max_of_le (Rat.le_of_lt (GK.out.1 hA))
                    clear GK
                    have hAb : decide (K1 > 0) = true := decide_eq_true hA
                    have hAc : decide (0 < K1) = true := decide_eq_true hA
                    go_wp2_with fail
                    clear v0 v1 v2 v3 v4 v5 v6 v7 kl0 kl1 kl2 kl3 kh0 kh1 kh2 kh3 fz0 fz1 fz2 fz3
                    go_meet
                    have yz := ya.ext (show Ext _ wq0 from (by with_reducible repeat' first | exact Ext.refl _ | assumption | apply Ext.alloc_r | apply Ext.drew_r | apply Ext.drewN_r | refine Ext.trans ?_ ‹Ext _ _›))
                    refine ⟨?_, ?_⟩
                    · rw [HE.out]
                      exact LHQ.set_lo hne bxl bxh yz hi
                    · exact Ext.set4 xE0 hb4
                  · have HE : Hid ((maxQ (minQ q1 q2) (minQ q3 q4)) = (minQ q1 q2)) := (maxQ_comm _ _).trans (max_of_le (Rat.not_lt.1 (fun h => hA (GK.out.2 h))))
                    clear GK
                    have hAb : decide (K1 > 0) = false := decide_eq_false hA
                    have hAc : decide (0 < K1) = false := decide_eq_false hA
                    go_wp2_with fail
                    clear v0 v1 v2 v3 v4 v5 v6 v7 kl0 kl1 kl2 kl3 kh0 kh1 kh2 kh3 fz0 fz1 fz2 fz3
                    go_meet
                    refine ⟨?_, xE0⟩
                    rw [HE.out]
                    exact LHQ.mk bxl bxh lo hi
                case rest =>
                  clear v0 v1 v2 v3 v4 v5 v6 v7 kl0 kl1 kl2 kl3 kh0 kh1 kh2 kh3 fz0 fz1 fz2 fz3 bxl bxh lo hi GK
                  obtain ⟨hl0, hxE0⟩ := hcut
                  have HL := Lib.hid hl0
                  clear hl0
                  obtain ⟨wp0, rfl⟩ : ∃ z : World, z = wc := ⟨_, rfl⟩
                  obtain ⟨gla1, Ala1, cla1, Lla1, hla1, Bla1, dla1, Mla1, glb1, Alb1, clb1, Llb1, hlb1, Blb1, dlb1, Mlb1, bxl, bxh, lo, hi⟩ := HL.out
                  obtain ⟨K2, hK2⟩ : ∃ k : Int, k = cmpQ (maxQ q3 q4) (maxQ q1 q2) := ⟨_, rfl⟩
                  have gK2 : K2 < 0 ↔ (maxQ q3 q4) < (maxQ q1 q2) := by rw [hK2]; exact cmpQ_lt _ _
                  have HC := Lib.hid hK2.symm
                  have GK := Lib.hid gK2
                  clear gK2 hK2 HL
                  have v0 := hxE0.cell y_0
                  have v1 := hxE0.cell y_1
                  have v2 := hxE0.cell y_2
                  have v3 := hxE0.cell y_3
                  have v4 := hxE0.cell y_4
                  have v5 := hxE0.cell y_5
                  have v6 := hxE0.cell y_6
                  have v7 := hxE0.cell y_7
                  have kl0 := bxl.c 0 (.int .i64 gla1) rfl
                  have kl1 := bxl.c 1 (.slice Ala1 Lla1 cla1) rfl
                  have kl2 := bxl.c 2 (.int .i64 hla1) rfl
                  have kl3 := bxl.c 3 (.slice Bla1 Mla1 dla1) rfl
                  have kh0 := bxh.c 0 (.int .i64 glb1) rfl
                  have kh1 := bxh.c 1 (.slice Alb1 Llb1 clb1) rfl
                  have kh2 := bxh.c 2 (.int .i64 hlb1) rfl
                  have kh3 := bxh.c 3 (.slice Blb1 Mlb1 dlb1) rfl
                  go_wp2_with fail
                  clear v0 v1 v2 v3 v4 v5 v6 v7 kl0 kl1 kl2 kl3 kh0 kh1 kh2 kh3
                  refine (qcmp_k (yb.ext (by with_reducible repeat' first | exact Ext.refl _ | assumption | apply Ext.alloc_r | apply Ext.drew_r | apply Ext.drewN_r | refine Ext.trans ?_ ‹Ext _ _›)) (hi.ext (by with_reducible repeat' first | exact Ext.refl _ | assumption | apply Ext.alloc_r | apply Ext.drew_r | apply Ext.drewN_r | refine Ext.trans ?_ ‹Ext _ _›)) (by omega) HC.out).mono ?_
                  rintro e wq1 ⟨rfl, xq1⟩
                  have xE1 : Ext w41 wq1 := hxE0.trans xq1
                  replace bxl := bxl.ext xq1
                  replace bxh := bxh.ext xq1
                  replace lo := lo.ext xq1
                  replace hi := hi.ext xq1
                  clear HC
                  have v0 := xE1.cell y_0
                  have v1 := xE1.cell y_1
                  have v2 := xE1.cell y_2
                  have v3 := xE1.cell y_3
                  have v4 := xE1.cell y_4
                  have v5 := xE1.cell y_5
                  have v6 := xE1.cell y_6
                  have v7 := xE1.cell y_7
                  have kl0 := bxl.c 0 (.int .i64 gla1) rfl
                  have kl1 := bxl.c 1 (.slice Ala1 Lla1 cla1) rfl
                  have kl2 := bxl.c 2 (.int .i64 hla1) rfl
                  have kl3 := bxl.c 3 (.slice Bla1 Mla1 dla1) rfl
                  have kh0 := bxh.c 0 (.int .i64 glb1) rfl
                  have kh1 := bxh.c 1 (.slice Alb1 Llb1 clb1) rfl
                  have kh2 := bxh.c 2 (.int .i64 hlb1) rfl
                  have kh3 := bxh.c 3 (.slice Blb1 Mlb1 dlb1) rfl
                  have fz0 := bxh.f 0
                  have fz1 := bxh.f 1
                  have fz2 := bxh.f 2
                  have fz3 := bxh.f 3
                  go_upto_if 132 with fail
                  go_cut [] (fun wx => LHQ wx b4 b5 128 (maxQ (minQ q1 q2) (minQ q3 q4)) (minQ (maxQ q1 q2) (maxQ q3 q4)) ∧ Ext w41 wx)
                  case first => as_aux_lemma =>
                    by_cases hA : K2 < 0
                    · have HE : Hid ((minQ (maxQ q1 q2) (maxQ q3 q4)) = (maxQ q3 q4)) := (minQ_comm _ _).trans (min_of_le (Rat.le_of_lt (GK.out.1 hA)))
                      clear GK
                      have hAb : decide (K2 < 0) = true := decide_eq_true hA
                      go_wp2_with fail
                      clear v0 v1 v2 v3 v4 v5 v6 v7 kl0 kl1 kl2 kl3 kh0 kh1 kh2 kh3 fz0 fz1 fz2 fz3
                      go_meet
                      have yz := yb.ext (show Ext _ wq1 from (by with_reducible repeat' first | exact Ext.refl _ | assumption | apply Ext.alloc_r | apply Ext.drew_r | apply Ext.drewN_r | refine Ext.trans ?_ ‹Ext _ _›))
                      refine ⟨?_, ?_⟩
                      · rw [HE.out]
                        exact LHQ.set_hi hne bxl bxh lo yz
                      · exact Ext.set4 xE1 hb5
                    · have HE : Hid ((minQ (maxQ q1 q2) (maxQ q3 q4)) = (maxQ q1 q2)) := min_of_le (Rat.not_lt.1 (fun h => hA (GK.out.2 h)))
                      clear GK
                      have hAb : decide (K2 < 0) = false := decide_eq_false hA
                      go_wp2_with fail
                      clear v0 v1 v2 v3 v4 v5 v6 v7 kl0 kl1 kl2 kl3 kh0 kh1 kh2 kh3 fz0 fz1 fz2 fz3
                      go_meet
                      refine ⟨?_, xE1⟩
                      rw [HE.out]
                      exact LHQ.mk bxl bxh lo hi
                  case rest =>
                    clear v0 v1 v2 v3 v4 v5 v6 v7 kl0 kl1 kl2 kl3 kh0 kh1 kh2 kh3 fz0 fz1 fz2 fz3 bxl bxh lo hi GK
                    obtain ⟨hl0, hxE1⟩ := hcut
                    have HL := Lib.hid hl0
                    clear hl0
                    obtain ⟨wp1, rfl⟩ : ∃ z : World, z = wc := ⟨_, rfl⟩
                    obtain ⟨glz, Alz, clz, Llz, hlz, Blz, dlz, Mlz, ghz, Ahz, chz, Lhz, hhz, Bhz, dhz, Mhz, bxl, bxh, lo, hi⟩ := HL.out
                    obtain ⟨K3, hK3⟩ : ∃ k : Int, k = cmpQ (maxQ (minQ q1 q2) (minQ q3 q4)) (minQ (maxQ q1 q2) (maxQ q3 q4)) := ⟨_, rfl⟩
                    have hk3 : K3 > 0 := by rw [hK3]; exact (cmpQ_gt _ _).2 (Rat.not_le.1 HM.out)
                    have HC := Lib.hid hK3.symm
                    clear hK3 HL
                    have v0 := hxE1.cell y_0
                    have v1 := hxE1.cell y_1
                    have v2 := hxE1.cell y_2
                    have v3 := hxE1.cell y_3
                    have v4 := hxE1.cell y_4
                    have v5 := hxE1.cell y_5
                    have v6 := hxE1.cell y_6
                    have v7 := hxE1.cell y_7
                    have kl0 := bxl.c 0 (.int .i64 glz) rfl
                    have kl1 := bxl.c 1 (.slice Alz Llz clz) rfl
                    have kl2 := bxl.c 2 (.int .i64 hlz) rfl
                    have kl3 := bxl.c 3 (.slice Blz Mlz dlz) rfl
                    have kh0 := bxh.c 0 (.int .i64 ghz) rfl
                    have kh1 := bxh.c 1 (.slice Ahz Lhz chz) rfl
                    have kh2 := bxh.c 2 (.int .i64 hhz) rfl
                    have kh3 := bxh.c 3 (.slice Bhz Mhz dhz) rfl
                    go_wp2_with fail
                    clear v0 v1 v2 v3 v4 v5 v6 v7 kl0 kl1 kl2 kl3 kh0 kh1 kh2 kh3
                    refine (qcmp_k (lo.ext (by with_reducible repeat' first | exact Ext.refl _ | assumption | apply Ext.alloc_r | apply Ext.drew_r | apply Ext.drewN_r | refine Ext.trans ?_ ‹Ext _ _›)) (hi.ext (by with_reducible repeat' first | exact Ext.refl _ | assumption | apply Ext.alloc_r | apply Ext.drew_r | apply Ext.drewN_r | refine Ext.trans ?_ ‹Ext _ _›)) (by omega) HC.out).mono ?_
                    rintro e wq9 ⟨rfl, xq9⟩
                    have xE9 : Ext w41 wq9 := hxE1.trans xq9
                    replace bxl := bxl.ext xq9
                    replace bxh := bxh.ext xq9
                    clear HC
                    have v0 := xE9.cell y_0
                    have v1 := xE9.cell y_1
                    have v2 := xE9.cell y_2
                    have v3 := xE9.cell y_3
                    have v4 := xE9.cell y_4
                    have v5 := xE9.cell y_5
                    have v6 := xE9.cell y_6
                    have v7 := xE9.cell y_7
                    have kl0 := bxl.c 0 (.int .i64 glz) rfl
                    have kl1 := bxl.c 1 (.slice Alz Llz clz) rfl
                    have kl2 := bxl.c 2 (.int .i64 hlz) rfl
                    have kl3 := bxl.c 3 (.slice Blz Mlz dlz) rfl
                    have kh0 := bxh.c 0 (.int .i64 ghz) rfl
                    have kh1 := bxh.c 1 (.slice Ahz Lhz chz) rfl
                    have kh2 := bxh.c 2 (.int .i64 hhz) rfl
                    have kh3 := bxh.c 3 (.slice Bhz Mhz dhz) rfl
                    have vm0 := xE9.cell m_0
                    have vm1 := xE9.cell m_1
                    have vm2 := xE9.cell m_2
                    have vm3 := xE9.cell m_3
                    have vm4 := xE9.cell m_4
                    have vm5 := xE9.cell m_5
                    go_wp2_with fail
                    clear v0 v1 v2 v3 v4 v5 v6 v7 kl0 kl1 kl2 kl3 kh0 kh1 kh2 kh3 vm0 vm1 vm2 vm3 vm4 vm5
                    refine none6.mono ?_
                    rintro e wq10 ⟨rfl, xq10⟩
                    go_wp2_with fail
                    go_ret
                    exact ⟨rfl, (by with_reducible repeat' first | exact Ext.refl _ | assumption | apply Ext.alloc_r | apply Ext.drew_r | apply Ext.drewN_r | refine Ext.trans ?_ ‹Ext _ _›)⟩
end Go.Proofs.YtehhkeenjlpikaaGreat
