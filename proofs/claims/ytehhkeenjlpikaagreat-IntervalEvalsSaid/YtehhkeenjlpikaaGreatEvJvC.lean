/- The product of two intervals of the reference. -/
import Derived.Test.YtehhkeenjlpikaaGreatEvJvB
import Derived.Deep.RegionHeldLaw
import Derived.Deep.LoopGhost
import Derived.Deep.QuietTactic
import Derived.BigQuiet
namespace Go.Proofs.YtehhkeenjlpikaaGreat
open Go.RowKit
theorem cq4 {w : World} {b K : Nat} {g1 h1 g2 h2 g3 h3 g4 h4 : Int} {A1 B1 A2 B2 A3 B3 A4 B4 : Option Addr} {c1 d1 L1 M1 c2 d2 L2 M2 c3 d3 L3 M3 c4 d4 L4 M4 : Nat} {q1 q2 q3 q4 : Rat} (k : ∀ i v, (#[.int .i64 g1, .slice A1 L1 c1, .int .i64 h1, .slice B1 M1 d1, .int .i64 g2, .slice A2 L2 c2, .int .i64 h2, .slice B2 M2 d2, .int .i64 g3, .slice A3 L3 c3, .int .i64 h3, .slice B3 M3 d3, .int .i64 g4, .slice A4 L4 c4, .int .i64 h4, .slice B4 M4 d4] : Array Value)[i]? = some v → w.cell? ⟨b, i, none⟩ = some v) (h_1 : QR w g1 A1 c1 L1 h1 B1 d1 M1 K q1) (h_2 : QR w g2 A2 c2 L2 h2 B2 d2 M2 K q2) (h_3 : QR w g3 A3 c3 L3 h3 B3 d3 M3 K q3) (h_4 : QR w g4 A4 c4 L4 h4 B4 d4 M4 K q4) : CQ w b 0 K [q1, q2, q3, q4] := fun j hj => by
  match j, hj with
  | 0, _ => exact ⟨_, _, _, _, _, _, _, _, k 0 _ rfl, k 1 _ rfl, k 2 _ rfl, k 3 _ rfl, h_1⟩
  | 1, _ => exact ⟨_, _, _, _, _, _, _, _, k 4 _ rfl, k 5 _ rfl, k 6 _ rfl, k 7 _ rfl, h_2⟩
  | 2, _ => exact ⟨_, _, _, _, _, _, _, _, k 8 _ rfl, k 9 _ rfl, k 10 _ rfl, k 11 _ rfl, h_3⟩
  | 3, _ => exact ⟨_, _, _, _, _, _, _, _, k 12 _ rfl, k 13 _ rfl, k 14 _ rfl, k 15 _ rfl, h_4⟩
set_option maxHeartbeats 4000000 in
set_option maxRecDepth 100000 in
theorem hull4 {w : World} {K : Nat} {g1 h1 g2 h2 g3 h3 g4 h4 : Int} {A1 B1 A2 B2 A3 B3 A4 B4 : Option Addr} {c1 d1 L1 M1 c2 d2 L2 M2 c3 d3 L3 M3 c4 d4 L4 M4 : Nat} {q1 q2 q3 q4 : Rat} (h_1 : QR w g1 A1 c1 L1 h1 B1 d1 M1 K q1) (h_2 : QR w g2 A2 c2 L2 h2 B2 d2 M2 K q2) (h_3 : QR w g3 A3 c3 L3 h3 B3 d3 M3 K q3) (h_4 : QR w g4 A4 c4 L4 h4 B4 d4 M4 K q4) (hK : K ≤ 100000000) :
    Calls Tryz.prog 40 #[.slice (some ⟨w.heap.size, 0, none⟩) 4 4] (w.alloc (.cells #[.int .i64 g1, .slice A1 L1 c1, .int .i64 h1, .slice B1 M1 d1, .int .i64 g2, .slice A2 L2 c2, .int .i64 h2, .slice B2 M2 d2, .int .i64 g3, .slice A3 L3 c3, .int .i64 h3, .slice B3 M3 d3, .int .i64 g4, .slice A4 L4 c4, .int .i64 h4, .slice B4 M4 d4] 36)) (RetJ (w.alloc (.cells #[.int .i64 g1, .slice A1 L1 c1, .int .i64 h1, .slice B1 M1 d1, .int .i64 g2, .slice A2 L2 c2, .int .i64 h2, .slice B2 M2 d2, .int .i64 g3, .slice A3 L3 c3, .int .i64 h3, .slice B3 M3 d3, .int .i64 g4, .slice A4 L4 c4, .int .i64 h4, .slice B4 M4 d4] 36)) K (minQ (minQ (minQ q1 q2) q3) q4) (maxQ (maxQ (maxQ q1 q2) q3) q4)) := by
  have hx : Ext w (w.alloc (.cells #[.int .i64 g1, .slice A1 L1 c1, .int .i64 h1, .slice B1 M1 d1, .int .i64 g2, .slice A2 L2 c2, .int .i64 h2, .slice B2 M2 d2, .int .i64 g3, .slice A3 L3 c3, .int .i64 h3, .slice B3 M3 d3, .int .i64 g4, .slice A4 L4 c4, .int .i64 h4, .slice B4 M4 d4] 36)) := Ext.alloc _ _
  have hb := BK.new w #[.int .i64 g1, .slice A1 L1 c1, .int .i64 h1, .slice B1 M1 d1, .int .i64 g2, .slice A2 L2 c2, .int .i64 h2, .slice B2 M2 d2, .int .i64 g3, .slice A3 L3 c3, .int .i64 h3, .slice B3 M3 d3, .int .i64 g4, .slice A4 L4 c4, .int .i64 h4, .slice B4 M4 d4] 36
  exact jhull_r (qs := [q1, q2, q3, q4]) (cq4 (fun i v hv => hb.c i v hv) (h_1.ext hx) (h_2.ext hx) (h_3.ext hx) (h_4.ext hx)) rfl (by show 1 ≤ 4; omega) (by show 4 ≤ 100; omega) hK
set_option maxHeartbeats 4000000 in
set_option maxRecDepth 100000 in
theorem jmul_r {w : World} {K J : Nat} {g1 h1 g2 h2 g3 h3 g4 h4 : Int} {A1 B1 A2 B2 A3 B3 A4 B4 : Option Addr} {c1 d1 L1 M1 c2 d2 L2 M2 c3 d3 L3 M3 c4 d4 L4 M4 : Nat} {q1 q2 q3 q4 : Rat} (h_1 : QR w g1 A1 c1 L1 h1 B1 d1 M1 K q1) (h_2 : QR w g2 A2 c2 L2 h2 B2 d2 M2 K q2) (h_3 : QR w g3 A3 c3 L3 h3 B3 d3 M3 J q3) (h_4 : QR w g4 A4 c4 L4 h4 B4 d4 M4 J q4) (hK : K + J ≤ 100000000) :
    Calls Tryz.prog 15 #[Value.agg #[Value.int IntKind.i64 g1, Value.slice A1 L1 c1, Value.int IntKind.i64 h1, Value.slice B1 M1 d1, Value.int IntKind.i64 g2, Value.slice A2 L2 c2, Value.int IntKind.i64 h2, Value.slice B2 M2 d2], Value.agg #[Value.int IntKind.i64 g3, Value.slice A3 L3 c3, Value.int IntKind.i64 h3, Value.slice B3 M3 d3, Value.int IntKind.i64 g4, Value.slice A4 L4 c4, Value.int IntKind.i64 h4, Value.slice B4 M4 d4]] w (RetJ w (K + J) (mlo q1 q2 q3 q4) (mhi q1 q2 q3 q4)) := by
  go_enter Tryz.func15, Tryz.ntmps15
  go_wp2_with fail
  obtain ⟨w0, hw0⟩ : ∃ z : World, z = (((w.alloc (.cells #[.int .i64 g1, .slice A1 L1 c1, .int .i64 h1, .slice B1 M1 d1, .int .i64 g2, .slice A2 L2 c2, .int .i64 h2, .slice B2 M2 d2] 38)).alloc (.cells #[.int .i64 g3, .slice A3 L3 c3, .int .i64 h3, .slice B3 M3 d3, .int .i64 g4, .slice A4 L4 c4, .int .i64 h4, .slice B4 M4 d4] 38)).alloc (.cells #[.int .i64 0, .slice none 0 0, .int .i64 0, .slice none 0 0, .int .i64 0, .slice none 0 0, .int .i64 0, .slice none 0 0] 38)) := ⟨_, rfl⟩
  rw [← hw0]
  have bxi : BK w0 (w.heap.size) 38 #[.int .i64 g1, .slice A1 L1 c1, .int .i64 h1, .slice B1 M1 d1, .int .i64 g2, .slice A2 L2 c2, .int .i64 h2, .slice B2 M2 d2] := by rw [hw0]; have h5 := (BK.ext (BK.ext (BK.new w #[.int .i64 g1, .slice A1 L1 c1, .int .i64 h1, .slice B1 M1 d1, .int .i64 g2, .slice A2 L2 c2, .int .i64 h2, .slice B2 M2 d2] 38) (Ext.alloc _ (.cells #[.int .i64 g3, .slice A3 L3 c3, .int .i64 h3, .slice B3 M3 d3, .int .i64 g4, .slice A4 L4 c4, .int .i64 h4, .slice B4 M4 d4] 38))) (Ext.alloc _ (.cells #[.int .i64 0, .slice none 0 0, .int .i64 0, .slice none 0 0, .int .i64 0, .slice none 0 0, .int .i64 0, .slice none 0 0] 38))); simpa only [World.size_alloc] using h5
  have bxj : BK w0 (w.heap.size + 1) 38 #[.int .i64 g3, .slice A3 L3 c3, .int .i64 h3, .slice B3 M3 d3, .int .i64 g4, .slice A4 L4 c4, .int .i64 h4, .slice B4 M4 d4] := by rw [hw0]; have h5 := (BK.ext (BK.new (w.alloc (.cells #[.int .i64 g1, .slice A1 L1 c1, .int .i64 h1, .slice B1 M1 d1, .int .i64 g2, .slice A2 L2 c2, .int .i64 h2, .slice B2 M2 d2] 38)) #[.int .i64 g3, .slice A3 L3 c3, .int .i64 h3, .slice B3 M3 d3, .int .i64 g4, .slice A4 L4 c4, .int .i64 h4, .slice B4 M4 d4] 38) (Ext.alloc _ (.cells #[.int .i64 0, .slice none 0 0, .int .i64 0, .slice none 0 0, .int .i64 0, .slice none 0 0, .int .i64 0, .slice none 0 0] 38))); simpa only [World.size_alloc] using h5
  have bxr : BK w0 (w.heap.size + 1 + 1) 38 #[.int .i64 0, .slice none 0 0, .int .i64 0, .slice none 0 0, .int .i64 0, .slice none 0 0, .int .i64 0, .slice none 0 0] := by rw [hw0]; have h5 := (BK.new ((w.alloc (.cells #[.int .i64 g1, .slice A1 L1 c1, .int .i64 h1, .slice B1 M1 d1, .int .i64 g2, .slice A2 L2 c2, .int .i64 h2, .slice B2 M2 d2] 38)).alloc (.cells #[.int .i64 g3, .slice A3 L3 c3, .int .i64 h3, .slice B3 M3 d3, .int .i64 g4, .slice A4 L4 c4, .int .i64 h4, .slice B4 M4 d4] 38)) #[.int .i64 0, .slice none 0 0, .int .i64 0, .slice none 0 0, .int .i64 0, .slice none 0 0, .int .i64 0, .slice none 0 0] 38); simpa only [World.size_alloc] using h5
  have hszw0 : w0.heap.size = w.heap.size + 1 + 1 + 1 := by rw [hw0]; simp only [World.size_alloc]
  have xw0 : Ext w w0 := by rw [hw0]; exact (((Ext.alloc _ _).trans (Ext.alloc _ _)).trans (Ext.alloc _ _))
  clear hw0
  have ki_0 := bxi.c 0 (.int .i64 g1) rfl
  have ki_1 := bxi.c 1 (.slice A1 L1 c1) rfl
  have ki_2 := bxi.c 2 (.int .i64 h1) rfl
  have ki_3 := bxi.c 3 (.slice B1 M1 d1) rfl
  have ki_4 := bxi.c 4 (.int .i64 g2) rfl
  have ki_5 := bxi.c 5 (.slice A2 L2 c2) rfl
  have ki_6 := bxi.c 6 (.int .i64 h2) rfl
  have ki_7 := bxi.c 7 (.slice B2 M2 d2) rfl
  have kj_0 := bxj.c 0 (.int .i64 g3) rfl
  have kj_1 := bxj.c 1 (.slice A3 L3 c3) rfl
  have kj_2 := bxj.c 2 (.int .i64 h3) rfl
  have kj_3 := bxj.c 3 (.slice B3 M3 d3) rfl
  have kj_4 := bxj.c 4 (.int .i64 g4) rfl
  have kj_5 := bxj.c 5 (.slice A4 L4 c4) rfl
  have kj_6 := bxj.c 6 (.int .i64 h4) rfl
  have kj_7 := bxj.c 7 (.slice B4 M4 d4) rfl
  have kr_0 := bxr.c 0 (.int .i64 0) rfl
  have fr_0 := bxr.f 0
  have kr_1 := bxr.c 1 (.slice none 0 0) rfl
  have fr_1 := bxr.f 1
  have kr_2 := bxr.c 2 (.int .i64 0) rfl
  have fr_2 := bxr.f 2
  have kr_3 := bxr.c 3 (.slice none 0 0) rfl
  have fr_3 := bxr.f 3
  have kr_4 := bxr.c 4 (.int .i64 0) rfl
  have fr_4 := bxr.f 4
  have kr_5 := bxr.c 5 (.slice none 0 0) rfl
  have fr_5 := bxr.f 5
  have kr_6 := bxr.c 6 (.int .i64 0) rfl
  have fr_6 := bxr.f 6
  have kr_7 := bxr.c 7 (.slice none 0 0) rfl
  have fr_7 := bxr.f 7
  go_wp2_with fail
  have HK : Hid (∀ w', Ext w0 w' → (w'.cell? ⟨w.heap.size, 0, none⟩ = some (.int .i64 g1) ∧ w'.cell? ⟨w.heap.size, 1, none⟩ = some (.slice A1 L1 c1) ∧ w'.cell? ⟨w.heap.size, 2, none⟩ = some (.int .i64 h1) ∧ w'.cell? ⟨w.heap.size, 3, none⟩ = some (.slice B1 M1 d1) ∧ w'.cell? ⟨w.heap.size, 4, none⟩ = some (.int .i64 g2) ∧ w'.cell? ⟨w.heap.size, 5, none⟩ = some (.slice A2 L2 c2) ∧ w'.cell? ⟨w.heap.size, 6, none⟩ = some (.int .i64 h2) ∧ w'.cell? ⟨w.heap.size, 7, none⟩ = some (.slice B2 M2 d2) ∧ w'.cell? ⟨w.heap.size + 1, 0, none⟩ = some (.int .i64 g3) ∧ w'.cell? ⟨w.heap.size + 1, 1, none⟩ = some (.slice A3 L3 c3) ∧ w'.cell? ⟨w.heap.size + 1, 2, none⟩ = some (.int .i64 h3) ∧ w'.cell? ⟨w.heap.size + 1, 3, none⟩ = some (.slice B3 M3 d3) ∧ w'.cell? ⟨w.heap.size + 1, 4, none⟩ = some (.int .i64 g4) ∧ w'.cell? ⟨w.heap.size + 1, 5, none⟩ = some (.slice A4 L4 c4) ∧ w'.cell? ⟨w.heap.size + 1, 6, none⟩ = some (.int .i64 h4) ∧ w'.cell? ⟨w.heap.size + 1, 7, none⟩ = some (.slice B4 M4 d4))) := fun w' hk => ⟨hk.cell ki_0, hk.cell ki_1, hk.cell ki_2, hk.cell ki_3, hk.cell ki_4, hk.cell ki_5, hk.cell ki_6, hk.cell ki_7, hk.cell kj_0, hk.cell kj_1, hk.cell kj_2, hk.cell kj_3, hk.cell kj_4, hk.cell kj_5, hk.cell kj_6, hk.cell kj_7⟩
  have neri : w.heap.size + 1 + 1 ≠ w.heap.size := by omega
  have nerj : w.heap.size + 1 + 1 ≠ w.heap.size + 1 := by omega
  have HSr : Hid (∀ (w' : World) (i : Nat) (u : Value), (w'.cell? ⟨w.heap.size, 0, none⟩ = some (.int .i64 g1) ∧ w'.cell? ⟨w.heap.size, 1, none⟩ = some (.slice A1 L1 c1) ∧ w'.cell? ⟨w.heap.size, 2, none⟩ = some (.int .i64 h1) ∧ w'.cell? ⟨w.heap.size, 3, none⟩ = some (.slice B1 M1 d1) ∧ w'.cell? ⟨w.heap.size, 4, none⟩ = some (.int .i64 g2) ∧ w'.cell? ⟨w.heap.size, 5, none⟩ = some (.slice A2 L2 c2) ∧ w'.cell? ⟨w.heap.size, 6, none⟩ = some (.int .i64 h2) ∧ w'.cell? ⟨w.heap.size, 7, none⟩ = some (.slice B2 M2 d2) ∧ w'.cell? ⟨w.heap.size + 1, 0, none⟩ = some (.int .i64 g3) ∧ w'.cell? ⟨w.heap.size + 1, 1, none⟩ = some (.slice A3 L3 c3) ∧ w'.cell? ⟨w.heap.size + 1, 2, none⟩ = some (.int .i64 h3) ∧ w'.cell? ⟨w.heap.size + 1, 3, none⟩ = some (.slice B3 M3 d3) ∧ w'.cell? ⟨w.heap.size + 1, 4, none⟩ = some (.int .i64 g4) ∧ w'.cell? ⟨w.heap.size + 1, 5, none⟩ = some (.slice A4 L4 c4) ∧ w'.cell? ⟨w.heap.size + 1, 6, none⟩ = some (.int .i64 h4) ∧ w'.cell? ⟨w.heap.size + 1, 7, none⟩ = some (.slice B4 M4 d4)) → ((fun (w' : World) => (w'.cell? ⟨w.heap.size, 0, none⟩ = some (.int .i64 g1) ∧ w'.cell? ⟨w.heap.size, 1, none⟩ = some (.slice A1 L1 c1) ∧ w'.cell? ⟨w.heap.size, 2, none⟩ = some (.int .i64 h1) ∧ w'.cell? ⟨w.heap.size, 3, none⟩ = some (.slice B1 M1 d1) ∧ w'.cell? ⟨w.heap.size, 4, none⟩ = some (.int .i64 g2) ∧ w'.cell? ⟨w.heap.size, 5, none⟩ = some (.slice A2 L2 c2) ∧ w'.cell? ⟨w.heap.size, 6, none⟩ = some (.int .i64 h2) ∧ w'.cell? ⟨w.heap.size, 7, none⟩ = some (.slice B2 M2 d2) ∧ w'.cell? ⟨w.heap.size + 1, 0, none⟩ = some (.int .i64 g3) ∧ w'.cell? ⟨w.heap.size + 1, 1, none⟩ = some (.slice A3 L3 c3) ∧ w'.cell? ⟨w.heap.size + 1, 2, none⟩ = some (.int .i64 h3) ∧ w'.cell? ⟨w.heap.size + 1, 3, none⟩ = some (.slice B3 M3 d3) ∧ w'.cell? ⟨w.heap.size + 1, 4, none⟩ = some (.int .i64 g4) ∧ w'.cell? ⟨w.heap.size + 1, 5, none⟩ = some (.slice A4 L4 c4) ∧ w'.cell? ⟨w.heap.size + 1, 6, none⟩ = some (.int .i64 h4) ∧ w'.cell? ⟨w.heap.size + 1, 7, none⟩ = some (.slice B4 M4 d4))) (w'.setCell ⟨w.heap.size + 1 + 1, i, none⟩ u))) := fun w' i u hs => ⟨cell_far neri hs.1, cell_far neri hs.2.1, cell_far neri hs.2.2.1, cell_far neri hs.2.2.2.1, cell_far neri hs.2.2.2.2.1, cell_far neri hs.2.2.2.2.2.1, cell_far neri hs.2.2.2.2.2.2.1, cell_far neri hs.2.2.2.2.2.2.2.1, cell_far nerj hs.2.2.2.2.2.2.2.2.1, cell_far nerj hs.2.2.2.2.2.2.2.2.2.1, cell_far nerj hs.2.2.2.2.2.2.2.2.2.2.1, cell_far nerj hs.2.2.2.2.2.2.2.2.2.2.2.1, cell_far nerj hs.2.2.2.2.2.2.2.2.2.2.2.2.1, cell_far nerj hs.2.2.2.2.2.2.2.2.2.2.2.2.2.1, cell_far nerj hs.2.2.2.2.2.2.2.2.2.2.2.2.2.2.1, cell_far nerj hs.2.2.2.2.2.2.2.2.2.2.2.2.2.2.2⟩
  go_region_held3 (fun w' => w'.cell? ⟨w.heap.size, 0, none⟩ = some (.int .i64 g1) ∧ w'.cell? ⟨w.heap.size, 1, none⟩ = some (.slice A1 L1 c1) ∧ w'.cell? ⟨w.heap.size, 2, none⟩ = some (.int .i64 h1) ∧ w'.cell? ⟨w.heap.size, 3, none⟩ = some (.slice B1 M1 d1) ∧ w'.cell? ⟨w.heap.size, 4, none⟩ = some (.int .i64 g2) ∧ w'.cell? ⟨w.heap.size, 5, none⟩ = some (.slice A2 L2 c2) ∧ w'.cell? ⟨w.heap.size, 6, none⟩ = some (.int .i64 h2) ∧ w'.cell? ⟨w.heap.size, 7, none⟩ = some (.slice B2 M2 d2) ∧ w'.cell? ⟨w.heap.size + 1, 0, none⟩ = some (.int .i64 g3) ∧ w'.cell? ⟨w.heap.size + 1, 1, none⟩ = some (.slice A3 L3 c3) ∧ w'.cell? ⟨w.heap.size + 1, 2, none⟩ = some (.int .i64 h3) ∧ w'.cell? ⟨w.heap.size + 1, 3, none⟩ = some (.slice B3 M3 d3) ∧ w'.cell? ⟨w.heap.size + 1, 4, none⟩ = some (.int .i64 g4) ∧ w'.cell? ⟨w.heap.size + 1, 5, none⟩ = some (.slice A4 L4 c4) ∧ w'.cell? ⟨w.heap.size + 1, 6, none⟩ = some (.int .i64 h4) ∧ w'.cell? ⟨w.heap.size + 1, 7, none⟩ = some (.slice B4 M4 d4))
    (((repeat (first | (with_reducible refine HSr.out _ _ _ ?_))); (with_reducible refine HK.out _ ?_; (with_reducible repeat' first | exact Ext.refl _ | assumption | apply Ext.alloc_r | apply Ext.drew_r | apply Ext.drewN_r | refine Ext.trans ?_ ‹Ext _ _›))))
    (first
      | (go_at_call 40; have hgd := y; clear hgd; refine (hull4 (u.ext (by with_reducible repeat' first | exact Ext.refl _ | assumption | apply Ext.alloc_r | apply Ext.drew_r | apply Ext.drewN_r | refine Ext.trans ?_ ‹Ext _ _›)) (v.ext (by with_reducible repeat' first | exact Ext.refl _ | assumption | apply Ext.alloc_r | apply Ext.drew_r | apply Ext.drewN_r | refine Ext.trans ?_ ‹Ext _ _›)) (x.ext (by with_reducible repeat' first | exact Ext.refl _ | assumption | apply Ext.alloc_r | apply Ext.drew_r | apply Ext.drewN_r | refine Ext.trans ?_ ‹Ext _ _›)) (y.ext (by with_reducible repeat' first | exact Ext.refl _ | assumption | apply Ext.alloc_r | apply Ext.drew_r | apply Ext.drewN_r | refine Ext.trans ?_ ‹Ext _ _›)) (by omega)).mono ?_; rintro e w5 ⟨gza, Aza, cza, Lza, hza, Bza, dza, Mza, gzb, Azb, czb, Lzb, hzb, Bzb, dzb, Mzb, rfl, za, zb, x5⟩; have yl : Ext w0 w5 := (by with_reducible repeat' first | exact Ext.refl _ | assumption | apply Ext.alloc_r | apply Ext.drew_r | apply Ext.drewN_r | refine Ext.trans ?_ ‹Ext _ _›); have cr_0 := (bxr.ext yl).c 0 (.int .i64 0) rfl; have gr_0 := (bxr.ext yl).f 0; have cr_1 := (bxr.ext yl).c 1 (.slice none 0 0) rfl; have gr_1 := (bxr.ext yl).f 1; have cr_2 := (bxr.ext yl).c 2 (.int .i64 0) rfl; have gr_2 := (bxr.ext yl).f 2; have cr_3 := (bxr.ext yl).c 3 (.slice none 0 0) rfl; have gr_3 := (bxr.ext yl).f 3; have cr_4 := (bxr.ext yl).c 4 (.int .i64 0) rfl; have gr_4 := (bxr.ext yl).f 4; have cr_5 := (bxr.ext yl).c 5 (.slice none 0 0) rfl; have gr_5 := (bxr.ext yl).f 5; have cr_6 := (bxr.ext yl).c 6 (.int .i64 0) rfl; have gr_6 := (bxr.ext yl).f 6; have cr_7 := (bxr.ext yl).c 7 (.slice none 0 0) rfl; have gr_7 := (bxr.ext yl).f 7)
      | (go_at_call_of 50 (#[Value.agg #[Value.int IntKind.i64 g2, Value.slice A2 L2 c2, Value.int IntKind.i64 h2, Value.slice B2 M2 d2], Value.agg #[Value.int IntKind.i64 g4, Value.slice A4 L4 c4, Value.int IntKind.i64 h4, Value.slice B4 M4 d4]]); have hgd := x; clear hgd; refine (qmul_r (h_2.ext (by with_reducible repeat' first | exact Ext.refl _ | assumption | apply Ext.alloc_r | apply Ext.drew_r | apply Ext.drewN_r | refine Ext.trans ?_ ‹Ext _ _›)) (h_4.ext (by with_reducible repeat' first | exact Ext.refl _ | assumption | apply Ext.alloc_r | apply Ext.drew_r | apply Ext.drewN_r | refine Ext.trans ?_ ‹Ext _ _›)) (by omega) (by omega)).mono ?_; rintro e w4 ⟨gy, Ay, cy, Ly, hy, By, dy, My, rfl, y, x4⟩)
      | (go_at_call_of 50 (#[Value.agg #[Value.int IntKind.i64 g2, Value.slice A2 L2 c2, Value.int IntKind.i64 h2, Value.slice B2 M2 d2], Value.agg #[Value.int IntKind.i64 g3, Value.slice A3 L3 c3, Value.int IntKind.i64 h3, Value.slice B3 M3 d3]]); have hgd := v; clear hgd; refine (qmul_r (h_2.ext (by with_reducible repeat' first | exact Ext.refl _ | assumption | apply Ext.alloc_r | apply Ext.drew_r | apply Ext.drewN_r | refine Ext.trans ?_ ‹Ext _ _›)) (h_3.ext (by with_reducible repeat' first | exact Ext.refl _ | assumption | apply Ext.alloc_r | apply Ext.drew_r | apply Ext.drewN_r | refine Ext.trans ?_ ‹Ext _ _›)) (by omega) (by omega)).mono ?_; rintro e w3 ⟨gx, Ax, cx, Lx, hx, Bx, dx, Mx, rfl, x, x3⟩)
      | (go_at_call_of 50 (#[Value.agg #[Value.int IntKind.i64 g1, Value.slice A1 L1 c1, Value.int IntKind.i64 h1, Value.slice B1 M1 d1], Value.agg #[Value.int IntKind.i64 g4, Value.slice A4 L4 c4, Value.int IntKind.i64 h4, Value.slice B4 M4 d4]]); have hgd := u; clear hgd; refine (qmul_r (h_1.ext (by with_reducible repeat' first | exact Ext.refl _ | assumption | apply Ext.alloc_r | apply Ext.drew_r | apply Ext.drewN_r | refine Ext.trans ?_ ‹Ext _ _›)) (h_4.ext (by with_reducible repeat' first | exact Ext.refl _ | assumption | apply Ext.alloc_r | apply Ext.drew_r | apply Ext.drewN_r | refine Ext.trans ?_ ‹Ext _ _›)) (by omega) (by omega)).mono ?_; rintro e w2 ⟨gv, Av, cv, Lv, hv, Bv, dv, Mv, rfl, v, x2⟩)
      | (go_at_call_of 50 (#[Value.agg #[Value.int IntKind.i64 g1, Value.slice A1 L1 c1, Value.int IntKind.i64 h1, Value.slice B1 M1 d1], Value.agg #[Value.int IntKind.i64 g3, Value.slice A3 L3 c3, Value.int IntKind.i64 h3, Value.slice B3 M3 d3]]); refine (qmul_r (h_1.ext (by with_reducible repeat' first | exact Ext.refl _ | assumption | apply Ext.alloc_r | apply Ext.drew_r | apply Ext.drewN_r | refine Ext.trans ?_ ‹Ext _ _›)) (h_3.ext (by with_reducible repeat' first | exact Ext.refl _ | assumption | apply Ext.alloc_r | apply Ext.drew_r | apply Ext.drewN_r | refine Ext.trans ?_ ‹Ext _ _›)) (by omega) (by omega)).mono ?_; rintro e w1 ⟨gu, Au, cu, Lu, hu, Bu, du, Mu, rfl, u, x1⟩))
  clear ki_0 ki_1 ki_2 ki_3 ki_4 ki_5 ki_6 ki_7 kj_0 kj_1 kj_2 kj_3 kj_4 kj_5 kj_6 kj_7 kr_0 fr_0 kr_1 fr_1 kr_2 fr_2 kr_3 fr_3 kr_4 fr_4 kr_5 fr_5 kr_6 fr_6 kr_7 fr_7
  clear HK HSr neri nerj
  clear cr_0 gr_0
  clear cr_1 gr_1
  clear cr_2 gr_2
  clear cr_3 gr_3
  clear cr_4 gr_4
  clear cr_5 gr_5
  clear cr_6 gr_6
  clear cr_7 gr_7
  clear yl
  have szw1 : w0.heap.size ≤ w1.heap.size := (show Ext w0 w1 from (by with_reducible repeat' first | exact Ext.refl _ | assumption | apply Ext.alloc_r | apply Ext.drew_r | apply Ext.drewN_r | refine Ext.trans ?_ ‹Ext _ _›)).size
  have szw2 : w0.heap.size ≤ w2.heap.size := (show Ext w0 w2 from (by with_reducible repeat' first | exact Ext.refl _ | assumption | apply Ext.alloc_r | apply Ext.drew_r | apply Ext.drewN_r | refine Ext.trans ?_ ‹Ext _ _›)).size
  have szw3 : w0.heap.size ≤ w3.heap.size := (show Ext w0 w3 from (by with_reducible repeat' first | exact Ext.refl _ | assumption | apply Ext.alloc_r | apply Ext.drew_r | apply Ext.drewN_r | refine Ext.trans ?_ ‹Ext _ _›)).size
  have szw4 : w0.heap.size ≤ w4.heap.size := (show Ext w0 w4 from (by with_reducible repeat' first | exact Ext.refl _ | assumption | apply Ext.alloc_r | apply Ext.drew_r | apply Ext.drewN_r | refine Ext.trans ?_ ‹Ext _ _›)).size
  have xhw5 : Ext w0 w5 := (by with_reducible repeat' first | exact Ext.refl _ | assumption | apply Ext.alloc_r | apply Ext.drew_r | apply Ext.drewN_r | refine Ext.trans ?_ ‹Ext _ _›)
  have szw5 : w0.heap.size ≤ w5.heap.size := xhw5.size
  replace bxi := bxi.ext xhw5
  replace bxj := bxj.ext xhw5
  replace bxr := bxr.ext xhw5
  clear u v x y
  obtain ⟨w6, hw⟩ : ∃ z : World, z = ((((((((w5.setCell ⟨w.heap.size + 1 + 1, 0, none⟩ (.int .i64 gza)).setCell ⟨w.heap.size + 1 + 1, 1, none⟩ (.slice Aza Lza cza)).setCell ⟨w.heap.size + 1 + 1, 2, none⟩ (.int .i64 hza)).setCell ⟨w.heap.size + 1 + 1, 3, none⟩ (.slice Bza Mza dza)).setCell ⟨w.heap.size + 1 + 1, 4, none⟩ (.int .i64 gzb)).setCell ⟨w.heap.size + 1 + 1, 5, none⟩ (.slice Azb Lzb czb)).setCell ⟨w.heap.size + 1 + 1, 6, none⟩ (.int .i64 hzb)).setCell ⟨w.heap.size + 1 + 1, 7, none⟩ (.slice Bzb Mzb dzb)) := ⟨_, rfl⟩
  rw [← hw]
  have kw6 : Kept w5 w6 := by rw [hw]; exact (Kept.set_ (Kept.set_ (Kept.set_ (Kept.set_ (Kept.set_ (Kept.set_ (Kept.set_ (Kept.set_ (Kept.refl _) bxr.isBox plain_J) (IsBox.set_ bxr.isBox) plain_J) (IsBox.set_ (IsBox.set_ bxr.isBox)) plain_J) (IsBox.set_ (IsBox.set_ (IsBox.set_ bxr.isBox))) plain_J) (IsBox.set_ (IsBox.set_ (IsBox.set_ (IsBox.set_ bxr.isBox)))) plain_J) (IsBox.set_ (IsBox.set_ (IsBox.set_ (IsBox.set_ (IsBox.set_ bxr.isBox))))) plain_J) (IsBox.set_ (IsBox.set_ (IsBox.set_ (IsBox.set_ (IsBox.set_ (IsBox.set_ bxr.isBox)))))) plain_J) (IsBox.set_ (IsBox.set_ (IsBox.set_ (IsBox.set_ (IsBox.set_ (IsBox.set_ (IsBox.set_ bxr.isBox))))))) plain_J)
  have nbi : BK w6 (w.heap.size) 38 #[.int .i64 g1, .slice A1 L1 c1, .int .i64 h1, .slice B1 M1 d1, .int .i64 g2, .slice A2 L2 c2, .int .i64 h2, .slice B2 M2 d2] := by rw [hw]; exact (BK.far (BK.far (BK.far (BK.far (BK.far (BK.far (BK.far (BK.far bxi (show w.heap.size ≠ w.heap.size + 1 + 1 by omega) 0 _) (show w.heap.size ≠ w.heap.size + 1 + 1 by omega) 1 _) (show w.heap.size ≠ w.heap.size + 1 + 1 by omega) 2 _) (show w.heap.size ≠ w.heap.size + 1 + 1 by omega) 3 _) (show w.heap.size ≠ w.heap.size + 1 + 1 by omega) 4 _) (show w.heap.size ≠ w.heap.size + 1 + 1 by omega) 5 _) (show w.heap.size ≠ w.heap.size + 1 + 1 by omega) 6 _) (show w.heap.size ≠ w.heap.size + 1 + 1 by omega) 7 _)
  have nbj : BK w6 (w.heap.size + 1) 38 #[.int .i64 g3, .slice A3 L3 c3, .int .i64 h3, .slice B3 M3 d3, .int .i64 g4, .slice A4 L4 c4, .int .i64 h4, .slice B4 M4 d4] := by rw [hw]; exact (BK.far (BK.far (BK.far (BK.far (BK.far (BK.far (BK.far (BK.far bxj (show w.heap.size + 1 ≠ w.heap.size + 1 + 1 by omega) 0 _) (show w.heap.size + 1 ≠ w.heap.size + 1 + 1 by omega) 1 _) (show w.heap.size + 1 ≠ w.heap.size + 1 + 1 by omega) 2 _) (show w.heap.size + 1 ≠ w.heap.size + 1 + 1 by omega) 3 _) (show w.heap.size + 1 ≠ w.heap.size + 1 + 1 by omega) 4 _) (show w.heap.size + 1 ≠ w.heap.size + 1 + 1 by omega) 5 _) (show w.heap.size + 1 ≠ w.heap.size + 1 + 1 by omega) 6 _) (show w.heap.size + 1 ≠ w.heap.size + 1 + 1 by omega) 7 _)
  have nbr : BK w6 (w.heap.size + 1 + 1) 38 #[.int .i64 gza, .slice Aza Lza cza, .int .i64 hza, .slice Bza Mza dza, .int .i64 gzb, .slice Azb Lzb czb, .int .i64 hzb, .slice Bzb Mzb dzb] := by rw [hw]; exact (BK.set (i := 7) (u := .slice Bzb Mzb dzb) (vs' := #[.int .i64 gza, .slice Aza Lza cza, .int .i64 hza, .slice Bza Mza dza, .int .i64 gzb, .slice Azb Lzb czb, .int .i64 hzb, .slice Bzb Mzb dzb]) (BK.set (i := 6) (u := .int .i64 hzb) (vs' := #[.int .i64 gza, .slice Aza Lza cza, .int .i64 hza, .slice Bza Mza dza, .int .i64 gzb, .slice Azb Lzb czb, .int .i64 hzb, .slice none 0 0]) (BK.set (i := 5) (u := .slice Azb Lzb czb) (vs' := #[.int .i64 gza, .slice Aza Lza cza, .int .i64 hza, .slice Bza Mza dza, .int .i64 gzb, .slice Azb Lzb czb, .int .i64 0, .slice none 0 0]) (BK.set (i := 4) (u := .int .i64 gzb) (vs' := #[.int .i64 gza, .slice Aza Lza cza, .int .i64 hza, .slice Bza Mza dza, .int .i64 gzb, .slice none 0 0, .int .i64 0, .slice none 0 0]) (BK.set (i := 3) (u := .slice Bza Mza dza) (vs' := #[.int .i64 gza, .slice Aza Lza cza, .int .i64 hza, .slice Bza Mza dza, .int .i64 0, .slice none 0 0, .int .i64 0, .slice none 0 0]) (BK.set (i := 2) (u := .int .i64 hza) (vs' := #[.int .i64 gza, .slice Aza Lza cza, .int .i64 hza, .slice none 0 0, .int .i64 0, .slice none 0 0, .int .i64 0, .slice none 0 0]) (BK.set (i := 1) (u := .slice Aza Lza cza) (vs' := #[.int .i64 gza, .slice Aza Lza cza, .int .i64 0, .slice none 0 0, .int .i64 0, .slice none 0 0, .int .i64 0, .slice none 0 0]) (BK.set (i := 0) (u := .int .i64 gza) (vs' := #[.int .i64 gza, .slice none 0 0, .int .i64 0, .slice none 0 0, .int .i64 0, .slice none 0 0, .int .i64 0, .slice none 0 0]) bxr rfl) rfl) rfl) rfl) rfl) rfl) rfl) rfl)
  have x6 : Ext w w6 := by rw [hw]; have hxp : Ext w w5 := (by with_reducible repeat' first | exact Ext.refl _ | assumption | apply Ext.alloc_r | apply Ext.drew_r | apply Ext.drewN_r | refine Ext.trans ?_ ‹Ext _ _›); exact (Ext.set_ (Ext.set_ (Ext.set_ (Ext.set_ (Ext.set_ (Ext.set_ (Ext.set_ (Ext.set_ hxp (show _ ≤ w.heap.size + 1 + 1 by omega)) (show _ ≤ w.heap.size + 1 + 1 by omega)) (show _ ≤ w.heap.size + 1 + 1 by omega)) (show _ ≤ w.heap.size + 1 + 1 by omega)) (show _ ≤ w.heap.size + 1 + 1 by omega)) (show _ ≤ w.heap.size + 1 + 1 by omega)) (show _ ≤ w.heap.size + 1 + 1 by omega)) (show _ ≤ w.heap.size + 1 + 1 by omega))
  clear bxi
  clear bxj
  clear bxr
  have bxi := nbi
  clear nbi
  have bxj := nbj
  clear nbj
  have bxr := nbr
  clear nbr
  have szw6 : w6.heap.size = w5.heap.size := by rw [hw]; simp
  replace za := (za.ext (by with_reducible repeat' first | exact Ext.refl _ | assumption | apply Ext.alloc_r | apply Ext.drew_r | apply Ext.drewN_r | refine Ext.trans ?_ ‹Ext _ _›)).kept kw6
  replace zb := (zb.ext (by with_reducible repeat' first | exact Ext.refl _ | assumption | apply Ext.alloc_r | apply Ext.drew_r | apply Ext.drewN_r | refine Ext.trans ?_ ‹Ext _ _›)).kept kw6
  clear hw kw6
  have HU := Lib.hid za
  have HV := Lib.hid zb
  clear za zb
  have ki_0 := bxi.c 0 (.int .i64 g1) rfl
  have ki_1 := bxi.c 1 (.slice A1 L1 c1) rfl
  have ki_2 := bxi.c 2 (.int .i64 h1) rfl
  have ki_3 := bxi.c 3 (.slice B1 M1 d1) rfl
  have ki_4 := bxi.c 4 (.int .i64 g2) rfl
  have ki_5 := bxi.c 5 (.slice A2 L2 c2) rfl
  have ki_6 := bxi.c 6 (.int .i64 h2) rfl
  have ki_7 := bxi.c 7 (.slice B2 M2 d2) rfl
  have kj_0 := bxj.c 0 (.int .i64 g3) rfl
  have kj_1 := bxj.c 1 (.slice A3 L3 c3) rfl
  have kj_2 := bxj.c 2 (.int .i64 h3) rfl
  have kj_3 := bxj.c 3 (.slice B3 M3 d3) rfl
  have kj_4 := bxj.c 4 (.int .i64 g4) rfl
  have kj_5 := bxj.c 5 (.slice A4 L4 c4) rfl
  have kj_6 := bxj.c 6 (.int .i64 h4) rfl
  have kj_7 := bxj.c 7 (.slice B4 M4 d4) rfl
  have kr_0 := bxr.c 0 (.int .i64 gza) rfl
  have kr_1 := bxr.c 1 (.slice Aza Lza cza) rfl
  have kr_2 := bxr.c 2 (.int .i64 hza) rfl
  have kr_3 := bxr.c 3 (.slice Bza Mza dza) rfl
  have kr_4 := bxr.c 4 (.int .i64 gzb) rfl
  have kr_5 := bxr.c 5 (.slice Azb Lzb czb) rfl
  have kr_6 := bxr.c 6 (.int .i64 hzb) rfl
  have kr_7 := bxr.c 7 (.slice Bzb Mzb dzb) rfl
  go_wp2_with fail
  clear ki_0 ki_1 ki_2 ki_3 ki_4 ki_5 ki_6 ki_7 kj_0 kj_1 kj_2 kj_3 kj_4 kj_5 kj_6 kj_7 kr_0 kr_1 kr_2 kr_3 kr_4 kr_5 kr_6 kr_7
  have kr_0 := bxr.c 0 (.int .i64 gza) rfl
  have kr_1 := bxr.c 1 (.slice Aza Lza cza) rfl
  have kr_2 := bxr.c 2 (.int .i64 hza) rfl
  have kr_3 := bxr.c 3 (.slice Bza Mza dza) rfl
  have kr_4 := bxr.c 4 (.int .i64 gzb) rfl
  have kr_5 := bxr.c 5 (.slice Azb Lzb czb) rfl
  have kr_6 := bxr.c 6 (.int .i64 hzb) rfl
  have kr_7 := bxr.c 7 (.slice Bzb Mzb dzb) rfl
  refine bodyPost_ret (v := Value.agg #[Value.int IntKind.i64 gza, Value.slice Aza Lza cza, Value.int IntKind.i64 hza, Value.slice Bza Mza dza, Value.int IntKind.i64 gzb, Value.slice Azb Lzb czb, Value.int IntKind.i64 hzb, Value.slice Bzb Mzb dzb]) (by simp [results, Tryz.results15, go_sem, kr_0, kr_1, kr_2, kr_3, kr_4, kr_5, kr_6, kr_7]) rfl ?_
  exact ⟨_, _, _, _, _, _, _, _, _, _, _, _, _, _, _, _, rfl, HU.out, HV.out, x6⟩
end Go.Proofs.YtehhkeenjlpikaaGreat
