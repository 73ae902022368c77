/- The product of two intervals of the reference. -/
import Derived.Test.YtehhkeenjlpikaaGreatSeJvB
import Derived.Deep.RegionHeldLaw
import Derived.Deep.LoopGhost
import Derived.Deep.QuietTactic
import Derived.BigQuiet
namespace Go.Proofs.YtehhkeenjlpikaaGreat
open Go.RowKit
theorem cq4 {w : World} {b K : Nat} {g1 h1 g2 h2 g3 h3 g4 h4 : Int} {A1 B1 A2 B2 A3 B3 A4 B4 : Option Addr} {c1 d1 L1 M1 c2 d2 L2 M2 c3 d3 L3 M3 c4 d4 L4 M4 : Nat} {q1 q2 q3 q4 : Rat} (k : ∀ i v, (#[.int .i64 g1, .slice A1 L1 c1, .int .i64 h1, .slice B1 M1 d1, .int .i64 g2, .slice A2 L2 c2, .int .i64 h2, .slice B2 M2 d2, .int .i64 g3, .slice A3 L3 c3, .int .i64 h3, .slice B3 M3 d3, .int .i64 g4, .slice A4 L4 c4, .int .i64 h4, .slice B4 M4 d4] : Array Value)[i]? = some v → w.cell? ⟨b, i, none⟩ = some v) (h_1 : QR w g1 A1 c1 L1 h1 B1 d1 M1 K q1) (h_2 : QR w g2 A2 c2 L2 h2 B2 d2 M2 K q2) (h_3 : QR w g3 A3 c3 L3 h3 B3 d3 M3 K q3) (h_4 : QR w g4 A4 c4 L4 h4 B4 d4 M4 K q4) : CQ w b 0 K [q1, q2, q3, q4] := fun j hj => by
  match j, hj with
  | 0, _ => exact ⟨_, _, _, _, _, _, _, _, k 0 _ rfl, k 1 _ rfl, k 2 _ rfl, k 3 _ rfl, h_1⟩
  | 1, _ => exact ⟨_, _, _, _, _, _, _, _, k 4 _ rfl, k 5 _ rfl, k 6 _ rfl, k 7 _ rfl, h_2⟩
  | 2, _ => exact ⟨_, _, _, _, _, _, _, _, k 8 _ rfl, k 9 _ rfl, k 10 _ rfl, k 11 _ rfl, h_3⟩
  | 3, _ => exact ⟨_, _, _, _, _, _, _, _, k 12 _ rfl, k 13 _ rfl, k 14 _ rfl, k 15 _ rfl, h_4⟩
set_option maxHeartbeats 4000000 in
set_option maxRecDepth 100000 in
theorem hull4 {w : World} {K : Nat} {g1 h1 g2 h2 g3 h3 g4 h4 : Int} {A1 B1 A2 B2 A3 B3 A4 B4 : Option Addr} {c1 d1 L1 M1 c2 d2 L2 M2 c3 d3 L3 M3 c4 d4 L4 M4 : Nat} {q1 q2 q3 q4 : Rat} (h_1 : QR w g1 A1 c1 L1 h1 B1 d1 M1 K q1) (h_2 : QR w g2 A2 c2 L2 h2 B2 d2 M2 K q2) (h_3 : QR w g3 A3 c3 L3 h3 B3 d3 M3 K q3) (h_4 : QR w g4 A4 c4 L4 h4 B4 d4 M4 K q4) (hK : K ≤ 100000000) :
    Calls Tryz.prog 40 #[.slice (some ⟨w.heap.size, 0, none⟩) 4 4] (w.alloc (.cells #[.int .i64 g1, .slice A1 L1 c1, .int .i64 h1, .slice B1 M1 d1, .int .i64 g2, .slice A2 L2 c2, .int .i64 h2, .slice B2 M2 d2, .int .i64 g3, .slice A3 L3 c3, .int .i64 h3, .slice B3 M3 d3, .int .i64 g4, .slice A4 L4 c4, .int .i64 h4, .slice B4 M4 d4] 36)) (RetJ (w.alloc (.cells #[.int .i64 g1, .slice A1 L1 c1, .int .i64 h1, .slice B1 M1 d1, .int .i64 g2, .slice A2 L2 c2, .int .i64 h2, .slice B2 M2 d2, .int .i64 g3, .slice A3 L3 c3, .int .i64 h3, .slice B3 M3 d3, .int .i64 g4, .slice A4 L4 c4, .int .i64 h4, .slice B4 M4 d4] 36)) K (minQ (minQ (minQ q1 q2) q3) q4) (maxQ (maxQ (maxQ q1 q2) q3) q4)) := by
  have hx : Ext w (w.alloc (.cells #[.int .i64 g1, .slice A1 L1 c1, .int .i64 h1, .slice B1 M1 d1, .int .i64 g2, .slice A2 L2 c2, .int .i64 h2, .slice B2 M2 d2, .int .i64 g3, .slice A3 L3 c3, .int .i64 h3, .slice B3 M3 d3, .int .i64 g4, .slice A4 L4 c4, .int .i64 h4, .slice B4 M4 d4] 36)) := Ext.alloc _ _
  have hb := BK.new w #[.int .i64 g1, .slice A1 L1 c1, .int .i64 h1, .slice B1 M1 d1, .int .i64 g2, .slice A2 L2 c2, .int .i64 h2, .slice B2 M2 d2, .int .i64 g3, .slice A3 L3 c3, .int .i64 h3, .slice B3 M3 d3, .int .i64 g4, .slice A4 L4 c4, .int .i64 h4, .slice B4 M4 d4] 36
  exact jhull_r (qs := [q1, q2, q3, q4]) (cq4 (fun i v hv => hb.c i v hv) (h_1.ext hx) (h_2.ext hx) (h_3.ext hx) (h_4.ext hx)) rfl (by show 1 ≤ 4; omega) (by show 4 ≤ 100; omega) hK
end Go.Proofs.YtehhkeenjlpikaaGreat
