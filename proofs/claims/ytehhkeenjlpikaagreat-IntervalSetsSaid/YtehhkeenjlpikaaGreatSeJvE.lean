/- Two fractions of the reference in boxes of the call. -/
import Derived.Test.YtehhkeenjlpikaaGreatSeJvD
import Derived.Deep.RegionHeldLaw
import Derived.Deep.LoopGhost
import Derived.Deep.QuietTactic
import Derived.BigQuiet
namespace Go.Proofs.YtehhkeenjlpikaaGreat
open Go.RowKit
theorem BK.set4 {w : World} {b : Nat} {T : TypeId} {u0 u1 u2 u3 v0 v1 v2 v3 : Value} (h : BK w b T #[u0, u1, u2, u3]) : BK ((((w.setCell ⟨b, 0, none⟩ v0).setCell ⟨b, 1, none⟩ v1).setCell ⟨b, 2, none⟩ v2).setCell ⟨b, 3, none⟩ v3) b T #[v0, v1, v2, v3] :=
  (BK.set (i := 3) (u := v3) (vs' := #[v0, v1, v2, v3]) (BK.set (i := 2) (u := v2) (vs' := #[v0, v1, v2, u3]) (BK.set (i := 1) (u := v1) (vs' := #[v0, v1, u2, u3]) (BK.set (i := 0) (u := v0) (vs' := #[v0, u1, u2, u3]) h rfl) rfl) rfl) rfl)
theorem BK.far4 {w : World} {b b' : Nat} {T : TypeId} {vs : Array Value} {v0 v1 v2 v3 : Value} (hne : b ≠ b') (h : BK w b T vs) : BK ((((w.setCell ⟨b', 0, none⟩ v0).setCell ⟨b', 1, none⟩ v1).setCell ⟨b', 2, none⟩ v2).setCell ⟨b', 3, none⟩ v3) b T vs :=
  (((h.far hne 0 v0).far hne 1 v1).far hne 2 v2).far hne 3 v3
theorem Kept.set4Q {w : World} {b : Nat} {v0 v1 v2 v3 : Value} (ib : IsBox w b 36) : Kept w ((((w.setCell ⟨b, 0, none⟩ v0).setCell ⟨b, 1, none⟩ v1).setCell ⟨b, 2, none⟩ v2).setCell ⟨b, 3, none⟩ v3) :=
  Kept.set_ (Kept.set_ (Kept.set_ (Kept.set_ (Kept.refl _) ib plain_Q) (IsBox.set_ ib) plain_Q) (IsBox.set_ (IsBox.set_ ib)) plain_Q) (IsBox.set_ (IsBox.set_ (IsBox.set_ ib))) plain_Q
theorem Ext.set4 {e w : World} {b : Nat} {v0 v1 v2 v3 : Value} (hx : Ext e w) (hb : e.heap.size ≤ b) : Ext e ((((w.setCell ⟨b, 0, none⟩ v0).setCell ⟨b, 1, none⟩ v1).setCell ⟨b, 2, none⟩ v2).setCell ⟨b, 3, none⟩ v3) :=
  Ext.set_ (Ext.set_ (Ext.set_ (Ext.set_ hx hb) hb) hb) hb
/-- Two boxes of fractions of the reference, laid behind w. -/
def PutLQ (w w' : World) (vs us : Array Value) (s t : Value) : Prop := ∃ b b', s = .pointer (some ⟨b, 0, none⟩) ∧ t = .pointer (some ⟨b', 0, none⟩) ∧ w.heap.size ≤ b ∧ w.heap.size ≤ b' ∧ b ≠ b' ∧ BK w' b 36 vs ∧ BK w' b' 36 us ∧ Ext w w'
theorem PutLQ.mk {w w' : World} {vs us : Array Value} {b b' : Nat} (h1 : w.heap.size ≤ b) (h2 : w.heap.size ≤ b') (hne : b ≠ b') (k1 : BK w' b 36 vs) (k2 : BK w' b' 36 us) (hx : Ext w w') : PutLQ w w' vs us (.pointer (some ⟨b, 0, none⟩)) (.pointer (some ⟨b', 0, none⟩)) :=
  ⟨b, b', rfl, rfl, h1, h2, hne, k1, k2, hx⟩
/-- Two fractions of the reference in boxes of the call's own. -/
def LHQ (w : World) (b b' K : Nat) (p q : Rat) : Prop := ∃ g A c L h B d M g' A' c' L' h' B' d' M', BK w b 36 #[.int .i64 g, .slice A L c, .int .i64 h, .slice B M d] ∧ BK w b' 36 #[.int .i64 g', .slice A' L' c', .int .i64 h', .slice B' M' d'] ∧ QR w g A c L h B d M K p ∧ QR w g' A' c' L' h' B' d' M' K q
theorem LHQ.mk {w : World} {b b' K : Nat} {p q : Rat} {g h g' h' : Int} {A B A' B' : Option Addr} {c L d M c' L' d' M' : Nat} (k1 : BK w b 36 #[.int .i64 g, .slice A L c, .int .i64 h, .slice B M d]) (k2 : BK w b' 36 #[.int .i64 g', .slice A' L' c', .int .i64 h', .slice B' M' d']) (h1 : QR w g A c L h B d M K p) (h2 : QR w g' A' c' L' h' B' d' M' K q) : LHQ w b b' K p q := ⟨g, A, c, L, h, B, d, M, g', A', c', L', h', B', d', M', k1, k2, h1, h2⟩
theorem LHQ.set_lo {w : World} {b b' K : Nat} {p q : Rat} {g1 h1 g2 h2 : Int} {A1 B1 A2 B2 : Option Addr} {c1 d1 L1 M1 c2 d2 L2 M2 : Nat} {u0 u1 u2 u3 : Value} (hne : b ≠ b') (bxl : BK w b 36 #[u0, u1, u2, u3]) (bxh : BK w b' 36 #[.int .i64 g2, .slice A2 L2 c2, .int .i64 h2, .slice B2 M2 d2]) (e1 : QR w g1 A1 c1 L1 h1 B1 d1 M1 K p) (e2 : QR w g2 A2 c2 L2 h2 B2 d2 M2 K q) : LHQ ((((w.setCell ⟨b, 0, none⟩ (.int .i64 g1)).setCell ⟨b, 1, none⟩ (.slice A1 L1 c1)).setCell ⟨b, 2, none⟩ (.int .i64 h1)).setCell ⟨b, 3, none⟩ (.slice B1 M1 d1)) b b' K p q := by
  have ib : IsBox w b 36 := bxl.isBox
  exact LHQ.mk (BK.set4 bxl) (BK.far4 hne.symm bxh) (e1.kept (Kept.set4Q ib)) (e2.kept (Kept.set4Q ib))
theorem LHQ.set_hi {w : World} {b b' K : Nat} {p q : Rat} {g1 h1 g2 h2 : Int} {A1 B1 A2 B2 : Option Addr} {c1 d1 L1 M1 c2 d2 L2 M2 : Nat} {u0 u1 u2 u3 : Value} (hne : b ≠ b') (bxl : BK w b 36 #[.int .i64 g1, .slice A1 L1 c1, .int .i64 h1, .slice B1 M1 d1]) (bxh : BK w b' 36 #[u0, u1, u2, u3]) (e1 : QR w g1 A1 c1 L1 h1 B1 d1 M1 K p) (e2 : QR w g2 A2 c2 L2 h2 B2 d2 M2 K q) : LHQ ((((w.setCell ⟨b', 0, none⟩ (.int .i64 g2)).setCell ⟨b', 1, none⟩ (.slice A2 L2 c2)).setCell ⟨b', 2, none⟩ (.int .i64 h2)).setCell ⟨b', 3, none⟩ (.slice B2 M2 d2)) b b' K p q := by
  have ib : IsBox w b' 36 := bxh.isBox
  exact LHQ.mk (BK.far4 hne bxl) (BK.set4 bxh) (e1.kept (Kept.set4Q ib)) (e2.kept (Kept.set4Q ib))
set_option maxHeartbeats 4000000 in
set_option maxRecDepth 100000 in
theorem hull4x {v w : World} {K : Nat} {g1 h1 g2 h2 g3 h3 g4 h4 : Int} {A1 B1 A2 B2 A3 B3 A4 B4 : Option Addr} {c1 d1 L1 M1 c2 d2 L2 M2 c3 d3 L3 M3 c4 d4 L4 M4 : Nat} {q1 q2 q3 q4 : Rat} (hx : Ext (v.alloc (.cells #[.int .i64 g1, .slice A1 L1 c1, .int .i64 h1, .slice B1 M1 d1, .int .i64 g2, .slice A2 L2 c2, .int .i64 h2, .slice B2 M2 d2, .int .i64 g3, .slice A3 L3 c3, .int .i64 h3, .slice B3 M3 d3, .int .i64 g4, .slice A4 L4 c4, .int .i64 h4, .slice B4 M4 d4] 36)) w) (h_1 : QR w g1 A1 c1 L1 h1 B1 d1 M1 K q1) (h_2 : QR w g2 A2 c2 L2 h2 B2 d2 M2 K q2) (h_3 : QR w g3 A3 c3 L3 h3 B3 d3 M3 K q3) (h_4 : QR w g4 A4 c4 L4 h4 B4 d4 M4 K q4) (hK : K ≤ 100000000) :
    Calls Tryz.prog 40 #[.slice (some ⟨v.heap.size, 0, none⟩) 4 4] w (RetJ w K (minQ (minQ (minQ q1 q2) q3) q4) (maxQ (maxQ (maxQ q1 q2) q3) q4)) := by
  have hb := (BK.new v #[.int .i64 g1, .slice A1 L1 c1, .int .i64 h1, .slice B1 M1 d1, .int .i64 g2, .slice A2 L2 c2, .int .i64 h2, .slice B2 M2 d2, .int .i64 g3, .slice A3 L3 c3, .int .i64 h3, .slice B3 M3 d3, .int .i64 g4, .slice A4 L4 c4, .int .i64 h4, .slice B4 M4 d4] 36).ext hx
  exact jhull_r (qs := [q1, q2, q3, q4]) (cq4 (fun i v hv => hb.c i v hv) h_1 h_2 h_3 h_4) rfl (by show 1 ≤ 4; omega) (by show 4 ≤ 100; omega) hK
theorem Kept.set8J_r {a w : World} {b : Nat} {v0 v1 v2 v3 v4 v5 v6 v7 : Value} (hb : IsBox w b 38) (h : Kept a w) : Kept a ((((((((w.setCell ⟨b, 0, none⟩ v0).setCell ⟨b, 1, none⟩ v1).setCell ⟨b, 2, none⟩ v2).setCell ⟨b, 3, none⟩ v3).setCell ⟨b, 4, none⟩ v4).setCell ⟨b, 5, none⟩ v5).setCell ⟨b, 6, none⟩ v6).setCell ⟨b, 7, none⟩ v7) :=
  (Kept.set_ (Kept.set_ (Kept.set_ (Kept.set_ (Kept.set_ (Kept.set_ (Kept.set_ (Kept.set_ h hb plain_J) (IsBox.set_ (hb)) plain_J) (IsBox.set_ (IsBox.set_ (hb))) plain_J) (IsBox.set_ (IsBox.set_ (IsBox.set_ (hb)))) plain_J) (IsBox.set_ (IsBox.set_ (IsBox.set_ (IsBox.set_ (hb))))) plain_J) (IsBox.set_ (IsBox.set_ (IsBox.set_ (IsBox.set_ (IsBox.set_ (hb)))))) plain_J) (IsBox.set_ (IsBox.set_ (IsBox.set_ (IsBox.set_ (IsBox.set_ (IsBox.set_ (hb))))))) plain_J) (IsBox.set_ (IsBox.set_ (IsBox.set_ (IsBox.set_ (IsBox.set_ (IsBox.set_ (IsBox.set_ (hb)))))))) plain_J)
theorem IsBox.set8_ {w : World} {b b' : Nat} {T : TypeId} {v0 v1 v2 v3 v4 v5 v6 v7 : Value} (h : IsBox w b' T) : IsBox ((((((((w.setCell ⟨b, 0, none⟩ v0).setCell ⟨b, 1, none⟩ v1).setCell ⟨b, 2, none⟩ v2).setCell ⟨b, 3, none⟩ v3).setCell ⟨b, 4, none⟩ v4).setCell ⟨b, 5, none⟩ v5).setCell ⟨b, 6, none⟩ v6).setCell ⟨b, 7, none⟩ v7) b' T :=
  IsBox.set_ (IsBox.set_ (IsBox.set_ (IsBox.set_ (IsBox.set_ (IsBox.set_ (IsBox.set_ (IsBox.set_ (h))))))))
end Go.Proofs.YtehhkeenjlpikaaGreat
