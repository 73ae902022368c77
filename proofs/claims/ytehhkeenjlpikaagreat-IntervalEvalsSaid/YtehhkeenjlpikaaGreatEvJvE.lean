/- Two fractions of the reference in boxes of the call. -/
import Derived.Test.YtehhkeenjlpikaaGreatEvJvD
import Derived.Deep.RegionHeldLaw
import Derived.Deep.LoopGhost
import Derived.Deep.QuietTactic
import Derived.BigQuiet
namespace Go.Proofs.YtehhkeenjlpikaaGreat
open Go.RowKit
theorem BK.set4 {w : World} {b : Nat} {T : TypeId} {u0 u1 u2 u3 v0 v1 v2 v3 : Value} (h : BK w b T #[u0, u1, u2, u3]) : BK ((((w.setCell ⟨b, 0, none⟩ v0).setCell ⟨b, 1, none⟩ v1).setCell ⟨b, 2, none⟩ v2).setCell ⟨b, 3, none⟩ v3) b T #[v0, v1, v2, v3] :=
  (BK.set (i := 3) (u := v3) (vs' := #[v0, v1, v2, v3]) (BK.set (i := 2) (u := v2) (vs' := #[v0, v1, v2, u3]) (BK.set (i := 1) (u := v1) (vs' := #[v0, v1, u2, u3]) (BK.set (i := 0) (u := v0) (vs' := #[v0, u1, u2, u3]) h rfl) rfl) rfl) rfl)
theorem BK.far4 {w : World} {b b' : Nat} {T : TypeId} {vs : Array Value} {v0 v1 v2 v3 : Value} (hne : b ≠ b') (h : BK w b T vs) : BK ((((w.setCell ⟨b', 0, none⟩ v0).setCell ⟨b', 1, none⟩ v1).setCell ⟨b', 2, none⟩ v2).setCell ⟨b', 3, none⟩ v3) b T vs :=
  (((h.far hne 0 v0).far hne 1 v1).far hne 2 v2).far hne 3 v3
theorem Ext.set4 {e w : World} {b : Nat} {v0 v1 v2 v3 : Value} (hx : Ext e w) (hb : e.heap.size ≤ b) : Ext e ((((w.setCell ⟨b, 0, none⟩ v0).setCell ⟨b, 1, none⟩ v1).setCell ⟨b, 2, none⟩ v2).setCell ⟨b, 3, none⟩ v3) :=
  Ext.set_ (Ext.set_ (Ext.set_ (Ext.set_ hx hb) hb) hb) hb
/-- Two boxes of fractions of the reference, laid behind w. -/
def PutLQ (w w' : World) (vs us : Array Value) (s t : Value) : Prop := ∃ b b', s = .pointer (some ⟨b, 0, none⟩) ∧ t = .pointer (some ⟨b', 0, none⟩) ∧ w.heap.size ≤ b ∧ w.heap.size ≤ b' ∧ b ≠ b' ∧ BK w' b 36 vs ∧ BK w' b' 36 us ∧ Ext w w'
theorem PutLQ.mk {w w' : World} {vs us : Array Value} {b b' : Nat} (h1 : w.heap.size ≤ b) (h2 : w.heap.size ≤ b') (hne : b ≠ b') (k1 : BK w' b 36 vs) (k2 : BK w' b' 36 us) (hx : Ext w w') : PutLQ w w' vs us (.pointer (some ⟨b, 0, none⟩)) (.pointer (some ⟨b', 0, none⟩)) :=
  ⟨b, b', rfl, rfl, h1, h2, hne, k1, k2, hx⟩
/-- Two fractions of the reference in boxes of the call's own. -/
def LHQ (w : World) (b b' K : Nat) (p q : Rat) : Prop := ∃ g A c L h B d M g' A' c' L' h' B' d' M', BK w b 36 #[.int .i64 g, .slice A L c, .int .i64 h, .slice B M d] ∧ BK w b' 36 #[.int .i64 g', .slice A' L' c', .int .i64 h', .slice B' M' d'] ∧ QR w g A c L h B d M K p ∧ QR w g' A' c' L' h' B' d' M' K q
theorem LHQ.mk {w : World} {b b' K : Nat} {p q : Rat} {g h g' h' : Int} {A B A' B' : Option Addr} {c L d M c' L' d' M' : Nat} (k1 : BK w b 36 #[.int .i64 g, .slice A L c, .int .i64 h, .slice B M d]) (k2 : BK w b' 36 #[.int .i64 g', .slice A' L' c', .int .i64 h', .slice B' M' d']) (h1 : QR w g A c L h B d M K p) (h2 : QR w g' A' c' L' h' B' d' M' K q) : LHQ w b b' K p q := ⟨g, A, c, L, h, B, d, M, g', A', c', L', h', B', d', M', k1, k2, h1, h2⟩
end Go.Proofs.YtehhkeenjlpikaaGreat
