/- Two fractions of the reference in boxes of the call. -/
import Derived.Test.YtehhkeenjlpikaaGreatPoJvD
import Derived.Deep.RegionHeldLaw
import Derived.Deep.LoopGhost
import Derived.Deep.QuietTactic
import Derived.BigQuiet
namespace Go.Proofs.YtehhkeenjlpikaaGreat
open Go.RowKit
/-- Two boxes of fractions of the reference, laid behind w. -/
def PutLQ (w w' : World) (vs us : Array Value) (s t : Value) : Prop := ∃ b b', s = .pointer (some ⟨b, 0, none⟩) ∧ t = .pointer (some ⟨b', 0, none⟩) ∧ w.heap.size ≤ b ∧ w.heap.size ≤ b' ∧ b ≠ b' ∧ BK w' b 36 vs ∧ BK w' b' 36 us ∧ Ext w w'
theorem PutLQ.mk {w w' : World} {vs us : Array Value} {b b' : Nat} (h1 : w.heap.size ≤ b) (h2 : w.heap.size ≤ b') (hne : b ≠ b') (k1 : BK w' b 36 vs) (k2 : BK w' b' 36 us) (hx : Ext w w') : PutLQ w w' vs us (.pointer (some ⟨b, 0, none⟩)) (.pointer (some ⟨b', 0, none⟩)) :=
  ⟨b, b', rfl, rfl, h1, h2, hne, k1, k2, hx⟩
/-- Two fractions of the reference in boxes of the call's own. -/
def LHQ (w : World) (b b' K : Nat) (p q : Rat) : Prop := ∃ g A c L h B d M g' A' c' L' h' B' d' M', BK w b 36 #[.int .i64 g, .slice A L c, .int .i64 h, .slice B M d] ∧ BK w b' 36 #[.int .i64 g', .slice A' L' c', .int .i64 h', .slice B' M' d'] ∧ QR w g A c L h B d M K p ∧ QR w g' A' c' L' h' B' d' M' K q
theorem LHQ.mk {w : World} {b b' K : Nat} {p q : Rat} {g h g' h' : Int} {A B A' B' : Option Addr} {c L d M c' L' d' M' : Nat} (k1 : BK w b 36 #[.int .i64 g, .slice A L c, .int .i64 h, .slice B M d]) (k2 : BK w b' 36 #[.int .i64 g', .slice A' L' c', .int .i64 h', .slice B' M' d']) (h1 : QR w g A c L h B d M K p) (h2 : QR w g' A' c' L' h' B' d' M' K q) : LHQ w b b' K p q := ⟨g, A, c, L, h, B, d, M, g', A', c', L', h', B', d', M', k1, k2, h1, h2⟩
end Go.Proofs.YtehhkeenjlpikaaGreat
