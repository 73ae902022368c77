import Derived.Test.YtehhkeenjlpikaaGreatEvIvC
import Derived.Deep.RegionHeldLaw
import Derived.Deep.LoopGhost
import Derived.Deep.QuietTactic
import Derived.BigQuiet
namespace Go.Proofs.YtehhkeenjlpikaaGreat
open Go.RowKit
/-- Two fractions in boxes laid behind w. -/
def PutM (w w' : World) (g N : Nat) (p q : Rat) (x y : Value) : Prop := ∃ b b' s A c L B d M s' A' c' L' B' d' M', x = .pointer (some ⟨b, 0, none⟩) ∧ y = .pointer (some ⟨b', 0, none⟩) ∧ w.heap.size ≤ b ∧ w.heap.size ≤ b' ∧ BK w' b 27 #[.bool s, .slice A L c, .slice B M d] ∧ BK w' b' 27 #[.bool s', .slice A' L' c', .slice B' M' d'] ∧ RO w' g s A c L B d M N p ∧ RO w' g s' A' c' L' B' d' M' N q ∧ Ext w w'
theorem PutM.mk {w w' : World} {g N b b' : Nat} {p q : Rat} {s s' : Bool} {A B A' B' : Option Addr} {c L d M c' L' d' M' : Nat} (h1 : w.heap.size ≤ b) (h2 : w.heap.size ≤ b') (k1 : BK w' b 27 #[.bool s, .slice A L c, .slice B M d]) (k2 : BK w' b' 27 #[.bool s', .slice A' L' c', .slice B' M' d']) (r1 : RO w' g s A c L B d M N p) (r2 : RO w' g s' A' c' L' B' d' M' N q) (hx : Ext w w') : PutM w w' g N p q (.pointer (some ⟨b, 0, none⟩)) (.pointer (some ⟨b', 0, none⟩)) :=
  ⟨b, b', s, A, c, L, B, d, M, s', A', c', L', B', d', M', rfl, rfl, h1, h2, k1, k2, r1, r2, hx⟩
end Go.Proofs.YtehhkeenjlpikaaGreat
