import Derived.Test.YtehhkeenjlpikaaElIvC
import Derived.Test.YtehhkeenjlpikaaTail
import Derived.Deep.RegionHeldLaw
import Derived.Deep.LoopGhost
import Derived.Deep.QuietTactic
import Derived.BigQuiet
namespace Go.Proofs.Ytehhkeenjlpikaa
open Go.RowKit
/-- A list of fractions in memory, each of at most N digits. -/
def CS (w : World) (A : Option Addr) (N : Nat) (qs : List Rat) : Prop := ∀ j (h : j < qs.length), ∃ b off s A' c L B d M, A = some ⟨b, off, none⟩ ∧ b < w.heap.size ∧ w.cell? ⟨b, off + j * 3, none⟩ = some (.bool s) ∧ w.cell? ⟨b, off + j * 3 + 1, none⟩ = some (.slice A' L c) ∧ w.cell? ⟨b, off + j * 3 + 2, none⟩ = some (.slice B M d) ∧ RV w s A' c L B d M N qs[j]
theorem CS.ext {w w' : World} {A : Option Addr} {N : Nat} {qs : List Rat} (h : CS w A N qs) (hx : Ext w w') : CS w' A N qs := fun j hj => by
  obtain ⟨b, off, s, A', c, L, B, d, M, e, h0, h1, h2, h3, h4⟩ := h j hj
  exact ⟨b, off, s, A', c, L, B, d, M, e, Nat.lt_of_lt_of_le h0 hx.size, hx.cell h1, hx.cell h2, hx.cell h3, h4.ext hx⟩
/-- The value so far, in its box. -/
def VB (w : World) (g N b : Nat) (p q : Rat) : Prop := ∃ s A c L B d M s' A' c' L' B' d' M', BK w b 29 #[.bool s, .slice A L c, .slice B M d, .bool s', .slice A' L' c', .slice B' M' d'] ∧ RO w g s A c L B d M N p ∧ RO w g s' A' c' L' B' d' M' N q
theorem VB.mk {w : World} {g N b : Nat} {p q : Rat} {s s' : Bool} {A B A' B' : Option Addr} {c L d M c' L' d' M' : Nat} (h1 : BK w b 29 #[.bool s, .slice A L c, .slice B M d, .bool s', .slice A' L' c', .slice B' M' d']) (k1 : RO w g s A c L B d M N p) (k2 : RO w g s' A' c' L' B' d' M' N q) : VB w g N b p q := ⟨s, A, c, L, B, d, M, s', A', c', L', B', d', M', h1, k1, k2⟩
end Go.Proofs.Ytehhkeenjlpikaa
