/- An interval in its box. -/
import Derived.Test.YtehhkeenjlpikaaIvD
import Derived.Test.YtehhkeenjlpikaaLaw6
namespace Go.Proofs.Ytehhkeenjlpikaa
open Go.RowKit
theorem Bx.mk6 {w : World} {g : Nat} {v0 v1 v2 v3 v4 v5 : Value} (c0 : w.cell? ⟨g, 0, none⟩ = some v0) (c1 : w.cell? ⟨g, 1, none⟩ = some v1) (c2 : w.cell? ⟨g, 2, none⟩ = some v2) (c3 : w.cell? ⟨g, 3, none⟩ = some v3) (c4 : w.cell? ⟨g, 4, none⟩ = some v4) (c5 : w.cell? ⟨g, 5, none⟩ = some v5) : Bx w (.pointer (some ⟨g, 0, none⟩)) #[v0, v1, v2, v3, v4, v5] := by
  refine ⟨g, rfl, fun i v hv => ?_⟩
  match i with
  | 0 => simp at hv; subst hv; exact c0
  | 1 => simp at hv; subst hv; exact c1
  | 2 => simp at hv; subst hv; exact c2
  | 3 => simp at hv; subst hv; exact c3
  | 4 => simp at hv; subst hv; exact c4
  | 5 => simp at hv; subst hv; exact c5
  | n + 6 => simp at hv
/-- An interval in a box. -/
def PutI (w w' : World) (N : Nat) (p q : Rat) (sl : Value) : Prop := ∃ s A c L B d M s' A' c' L' B' d' M', Bx w' sl #[.bool s, .slice A L c, .slice B M d, .bool s', .slice A' L' c', .slice B' M' d'] ∧ RO w' 0 s A c L B d M N p ∧ RO w' 0 s' A' c' L' B' d' M' N q ∧ Ext w w'
theorem PutI.mk {w w' : World} {N : Nat} {p q : Rat} {s s' : Bool} {A B A' B' : Option Addr} {c L d M c' L' d' M' : Nat} {sl : Value} (hb : Bx w' sl #[.bool s, .slice A L c, .slice B M d, .bool s', .slice A' L' c', .slice B' M' d']) (h1 : RO w' 0 s A c L B d M N p) (h2 : RO w' 0 s' A' c' L' B' d' M' N q) (hx : Ext w w') : PutI w w' N p q sl := ⟨s, A, c, L, B, d, M, s', A', c', L', B', d', M', hb, h1, h2, hx⟩
end Go.Proofs.Ytehhkeenjlpikaa
