/- An interval in its box. -/
import Derived.Test.YtehhkeenjlpikaaGreatSeIvD
import Derived.Test.YtehhkeenjlpikaaGreatSeLaw6
namespace Go.Proofs.YtehhkeenjlpikaaGreat
open Go.RowKit
/-- An interval in a box. -/
def PutI (w w' : World) (N : Nat) (p q : Rat) (sl : Value) : Prop := ∃ s A c L B d M s' A' c' L' B' d' M', Bx w' sl #[.bool s, .slice A L c, .slice B M d, .bool s', .slice A' L' c', .slice B' M' d'] ∧ RO w' 0 s A c L B d M N p ∧ RO w' 0 s' A' c' L' B' d' M' N q ∧ Ext w w'
theorem PutI.mk {w w' : World} {N : Nat} {p q : Rat} {s s' : Bool} {A B A' B' : Option Addr} {c L d M c' L' d' M' : Nat} {sl : Value} (hb : Bx w' sl #[.bool s, .slice A L c, .slice B M d, .bool s', .slice A' L' c', .slice B' M' d']) (h1 : RO w' 0 s A c L B d M N p) (h2 : RO w' 0 s' A' c' L' B' d' M' N q) (hx : Ext w w') : PutI w w' N p q sl := ⟨s, A, c, L, B, d, M, s', A', c', L', B', d', M', hb, h1, h2, hx⟩
end Go.Proofs.YtehhkeenjlpikaaGreat
