/- Contracts of packages cylinderref03 (Quo, Abs, Gcd) and cylinderref05. -/
import Derived.Test.YtehhkeenjlpikaaRatX
import Derived.Test.YtehhkeenjlpikaaRefY
import Derived.Test.YtehhkeenjlpikaaRefH
import Derived.Deep.RegionHeldLaw
import Derived.Deep.LoopGhost
import Derived.Deep.QuietTactic
import Derived.BigQuiet
import Derived.Test.YtehhkeenjlpikaaLawZ
namespace Go.Proofs.Ytehhkeenjlpikaa
open Go.RowKit
theorem tdiv_sgn (x y : Int) : (x.sign * y.sign < 0 → x.tdiv y ≤ 0) ∧ (¬ x.sign * y.sign < 0 → 0 ≤ x.tdiv y) := by
  have key : ∀ a b : Int, 0 ≤ a → 0 ≤ b → 0 ≤ a.tdiv b := fun a b ha hb => Int.tdiv_nonneg ha hb
  rcases sign_cases x with ⟨h1, a⟩ | ⟨h1, a⟩ | ⟨h1, a⟩
  · rcases sign_cases y with ⟨h2, b⟩ | ⟨h2, b⟩ | ⟨h2, b⟩
    · rw [a, b]
      have h5 := key (-x) (-y) (by omega) (by omega)
      rw [Int.neg_tdiv, Int.tdiv_neg] at h5
      omega
    · rw [a, b, h2, Int.tdiv_zero]; omega
    · rw [a, b]
      have h5 := key (-x) y (by omega) (by omega)
      rw [Int.neg_tdiv] at h5
      omega
  · rw [a, h1, Int.zero_tdiv]; omega
  · rcases sign_cases y with ⟨h2, b⟩ | ⟨h2, b⟩ | ⟨h2, b⟩
    · rw [a, b]
      have h5 := key x (-y) (by omega) (by omega)
      rw [Int.tdiv_neg] at h5
      omega
    · rw [a, b, h2, Int.tdiv_zero]; omega
    · rw [a, b]
      have h5 := key x y (by omega) (by omega)
      omega
theorem tmod_sgn (x y : Int) : (x.sign < 0 → x.tmod y ≤ 0) ∧ (¬ x.sign < 0 → 0 ≤ x.tmod y) := by
  rcases sign_cases x with ⟨h1, a⟩ | ⟨h1, a⟩ | ⟨h1, a⟩
  · have h5 := Int.tmod_nonneg y (show 0 ≤ -x by omega)
    rw [Int.neg_tmod] at h5
    omega
  · rw [a, h1, Int.zero_tmod]; omega
  · have h5 := Int.tmod_nonneg y (show 0 ≤ x by omega)
    omega
/-- The call returns two integers of the reference. -/
def RetRR (w : World) (x y : Int) (e : Ending) (w' : World) : Prop := ∃ g A c L h B d M, e = .returned (.tuple #[.agg #[.int .i64 g, .slice A L c], .agg #[.int .i64 h, .slice B M d]]) ∧ RZ w' g A c L x ∧ RZ w' h B d M y ∧ Ext w w'
/-- A box of two cells that may be written. -/
structure BW (w : World) (b : Nat) (T : TypeId) (v0 v1 : Value) : Prop where
  box : IsBox w b T
  c0 : w.cell? ⟨b, 0, none⟩ = some v0
  c1 : w.cell? ⟨b, 1, none⟩ = some v1
  f0 : w.frozen? ⟨b, 0, none⟩ = false
  f1 : w.frozen? ⟨b, 1, none⟩ = false
theorem BW.ext {w w' : World} {b : Nat} {T : TypeId} {v0 v1 : Value} (h : BW w b T v0 v1) (hx : Ext w w') : BW w' b T v0 v1 :=
  ⟨h.box.ext hx, hx.cell h.c0, hx.cell h.c1, hx.frozen h.c0 h.f0, hx.frozen h.c1 h.f1⟩
theorem BW.far {w : World} {b b' i : Nat} {T : TypeId} {v0 v1 u : Value} (h : BW w b T v0 v1) (hne : b' ≠ b) : BW (w.setCell ⟨b', i, none⟩ u) b T v0 v1 :=
  ⟨h.box.set_, cell_far hne h.c0, cell_far hne h.c1, frozen_set h.f0, frozen_set h.f1⟩
theorem BW.set2 {w : World} {b : Nat} {T : TypeId} {v0 v1 u0 u1 : Value} (h : BW w b T v0 v1) : BW ((w.setCell ⟨b, 0, none⟩ u0).setCell ⟨b, 1, none⟩ u1) b T u0 u1 := by
  obtain ⟨r0, r1⟩ := res_set (r1 := u0) (r2 := u1) h.c0 h.c1
  exact ⟨h.box.set_.set_, r0, r1, frozen_set (frozen_set h.f0), frozen_set (frozen_set h.f1)⟩
theorem BW.lt {w : World} {b : Nat} {T : TypeId} {v0 v1 : Value} (h : BW w b T v0 v1) : b < w.heap.size := h.box.lt
theorem bl_of_lt {n k : Nat} (h : n < 2 ^ k) : bl n ≤ k := digs_len_le (by omega) h
/-- A fraction of the reference, its parts of at most K bits. -/
structure QR (w : World) (g : Int) (A : Option Addr) (c L : Nat) (h : Int) (B : Option Addr) (d M K : Nat) (q : Rat) : Prop where
  ex : ∃ (x : Int) (y : Nat), RZ w g A c L x ∧ RZ w h B d M (y : Int) ∧ 0 < y ∧ q = mkRat x y ∧ bl x.natAbs ≤ K ∧ bl y ≤ K
section
variable {w w' : World} {g h : Int} {A B : Option Addr} {c d L M K : Nat} {q : Rat}
theorem QR.ext (z : QR w g A c L h B d M K q) (hx : Ext w w') : QR w' g A c L h B d M K q := by
  obtain ⟨x, y, h1, h2, h3⟩ := z.ex
  exact ⟨x, y, h1.ext hx, h2.ext hx, h3⟩
theorem QR.kept (z : QR w g A c L h B d M K q) (hk : Kept w w') : QR w' g A c L h B d M K q := by
  obtain ⟨x, y, h1, h2, h3⟩ := z.ex
  exact ⟨x, y, h1.kept hk, h2.kept hk, h3⟩
theorem QR.wide {K' : Nat} (z : QR w g A c L h B d M K q) (hK : K ≤ K') : QR w g A c L h B d M K' q := by
  obtain ⟨x, y, h1, h2, h3, h4, h5, h6⟩ := z.ex
  exact ⟨x, y, h1, h2, h3, h4, by omega, by omega⟩
theorem QR.sign (z : QR w g A c L h B d M K q) : g = q.num.sign := by
  obtain ⟨x, y, h1, h2, h3, h4, h5, h6⟩ := z.ex
  rw [h1.sign, h4, rat_sign h3]
end
/-- The call returns the fraction q of the reference. -/
def RetQ (w : World) (K : Nat) (q : Rat) (e : Ending) (w' : World) : Prop := ∃ g A c L h B d M, e = .returned (.agg #[.int .i64 g, .slice A L c, .int .i64 h, .slice B M d]) ∧ QR w' g A c L h B d M K q ∧ Ext w w'
theorem Bx.mk4 {w : World} {g : Nat} {v0 v1 v2 v3 : Value} (c0 : w.cell? ⟨g, 0, none⟩ = some v0) (c1 : w.cell? ⟨g, 1, none⟩ = some v1) (c2 : w.cell? ⟨g, 2, none⟩ = some v2) (c3 : w.cell? ⟨g, 3, none⟩ = some v3) : Bx w (.pointer (some ⟨g, 0, none⟩)) #[v0, v1, v2, v3] := by
  refine ⟨g, rfl, fun i v hv => ?_⟩
  match i, hv with
  | 0, hv => simp at hv; subst hv; exact c0
  | 1, hv => simp at hv; subst hv; exact c1
  | 2, hv => simp at hv; subst hv; exact c2
  | 3, hv => simp at hv; subst hv; exact c3
  | i + 4, hv => simp at hv
/-- A fraction of the reference in a box. -/
def PutQ (w w' : World) (K : Nat) (q : Rat) (s : Value) : Prop := ∃ g A c L h B d M, Bx w' s #[.int .i64 g, .slice A L c, .int .i64 h, .slice B M d] ∧ QR w' g A c L h B d M K q ∧ Ext w w'
theorem PutQ.mk {w w' : World} {g h : Int} {A B : Option Addr} {c L d M K : Nat} {q : Rat} {s : Value} (hb : Bx w' s #[.int .i64 g, .slice A L c, .int .i64 h, .slice B M d]) (hz : QR w' g A c L h B d M K q) (hx : Ext w w') : PutQ w w' K q s := ⟨g, A, c, L, h, B, d, M, hb, hz, hx⟩
/-- The call returns the fraction q of the reference in lowest terms. -/
def RetQC (w : World) (q : Rat) (e : Ending) (w' : World) : Prop := ∃ g A c L h B d M, e = .returned (.agg #[.int .i64 g, .slice A L c, .int .i64 h, .slice B M d]) ∧ RZ w' g A c L q.num ∧ RZ w' h B d M (q.den : Int) ∧ Ext w w'
end Go.Proofs.Ytehhkeenjlpikaa
