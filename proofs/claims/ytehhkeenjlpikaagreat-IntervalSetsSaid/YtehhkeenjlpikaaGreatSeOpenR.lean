/- Arguments that are fractions (a sign and two numbers), opened. -/
import Derived.Lib.SmallJoins
import Derived.Test.YtehhkeenjlpikaaGreatSeOpenZ
import Derived.Test.YtehhkeenjlpikaaGreatSeRatX
namespace Go.Proofs.YtehhkeenjlpikaaGreat
open Go.ChangeShapes Go.WideShapes Go.ChangeAt Go.RowKit Go.Joins
/-- An argument: a fraction by an integer and a number. -/
structure RW (w : World) (s : Bool) (A : Option Addr) (c L : Nat) (B : Option Addr) (d M : Nat) (x : Int) (y : Nat) : Prop where
  num : ZV w s A c L x
  den : NV w B d M y
theorem RW.rv {w : World} {s : Bool} {A B : Option Addr} {c L d M N : Nat} {x : Int} {y : Nat} (h : RW w s A c L B d M x y) (h1 : L ≤ N) (h2 : M ≤ N) (h0 : 1 ≤ N) : RV w s A c L B d M N (mkRat x y) :=
  ⟨⟨x, y, h.num, h.den, rfl, Nat.le_trans h.num.nv.dl h1, Nat.le_trans h.den.dl h2⟩, h0⟩
theorem RW.ext {w w' : World} {s : Bool} {A B : Option Addr} {c L d M : Nat} {x : Int} {y : Nat} (h : RW w s A c L B d M x y) (hx : Ext w w') : RW w' s A c L B d M x y := ⟨h.num.ext hx, h.den.ext hx⟩
theorem cells_R : Tryz.prog.cellsOf 27 = 3 := by kernel_rfl
theorem cells_bool5 : Tryz.prog.cellsOf 4 = 1 := by kernel_rfl
theorem cells_nat5 : Tryz.prog.cellsOf 23 = 1 := by kernel_rfl
theorem array3 {a : Array Value} (h : a.size = 3) : ∃ x y z, a = #[x, y, z] := by
  obtain ⟨l⟩ := a
  match l, h with
  | [x, y, z], _ => exact ⟨x, y, z, rfl⟩
section
variable {H : Type} {enc : TypeId × Value → H} {W : World} {base : Nat} {v : Value} {d : DataW H} {p : List MemPlace}
theorem rw_of_trod {n : Nat} {v0 v1 v2 : Value} {y : DataW H × List MemPlace} (hf : DataW.trod enc Tryz.prog W 0 (fun _ => true) true n 27 [v0, v1, v2] = some y) :
    ∃ s A c L B d M x y, v0 = .bool s ∧ v1 = .slice A L c ∧ v2 = .slice B M d ∧ RW W s A c L B d M x y := by
  obtain ⟨y0, y1, n2, _, _, hy0, hy1⟩ := trod_struct2 Tryz.underlying27 hf
  have hz0 : DataW.trod enc Tryz.prog W 0 (fun _ => true) true n2 25 [v0, v1] = some y0 := by simpa [cells_Z] using hy0
  have hz1 : DataW.trod enc Tryz.prog W 0 (fun _ => true) true n2 23 [v2] = some y1 := by simpa [cells_Z, cells_nat5] using hy1
  obtain ⟨B, dd, es, e2, hm⟩ := nv_of_trod hz1
  obtain ⟨y2, y3, n3, _, _, hy2, hy3⟩ := trod_struct2 Tryz.underlying25 hz0
  have hz2 : DataW.trod enc Tryz.prog W 0 (fun _ => true) true n3 4 [v0] = some y2 := by simpa [cells_bool5] using hy2
  have hz3 : DataW.trod enc Tryz.prog W 0 (fun _ => true) true n3 23 [v1] = some y3 := by simpa [cells_bool5, cells_nat5] using hy3
  obtain ⟨b, e0, _⟩ := DataW.trod_bool Tryz.underlying4 hz2
  obtain ⟨A, c, ds, e1, hn⟩ := nv_of_trod hz3
  simp at e0
  obtain ⟨L, x, hL, hz⟩ := zv_of (s := b) hn
  exact ⟨b, A, c, L, B, dd, es.length, x, V es, e0, by rw [e1, hL], e2, hz, hm.nv⟩
set_option maxRecDepth 100000 in
theorem open_R (hv : Value.okWide Tryz.prog W .any base 27 v) (h : DataW.Trod enc Tryz.prog W 0 (fun _ => true) true 27 v d p) :
    ∃ s A c L B d M x y, v = .agg #[.bool s, .slice A L c, .slice B M d] ∧ RW W s A c L B d M x y := by
  obtain ⟨cs, rfl, hsz⟩ := okWide_struct Tryz.underlying27 hv
  obtain ⟨v0, v1, v2, rfl⟩ := array3 (hsz.trans cells_R)
  obtain ⟨fuel, hf⟩ := h
  obtain ⟨s, A, c, L, B, d, M, x, y, rfl, rfl, rfl, hr⟩ := rw_of_trod (by simpa [Value.cells] using hf)
  exact ⟨s, A, c, L, B, d, M, x, y, rfl, hr⟩
end
end Go.Proofs.YtehhkeenjlpikaaGreat
