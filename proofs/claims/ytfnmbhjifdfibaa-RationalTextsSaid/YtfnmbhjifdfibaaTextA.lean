/- The texts of fractions: what strings.Cut parts; plain laws. -/
import Derived.Test.YtfnmbhjifdfibaaRatQ
import Derived.Test.YtfnmbhjifdfibaaShelfCut
namespace Go.Proofs.Ytfnmbhjifdfibaa
open Go.RowKit
theorem index47 : ∀ l : List UInt8, (Lib.index l [47] = -1 ∧ 47 ∉ l) ∨ (∃ t b, l = t ++ 47 :: b ∧ 47 ∉ t ∧ Lib.index l [47] = t.length)
  | [] => .inl ⟨rfl, by simp⟩
  | c :: l => by
    by_cases hc : c = 47
    · subst hc
      exact .inr ⟨[], l, rfl, by simp, by simp [Lib.index, List.isPrefixOf]⟩
    · have h0 : ([47] : List UInt8).isPrefixOf (c :: l) = false := by
        simp [List.isPrefixOf]; exact fun h => hc h.symm
      rcases index47 l with ⟨h1, h2⟩ | ⟨t, b, h1, h2, h3⟩
      · refine .inl ⟨?_, ?_⟩
        · simp only [Lib.index, h0, h1]; simp
        · simp only [List.mem_cons, not_or]; exact ⟨fun h => hc h.symm, h2⟩
      · refine .inr ⟨c :: t, b, by rw [h1]; rfl, ?_, ?_⟩
        · simp only [List.mem_cons, not_or]; exact ⟨fun h => hc h.symm, h2⟩
        · have h4 : (Lib.index l [47] == -1) = false := by rw [h3, beq_eq_false_iff_ne]; omega
          simp only [Lib.index, h0, h4]; simp [h3]
theorem cut47 (l : List UInt8) : (Lib.cut l [47] = (l, [], false) ∧ 47 ∉ l) ∨ (∃ t b, l = t ++ 47 :: b ∧ 47 ∉ t ∧ Lib.cut l [47] = (t, b, true)) := by
  rcases index47 l with ⟨h1, h2⟩ | ⟨t, b, h1, h2, h3⟩
  · refine .inl ⟨?_, h2⟩
    unfold Lib.cut; rw [h1, if_neg (by omega)]
  · refine .inr ⟨t, b, h1, h2, ?_⟩
    unfold Lib.cut; rw [h3, if_pos (by omega), h1]
    have h4 : ((t.length : Int)).toNat = t.length := by omega
    rw [h4]
    simp [List.drop_append]
theorem no47_nat {l : List UInt8} (h : 47 ∉ l) : 47 ∉ l.map UInt8.toNat := by
  intro h2
  obtain ⟨c, hc, e⟩ := List.mem_map.1 h2
  exact h (by rwa [UInt8.toNat_inj.1 (show c.toNat = (47 : UInt8).toNat from e)] at hc)
/-- What the call of strings.Cut at '/' parts a text into. -/
def CutOf (l t b : List Nat) (f : Bool) : Prop := (f = false ∧ t = l ∧ 47 ∉ l) ∨ (f = true ∧ l = t ++ 47 :: b ∧ 47 ∉ t)
theorem cut_any {w : World} {s : ByteArray} (hs : s.size ≤ 1000000) (hm : ∃ m, w.cell? ⟨0, 0, none⟩ = some (.int .i64 m)) :
    ∃ (t b : ByteArray) (f : Bool), CutOf (bs s) (bs t) (bs b) f ∧ ∀ w', Ext w w' → Calls Try.prog 90 #[.string s, .string ⟨#[47]⟩] w' fun e w'' => e = .returned (.tuple #[.string t, .string b, .bool f]) ∧ Ext w' w'' := by
  obtain ⟨m, hm⟩ := hm
  refine ⟨⟨(Lib.cut s.data.toList [47]).1.toArray⟩, ⟨(Lib.cut s.data.toList [47]).2.1.toArray⟩, (Lib.cut s.data.toList [47]).2.2, ?_, fun w' hx => ?_⟩
  · rcases cut47 s.data.toList with ⟨h1, h2⟩ | ⟨t, b, h1, h2, h3⟩
    · rw [h1]
      exact .inl ⟨rfl, by simp [bs], no47_nat h2⟩
    · rw [h3]
      refine .inr ⟨rfl, ?_, by simpa [bs] using no47_nat h2⟩
      unfold bs
      rw [h1]
      simp
  · refine (Try.strings_Cut s ⟨#[47]⟩ m w' (by omega) (hx.cell hm)).mono ?_
    rintro e w'' ⟨rfl, n, rfl⟩
    exact ⟨rfl, Qt.ext ⟨n, rfl⟩⟩
theorem split47 : ∀ {a b c d : List Nat}, 47 ∉ a → 47 ∉ c → a ++ 47 :: b = c ++ 47 :: d → a = c ∧ b = d
  | [], b, [], d, _, _, h => by simpa using h
  | [], b, y :: c, d, _, h2, h => by simp at h; simp only [List.mem_cons, not_or] at h2; exact absurd h.1 h2.1
  | x :: a, b, [], d, h1, _, h => by simp at h; simp only [List.mem_cons, not_or] at h1; exact absurd h.1.symm h1.1
  | x :: a, b, y :: c, d, h1, h2, h => by
    simp only [List.mem_cons, not_or] at h1 h2
    simp only [List.cons_append, List.cons.injEq] at h
    obtain ⟨e1, e2⟩ := split47 h1.2 h2.2 h.2
    exact ⟨by rw [h.1, e1], e2⟩
theorem no47_fmt (x : Int) : 47 ∉ fmtL 10 x := by
  rw [fmtL_eq]
  intro h
  rcases List.mem_append.1 h with h | h
  · split at h <;> simp at h
  · rw [List.mem_reverse, List.mem_map] at h
    obtain ⟨d, hd, e⟩ := h
    have := digs1_valid (b := 10) (by omega) x.natAbs d hd
    unfold sym at e
    split at e <;> omega
theorem fmtQ_cut {q : Rat} {t b : List Nat} {f : Bool} (h : CutOf (fmtQ q) t b f) : (f = false ∧ q.den = 1 ∧ t = fmtL 10 q.num) ∨ (f = true ∧ q.den ≠ 1 ∧ t = fmtL 10 q.num ∧ b = fmtL 10 (q.den : Int)) := by
  unfold fmtQ at h
  by_cases hd : q.den = 1
  · rw [if_pos hd, List.append_nil] at h
    rcases h with ⟨h1, h2, _⟩ | ⟨_, h2, _⟩
    · exact .inl ⟨h1, hd, h2⟩
    · exact absurd (by rw [h2]; simp) (no47_fmt q.num)
  · rw [if_neg hd] at h
    rcases h with ⟨_, _, h3⟩ | ⟨h1, h2, h3⟩
    · exact absurd (by simp) h3
    · obtain ⟨e1, e2⟩ := split47 (no47_fmt _) h3 h2
      exact .inr ⟨h1, hd, e1.symm, e2.symm⟩
theorem fmtQ_int (x : Int) : fmtQ (x : Rat) = fmtL 10 x := by
  unfold fmtQ
  rw [if_pos (show ((x : Rat)).den = 1 from rfl), List.append_nil]; rfl
theorem fmtQ_frac {x y : Int} (hy : 1 < y) (hg : Nat.gcd x.natAbs y.natAbs = 1) : (mkRat x y.natAbs).num = x ∧ ((mkRat x y.natAbs).den : Int) = y ∧ fmtQ (mkRat x y.natAbs) = fmtL 10 x ++ 47 :: fmtL 10 y := by
  have h1 : (mkRat x y.natAbs).num = x := by rw [rat_num_mk (by omega), hg]; exact Int.tdiv_one x
  have h2 : (mkRat x y.natAbs).den = y.natAbs := by rw [rat_den_mk (by omega), hg, Nat.div_one]
  refine ⟨h1, by rw [h2]; omega, ?_⟩
  unfold fmtQ
  rw [h1, h2, if_neg (by omega), show ((y.natAbs : Nat) : Int) = y by omega]
theorem dl_fmt {x : Int} {k : Nat} (h : (fmtL 10 x).length ≤ k) : dl x.natAbs ≤ k := by
  refine dl_le (Nat.lt_of_lt_of_le (lt_pow_digs1 (b := 10) (by omega) x.natAbs) ?_)
  rw [fmtL_eq] at h
  simp only [List.length_append, List.length_reverse, List.length_map] at h
  refine Nat.le_trans (Nat.pow_le_pow_right (by omega) (show (digs1 10 x.natAbs).length ≤ k by omega)) (Nat.pow_le_pow_left (by unfold B32; omega) k)
theorem dl_fmt80 {x : Int} (h : (fmtL 10 x).length ≤ 80) : dl x.natAbs ≤ 9 := by
  refine dl_le (Nat.lt_of_lt_of_le (lt_pow_digs1 (b := 10) (by omega) x.natAbs) ?_)
  rw [fmtL_eq] at h
  simp only [List.length_append, List.length_reverse, List.length_map] at h
  refine Nat.le_trans (Nat.pow_le_pow_right (by omega) (show (digs1 10 x.natAbs).length ≤ 80 by omega)) ?_
  unfold B32
  decide
theorem fmtQ_len {q : Rat} {N : Nat} (h1 : dl q.num.natAbs ≤ N) (h2 : dl q.den ≤ N) : (fmtQ q).length ≤ 64 * N + 5 := by
  have h3 := fmt_le (b := 10) (by omega) q.num
  have h4 := fmt_le (b := 10) (by omega) (q.den : Int)
  rw [Int.natAbs_natCast] at h4
  unfold fmtQ
  rw [List.length_append]
  split
  · rw [List.length_nil]; omega
  · rw [List.length_cons]; omega
theorem fmtQ_inj {p q : Rat} (h : fmtQ p = fmtQ q) : p = q := by
  have hc : ∃ t b f, CutOf (fmtQ p) t b f := by
    by_cases hd : p.den = 1
    · refine ⟨fmtQ p, [], false, .inl ⟨rfl, rfl, ?_⟩⟩
      unfold fmtQ; rw [if_pos hd, List.append_nil]; exact no47_fmt _
    · refine ⟨fmtL 10 p.num, fmtL 10 (p.den : Int), true, .inr ⟨rfl, ?_, no47_fmt _⟩⟩
      unfold fmtQ; rw [if_neg hd]
  obtain ⟨t, b, f, hc⟩ := hc
  have hc2 := hc
  rw [h] at hc2
  rcases fmtQ_cut hc with ⟨a1, a2, a3⟩ | ⟨a1, a2, a3, a4⟩ <;> rcases fmtQ_cut hc2 with ⟨b1, b2, b3⟩ | ⟨b1, b2, b3, b4⟩
  · exact Rat.ext (fmtL_inj (b := 10) (by omega) (by omega) (a3.symm.trans b3)) (by omega)
  · rw [a1] at b1; cases b1
  · rw [a1] at b1; cases b1
  · have h5 := fmtL_inj (b := 10) (by omega) (by omega) (a4.symm.trans b4)
    exact Rat.ext (fmtL_inj (b := 10) (by omega) (by omega) (a3.symm.trans b3)) (by omega)
end Go.Proofs.Ytfnmbhjifdfibaa
