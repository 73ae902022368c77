/- Texts that are read: plain. -/
import Derived.Test.YtfnmbhjifdfibaaDecX
namespace Go.Proofs.Ytfnmbhjifdfibaa
open Go.RowKit
/-- The signs behind the minus sign are the digits of an integer. -/
structure Good (b : Nat) (neg : Bool) (T : List Nat) : Prop where
  dig : ∀ c ∈ T, dg c < b
  ne : T ≠ []
  zero : T.head? = some 48 → neg = false ∧ T.length = 1
/-- What signs read as. -/
def rd (b : Nat) (T : List Nat) : Nat := val b (T.map dg).reverse
def rdZ (b : Nat) (neg : Bool) (T : List Nat) : Int := if neg then -(rd b T : Int) else (rd b T : Int)
theorem map_sym_dg {b : Nat} (hb : b ≤ 36) : ∀ {T : List Nat}, (∀ c ∈ T, dg c < b) → (T.map dg).map sym = T
  | [], _ => rfl
  | c :: T, h => by
    rw [List.map_cons, List.map_cons, map_sym_dg hb (fun x hx => h x (List.mem_cons_of_mem _ hx)), sym_dg (by have := h c (List.mem_cons_self ..); omega)]
theorem map_dg_sym {b : Nat} (hb : b ≤ 36) : ∀ {es : List Nat}, Valid b es → (es.map sym).map dg = es
  | [], _ => rfl
  | e :: es, h => by
    rw [valid_cons] at h
    rw [List.map_cons, List.map_cons, map_dg_sym hb h.2, dg_sym (by omega)]
theorem dg_zero {c : Nat} (h : dg c = 0) : c = 48 := by
  have := sym_dg (c := c) (by omega)
  rw [h] at this
  exact this.symm
theorem good_yes {b : Nat} (hb : 2 ≤ b) (hb2 : b ≤ 36) {neg : Bool} {T : List Nat} (h : Good b neg T) : fmtL b (rdZ b neg T) = (if neg then [45] else []) ++ T := by
  have hv : Valid b (T.map dg) := by
    intro d hd
    rw [List.mem_map] at hd
    obtain ⟨c, hc, rfl⟩ := hd
    exact h.dig c hc
  have hz : (T.map dg).head? = some 0 → T.head? = some 48 := by
    intro h0
    cases T with
    | nil => simp at h0
    | cons c T => simp at h0; rw [List.head?_cons, dg_zero h0]
  have hz1 : (T.map dg).head? = some 0 → neg = false ∧ T = [48] := by
    intro h0
    obtain ⟨h1, h2⟩ := h.zero (hz h0)
    refine ⟨h1, ?_⟩
    match T, h2, hz h0 with
    | [c], _, h3 => simp at h3; rw [h3]
  have hl : Lead (T.map dg) := by
    refine ⟨fun e => h.ne (List.map_eq_nil_iff.1 e), fun h0 => ?_⟩
    rw [(hz1 h0).2]
    rfl
  have := fmtL_read (neg := neg) hb hv hl (fun hn e => by
    have := (hz1 (by rw [e]; rfl)).1
    rw [hn] at this; cases this)
  rw [map_sym_dg hb2 h.dig] at this
  exact this
theorem good_of {b : Nat} (hb : 2 ≤ b) (hb2 : b ≤ 36) {neg : Bool} {T : List Nat} {x : Int} (h : fmtL b x = (if neg then [45] else []) ++ T) (hn : neg = false → T.head? ≠ some 45) : Good b neg T ∧ x = rdZ b neg T := by
  obtain ⟨es, hv, hl, hx, hval, hf⟩ := fmtL_form hb x
  rw [hf] at h
  have hh : (es.map sym).head? ≠ some 45 := by
    cases es with
    | nil => simp
    | cons e es => simp; exact sym_ne
  have key : neg = decide (x < 0) ∧ T = es.map sym := by
    by_cases hx0 : x < 0
    · rw [if_pos hx0] at h
      cases neg
      · simp only [Bool.false_eq_true, if_false, List.nil_append] at h
        exact absurd (by rw [← h]; rfl) (hn rfl)
      · simp only [if_true] at h
        exact ⟨by simp [hx0], (List.append_cancel_left h).symm⟩
    · rw [if_neg hx0] at h
      cases neg
      · simp only [Bool.false_eq_true, if_false, List.nil_append] at h
        exact ⟨by simp [hx0], h.symm⟩
      · simp only [if_true, List.nil_append] at h
        exact absurd (by rw [h]; rfl) hh
  obtain ⟨h1, rfl⟩ := key
  have hm := map_dg_sym hb2 hv
  have hg : Good b neg (es.map sym) := by
    refine ⟨fun c hc => ?_, fun e => hl.1 (List.map_eq_nil_iff.1 e), fun h0 => ?_⟩
    · rw [List.mem_map] at hc
      obtain ⟨d, hd, rfl⟩ := hc
      have := hv d hd
      rw [dg_sym (by omega)]
      exact this
    · have h2 : es.head? = some 0 := by
        cases es with
        | nil => simp at h0
        | cons e es =>
          simp at h0
          have he := hv e (List.mem_cons_self ..)
          have : e = 0 := by
            have h3 : sym 0 = 48 := rfl
            rw [← h3] at h0
            exact sym_inj (by omega) (by omega) h0
          rw [this]; rfl
      have h3 := hl.2 h2
      refine ⟨?_, by rw [h3]; rfl⟩
      rw [h1]
      by_cases hx0 : x < 0
      · exact absurd h3 (hx hx0)
      · simp [hx0]
  refine ⟨hg, ?_⟩
  unfold rdZ rd
  rw [hm, hval, h1]
  by_cases hx0 : x < 0
  · simp [hx0]; omega
  · simp [hx0]; omega
theorem rd_append (b : Nat) (S T : List Nat) : rd b (S ++ T) = rd b S * b ^ T.length + rd b T := by
  unfold rd
  rw [List.map_append, List.reverse_append, val_append, List.length_reverse, List.length_map, Nat.mul_comm, Nat.add_comm]
theorem rd_snoc (b : Nat) (S : List Nat) (c : Nat) : rd b (S ++ [c]) = rd b S * b + dg c := by
  rw [rd_append]; simp [rd, val]
theorem rd_lt {b : Nat} {T : List Nat} (h : ∀ c ∈ T, dg c < b) : rd b T < b ^ T.length := by
  have := val_lt (B := b) (ds := (T.map dg).reverse) (fun d hd => by
    rw [List.mem_reverse, List.mem_map] at hd
    obtain ⟨c, hc, rfl⟩ := hd
    exact h c hc)
  simpa [rd] using this
theorem dl_rd {b : Nat} (hb : b ≤ 36) {T : List Nat} (h : ∀ c ∈ T, dg c < b) : dl (rd b T) ≤ T.length := by
  refine dl_le ?_
  have h1 := rd_lt h
  have h2 : b ^ T.length ≤ B32 ^ T.length := Nat.pow_le_pow_left (by unfold B32; omega) _
  omega
end Go.Proofs.Ytfnmbhjifdfibaa
