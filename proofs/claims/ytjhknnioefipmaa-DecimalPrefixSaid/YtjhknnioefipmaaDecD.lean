/- The order of texts: plain. -/
import Derived.Test.YtjhknnioefipmaaDecC
namespace Go.Proofs.Ytjhknnioefipmaa
open Go.RowKit
theorem lt_pow_digs1 {b : Nat} (hb : 2 ≤ b) (n : Nat) : n < b ^ (digs1 b n).length := by
  have h1 := val_lt (digs1_valid hb n)
  rwa [val_digs1 hb] at h1
theorem digs1_len_pos (b n : Nat) (hb : 2 ≤ b) : 0 < (digs1 b n).length := by
  have h := (lead_digs1 hb n).1
  rcases Nat.eq_zero_or_pos (digs1 b n).length with h3 | h3
  · exact absurd (by rw [List.eq_nil_of_length_eq_zero h3]; rfl) h
  · exact h3
theorem pow_le_digs1 {b : Nat} (hb : 2 ≤ b) {n : Nat} (hn : n ≠ 0) : b ^ ((digs1 b n).length - 1) ≤ n := by
  rcases Nat.lt_or_ge n (b ^ ((digs1 b n).length - 1)) with h | h
  · have h1 := digs_len_le hb h
    have h2 := digs1_len_pos b n hb
    unfold digs1 at h1 h2
    rw [if_neg hn] at h1 h2
    omega
  · exact h
theorem len_lt_lt {b : Nat} (hb : 2 ≤ b) {m n : Nat} (h : (digs1 b m).length < (digs1 b n).length) : m < n := by
  have h1 := lt_pow_digs1 hb m
  have h2 := digs1_len_pos b m hb
  have hn : n ≠ 0 := by
    rintro rfl
    have : (digs1 b 0).length = 1 := rfl
    omega
  have h3 := pow_le_digs1 hb hn
  have h4 : b ^ (digs1 b m).length ≤ b ^ ((digs1 b n).length - 1) := Nat.pow_le_pow_right (by omega) (by omega)
  omega
theorem sym_lt_iff {d e : Nat} (h1 : d < 36) (h2 : e < 36) : sym d < sym e ↔ d < e := by unfold sym; split <;> split <;> omega
theorem lex_val {b : Nat} (hb : 2 ≤ b) (hb2 : b ≤ 36) : ∀ {es fs : List Nat}, Valid b es → Valid b fs → es.length = fs.length → (es.map sym < fs.map sym ↔ val b es.reverse < val b fs.reverse)
  | [], [], _, _, _ => by simp [val]
  | e :: es, f :: fs, h1, h2, hl => by
    rw [valid_cons] at h1 h2
    have hl' : es.length = fs.length := by simpa using hl
    have ih := lex_val hb hb2 h1.2 h2.2 hl'
    rw [List.map_cons, List.map_cons, List.cons_lt_cons_iff, ih, sym_lt_iff (by omega) (by omega), List.reverse_cons, List.reverse_cons, val_append, val_append, List.length_reverse, List.length_reverse, hl']
    have v1 := val_lt (B := b) (ds := es.reverse) (fun d hd => h1.2 d (List.mem_reverse.1 hd))
    have v2 := val_lt (B := b) (ds := fs.reverse) (fun d hd => h2.2 d (List.mem_reverse.1 hd))
    rw [List.length_reverse] at v1 v2
    rw [hl'] at v1
    simp only [val, Nat.mul_zero, Nat.add_zero]
    generalize val b es.reverse = x at *
    generalize val b fs.reverse = y at *
    generalize b ^ fs.length = P at *
    have key : ∀ {p q u v : Nat}, p < q → u < P → u + P * p < v + P * q := fun {p q u v} h hu => by
      have := Nat.mul_le_mul_left P (Nat.succ_le_of_lt h)
      rw [Nat.mul_succ] at this
      omega
    rcases Nat.lt_trichotomy e f with h | h | h
    · have := key (v := y) h v1
      exact ⟨fun _ => this, fun _ => .inl h⟩
    · subst h
      constructor
      · rintro (h | ⟨_, h⟩)
        · omega
        · omega
      · intro h; exact .inr ⟨rfl, by omega⟩
    · have := key (v := x) h v2
      constructor
      · rintro (h' | ⟨h', _⟩)
        · omega
        · have := sym_inj (by omega) (by omega) h'; omega
      · intro h'; omega
theorem fmt_nat (b n : Nat) : fmtL b (n : Int) = ((digs1 b n).map sym).reverse := by
  rw [fmtL_eq, if_neg (by omega), Int.natAbs_natCast]; rfl
theorem fmt_len_lt {b : Nat} (hb : 2 ≤ b) {m n : Nat} (h : (fmtL b (m : Int)).length < (fmtL b (n : Int)).length) : m < n := by
  rw [fmt_nat, fmt_nat] at h
  exact len_lt_lt hb (by simpa using h)
theorem fmt_lt {b : Nat} (hb : 2 ≤ b) (hb2 : b ≤ 36) {m n : Nat} (h : (fmtL b (m : Int)).length = (fmtL b (n : Int)).length) : fmtL b (m : Int) < fmtL b (n : Int) ↔ m < n := by
  rw [fmt_nat, fmt_nat] at h ⊢
  rw [← List.map_reverse, ← List.map_reverse, lex_val hb hb2 (fun d hd => digs1_valid hb _ d (List.mem_reverse.1 hd)) (fun d hd => digs1_valid hb _ d (List.mem_reverse.1 hd)) (by simpa using h), List.reverse_reverse, List.reverse_reverse, val_digs1 hb, val_digs1 hb]
theorem cmpZ_lt_iff (x y : Int) : decide (cmpZ x y < 0) = decide (x < y) := by
  unfold cmpZ
  rw [decide_eq_decide]
  split <;> (try split) <;> omega
end Go.Proofs.Ytjhknnioefipmaa
