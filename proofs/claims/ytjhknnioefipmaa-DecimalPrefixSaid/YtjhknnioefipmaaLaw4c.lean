/- Statements about layer 4: a digit appended; prefixes. -/
import Derived.Test.YtjhknnioefipmaaLaw4b
namespace Go.Proofs.Ytjhknnioefipmaa
open Go.RowKit
theorem digs_app {b n k : Nat} (hb : 2 ≤ b) (hn : n ≠ 0) (hk : k < b) : digs b (n * b + k) = k :: digs b n := by
  have h0 : n * b + k ≠ 0 := by
    have : 1 * b ≤ n * b := Nat.mul_le_mul_right b (by omega)
    omega
  rw [digs_pos hb h0, Nat.mul_comm n b, Nat.mul_add_mod, Nat.mod_eq_of_lt hk, Nat.mul_add_div (by omega), Nat.div_eq_of_lt hk, Nat.add_zero]
/-- A digit appended to a text. -/
theorem fmt_app {x y : Int} {k : Nat} (hk : k < 10) (h0 : x ≠ 0) (hy : y = x * 10 + (if x < 0 then -(k : Int) else (k : Int))) : fmtL 10 x ++ [48 + k] = fmtL 10 y ∧ (fmtL 10 (y.natAbs : Int)).length = (fmtL 10 (x.natAbs : Int)).length + 1 := by
  have hn : x.natAbs ≠ 0 := by omega
  have hya : y.natAbs = x.natAbs * 10 + k := by subst hy; split <;> omega
  have hys : (y < 0) ↔ (x < 0) := by subst hy; split <;> omega
  have hd : digs1 10 y.natAbs = k :: digs1 10 x.natAbs := by
    unfold digs1
    rw [if_neg hn, if_neg (by omega), hya, digs_app (by omega) hn hk]
  have hs : sym k = 48 + k := by unfold sym; rw [if_pos hk]
  constructor
  · rw [fmtL_eq, fmtL_eq, hd, List.map_cons, List.reverse_cons, hs, List.append_assoc]
    congr 1
    by_cases h : x < 0
    · rw [if_pos h, if_pos (hys.2 h)]
    · rw [if_neg h, if_neg (fun e => h (hys.1 e))]
  · rw [fmt_nat, fmt_nat, hd]; simp
theorem bs_dec {k : Nat} (h : k < 10) : bs ((ByteArray.mk #[48, 49, 50, 51, 52, 53, 54, 55, 56, 57]).extract k (k + 1)) = [48 + k] := by
  rw [bs_extract]
  have hb : bs (ByteArray.mk #[48, 49, 50, 51, 52, 53, 54, 55, 56, 57]) = [48, 49, 50, 51, 52, 53, 54, 55, 56, 57] := by decide
  rw [hb, show k + 1 - k = 1 from by omega]
  match k, h with
  | 0, _ | 1, _ | 2, _ | 3, _ | 4, _ | 5, _ | 6, _ | 7, _ | 8, _ | 9, _ => rfl
/-- How many signs ahead are decimal digits. -/
def lead10 : List Nat → Nat
  | [] => 0
  | c :: T => if dg c < 10 then lead10 T + 1 else 0
/-- The length of the longest part from the beginning that may be an integer, behind the minus sign. -/
def pre10 (T : List Nat) : Nat := if T.head? = some 48 then 1 else lead10 T
theorem lead10_le : ∀ T, lead10 T ≤ T.length
  | [] => Nat.le_refl _
  | c :: T => by
    have := lead10_le T
    unfold lead10
    split <;> simp <;> omega
theorem lead10_dig : ∀ {T : List Nat} {c : Nat}, c ∈ T.take (lead10 T) → dg c < 10
  | [], c, h => by simp [lead10] at h
  | d :: T, c, h => by
    unfold lead10 at h
    split at h
    · rename_i hd
      rw [List.take_succ_cons, List.mem_cons] at h
      rcases h with rfl | h
      · exact hd
      · exact lead10_dig h
    · simp at h
theorem lead10_max : ∀ {T : List Nat} {i : Nat}, i ≤ T.length → (∀ c ∈ T.take i, dg c < 10) → i ≤ lead10 T
  | [], i, hi, _ => by simp at hi; omega
  | d :: T, 0, _, _ => Nat.zero_le _
  | d :: T, i + 1, hi, h => by
    rw [List.take_succ_cons] at h
    have hd := h d (List.mem_cons_self ..)
    have := lead10_max (T := T) (i := i) (by simpa using hi) (fun c hc => h c (List.mem_cons_of_mem _ hc))
    unfold lead10
    rw [if_pos hd]
    omega
theorem good_pre {neg : Bool} {T : List Nat} {i : Nat} (hi : i ≤ T.length) (h : Good 10 neg (T.take i)) : i ≤ pre10 T ∧ Good 10 neg (T.take (pre10 T)) := by
  have hi0 : i ≠ 0 := fun e => h.ne (by rw [e]; rfl)
  have hT : T ≠ [] := fun e => by rw [e] at hi; simp at hi; omega
  have hh : (T.take i).head? = T.head? := by
    cases T with
    | nil => exact absurd rfl hT
    | cons c T => obtain ⟨j, rfl⟩ : ∃ j, i = j + 1 := ⟨i - 1, by omega⟩; rfl
  unfold pre10
  by_cases hz : T.head? = some 48
  · rw [if_pos hz]
    obtain ⟨h1, h2⟩ := h.zero (by rw [hh, hz])
    rw [List.length_take] at h2
    have : i = 1 := by omega
    subst this
    exact ⟨Nat.le_refl _, h⟩
  · rw [if_neg hz]
    have hm := lead10_max hi h.dig
    refine ⟨hm, fun c hc => lead10_dig hc, fun e => ?_, fun e => ?_⟩
    · rw [List.take_eq_nil_iff] at e
      rcases e with e | e
      · omega
      · exact hT e
    · exfalso
      apply hz
      cases T with
      | nil => exact absurd rfl hT
      | cons c T =>
        obtain ⟨j, hj⟩ : ∃ j, lead10 (c :: T) = j + 1 := ⟨lead10 (c :: T) - 1, by omega⟩
        rw [hj] at e
        exact e
theorem pre10_le (T : List Nat) : pre10 T ≤ T.length := by
  unfold pre10
  split
  · rename_i h
    cases T with
    | nil => cases h
    | cons c T => simp
  · exact lead10_le T
end Go.Proofs.Ytjhknnioefipmaa
