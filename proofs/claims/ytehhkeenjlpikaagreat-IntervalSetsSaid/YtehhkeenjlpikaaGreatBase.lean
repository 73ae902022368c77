/- Plain mathematics of numbers, predicates on memory, canonical bits, and the first contracts of package natural. -/
import Derived.Below
import Derived.OneCell
import Derived.Laws.OwnMore
import Derived.Laws.MakeOwn
import Derived.Laws.Rows
import Derived.Laws.CopyRow
import Derived.Deep.Draws
import Derived.Lib.Hide
import Derived.WalkKit
import Derived.Test.YtehhkeenjlpikaaGreatProg
import Derived.Handy
import Derived.BigQuiet
import Derived.Deep.QuietTactic
import Derived.Laws.CopyOwn
import Derived.OwnWalk
namespace Go.Proofs.YtehhkeenjlpikaaGreat
open Go.RowKit
/-- The value of digits, least significant first. -/
def val (B : Nat) : List Nat → Nat
  | [] => 0
  | d :: ds => d + B * val B ds

/-- All digits are less than the base. -/
def Valid (B : Nat) (ds : List Nat) : Prop := ∀ d ∈ ds, d < B

def digsF (B : Nat) : Nat → Nat → List Nat
  | 0, _ => []
  | f + 1, n => if n = 0 then [] else n % B :: digsF B f (n / B)

/-- The digits of a number, least significant first, without leading zeros. -/
def digs (B n : Nat) : List Nat := digsF B n n

/-- Digits without the leading zeros. -/
def trimL (ds : List Nat) : List Nat := (ds.reverse.dropWhile (· == 0)).reverse

theorem val_nil (B : Nat) : val B [] = 0 := rfl
theorem val_cons (B d : Nat) (ds : List Nat) : val B (d :: ds) = d + B * val B ds := rfl

theorem digsF_fuel {B : Nat} (hB : 2 ≤ B) : ∀ (f g n : Nat), n ≤ f → n ≤ g → digsF B f n = digsF B g n := by
  intro f
  induction f with
  | zero => intro g n h1 h2; obtain rfl : n = 0 := by omega
            cases g <;> simp [digsF]
  | succ f ih =>
    intro g n h1 h2
    cases g with
    | zero => obtain rfl : n = 0 := by omega
              simp [digsF]
    | succ g =>
      simp only [digsF]
      split
      · rfl
      · have : n / B < n := Nat.div_lt_self (by omega) (by omega)
        rw [ih g (n / B) (by omega) (by omega)]

theorem digs_zero (B : Nat) : digs B 0 = [] := rfl
theorem digs_pos {B n : Nat} (hB : 2 ≤ B) (hn : n ≠ 0) : digs B n = n % B :: digs B (n / B) := by
  unfold digs
  obtain ⟨m, rfl⟩ : ∃ m, n = m + 1 := ⟨n - 1, by omega⟩
  have : (m + 1) / B < m + 1 := Nat.div_lt_self (by omega) (by omega)
  rw [digsF, if_neg hn, digsF_fuel hB m ((m + 1) / B) _ (by omega) (by omega)]

theorem val_digs {B : Nat} (hB : 2 ≤ B) (n : Nat) : val B (digs B n) = n := by
  induction n using Nat.strongRecOn with
  | ind n ih =>
    by_cases h : n = 0
    · subst h; rfl
    · rw [digs_pos hB h, val_cons, ih _ (Nat.div_lt_self (by omega) (by omega))]
      exact Nat.mod_add_div n B

theorem valid_nil (B : Nat) : Valid B [] := by intro d h; simp at h
theorem valid_cons {B d : Nat} {ds : List Nat} : Valid B (d :: ds) ↔ d < B ∧ Valid B ds := by simp [Valid]
theorem valid_append {B : Nat} {asx bs : List Nat} : Valid B (asx ++ bs) ↔ Valid B asx ∧ Valid B bs := by
  simp only [Valid, List.mem_append]
  exact ⟨fun h => ⟨fun d hd => h d (.inl hd), fun d hd => h d (.inr hd)⟩, fun h d hd => hd.elim (h.1 d) (h.2 d)⟩

theorem valid_digs {B : Nat} (hB : 2 ≤ B) (n : Nat) : Valid B (digs B n) := by
  induction n using Nat.strongRecOn with
  | ind n ih =>
    by_cases h : n = 0
    · subst h; exact valid_nil B
    · rw [digs_pos hB h, valid_cons]
      exact ⟨Nat.mod_lt _ (by omega), ih _ (Nat.div_lt_self (by omega) (by omega))⟩

theorem val_append (B : Nat) (asx bs : List Nat) : val B (asx ++ bs) = val B asx + B ^ asx.length * val B bs := by
  induction asx with
  | nil => simp [val]
  | cons a asx ih => simp only [List.cons_append, val_cons, ih, List.length_cons, Nat.pow_succ, Nat.mul_add]; rw [Nat.mul_comm (B ^ asx.length) B, Nat.mul_assoc]; omega

theorem val_lt {B : Nat} {ds : List Nat} (h : Valid B ds) : val B ds < B ^ ds.length := by
  induction ds with
  | nil => simp [val]
  | cons d ds ih =>
    rw [valid_cons] at h
    have := ih h.2
    rw [val_cons, List.length_cons, Nat.pow_succ, Nat.mul_comm (B ^ ds.length) B]
    have : B * (val B ds + 1) ≤ B * B ^ ds.length := Nat.mul_le_mul_left _ this
    rw [Nat.mul_add] at this
    omega

/-- Digits that do not end in a zero are the digits of their value. -/
theorem digs_of_val {B : Nat} (hB : 2 ≤ B) {ds : List Nat} (hv : Valid B ds) (hl : ds.getLast? ≠ some 0) : digs B (val B ds) = ds := by
  induction ds with
  | nil => rfl
  | cons d ds ih =>
    rw [valid_cons] at hv
    have hl' : ds.getLast? ≠ some 0 := by
      cases ds with
      | nil => simp
      | cons e es => simpa [List.getLast?_cons_cons] using hl
    have hne : val B (d :: ds) ≠ 0 := by
      rw [val_cons]
      intro h0
      have hd : d = 0 := by omega
      have hp : B * val B ds = 0 := by omega
      have hz : val B ds = 0 := by
        rcases Nat.mul_eq_zero.1 hp with h | h
        · omega
        · exact h
      have := ih hv.2 hl'
      rw [hz, digs_zero] at this
      subst this
      subst hd
      simp at hl
    rw [digs_pos hB hne, val_cons, Nat.add_mul_mod_self_left, Nat.mod_eq_of_lt hv.1, Nat.add_mul_div_left _ _ (by omega), Nat.div_eq_of_lt hv.1, Nat.zero_add, ih hv.2 hl']

theorem getLast_digs {B : Nat} (hB : 2 ≤ B) (n : Nat) : (digs B n).getLast? ≠ some 0 := by
  induction n using Nat.strongRecOn with
  | ind n ih =>
    by_cases h : n = 0
    · subst h; simp [digs_zero]
    · rw [digs_pos hB h]
      by_cases hq : n / B = 0
      · rw [hq, digs_zero]
        have : n % B = n := Nat.mod_eq_of_lt (by rcases Nat.lt_or_ge n B with h1 | h1
                                                 · exact h1
                                                 · have := Nat.div_pos h1 (by omega); omega)
        simp [this, h]
      · have := ih _ (Nat.div_lt_self (by omega : 0 < n) (by omega : 1 < B))
        rw [digs_pos hB hq] at this ⊢
        simpa [List.getLast?_cons_cons] using this

theorem trimL_nil : trimL [] = [] := rfl
theorem trimL_snoc_zero (ds : List Nat) : trimL (ds ++ [0]) = trimL ds := by simp [trimL]
theorem trimL_snoc {ds : List Nat} {d : Nat} (h : d ≠ 0) : trimL (ds ++ [d]) = ds ++ [d] := by simp [trimL, h]
theorem trimL_val (B : Nat) (ds : List Nat) : val B (trimL ds) = val B ds := by
  induction h : ds.length generalizing ds with
  | zero => rw [List.eq_nil_of_length_eq_zero h]; rfl
  | succ n ih =>
    obtain ⟨es, e, rfl⟩ : ∃ es e, ds = es ++ [e] := by
      refine ⟨ds.dropLast, ds.getLast (by intro h0; simp [h0] at h), (List.dropLast_concat_getLast _).symm⟩
    by_cases he : e = 0
    · subst he
      rw [trimL_snoc_zero, ih es (by simpa using h), val_append]; simp [val]
    · rw [trimL_snoc he]
theorem trimL_last (ds : List Nat) : (trimL ds).getLast? ≠ some 0 := by
  induction h : ds.length generalizing ds with
  | zero => rw [List.eq_nil_of_length_eq_zero h]; simp [trimL_nil]
  | succ n ih =>
    obtain ⟨es, e, rfl⟩ : ∃ es e, ds = es ++ [e] := by
      refine ⟨ds.dropLast, ds.getLast (by intro h0; simp [h0] at h), (List.dropLast_concat_getLast _).symm⟩
    by_cases he : e = 0
    · subst he
      rw [trimL_snoc_zero]; exact ih es (by simpa using h)
    · rw [trimL_snoc he]; simpa using he
theorem trimL_take (ds : List Nat) : ds.take (trimL ds).length = trimL ds := by
  induction h : ds.length generalizing ds with
  | zero => rw [List.eq_nil_of_length_eq_zero h]; rfl
  | succ n ih =>
    obtain ⟨es, e, rfl⟩ : ∃ es e, ds = es ++ [e] := by
      refine ⟨ds.dropLast, ds.getLast (by intro h0; simp [h0] at h), (List.dropLast_concat_getLast _).symm⟩
    by_cases he : e = 0
    · subst he
      have hle : (trimL es).length ≤ es.length := by
        have := ih es (by simpa using h)
        rw [← this]; simp [List.length_take]; omega
      rw [trimL_snoc_zero, List.take_append_of_le_length hle]
      exact ih es (by simpa using h)
    · rw [trimL_snoc he]; exact List.take_of_length_le (Nat.le_refl _)
theorem trimL_le (ds : List Nat) : (trimL ds).length ≤ ds.length := by
  rw [← trimL_take ds]; simp [List.length_take]; omega
theorem trimL_valid {B : Nat} {ds : List Nat} (h : Valid B ds) : Valid B (trimL ds) := by
  rw [← trimL_take ds]; intro d hd; exact h d (List.mem_of_mem_take hd)
theorem trimL_digs {B : Nat} (hB : 2 ≤ B) {ds : List Nat} (h : Valid B ds) : trimL ds = digs B (val B ds) := by
  rw [← trimL_val, digs_of_val hB (trimL_valid h) (trimL_last ds)]
theorem digs_len_le {B n k : Nat} (hB : 2 ≤ B) (h : n < B ^ k) : (digs B n).length ≤ k := by
  induction k generalizing n with
  | zero =>
    have : n = 0 := by simpa using h
    subst this; simp [digs_zero]
  | succ k ih =>
    by_cases h0 : n = 0
    · subst h0; simp [digs_zero]
    · rw [digs_pos hB h0, List.length_cons]
      have : n / B < B ^ k := Nat.div_lt_of_lt_mul (by rw [Nat.mul_comm]; rw [Nat.pow_succ] at h; exact h)
      have := ih this
      omega
theorem lt_pow_len {B : Nat} (hB : 2 ≤ B) (n : Nat) : n < B ^ (digs B n).length := by
  have := val_lt (valid_digs hB n)
  rwa [val_digs hB n] at this
theorem digs_len_mono {B a b : Nat} (hB : 2 ≤ B) (h : a ≤ b) : (digs B a).length ≤ (digs B b).length :=
  digs_len_le hB (Nat.lt_of_le_of_lt h (lt_pow_len hB b))
theorem lt_of_digs_len {B a b : Nat} (hB : 2 ≤ B) (h : (digs B a).length < (digs B b).length) : a < b := by
  rcases Nat.lt_or_ge a b with h1 | h1
  · exact h1
  · have := digs_len_mono hB h1; omega
theorem pow_le_of_len {B n : Nat} (hB : 2 ≤ B) {k : Nat} (h : k < (digs B n).length) : B ^ k ≤ n := by
  rcases Nat.lt_or_ge n (B ^ k) with h1 | h1
  · have := digs_len_le hB h1; omega
  · exact h1
theorem digs_len_add {B : Nat} (hB : 2 ≤ B) (a b : Nat) : (digs B (a + b)).length ≤ max (digs B a).length (digs B b).length + 1 := by
  apply digs_len_le hB
  have h1 := lt_pow_len hB a
  have h2 := lt_pow_len hB b
  have h3 : B ^ (digs B a).length ≤ B ^ max (digs B a).length (digs B b).length := Nat.pow_le_pow_right (by omega) (Nat.le_max_left _ _)
  have h4 : B ^ (digs B b).length ≤ B ^ max (digs B a).length (digs B b).length := Nat.pow_le_pow_right (by omega) (Nat.le_max_right _ _)
  rw [Nat.pow_succ]
  have : 2 * B ^ max (digs B a).length (digs B b).length ≤ B ^ max (digs B a).length (digs B b).length * B := by rw [Nat.mul_comm]; exact Nat.mul_le_mul_left _ hB
  omega
theorem digs_len_mul {B : Nat} (hB : 2 ≤ B) (a b : Nat) : (digs B (a * b)).length ≤ (digs B a).length + (digs B b).length := by
  apply digs_len_le hB
  rw [Nat.pow_add]
  have h1 := lt_pow_len hB a
  have h2 := lt_pow_len hB b
  exact Nat.mul_lt_mul_of_lt_of_le h1 (Nat.le_of_lt h2) (Nat.pow_pos (by omega))
theorem digs_eq_nil {B n : Nat} (hB : 2 ≤ B) : digs B n = [] ↔ n = 0 := by
  constructor
  · intro h
    have := val_digs hB n
    rw [h] at this
    exact this.symm
  · rintro rfl; rfl
theorem digs_inj {B a b : Nat} (hB : 2 ≤ B) (h : digs B a = digs B b) : a = b := by
  rw [← val_digs hB a, h, val_digs hB]
theorem val_snoc (B : Nat) (ds : List Nat) (d : Nat) : val B (ds ++ [d]) = val B ds + B ^ ds.length * d := by
  rw [val_append]; simp [val]
theorem val_take_succ (B : Nat) (ds : List Nat) (i : Nat) (h : i < ds.length) : val B (ds.take (i + 1)) = val B (ds.take i) + B ^ i * ds[i] := by
  rw [List.take_succ_eq_append_getElem h, val_snoc, List.length_take, Nat.min_eq_left (by omega)]
theorem val_split (B : Nat) (ds : List Nat) (i : Nat) : val B ds = val B (ds.take i) + B ^ i * val B (ds.drop i) := by
  rcases Nat.lt_or_ge ds.length i with h | h
  · rw [List.take_of_length_le (by omega), List.drop_of_length_le (by omega)]; simp [val]
  · conv => lhs; rw [← List.take_append_drop i ds, val_append, List.length_take, Nat.min_eq_left h]
theorem val_drop (B : Nat) (ds : List Nat) (i : Nat) (h : i < ds.length) : val B (ds.drop i) = ds[i] + B * val B (ds.drop (i + 1)) := by
  rw [List.drop_eq_getElem_cons h, val_cons]
theorem val_replicate (B n : Nat) : val B (List.replicate n 0) = 0 := by
  induction n with
  | zero => rfl
  | succ n ih => rw [List.replicate_succ, val_cons, ih]; simp
theorem valid_take {B : Nat} {ds : List Nat} (h : Valid B ds) (n : Nat) : Valid B (ds.take n) := fun d hd => h d (List.mem_of_mem_take hd)
theorem valid_drop {B : Nat} {ds : List Nat} (h : Valid B ds) (n : Nat) : Valid B (ds.drop n) := fun d hd => h d (List.mem_of_mem_drop hd)
theorem valid_get {B : Nat} {ds : List Nat} (h : Valid B ds) (i : Nat) (hi : i < ds.length) : ds[i] < B := h _ (List.getElem_mem hi)
theorem valid_set {B : Nat} {ds : List Nat} (h : Valid B ds) (i v : Nat) (hv : v < B) : Valid B (ds.set i v) := by
  intro d hd
  rcases List.mem_or_eq_of_mem_set hd with h1 | h1
  · exact h d h1
  · omega
theorem valid_replicate {B : Nat} (hB : 0 < B) (n : Nat) : Valid B (List.replicate n 0) := by
  intro d hd
  rw [(List.mem_replicate.1 hd).2]; exact hB
/-- Digits compared from the highest one. -/
theorem val_lt_of_digit {B : Nat} {asx bs : List Nat} (ha : Valid B asx) (i : Nat) (h1 : i < asx.length) (h2 : i < bs.length)
    (hd : asx[i] < bs[i]) (he : asx.drop (i + 1) = bs.drop (i + 1)) : val B asx < val B bs := by
  rw [val_split B asx i, val_split B bs i, val_drop B asx i h1, val_drop B bs i h2, he]
  have h3 : val B (asx.take i) < B ^ i := by
    have := val_lt (valid_take ha i)
    rwa [List.length_take, Nat.min_eq_left (by omega)] at this
  have h4 : B ^ i * (asx[i] + B * val B (bs.drop (i + 1)) + 1) ≤ B ^ i * (bs[i] + B * val B (bs.drop (i + 1))) := Nat.mul_le_mul_left _ (by omega)
  rw [Nat.mul_add _ _ 1] at h4
  omega
/-- The order of two numbers: -1, 0, 1. -/
def cmpN (a b : Nat) : Int := if a < b then -1 else if b < a then 1 else 0
theorem cmpN_lt {a b : Nat} (h : a < b) : cmpN a b = -1 := if_pos h
theorem cmpN_gt {a b : Nat} (h : b < a) : cmpN a b = 1 := by unfold cmpN; rw [if_neg (by omega), if_pos h]
theorem cmpN_eq (a : Nat) : cmpN a a = 0 := by unfold cmpN; rw [if_neg (by omega), if_neg (by omega)]
/-- Bit i of a number. -/
def bitN (n i : Nat) : Nat := n / 2 ^ i % 2
theorem bitN_lt (n i : Nat) : bitN n i < 2 := Nat.mod_lt _ (by omega)
def bitsUpto (n k : Nat) : List Nat := (List.range k).map (bitN n)
theorem bitsUpto_succ (n k : Nat) : bitsUpto n (k + 1) = bitsUpto n k ++ [bitN n k] := by simp [bitsUpto, List.range_succ]
theorem bitsUpto_length (n k : Nat) : (bitsUpto n k).length = k := by simp [bitsUpto]
theorem bitsUpto_valid (n k : Nat) : Valid 2 (bitsUpto n k) := by
  intro d hd
  simp only [bitsUpto, List.mem_map] at hd
  obtain ⟨i, _, rfl⟩ := hd
  exact bitN_lt n i
theorem bitsUpto_val (n k : Nat) : val 2 (bitsUpto n k) = n % 2 ^ k := by
  induction k with
  | zero => simp [bitsUpto, val, Nat.mod_one]
  | succ k ih => rw [bitsUpto_succ, val_snoc, ih, bitsUpto_length, Nat.mod_pow_succ, bitN]
theorem digs_bits (n : Nat) : digs 2 n = bitsUpto n (digs 2 n).length := by
  have h1 : val 2 (bitsUpto n (digs 2 n).length) = n := by
    rw [bitsUpto_val]; exact Nat.mod_eq_of_lt (lt_pow_len (by omega) n)
  have h2 : trimL (bitsUpto n (digs 2 n).length) = digs 2 n := by
    rw [trimL_digs (by omega) (bitsUpto_valid n _), h1]
  have h3 := trimL_take (bitsUpto n (digs 2 n).length)
  rw [h2, List.take_of_length_le (by rw [bitsUpto_length]; exact Nat.le_refl _)] at h3
  exact h3.symm
theorem digs_get {n i : Nat} (h : i < (digs 2 n).length) : (digs 2 n)[i] = bitN n i := by
  have h1 := digs_bits n
  have h2 : (digs 2 n)[i]? = (bitsUpto n (digs 2 n).length)[i]? := by rw [← h1]
  rw [List.getElem?_eq_getElem h] at h2
  simp [bitsUpto, h] at h2
  exact h2
theorem bitN_zero_of_len {n i : Nat} (h : (digs 2 n).length ≤ i) : bitN n i = 0 := by
  have h1 := lt_pow_len (B := 2) (by omega) n
  have h2 : 2 ^ (digs 2 n).length ≤ 2 ^ i := Nat.pow_le_pow_right (by omega) h
  unfold bitN
  rw [Nat.div_eq_of_lt (by omega)]
/-- A bit out of the digit that holds it. -/
theorem bitN_digit {ds : List Nat} (hv : Valid 4294967296 ds) (k : Nat) (h : k / 32 < ds.length) : bitN (val 4294967296 ds) k = ds[k / 32] / 2 ^ (k % 32) % 2 := by
  have hp : 4294967296 ^ (k / 32) = 2 ^ (32 * (k / 32)) := by rw [Nat.pow_mul]
  have hk : k = 32 * (k / 32) + k % 32 := (Nat.div_add_mod k 32).symm
  have hl : val 4294967296 (ds.take (k / 32)) < 2 ^ (32 * (k / 32)) := by
    have := val_lt (valid_take hv (k / 32))
    rwa [List.length_take, Nat.min_eq_left (by omega), hp] at this
  unfold bitN
  rw [val_split _ ds (k / 32), val_drop _ ds (k / 32) h, hp]
  have hk2 : 2 ^ k = 2 ^ (32 * (k / 32)) * 2 ^ (k % 32) := by rw [← Nat.pow_add, ← hk]
  rw [hk2]
  clear hk hk2
  have hr : k % 32 < 32 := Nat.mod_lt _ (by omega)
  generalize val 4294967296 (ds.drop (k / 32 + 1)) = R
  generalize ds[k / 32] = d
  generalize val 4294967296 (ds.take (k / 32)) = L at *
  generalize 2 ^ (32 * (k / 32)) = P at *
  rw [← Nat.div_div_eq_div_mul, Nat.add_mul_div_left _ _ (by omega), Nat.div_eq_of_lt hl, Nat.zero_add]
  generalize k % 32 = r at *
  have hB : (4294967296 : Nat) = 2 ^ r * (2 * 2 ^ (31 - r)) := by
    rw [← Nat.pow_succ', ← Nat.pow_add, show r + (31 - r).succ = 32 from by omega]
  rw [hB, Nat.mul_assoc, Nat.add_mul_div_left _ _ (Nat.two_pow_pos r), Nat.mul_assoc]
  omega
theorem take_set_lt {zs : List Nat} {k v : Nat} (h : k < zs.length) : (zs.set k v).take (k + 1) = zs.take k ++ [v] := by
  rw [List.take_succ_eq_append_getElem (by simpa using h), List.take_set_of_le (Nat.le_refl _)]; simp
theorem val_set (B : Nat) {zs : List Nat} {k v : Nat} (h : k < zs.length) : val B ((zs.set k v).take (k + 1)) = val B (zs.take k) + B ^ k * v := by
  rw [take_set_lt h, val_snoc, List.length_take, Nat.min_eq_left (by omega)]

/-- One digit: sum and carry. -/
theorem carry_step {B P X Y Z c x y : Nat} (h : Z + P * c = X + Y) : Z + P * ((x + y + c) % B) + P * B * ((x + y + c) / B) = X + P * x + (Y + P * y) := by
  have h1 : P * ((x + y + c) % B) + P * B * ((x + y + c) / B) = P * (x + y + c) := by
    rw [Nat.mul_assoc, ← Nat.mul_add, Nat.mod_add_div]
  rw [Nat.add_assoc, h1, Nat.mul_add, Nat.mul_add]
  omega

/-- One digit: difference and borrow. -/
theorem borrow_step {B P X Y Z c x y d b : Nat} (h : Z + Y = X + P * c) (hd : d + y + c = x + B * b) : Z + P * d + (Y + P * y) = X + P * x + P * B * b := by
  have h1 : P * (d + y + c) = P * (x + B * b) := by rw [hd]
  rw [Nat.mul_add, Nat.mul_add, Nat.mul_add] at h1
  rw [Nat.mul_assoc]
  omega

/-- Digits shifted right by s bits. -/
def shrD (s : Nat) : List Nat → List Nat
  | [] => []
  | d :: ds => (d + 4294967296 * ds.headD 0) / 2 ^ s % 4294967296 :: shrD s ds
theorem shrD_length (s : Nat) (ds : List Nat) : (shrD s ds).length = ds.length := by
  induction ds with
  | nil => rfl
  | cons d ds ih => simp [shrD, ih]
theorem shrD_get (s : Nat) (ds : List Nat) (i : Nat) (h : i < (shrD s ds).length) : (shrD s ds)[i] = ((ds[i]'(by rwa [shrD_length] at h)) + 4294967296 * (ds[i + 1]?.getD 0)) / 2 ^ s % 4294967296 := by
  induction ds generalizing i with
  | nil => simp [shrD] at h
  | cons d ds ih =>
    cases i with
    | zero =>
      cases ds <;> simp [shrD]
    | succ i =>
      simp only [shrD, List.getElem_cons_succ, List.getElem?_cons_succ]
      exact ih i (by simpa [shrD] using h)
theorem shrD_valid (s : Nat) (ds : List Nat) : Valid 4294967296 (shrD s ds) := by
  induction ds with
  | nil => exact valid_nil _
  | cons d ds ih => rw [shrD, valid_cons]; exact ⟨Nat.mod_lt _ (by omega), ih⟩
theorem head_mod {ds : List Nat} (hv : Valid 4294967296 ds) : val 4294967296 ds % 4294967296 = ds.headD 0 := by
  cases ds with
  | nil => rfl
  | cons d ds =>
    rw [valid_cons] at hv
    rw [val_cons, Nat.add_mul_mod_self_left, Nat.mod_eq_of_lt hv.1]; rfl
theorem shrD_val {s : Nat} (hs : s < 32) {ds : List Nat} (hv : Valid 4294967296 ds) : val 4294967296 (shrD s ds) = val 4294967296 ds / 2 ^ s := by
  induction ds with
  | nil => simp [shrD, val]
  | cons d ds ih =>
    have hv' := hv
    rw [valid_cons] at hv
    rw [shrD, val_cons, ih hv.2, val_cons, ← head_mod hv.2]
    have hB : (4294967296 : Nat) = 2 ^ s * 2 ^ (32 - s) := by rw [← Nat.pow_add, show s + (32 - s) = 32 from by omega]
    have hp : 0 < 2 ^ s := Nat.two_pow_pos s
    generalize val 4294967296 ds = v at *
    have hd := hv.1
    -- v = q * 2^s + r
    have hv1 : v = 2 ^ s * (v / 2 ^ s) + v % 2 ^ s := (Nat.div_add_mod v (2 ^ s)).symm
    have hr : v % 2 ^ s < 2 ^ s := Nat.mod_lt _ hp
    have e1 : v % 4294967296 % 2 ^ s = v % 2 ^ s := by
      rw [hB, Nat.mod_mul_right_mod]
    have hm1 : v % 4294967296 = 2 ^ s * (v % 4294967296 / 2 ^ s) + v % 2 ^ s := by
      conv => lhs; rw [← Nat.div_add_mod (v % 4294967296) (2 ^ s), e1]
    generalize hq : v / 2 ^ s = q at *
    generalize hr' : v % 2 ^ s = r at *
    generalize hq2 : v % 4294967296 / 2 ^ s = q2 at *
    have hlt : (d + 4294967296 * r) / 2 ^ s < 4294967296 := by
      apply Nat.div_lt_of_lt_mul
      have : 4294967296 * (r + 1) ≤ 4294967296 * 2 ^ s := Nat.mul_le_mul_left _ hr
      rw [Nat.mul_comm (2 ^ s)]
      omega
    have e2 : (d + 4294967296 * (v % 4294967296)) / 2 ^ s = (d + 4294967296 * r) / 2 ^ s + 4294967296 * q2 := by
      have h3 : d + 4294967296 * (v % 4294967296) = d + 4294967296 * r + 2 ^ s * (4294967296 * q2) := by
        rw [hm1, Nat.mul_add, ← Nat.mul_assoc 4294967296 (2 ^ s), Nat.mul_comm 4294967296 (2 ^ s), Nat.mul_assoc]; omega
      rw [h3, Nat.add_mul_div_left _ _ hp]
    have e3 : (d + 4294967296 * v) / 2 ^ s = (d + 4294967296 * r) / 2 ^ s + 4294967296 * q := by
      have h3 : d + 4294967296 * v = d + 4294967296 * r + 2 ^ s * (4294967296 * q) := by
        rw [hv1, Nat.mul_add, ← Nat.mul_assoc 4294967296 (2 ^ s), Nat.mul_comm 4294967296 (2 ^ s), Nat.mul_assoc]; omega
      rw [h3, Nat.add_mul_div_left _ _ hp]
    rw [e2, e3, Nat.add_mul_mod_self_left, Nat.mod_eq_of_lt hlt]
theorem val_drop_div {B : Nat} (hB : 2 ≤ B) {ds : List Nat} (hv : Valid B ds) (w : Nat) : val B (ds.drop w) = val B ds / B ^ w := by
  rcases Nat.lt_or_ge ds.length w with h | h
  · have h1 := val_lt hv
    have h2 : B ^ ds.length ≤ B ^ w := Nat.pow_le_pow_right (by omega) (by omega)
    rw [List.drop_of_length_le (by omega), Nat.div_eq_of_lt (by omega)]; rfl
  · have h1 := val_lt (valid_take hv w)
    rw [List.length_take, Nat.min_eq_left h] at h1
    rw [val_split B ds w, Nat.add_mul_div_left _ _ (Nat.pow_pos (by omega)), Nat.div_eq_of_lt h1, Nat.zero_add]
/-- A digit shifted left: its two parts, the lower one free below bit s. -/
theorem shl_digit {x s old : Nat} (hs : s < 32) (hx : x < 4294967296) (ho : old < 2 ^ s) :
    old ||| x * 2 ^ s % 4294967296 = old + x * 2 ^ s % 4294967296 ∧ old + x * 2 ^ s % 4294967296 < 4294967296 ∧ x * 2 ^ s / 4294967296 < 2 ^ s ∧ x * 2 ^ s < 18446744073709551616 := by
  have hB : (4294967296 : Nat) = 2 ^ s * 2 ^ (32 - s) := by rw [← Nat.pow_add, show s + (32 - s) = 32 from by omega]
  have hp : 0 < 2 ^ s := Nat.two_pow_pos s
  have e1 : x * 2 ^ s % 4294967296 = 2 ^ s * (x % 2 ^ (32 - s)) := by
    rw [hB, Nat.mul_comm x, Nat.mul_mod_mul_left]
  have h2 : x % 2 ^ (32 - s) < 2 ^ (32 - s) := Nat.mod_lt _ (Nat.two_pow_pos _)
  have h3 : 2 ^ s * (x % 2 ^ (32 - s) + 1) ≤ 2 ^ s * 2 ^ (32 - s) := Nat.mul_le_mul_left _ h2
  have h4 : x * 2 ^ s < 4294967296 * 2 ^ s := Nat.mul_lt_mul_of_pos_right hx hp
  have h5 : 2 ^ s ≤ 2 ^ 31 := Nat.pow_le_pow_right (by omega) (by omega)
  refine ⟨?_, ?_, Nat.div_lt_of_lt_mul h4, ?_⟩
  · rw [e1, Nat.or_comm, ← Nat.two_pow_add_eq_or_of_lt ho, Nat.add_comm]
  · rw [e1, hB]
    rw [Nat.mul_add] at h3
    omega
  · have : 4294967296 * 2 ^ s ≤ 4294967296 * 2 ^ 31 := Nat.mul_le_mul_left _ h5
    omega
theorem shl_math {B P X Z x t old low hi : Nat} (h : Z + P * old = X) (hx : low + B * hi = x * t) : Z + P * (old + low) + P * B * hi = X + P * (x * t) := by
  rw [← hx, Nat.mul_add, Nat.mul_add, Nat.mul_assoc]
  omega
theorem set_add (B : Nat) {zs : List Nat} {q e : Nat} (h : q < zs.length) : val B (zs.set q (zs[q] + e)) = val B zs + B ^ q * e := by
  have h1 := val_split B (zs.set q (zs[q] + e)) (q + 1)
  have h2 := val_split B zs (q + 1)
  rw [val_set B h, List.drop_set_of_lt (by omega), Nat.mul_add] at h1
  rw [val_take_succ B zs q h] at h2
  omega
theorem digit_le (B : Nat) {zs : List Nat} {q : Nat} (h : q < zs.length) : B ^ q * zs[q] ≤ val B zs := by
  have h2 := val_split B zs (q + 1)
  rw [val_take_succ B zs q h] at h2
  omega
/-- A bit laid into the digit that holds it, base 2^K. -/
theorem lay_bit {K n i : Nat} {zs : List Nat} (hK : 0 < K) (hq : i / K < zs.length) (he : val (2 ^ K) zs = n % 2 ^ i) :
    zs[i / K] + bitN n i * 2 ^ (i % K) < 2 ^ K ∧ val (2 ^ K) (zs.set (i / K) (zs[i / K] + bitN n i * 2 ^ (i % K))) = n % 2 ^ (i + 1) := by
  have hB : (2 ^ K) ^ (i / K) = 2 ^ (K * (i / K)) := by rw [Nat.pow_mul]
  have hi : 2 ^ i = 2 ^ (K * (i / K)) * 2 ^ (i % K) := by rw [← Nat.pow_add, Nat.div_add_mod]
  have hlt : n % 2 ^ i < 2 ^ i := Nat.mod_lt _ (Nat.two_pow_pos _)
  have hz : zs[i / K] < 2 ^ (i % K) := by
    have h3 := digit_le (2 ^ K) hq
    rw [hB, he] at h3
    have h4 : 2 ^ (K * (i / K)) * zs[i / K] < 2 ^ (K * (i / K)) * 2 ^ (i % K) := by rw [← hi]; omega
    exact Nat.lt_of_mul_lt_mul_left h4
  have hb := bitN_lt n i
  constructor
  · have hr : i % K < K := Nat.mod_lt _ hK
    have h4 : 2 * 2 ^ (i % K) ≤ 2 ^ K := by rw [← Nat.pow_succ']; exact Nat.pow_le_pow_right (by omega) hr
    have h5 : bitN n i * 2 ^ (i % K) ≤ 1 * 2 ^ (i % K) := Nat.mul_le_mul_right _ (by omega)
    omega
  · have e3 : n % 2 ^ (i + 1) = n % 2 ^ i + 2 ^ i * bitN n i := Nat.mod_pow_succ
    have e4 : 2 ^ i * bitN n i = 2 ^ (K * (i / K)) * (bitN n i * 2 ^ (i % K)) := by rw [hi, Nat.mul_assoc, Nat.mul_comm (bitN n i)]
    rw [set_add _ hq, he, e3, e4, hB]
/-- A bit out of the digit that holds it, base 2^K. -/
theorem bitN_digitK {K : Nat} (hK : 0 < K) {ds : List Nat} (hv : Valid (2 ^ K) ds) (k : Nat) (h : k / K < ds.length) : bitN (val (2 ^ K) ds) k = ds[k / K] / 2 ^ (k % K) % 2 := by
  have hp : (2 ^ K) ^ (k / K) = 2 ^ (K * (k / K)) := by rw [Nat.pow_mul]
  have hk : k = K * (k / K) + k % K := (Nat.div_add_mod k K).symm
  have hl : val (2 ^ K) (ds.take (k / K)) < 2 ^ (K * (k / K)) := by
    have := val_lt (valid_take hv (k / K))
    rwa [List.length_take, Nat.min_eq_left (by omega), hp] at this
  unfold bitN
  rw [val_split _ ds (k / K), val_drop _ ds (k / K) h, hp]
  have hk2 : 2 ^ k = 2 ^ (K * (k / K)) * 2 ^ (k % K) := by rw [← Nat.pow_add, ← hk]
  rw [hk2]
  clear hk hk2
  have hr : k % K < K := Nat.mod_lt _ hK
  generalize val (2 ^ K) (ds.drop (k / K + 1)) = R
  generalize ds[k / K] = d
  generalize val (2 ^ K) (ds.take (k / K)) = L at *
  generalize 2 ^ (K * (k / K)) = P at *
  rw [← Nat.div_div_eq_div_mul, Nat.add_mul_div_left _ _ (by omega), Nat.div_eq_of_lt hl, Nat.zero_add]
  generalize k % K = r at *
  have hB : (2 ^ K : Nat) = 2 ^ r * (2 * 2 ^ (K - 1 - r)) := by
    rw [← Nat.pow_succ', ← Nat.pow_add, show r + (K - 1 - r).succ = K from by omega]
  rw [hB, Nat.mul_assoc, Nat.add_mul_div_left _ _ (Nat.two_pow_pos r), Nat.mul_assoc]
  omega
theorem sb_math {B P X Z S Y c x y old s c' : Nat} (h : S + P * X * c = Z + P * (x * Y)) (hs : s + B * c' = x * y + old + c) :
    S + P * X * s + P * (X * B) * c' = Z + P * X * old + P * (x * (Y + X * y)) := by
  have h1 : P * X * (s + B * c') = P * X * (x * y + old + c) := by rw [hs]
  rw [Nat.mul_add, Nat.mul_add, Nat.mul_add] at h1
  have e1 : P * (X * B) * c' = P * X * (B * c') := by rw [← Nat.mul_assoc P X B, Nat.mul_assoc (P * X) B c']
  have e2 : P * (x * (Y + X * y)) = P * (x * Y) + P * X * (x * y) := by
    rw [Nat.mul_add, Nat.mul_add, Nat.mul_assoc P X, ← Nat.mul_assoc x X y, Nat.mul_comm x X, Nat.mul_assoc X x y]
  rw [e1, e2]
  omega
/-- The numbers as values of a kind. -/
def nums (k : IntKind) (ds : List Nat) : List Value := ds.map fun d : Nat => Value.int k (d : Int)
theorem nums_length (k : IntKind) (ds : List Nat) : (nums k ds).length = ds.length := by simp [nums]
theorem nums_append (k : IntKind) (asx bs : List Nat) : nums k (asx ++ bs) = nums k asx ++ nums k bs := by simp [nums]
theorem nums_get (k : IntKind) (ds : List Nat) (i : Nat) : (nums k ds)[i]? = (ds[i]?).map (fun d : Nat => Value.int k (d : Int)) := by simp [nums]
theorem nums_one (k : IntKind) (ds : List Nat) : ∀ u ∈ nums k ds, u.oneCell' = true := by
  intro u hu
  simp only [nums, List.mem_map] at hu
  obtain ⟨d, _, rfl⟩ := hu
  rfl

/-- A slice at A, of as many elements as ds, reads as ds. -/
def Rd (w : World) (k : IntKind) (A : Option Addr) (ds : List Nat) : Prop :=
  ∀ j (h : j < ds.length), ∃ b off, A = some ⟨b, off, none⟩ ∧ b < w.heap.size ∧ w.cell? ⟨b, off + j, none⟩ = some (.int k (ds[j] : Nat))

section
variable {w w' : World} {k : IntKind} {A : Option Addr} {ds : List Nat}
theorem Rd.nil (w : World) (k : IntKind) (A : Option Addr) : Rd w k A [] := fun j h => absurd h (by simp)
theorem Rd.below (h : Rd w k A ds) (hb : Below w.heap.size w w') : Rd w' k A ds := by
  intro j hj
  obtain ⟨b, off, hA, hlt, hc⟩ := h j hj
  exact ⟨b, off, hA, Nat.lt_of_lt_of_le hlt hb.size, (hb.cell (p := ⟨b, off + j, none⟩) hlt).trans hc⟩
theorem Rd.take (h : Rd w k A ds) (n : Nat) : Rd w k A (ds.take n) := by
  intro j hj
  have hj' : j < ds.length := by simp at hj; omega
  obtain ⟨b, off, hA, hlt, hc⟩ := h j hj'
  exact ⟨b, off, hA, hlt, by simpa using hc⟩
theorem Rd.drop (h : Rd w k A ds) (n : Nat) : Rd w k (A.map (·.add n)) (ds.drop n) := by
  intro j hj
  have hj' : n + j < ds.length := by simp at hj; omega
  obtain ⟨b, off, hA, hlt, hc⟩ := h (n + j) hj'
  subst hA
  refine ⟨b, off + n, ?_, hlt, ?_⟩
  · unfold Addr.add; split <;> simp_all
  · rw [Nat.add_assoc]; simpa using hc
/-- The cut 's[n:]' as the model writes its address. -/
theorem Rd.cut (h : Rd w k A ds) {n c : Nat} (hc : ds.length ≤ c) : Rd w k (if c = n then A else A.map (·.add n)) (ds.drop n) := by
  by_cases hcn : c = n
  · subst hcn
    rw [if_pos rfl, List.drop_of_length_le hc]
    exact Rd.nil _ _ _
  · rw [if_neg hcn]; exact h.drop n
theorem Rd.at_ (h : Rd w k A ds) {j : Nat} (hj : j < ds.length) : ∃ b off, A = some ⟨b, off, none⟩ ∧ b < w.heap.size ∧ w.cell? ⟨b, off + j, none⟩ = some (.int k (ds[j] : Nat)) := h j hj
/-- The address that a cut from the beginning leaves. -/
theorem cut_zero (A : Option Addr) (c : Nat) : (if c = 0 then A else A.map fun x => x.add 0) = A := by
  split
  · rfl
  · cases A <;> simp [Addr.add]
end

/-- Block g is a row of numbers, the call's own: just these cells, none frozen. -/
def Row (w : World) (g : Nat) (k : IntKind) (T : TypeId) (ds : List Nat) : Prop := w.heap[g]? = some (.cells (nums k ds).toArray T (0, 0))

section
variable {w w' : World} {g : Nat} {k : IntKind} {T : TypeId} {ds : List Nat}
theorem Row.lt (h : Row w g k T ds) : g < w.heap.size := by
  rcases Nat.lt_or_ge g w.heap.size with hlt | hge
  · exact hlt
  · unfold Row at h; rw [Array.getElem?_eq_none hge] at h; cases h
theorem Row.cell (h : Row w g k T ds) {i : Nat} (hi : i < ds.length) : w.cell? ⟨g, i, none⟩ = some (.int k (ds[i] : Nat)) := by
  rw [cell_of_row w g i _ T (0, 0) h, List.getElem?_toArray, nums_get, List.getElem?_eq_getElem hi]
  rfl
theorem Row.frozen (h : Row w g k T ds) (i : Nat) : w.frozen? ⟨g, i, none⟩ = false := by
  unfold Row at h
  simp [World.frozen?, h]
theorem Row.set_ (h : Row w g k T ds) (i v : Nat) : Row (w.setCell ⟨g, i, none⟩ (.int k (v : Int))) g k T (ds.set i v) := by
  unfold Row at h ⊢
  simp only [World.setCell, Array.getElem?_modify, h, if_true, Option.map_some]
  simp [nums, List.map_set]
theorem Row.far (h : Row w g k T ds) {p : Addr} (hp : g ≠ p.block) (u : Value) : Row (w.setCell p u) g k T ds := (Below.heap_setCell w p u g hp).trans h
theorem Row.alloc (h : Row w g k T ds) (o : Obj) : Row (w.alloc o) g k T ds := (Below.heap_alloc w o g h.lt).trans h
theorem Row.drew (h : Row w g k T ds) : Row w.drew g k T ds := h
theorem Row.drewN (h : Row w g k T ds) (n : Nat) : Row (w.drewN n) g k T ds := h
theorem Row.below {B : Nat} (h : Row w g k T ds) (hb : Below B w w') (hg : g < B) : Row w' g k T ds := (hb.block g hg).trans h
theorem Row.ext (h : Row w g k T ds) (hb : Below w.heap.size w w') : Row w' g k T ds := h.below hb h.lt
theorem Row.rd (h : Row w g k T ds) (n : Nat) : Rd w k (some ⟨g, 0, none⟩) (ds.take n) := by
  intro j hj
  have hj' : j < ds.length := by simp at hj; omega
  refine ⟨g, 0, rfl, h.lt, ?_⟩
  rw [Nat.zero_add, h.cell hj']
  simp
theorem Row.new (w : World) (k : IntKind) (T : TypeId) (ds : List Nat) : Row (w.alloc (.cells (nums k ds).toArray T)) w.heap.size k T ds := heap_alloc_new w _
end

/-- A slice of the call's own (from block B on), which reads as ds. -/
def Own (w : World) (B : Nat) (k : IntKind) (T : TypeId) (A : Option Addr) (c : Nat) (ds : List Nat) : Prop :=
  w.ownsRow B T 1 (.slice A ds.length c) ds.length (nums k ds)

section
variable {w w' : World} {B g c : Nat} {k : IntKind} {T : TypeId} {A : Option Addr} {ds : List Nat}
theorem Own.form (h : Own w B k T A c ds) : (A = none ∧ c = 0 ∧ ds = []) ∨ ∃ g cur, A = some ⟨g, 0, none⟩ ∧ B ≤ g ∧ w.heap[g]? = some (.cells cur T (0, 0)) ∧ ds.length ≤ c ∧ c ≤ maxLen ∧ cur.size = c ∧ cur.toList.take ds.length = nums k ds := by
  rcases h.2 with ⟨hv, hn⟩ | ⟨g, cap, cur, hv, hg, hh, hn, hc, hs, ht⟩
  · injection hv with h1 _ h3
    exact .inl ⟨h1, h3, List.eq_nil_of_length_eq_zero hn⟩
  · injection hv with h1 _ h3
    subst h3
    exact .inr ⟨g, cur, h1, hg, hh, hn, hc, by simpa using hs, by simpa using ht⟩
theorem Own.le (h : Own w B k T A c ds) : ds.length ≤ c ∧ c ≤ maxLen := by
  rcases h.form with ⟨_, rfl, rfl⟩ | ⟨g, cur, _, _, _, h1, h2, _⟩
  · simp
  · exact ⟨h1, h2⟩
theorem Own.rd (h : Own w B k T A c ds) : Rd w k A ds := by
  rcases h.form with ⟨_, _, rfl⟩ | ⟨g, cur, rfl, _, hh, hn, _, hs, ht⟩
  · exact Rd.nil _ _ _
  · intro j hj
    refine ⟨g, 0, rfl, (Array.getElem?_eq_some_iff.1 hh).1, ?_⟩
    rw [Nat.zero_add, cell_of_row w g j cur T (0, 0) hh]
    have h1 : (cur.toList.take ds.length)[j]? = (nums k ds)[j]? := by rw [ht]
    rw [List.getElem?_take, if_pos hj, nums_get, List.getElem?_eq_getElem hj] at h1
    simpa using h1
theorem Own.none_ (w : World) (B : Nat) (k : IntKind) (T : TypeId) : Own w B k T none 0 [] := World.ownsRow_nil w B T 1
theorem Own.of_row (h : Row w g k T ds) (hB : B ≤ g) (hm : ds.length ≤ maxLen) (n : Nat) : Own w B k T (some ⟨g, 0, none⟩) ds.length (ds.take n) := by
  refine ⟨by simp [nums_length], .inr ⟨g, ds.length, (nums k ds).toArray, rfl, hB, h, by simp; omega, hm, by simp [nums_length], ?_⟩⟩
  simp [nums, List.map_take]
/-- A part from the beginning of an own slice is an own slice. -/
theorem Own.take (h : Own w B k T A c ds) (n : Nat) : (A = none ∧ c = 0 ∧ ds = []) ∨ Own w B k T A c (ds.take n) := by
  rcases h.form with h0 | ⟨g, cur, rfl, hB, hh, hn, hc, hs, ht⟩
  · exact .inl h0
  · refine .inr ⟨by simp [nums_length], .inr ⟨g, c, cur, rfl, hB, hh, by simp; omega, hc, by simpa using hs, ?_⟩⟩
    have h1 : (cur.toList.take ds.length).take n = (nums k ds).take n := by rw [ht]
    rw [List.take_take] at h1
    rw [List.length_take, Nat.mul_one, h1]
    simp [nums, List.map_take]
theorem Own.take' (h : Own w B k T A c ds) (n : Nat) : Own w B k T A c (ds.take n) := by
  rcases h.take n with ⟨rfl, rfl, rfl⟩ | h
  · simpa using h
  · exact h
theorem Own.below (h : Own w B k T A c ds) (hb : Below w.heap.size w w') : Own w' B k T A c ds := by
  refine ⟨h.1, ?_⟩
  rcases h.2 with h2 | ⟨g, cap, cur, hv, hg, hh, r⟩
  · exact .inl h2
  · exact .inr ⟨g, cap, cur, hv, hg, (hb.block g (Array.getElem?_eq_some_iff.1 hh).1).trans hh, r⟩
theorem Own.mono {B' : Nat} (h : Own w B k T A c ds) (hB : B' ≤ B) : Own w B' k T A c ds := by
  refine ⟨h.1, ?_⟩
  rcases h.2 with h2 | ⟨g, cap, cur, hv, hg, r⟩
  · exact .inl h2
  · exact .inr ⟨g, cap, cur, hv, by omega, r⟩
end

/-- Nothing that was there has changed. -/
def Ext (w w' : World) : Prop := Below w.heap.size w w'
theorem Ext.refl (w : World) : Ext w w := Below.refl _ _
theorem Ext.trans {a b c : World} (h : Ext a b) (k : Ext b c) : Ext a c := Below.trans h (Below.mono k h.size)
theorem Ext.of_below {B : Nat} {a b : World} (h : Below B a b) (hB : a.heap.size ≤ B) : Ext a b := h.mono hB
theorem Ext.drew (w : World) : Ext w w.drew := (Below.refl _ _).drew
theorem Ext.alloc (w : World) (o : Obj) : Ext w (w.alloc o) := (Below.refl _ _).alloc (Nat.le_refl _) o
theorem Ext.size {w w' : World} (h : Ext w w') : w.heap.size ≤ w'.heap.size := Below.size h
theorem Ext.grown {w w' : World} (h : w.grownBy w' none) : Ext w w' := (Below.refl _ _).grown h (Nat.le_refl _) (fun _ h => by cases h)
theorem Ext.cell {w w' : World} (h : Ext w w') {p : Addr} {v : Value} (hc : w.cell? p = some v) : w'.cell? p = some v :=
  (Below.cell h (World.block_lt_of_cell? w p hc)).trans hc
theorem Ext.step {w w1 w2 : World} {g : Nat} (hx : Ext w w1) (hb : Below g w1 w2) (hg : w.heap.size ≤ g) : Ext w w2 := Below.trans hx (hb.mono hg)
theorem Own.of_row' {w : World} {B g n : Nat} {k : IntKind} {T : TypeId} {zs ds : List Nat} (h : Row w g k T zs) (hB : B ≤ g) (hm : zs.length ≤ maxLen) (hn : n = zs.length) (he : zs.take ds.length = ds) : Own w B k T (some ⟨g, 0, none⟩) n ds := by
  subst hn
  have := Own.of_row h hB hm ds.length
  rwa [he] at this
/-- Only block g may have changed. -/
structure Only (w w' : World) (g : Nat) : Prop where
  os : w'.os = w.os
  tape : w'.tape = w.tape
  output : w'.output = w.output
  size : w'.heap.size = w.heap.size
  block : ∀ k, k ≠ g → w'.heap[k]? = w.heap[k]?
theorem Only.set_ (w : World) (a : Addr) (u : Value) : Only w (w.setCell a u) a.block :=
  ⟨rfl, rfl, rfl, by simp, fun k hk => Below.heap_setCell w a u k hk⟩
theorem Only.below {w w' : World} {g B : Nat} (h : Only w w' g) (hg : B ≤ g) : Below B w w' :=
  ⟨h.os, h.tape, h.output, by rw [h.size]; exact Nat.le_refl _, fun k hk => h.block k (by omega)⟩
theorem Row.only {w w' : World} {g g' : Nat} {k : IntKind} {T : TypeId} {ds : List Nat} (h : Row w g k T ds) (ho : Only w w' g') (hne : g ≠ g') : Row w' g k T ds :=
  (ho.block g hne).trans h

theorem Row.some_ {w : World} {g : Nat} {k : IntKind} {T : TypeId} {ds : List Nat} (h : Row w g k T ds) {i : Nat} (hi : i < ds.length) : ∃ z : Nat, w.cell? ⟨g, i, none⟩ = some (.int k (z : Int)) := ⟨_, h.cell hi⟩
theorem ret_int {k : IntKind} {a b : Int} (h : a = b) : Ending.returned (.int k a) = .returned (.int k b) := by rw [h]
theorem ret_int2 {k k' : IntKind} {a b a' b' : Int} (h : a = b) (h' : a' = b') : Ending.returned (.tuple #[.int k a, .int k' a']) = .returned (.tuple #[.int k b, .int k' b']) := by rw [h, h']

theorem add32_any (x y c : Nat) (w : World) (hx : x < 4294967296) (hy : y < 4294967296) (hc : c ≤ 1) :
    Calls Tryz.prog 131 #[.int .u32 x, .int .u32 y, .int .u32 c] w fun e w' => e = .returned (.tuple #[.int .u32 ((x + y + c) % 4294967296 : Nat), .int .u32 ((x + y + c) / 4294967296 : Nat)]) ∧ w = w' := by
  go_enter Tryz.func131, Tryz.ntmps131
  go_wp2
  go_ret2
  exact ⟨ret_int2 (by omega) (by omega), rfl⟩


theorem mul_bound {x y : Nat} (hx : x < 4294967296) (hy : y < 4294967296) : x * y ≤ 18446744065119617025 :=
  Nat.le_trans (Nat.mul_le_mul (Nat.le_sub_one_of_lt hx) (Nat.le_sub_one_of_lt hy)) (by omega)
theorem mul_bound' {x y : Nat} (hx : x < 4294967296) (hy : y < 4294967296) : 0 ≤ (x : Int) * (y : Int) ∧ (x : Int) * (y : Int) ≤ 18446744065119617025 := by
  have h := mul_bound hx hy
  have e : ((x * y : Nat) : Int) = (x : Int) * (y : Int) := Int.natCast_mul x y
  omega

theorem top_bit (n : Nat) (h : n < 4294967296) : n / 2147483648 = if n.testBit 31 then 1 else 0 := by
  rw [Nat.testBit_eq_decide_div_mod_eq]
  have : 2 ^ 31 = 2147483648 := by decide
  rw [this]
  by_cases hn : n / 2147483648 % 2 = 1
  · simp [hn]; omega
  · simp [hn]; omega
theorem top_le (n : Nat) (h : n < 4294967296) : n.testBit 31 = decide (2147483648 ≤ n) := by
  rw [Nat.testBit_eq_decide_div_mod_eq]
  have : 2 ^ 31 = 2147483648 := by decide
  rw [this]
  congr 1
  apply propext
  omega
/-- The borrow of x - y - c. -/
def bor (x y c : Nat) : Nat := if x < y + c then 1 else 0
theorem borrow_bit (x y c : Nat) (hx : x < 4294967296) (hy : y < 4294967296) (hc : c ≤ 1) :
    (((4294967295 ^^^ x) &&& y) ||| ((4294967295 ^^^ (x ^^^ y)) &&& ((x + 4294967296 - y - c) % 4294967296))) / 2147483648 = bor x y c := by
  unfold bor
  have hm : (4294967295 : Nat).testBit 31 = true := by decide
  have h32 : (4294967296 : Nat) = 2 ^ 32 := by decide
  have hd : (x + 4294967296 - y - c) % 4294967296 < 4294967296 := Nat.mod_lt _ (by omega)
  have b1 : ((4294967295 ^^^ x) &&& y) < 4294967296 := Nat.lt_of_le_of_lt Nat.and_le_right hy
  have b2 : ((4294967295 ^^^ (x ^^^ y)) &&& ((x + 4294967296 - y - c) % 4294967296)) < 4294967296 := Nat.lt_of_le_of_lt Nat.and_le_right hd
  rw [top_bit _ (by rw [h32] at b1 b2 ⊢; exact Nat.or_lt_two_pow b1 b2)]
  rw [Nat.testBit_or, Nat.testBit_and, Nat.testBit_and, Nat.testBit_xor, Nat.testBit_xor, Nat.testBit_xor, hm, top_le x hx, top_le y hy, top_le _ hd]
  by_cases h1 : 2147483648 ≤ x <;> by_cases h2 : 2147483648 ≤ y <;> by_cases h3 : 2147483648 ≤ (x + 4294967296 - y - c) % 4294967296 <;> by_cases h4 : x < y + c <;> simp [h1, h2, h3, h4] <;> omega

theorem mul32_any (x y : Nat) (w : World) (hx : x < 4294967296) (hy : y < 4294967296) :
    Calls Tryz.prog 143 #[.int .u32 x, .int .u32 y] w fun e w' => e = .returned (.tuple #[.int .u32 ((x * y) / 4294967296 : Nat), .int .u32 ((x * y) % 4294967296 : Nat)]) ∧ w = w' := by
  obtain ⟨h0, h1⟩ := mul_bound' hx hy
  go_enter Tryz.func143, Tryz.ntmps143
  go_wp2
  go_ret2
  have e : ((x * y : Nat) : Int) = (x : Int) * (y : Int) := Int.natCast_mul x y
  exact ⟨ret_int2 (by omega) (by omega), rfl⟩

theorem sub32_any (x y c : Nat) (w : World) (hx : x < 4294967296) (hy : y < 4294967296) (hc : c ≤ 1) :
    Calls Tryz.prog 133 #[.int .u32 x, .int .u32 y, .int .u32 c] w fun e w' => e = .returned (.tuple #[.int .u32 ((x + 4294967296 - y - c) % 4294967296 : Nat), .int .u32 (bor x y c)]) ∧ w = w' := by
  have hd : (x + 4294967296 - y - c) % 4294967296 < 4294967296 := Nat.mod_lt _ (by omega)
  have HF := Lib.hid (borrow_bit x y c hx hy hc)
  go_enter Tryz.func133, Tryz.ntmps133
  go_wp2
  go_ret2
  refine ⟨ret_int2 (by omega) ?_, rfl⟩
  have hm : IntKind.u32.max = ((4294967295 : Nat) : Int) := by decide
  have hd' : ((x : Int) - (y : Int) - (c : Int)) % 4294967296 = (((x + 4294967296 - y - c) % 4294967296 : Nat) : Int) := by omega
  have h32 : (4294967296 : Nat) = 2 ^ 32 := by decide
  have hxy : x ^^^ y < 4294967296 := by rw [h32] at hx hy ⊢; exact Nat.xor_lt_two_pow hx hy
  have h1 : 4294967295 ^^^ x < 4294967296 := by rw [h32] at hx ⊢; exact Nat.xor_lt_two_pow (by decide) hx
  have h2 : 4294967295 ^^^ (x ^^^ y) < 4294967296 := by rw [h32] at hxy ⊢; exact Nat.xor_lt_two_pow (by decide) hxy
  rw [hm, hd', u32_xor_nat x y hx hy, u32_xor_nat _ _ (by omega) hx, u32_xor_nat _ _ (by omega) hxy, u32_and_nat _ _ h1 hy, u32_and_nat _ _ h2 hd,
    u32_or_nat _ _ (Nat.lt_of_le_of_lt Nat.and_le_right hy) (Nat.lt_of_le_of_lt Nat.and_le_right hd), ← HF.out]
  omega

theorem div_small {h l y : Nat} (hh : h < y) (hl : l < 4294967296) : (h * 4294967296 + l) / y < 4294967296 :=
  Nat.div_lt_of_lt_mul (by have := Nat.mul_le_mul_right 4294967296 (Nat.succ_le_of_lt hh); omega)
theorem hi_lo (h l : Nat) (hl : l < 4294967296) : h * 4294967296 ||| l = h * 4294967296 + l := by
  have h32 : (4294967296 : Nat) = 2 ^ 32 := by decide
  rw [h32] at hl ⊢
  rw [Nat.mul_comm, Nat.two_pow_add_eq_or_of_lt hl]

theorem div32_any (h l y : Nat) (w : World) (hh : h < y) (hl : l < 4294967296) (hy : y < 4294967296) :
    Calls Tryz.prog 134 #[.int .u32 h, .int .u32 l, .int .u32 y] w fun e w' => e = .returned (.tuple #[.int .u32 ((h * 4294967296 + l) / y : Nat), .int .u32 ((h * 4294967296 + l) % y : Nat)]) ∧ ∃ n, w' = w.drewN n := by
  have h1 : ((y : Int) != 0) = true := by simp; omega
  have h2 : decide ((y : Int) ≤ (h : Int)) = false := by simp; omega
  have h3 : (1 : Int) ≤ (y : Int) := by omega
  go_enter Tryz.func134, Tryz.ntmps134
  go_wp2
  go_quiet (fail)
  go_wp2
  go_ret2
  have e : bits BinOp.or IntKind.u64 ((h : Int) * 4294967296) (l : Int) = ((h * 4294967296 + l : Nat) : Int) := by
    have := u64_or_nat (h * 4294967296) l (by omega) (by omega)
    rw [hi_lo h l hl] at this
    rw [← this]
    rfl
  have e1 : ((h * 4294967296 + l : Nat) : Int).tdiv (y : Int) = (((h * 4294967296 + l) / y : Nat) : Int) := rfl
  have e2 : ((h * 4294967296 + l : Nat) : Int).tmod (y : Int) = (((h * 4294967296 + l) % y : Nat) : Int) := rfl
  have q := div_small hh hl
  have r : (h * 4294967296 + l) % y < y := Nat.mod_lt _ (by omega)
  refine ⟨ret_int2 ?_ ?_, _, rfl⟩
  · rw [e, e1]
    generalize (h * 4294967296 + l) / y = Q at q
    rw [IntWalk.u64_in _ (by omega)]
    omega
  · rw [e, e2]
    generalize (h * 4294967296 + l) % y = R at r
    omega
theorem made_nums (k : IntKind) (n : Nat) : madeCells (Value.int k 0).cells n = (nums k (List.replicate n 0)).toArray := by
  unfold madeCells nums
  apply Array.ext
  · simp
  · intro i h1 h2
    have : i % 1 = 0 := Nat.mod_one i
    simp [Value.cells]
    rw [this]
    rfl

section
variable {P : Program} {w : World} {ops : Array Oper} {rest : List Oper} {o : Oper} {a : Act} {Q : Exit → Act → World → Prop}

/-- 'make([]T, n)', T an integer type. -/
theorem wpList_mkrow (hgd : o.guard = none) (l c : Operand) (t : TypeId) (hop : o.op = Op.makeSlice t l c) (e : TypeId) (k : IntKind) (by_ : Nat)
    (h1 : P.underlying t = some (.slice e)) (h2 : (P.info? e).map (fun i => (i.zero, i.size, i.bytes)) = some (some (.int k 0), 1, by_)) (h5 : by_ ≤ 8)
    (kl kc : IntKind) (C : Int) (n : Nat) (hl : a.eval l = .int kl C) (hc : a.eval c = .int kc C) (hC : C = (n : Int)) (b : n ≤ 35184372088832)
    (hK : ∀ g w', w.heap.size ≤ g → Row w' g k e (List.replicate n 0) → Ext w w' → wpList P ops Q rest (a.put o.dst (.slice (some ⟨g, 0, none⟩) n n)) w') :
    wpList P ops Q (o :: rest) a w := by
  obtain ⟨i, hi, hz, hs, hb⟩ := info_parts h2
  refine wpList_plain hgd fun K hK' => ?_
  have hrun := run_make (P := P) w t e i (.int k 0) h1 hi hz kl kc n n (by omega) (by omega) (by have : i.bytes * n ≤ 8 * n := Nat.mul_le_mul_right _ (by omega); have e : ((i.bytes * n : Nat) : Int) = (i.bytes : Int) * (n : Int) := Int.natCast_mul _ _; omega) (by omega)
  subst hC
  unfold Oper.wp
  simp [execOp, hop, hl, hc, hrun, Result.andThen]
  refine hK' _ _ (hK _ _ (Nat.le_refl _) ?_ (Ext.alloc _ _))
  rw [hs, Nat.mul_one, made_nums]
  exact Row.new _ _ _ _

/-- 'copy(z, s)' into a row of the call's own. -/
theorem wpList_copyrow (hgd : o.guard = none) (d s : Operand) (dT sT : TypeId)
    (ho : o.op = .call { callee := .builtin .copy, args := #[d, s], argTypes := #[dT, sT] }) (elem : TypeId) (hu : P.underlying dT = some (.slice elem)) (hsz : (P.info? elem).map (·.size) = some 1)
    (g n c sc : Nat) (A : Option Addr) (k : IntKind) (T : TypeId) (zs ds : List Nat) (hd : a.eval d = .slice (some ⟨g, 0, none⟩) n c) (hs : a.eval s = .slice A ds.length sc)
    (hrow : Row w g k T zs) (hrd : Rd w k A ds) (hn : ds.length ≤ n) (hz : n ≤ zs.length)
    (h : ∀ w', Row w' g k T (ds ++ zs.drop ds.length) → Below g w w' → wpList P ops Q rest (a.put o.dst (goInt ds.length)) w') : wpList P ops Q (o :: rest) a w := by
  refine wpList_copy_splice hgd d s dT sT ho elem hu hsz (some ⟨g, 0, none⟩) A n c ds.length sc hd hs g 0 (nums k zs) T hrow (nums k ds) (by rw [nums_length]; exact (Nat.min_eq_left hn).symm) ?_ (by rw [nums_length, nums_length]; omega) (nums_one k ds) g w (Below.refl _ _) (Nat.le_refl _) ?_
  · rw [nums_length]
    intro hpos
    obtain ⟨b, off, rfl, _, _⟩ := hrd 0 hpos
    refine ⟨rfl, _, rfl, fun j v hj => ?_⟩
    rw [nums_get] at hj
    obtain ⟨dj, hdj, rfl⟩ := Option.map_eq_some_iff.1 hj
    obtain ⟨hlt, hget⟩ := List.getElem?_eq_some_iff.1 hdj
    obtain ⟨b', off', hA, _, hc⟩ := hrd j hlt
    injection hA with hA
    injection hA with hb hoff
    subst hb hoff
    have : (⟨b, off, none⟩ : Addr).add j = ⟨b, off + j, none⟩ := by unfold Addr.add; split <;> simp_all
    rw [this, hc, hget]
  · intro w' hw hb
    rw [nums_length]
    refine h w' ?_ hb
    have := hw.out
    unfold Row
    rw [this]
    simp [splice, nums, List.map_drop]
end
section
variable {P : Program} {w : World} {ops : Array Oper} {rest : List Oper} {o : Oper} {a : Act} {Q : Exit → Act → World → Prop}
theorem Own.block_ge {B c : Nat} {k : IntKind} {T : TypeId} {A : Option Addr} {ds : List Nat} (h : Own w B k T A c ds) : ∀ g, (Value.slice A ds.length c).ownBlock = some g → B ≤ g :=
  fun g hg => (World.ownsRow.lt h g hg).1
/-- 'append(s, v)': one element. -/
theorem wpList_app1 (hgd : o.guard = none) (s x : Operand) (t : TypeId) (ho : o.op = .call { callee := .builtin .append, args := #[s, x], argTypes := #[t, t] })
    (B : Nat) (e : TypeId) (k : IntKind) (by_ : Nat) (ht : P.underlying t = some (.slice e)) (hi : (P.info? e).map (fun i => (i.zero, i.size, i.bytes)) = some (some (.int k 0), 1, by_)) (hb8 : by_ ≤ 8)
    (A : Option Addr) (c n : Nat) (ds : List Nat) (hn : ds.length = n) (hs : a.eval s = .slice A n c) (hown : Own w B k e A c ds)
    (g : Nat) (v : Nat) (hx : a.eval x = .slice (some ⟨g, 0, none⟩) 1 1) (hc : w.cell? ⟨g, 0, none⟩ = some (.int k (v : Int)))
    (hlen : n ≤ 17592186044000) (hB : B ≤ w.heap.size)
    (h : ∀ A' c' w', Own w' B k e A' c' (ds ++ [v]) → Below B w w' → wpList P ops Q rest (a.put o.dst (.slice A' (n + 1) c')) w') : wpList P ops Q (o :: rest) a w := by
  subst hn
  obtain ⟨i, hi1, hz, hsz, hby⟩ := info_parts hi
  refine wpList_append_own w hgd s x t ho B e i (.int k 0) 1 by_ ht hi1 hz hsz hby rfl (by omega) _ ds.length (nums k ds) hs hown ⟨g, 0, none⟩ 1 1 (nums k [v]) hx (by simp [nums]) ?_ (nums_one k _) (by unfold maxLen; omega) ?_ hB ?_
  · intro j u hj
    match j, hj with
    | 0, hj => simp [nums] at hj; subst hj; simpa [Addr.add] using hc
    | j + 1, hj => simp [nums] at hj
  · have : (ds.length + 1) * by_ ≤ (ds.length + 1) * 8 := Nat.mul_le_mul_left _ hb8
    omega
  · intro v' w' how hgr hnil
    rw [← nums_append] at how
    have hl : ds.length + 1 = (ds ++ [v]).length := by simp
    rcases how.2 with ⟨hv, hn⟩ | ⟨g', cap, cur, hv, hg', hh, r⟩
    · omega
    · subst hv
      have hb : Below B w w' := (Below.refl B w).grown hgr hB (fun k hk => hown.block_ge k hk)
      have ho : Own w' B k e (some ⟨g', 0, none⟩) cap (ds ++ [v]) := by
        unfold Own
        rw [← hl]
        exact how
      exact h _ _ w' ho hb
end
def B32 : Nat := 4294967296
theorem B32_two : 2 ≤ B32 := by unfold B32; omega
theorem ret_slice {A : Option Addr} {n m c : Nat} (h : n = m) : Ending.returned (.slice A n c) = .returned (.slice A m c) := by rw [h]

theorem take_snoc' (ds : List Nat) (k : Nat) (h : k < ds.length) : ds.take (k + 1) = ds.take k ++ [ds[k]] := by
  rw [List.take_succ_eq_append_getElem h]

theorem trim_any (A : Option Addr) (c : Nat) (ds : List Nat) (w : World) (hc : ds.length ≤ c) (hn : c ≤ 9223372036854775807) (hr : Rd w .u32 A ds) :
    Calls Tryz.prog 120 #[.slice A ds.length c] w fun e w' => e = .returned (.slice A (trimL ds).length c) ∧ w = w' := by
  have H := Lib.hid hr
  clear hr
  go_enter Tryz.func120, Tryz.ntmps120
  go_wp2
  go_loop [3] (fun i => ∃ k : Nat, k ≤ ds.length ∧ i = .int .i64 k ∧ trimL ds = trimL (ds.take k)) (fun i => (intOf i).toNat)
  case atStart => exact ⟨_, Nat.le_refl _, rfl, by rw [List.take_length]⟩
  case round =>
    obtain ⟨k, hk, rfl, ht⟩ := hrel
    have HT := Lib.hid ht
    clear ht
    by_cases h0 : k = 0
    · subst h0
      go_wp2
      go_ret
      exact ⟨ret_slice (by rw [HT.out]; rfl), rfl⟩
    · have hk1 : k - 1 < ds.length := by omega
      obtain ⟨b, off, rfl, hb, hcell⟩ := H.out (k - 1) hk1
      have hp : 0 < k := by omega
      have HS := Lib.hid (take_snoc' ds (k - 1) hk1)
      go_wp2
      · have hz : (↑ds[k - 1] == (0 : Int)) = true := by assumption
        have hz' : ds[k - 1] = 0 := by simpa using hz
        go_round
        case rel =>
          refine ⟨k - 1, by omega, by go_num, ?_⟩
          have e : k = k - 1 + 1 := by omega
          rw [HT.out]
          conv => lhs; rw [e, HS.out, hz', trimL_snoc_zero]
        case measure => simp [intOf]; omega
      · have hz : (↑ds[k - 1] == (0 : Int)) = false := by assumption
        have hz' : ds[k - 1] ≠ 0 := by simpa using hz
        go_ret
        refine ⟨ret_slice ?_, rfl⟩
        have e : k = k - 1 + 1 := by omega
        rw [HT.out]
        conv => rhs; rw [e, HS.out, trimL_snoc hz', ← HS.out, ← e]
        rw [List.length_take]; omega

theorem info_u32 : (Tryz.prog.info? 141).map (fun i => (i.zero, i.size, i.bytes)) = some (some (.int .u32 0), 1, 4) := by kernel_rfl
theorem size_u32 : (Tryz.prog.info? 141).map (·.size) = some 1 := by kernel_rfl

/-- What a natural number's slice reads as: valid digits. -/
structure NR (w : World) (A : Option Addr) (c : Nat) (ds : List Nat) : Prop where
  rd : Rd w .u32 A ds
  valid : Valid B32 ds
  le : ds.length ≤ c
  cap : c ≤ 9223372036854775807
/-- A natural number in memory of the call's own, in canonical form. -/
def NO (w : World) (B : Nat) (A : Option Addr) (c n : Nat) : Prop := Own w B .u32 141 A c (digs B32 n)
/-- The value of digits. -/
def V (ds : List Nat) : Nat := val B32 ds
/-- The length of a number in digits. -/
def dl (n : Nat) : Nat := (digs B32 n).length
theorem trim_V {ds : List Nat} (h : Valid B32 ds) : trimL ds = digs B32 (V ds) := trimL_digs B32_two h

theorem NO.nr {w : World} {B : Nat} {A : Option Addr} {c n : Nat} (h : NO w B A c n) : NR w A c (digs B32 n) :=
  ⟨Own.rd h, valid_digs B32_two n, (Own.le h).1, by have := (Own.le h).2; unfold maxLen at this; omega⟩
theorem NR.ext {w w' : World} {A : Option Addr} {c : Nat} {ds : List Nat} (h : NR w A c ds) (hx : Ext w w') : NR w' A c ds := ⟨h.rd.below hx, h.valid, h.le, h.cap⟩
theorem NO.ext {w w' : World} {B : Nat} {A : Option Addr} {c n : Nat} (h : NO w B A c n) (hx : Ext w w') : NO w' B A c n := Own.below h hx

/-- The call returns the number n in new memory, and changes nothing else. -/
def RetN (w : World) (n : Nat) (e : Ending) (w' : World) : Prop := ∃ A c, e = .returned (.slice A (digs B32 n).length c) ∧ NO w' w.heap.size A c n ∧ Ext w w'

/-- 'trim' of an argument. -/
theorem trim_nr {w : World} {A : Option Addr} {c : Nat} {ds : List Nat} (h : NR w A c ds) :
    Calls Tryz.prog 120 #[.slice A ds.length c] w fun e w' => e = .returned (.slice A (digs B32 (V ds)).length c) ∧ w = w' := by
  rw [← trim_V h.valid]
  exact trim_any A c ds w h.le h.cap h.rd
/-- What an argument reads as behind its trimming. -/
theorem NR.trim {w : World} {A : Option Addr} {c : Nat} {ds : List Nat} (h : NR w A c ds) : NR w A c (digs B32 (V ds)) := by
  rw [← trim_V h.valid, ← trimL_take]
  exact ⟨h.rd.take _, by rw [trimL_take]; exact trimL_valid h.valid, by have := h.le; simp; omega, h.cap⟩

theorem normal_any {w : World} {A : Option Addr} {c : Nat} {ds : List Nat} (h : NR w A c ds) (hs : dl (V ds) ≤ 35184372088832) :
    Calls Tryz.prog 122 #[.slice A ds.length c] w (RetN w (V ds)) := by
  have ht := trim_nr h
  have hn := h.trim
  unfold dl at hs
  generalize V ds = n at *
  have hr := hn.rd
  have hle := hn.le
  clear hn
  go_enter Tryz.func122, Tryz.ntmps122
  go_wp2_with fail
  refine ht.mono ?_
  rintro e w' ⟨rfl, rfl⟩
  clear ht
  go_wp2_with (at_make; refine wpList_mkrow rfl _ _ _ rfl _ _ _ Tryz.underlying23 info_u32 (by omega) _ _ _ _ rfl rfl rfl hs ?_)
  intro g w1 hg hrow hx
  have hr1 := hr.below hx
  go_wp2_with (with_reducible refine wpList_copyrow rfl (.tmp 9) (.tmp 10) 23 23 rfl 141 Tryz.underlying23 size_u32 g _ _ _ A .u32 _ _ _ rfl rfl hrow hr1 (Nat.le_refl _) (by simp) ?_)
  intro w2 hrow2 hb2
  go_wp2_with fail
  go_ret
  have hrow3 : Row w2 g .u32 141 (digs B32 n) := by simpa using hrow2
  exact ⟨_, _, rfl, Own.of_row' hrow3 hg (by unfold maxLen; omega) rfl (List.take_length), hx.step hb2 hg⟩

theorem len_zero (n : Nat) : (((digs B32 n).length : Int) == 0) = (n == 0) := by
  rw [Bool.eq_iff_iff]
  simp [digs_eq_nil B32_two]

theorem isZero_any {w : World} {A : Option Addr} {c : Nat} {ds : List Nat} (h : NR w A c ds) :
    Calls Tryz.prog 104 #[.slice A ds.length c] w fun e w' => e = .returned (.bool (V ds == 0)) ∧ w = w' := by
  have ht := trim_nr h
  have HF := Lib.hid (len_zero (V ds))
  generalize V ds = n at *
  go_enter Tryz.func104, Tryz.ntmps104
  go_wp2_with fail
  refine ht.mono ?_
  rintro e w' ⟨rfl, rfl⟩
  go_wp2_with fail
  go_ret
  exact ⟨congrArg (fun b => Ending.returned (.bool b)) HF.out, rfl⟩

theorem V_two (n : Nat) : V [n % 4294967296, n / 4294967296] = n := by simp [V, val, B32]; omega
theorem dl_le {n k : Nat} (h : n < B32 ^ k) : dl n ≤ k := digs_len_le B32_two h
theorem of_any {w : World} (n : Nat) (hn : n < 18446744073709551616) :
    Calls Tryz.prog 102 #[.int .u64 n] w (RetN w n) := by
  have e : (nums .u32 [n % 4294967296, n / 4294967296]).toArray = #[Value.int .u32 ((n : Int) % 4294967296), Value.int .u32 ((n : Int) / 4294967296)] := by simp [nums]
  have hrow := Row.new w .u32 141 [n % 4294967296, n / 4294967296]
  have hnr : NR (w.alloc (.cells (nums .u32 [n % 4294967296, n / 4294967296]).toArray 141)) (some ⟨w.heap.size, 0, none⟩) 2 [n % 4294967296, n / 4294967296] :=
    ⟨by simpa using hrow.rd 2, by unfold Valid B32; simp; omega, by simp, by omega⟩
  rw [e] at hnr
  have hc := normal_any hnr (by rw [V_two]; have := dl_le (n := n) (k := 2) (by unfold B32; omega); omega)
  rw [V_two] at hc
  have HC := Lib.hid hc
  clear hc e hrow hnr
  go_enter Tryz.func102, Tryz.ntmps102
  go_wp2_with fail
  refine HC.out.mono ?_
  rintro e w' ⟨A, c, rfl, ho, hx⟩
  go_wp2_with fail
  go_ret
  exact ⟨A, c, rfl, Own.mono ho (by simp), (Ext.alloc w _).trans hx⟩

/-- Quiet: nothing but draws. -/
def Qt (w w' : World) : Prop := ∃ n, w' = w.drewN n
theorem Qt.ext {w w' : World} (h : Qt w w') : Ext w w' := by
  obtain ⟨n, rfl⟩ := h
  exact ⟨rfl, rfl, rfl, Nat.le_refl _, fun _ _ => rfl⟩
theorem Qt.refl (w : World) : Qt w w := ⟨0, rfl⟩

theorem uint64_yes {w : World} {A : Option Addr} {c : Nat} {ds : List Nat} (h : NR w A c ds) (hlt : V ds < 18446744073709551616) :
    Calls Tryz.prog 128 #[.slice A ds.length c] w fun e w' => e = .returned (.tuple #[.int .u64 (V ds), .bool true]) ∧ Qt w w' := by
  have ht := trim_nr h
  have hn := h.trim
  have hr := hn.rd
  clear h
  generalize V ds = n at *
  have hV := val_digs B32_two n
  have hB := hn.valid
  have hp : (digs B32 n).length ≤ 2 := digs_len_le B32_two (by unfold B32; omega)
  clear hn hlt
  rcases hd : digs B32 n with _ | ⟨d0, _ | ⟨d1, _ | ⟨d2, r⟩⟩⟩
  · rw [hd] at ht hV
    obtain rfl : n = 0 := hV.symm
    clear hr hd hB hp hV
    go_enter Tryz.func128, Tryz.ntmps128
    go_wp2_with fail
    refine ht.mono ?_
    rintro e w' ⟨rfl, rfl⟩
    go_wp2_with fail
    go_ret2
    exact ⟨rfl, Qt.refl _⟩
  · rw [hd] at ht hr hV hB
    obtain rfl : d0 = n := by simpa [val] using hV
    obtain ⟨b, off, rfl, hb, h0⟩ := hr 0 (by simp)
    have b0 : d0 < 4294967296 := hB d0 (by simp)
    clear hr hd hV hB hp
    simp at h0
    go_enter Tryz.func128, Tryz.ntmps128
    go_wp2_with fail
    refine ht.mono ?_
    rintro e w' ⟨rfl, rfl⟩
    go_wp2_with fail
    go_ret2
    exact ⟨rfl, Qt.refl _⟩
  · rw [hd] at ht hr hV hB
    obtain ⟨b, off, rfl, hb, h0⟩ := hr 0 (by simp)
    obtain ⟨b', off', hA, hb', h1⟩ := hr 1 (by simp)
    injection hA with hA
    injection hA with e1 e2
    subst e1 e2
    have b0 : d0 < 4294967296 := hB d0 (by simp)
    have b1 : d1 < 4294967296 := hB d1 (by simp)
    have hV' : d1 * 4294967296 + d0 = n := by rw [← hV]; simp [val, B32]; omega
    have HV := Lib.hid hV'
    clear hr hd hV hB hV' hp
    simp at h0 h1
    go_enter Tryz.func128, Tryz.ntmps128
    go_wp2_with fail
    refine ht.mono ?_
    rintro e w' ⟨rfl, rfl⟩
    go_wp2_with fail
    go_quiet (fail)
    go_wp2
    go_ret2
    refine ⟨?_, _, rfl⟩
    have e : bits BinOp.or IntKind.u64 ((d1 : Int) * 4294967296) (d0 : Int) = ((d1 * 4294967296 + d0 : Nat) : Int) := by
      have := u64_or_nat (d1 * 4294967296) d0 (by omega) (by omega)
      rw [hi_lo d1 d0 b0] at this
      rw [← this]
      rfl
    rw [← HV.out, ← e]
    rfl
  · rw [hd] at hp
    simp at hp

theorem uint64_no {w : World} {A : Option Addr} {c : Nat} {ds : List Nat} (h : NR w A c ds) (hge : 18446744073709551616 ≤ V ds) :
    Calls Tryz.prog 128 #[.slice A ds.length c] w fun e w' => e = .returned (.tuple #[.int .u64 0, .bool false]) ∧ Qt w w' := by
  have ht := trim_nr h
  have hn := h.trim
  clear h
  have hle := hn.le
  have hcap := hn.cap
  generalize V ds = n at *
  have hp : 2 < (digs B32 n).length := by
    rcases Nat.lt_or_ge 2 (digs B32 n).length with h1 | h1
    · exact h1
    · have h2 := lt_pow_len B32_two n
      have h3 : B32 ^ (digs B32 n).length ≤ B32 ^ 2 := Nat.pow_le_pow_right (by unfold B32; omega) h1
      have h4 : B32 ^ 2 = 18446744073709551616 := by decide
      omega
  clear hn hge
  generalize (digs B32 n).length = L at *
  have k0 : ((L : Int) == 0) = false := by simp; omega
  have k1 : ((L : Int) == 1) = false := by simp; omega
  have k2 : ((L : Int) == 2) = false := by simp; omega
  go_enter Tryz.func128, Tryz.ntmps128
  go_wp2_with fail
  refine ht.mono ?_
  rintro e w' ⟨rfl, rfl⟩
  go_wp2_with fail
  go_ret2
  exact ⟨rfl, Qt.refl _⟩

theorem Qt.drewN {w w' : World} (h : Qt w w') (n : Nat) : Qt w (w'.drewN n) := by
  obtain ⟨m, rfl⟩ := h
  exact ⟨m + n, World.drewN_drewN _ _ _⟩
theorem cmp_any {w : World} {A1 A2 : Option Addr} {c1 c2 : Nat} {d1 d2 : List Nat} (h1 : NR w A1 c1 d1) (h2 : NR w A2 c2 d2) :
    Calls Tryz.prog 111 #[.slice A1 d1.length c1, .slice A2 d2.length c2] w fun e w' => e = .returned (.int .i64 (cmpN (V d1) (V d2))) ∧ Qt w w' := by
  have t1 := trim_nr h1
  have t2 := trim_nr h2
  have n1 := h1.trim
  have n2 := h2.trim
  clear h1 h2
  generalize V d1 = a at *
  generalize V d2 = b at *
  have hv1 := n1.valid
  have hv2 := n2.valid
  have r1 := n1.rd
  have r2 := n2.rd
  have le1 := n1.le
  have le2 := n2.le
  have cp1 := n1.cap
  have cp2 := n2.cap
  clear n1 n2
  have HLT : (digs B32 a).length < (digs B32 b).length → a < b := lt_of_digs_len B32_two
  have HGT : (digs B32 b).length < (digs B32 a).length → b < a := lt_of_digs_len B32_two
  have ea := val_digs B32_two a
  have eb := val_digs B32_two b
  generalize digs B32 a = da at *
  generalize digs B32 b = db at *
  rcases Nat.lt_trichotomy da.length db.length with hl | hl | hl
  · have HC := Lib.hid (cmpN_lt (HLT hl))
    clear HLT HGT hv1 hv2 r1 r2 ea eb
    go_enter Tryz.func111, Tryz.ntmps111
    go_wp2_with fail
    refine t1.mono ?_
    rintro e w' ⟨rfl, rfl⟩
    go_wp2_with fail
    refine t2.mono ?_
    rintro e w' ⟨rfl, rfl⟩
    go_wp2_with fail
    go_ret
    exact ⟨by rw [HC.out]; rfl, Qt.refl _⟩
  · clear HLT HGT
    have HR1 := Lib.hid r1
    have HR2 := Lib.hid r2
    have HV1 := Lib.hid hv1
    have HV2 := Lib.hid hv2
    have HE1 := Lib.hid ea
    have HE2 := Lib.hid eb
    have HL := Lib.hid hl
    clear r1 r2 hv1 hv2 ea eb
    have hl1 : ¬ da.length < db.length := by omega
    have hl2 : ¬ db.length < da.length := by omega
    clear hl
    go_enter Tryz.func111, Tryz.ntmps111
    go_wp2_with fail
    refine t1.mono ?_
    rintro e w' ⟨rfl, rfl⟩
    go_wp2_with fail
    refine t2.mono ?_
    rintro e w' ⟨rfl, rfl⟩
    go_wp2_with fail
    clear t1 t2
    go_loopw [5] (fun i wr => ∃ k : Nat, k ≤ da.length ∧ i = .int .i64 ((k : Int) - 1) ∧ da.drop k = db.drop k ∧ Qt w wr) (fun i _ => (intOf i + 1).toNat)
    case atStart => exact ⟨da.length, Nat.le_refl _, rfl, by rw [List.drop_length, HL.out, List.drop_length], Qt.refl _⟩
    case round =>
      obtain ⟨k, hk, rfl, hd, nq, rfl⟩ := hrel
      have HD := Lib.hid hd
      clear hd
      by_cases h0 : k = 0
      · subst h0
        go_wp2
        go_ret
        refine ⟨?_, _, rfl⟩
        have := HD.out
        simp at this
        rw [← HE1.out, ← HE2.out, this, cmpN_eq]
        rfl
      · obtain ⟨b1, o1, rfl, hb1, hc1⟩ := HR1.out (k - 1) (by omega)
        obtain ⟨b2, o2, rfl, hb2, hc2⟩ := HR2.out (k - 1) (by omega)
        have hp : 0 < k := by omega
        rcases Nat.lt_trichotomy (da[k - 1]'(by omega)) (db[k - 1]'(by omega)) with hx | hx | hx
        · have HC : Hid (val B32 da < val B32 db) := val_lt_of_digit HV1.out (k - 1) (by omega) (by omega) hx (by rw [Nat.sub_add_cancel hp]; exact HD.out)
          go_wp2_with fail
          go_quiet (fail)
          go_wp2
          go_ret
          refine ⟨?_, by repeat (first | exact ⟨_, rfl⟩ | apply Qt.drewN)⟩
          have := HC.out
          rw [HE1.out, HE2.out] at this
          rw [cmpN_lt this]
          rfl
        · have x1 : ¬ da[k - 1]'(by omega) < db[k - 1]'(by omega) := by omega
          have x2 : ¬ db[k - 1]'(by omega) < da[k - 1]'(by omega) := by omega
          have HX : Hid (da.drop (k - 1) = db.drop (k - 1)) := by
            have h1 := List.drop_eq_getElem_cons (l := da) (i := k - 1) (by omega)
            have h2 := List.drop_eq_getElem_cons (l := db) (i := k - 1) (by omega)
            have h3 := HD.out
            rw [show k = k - 1 + 1 from by omega] at h3
            show _ = _
            rw [h1, h2, hx, h3]
          clear hx
          go_wp2_with fail
          go_quiet (fail)
          go_wp2_with fail
          go_quiet (fail)
          go_wp2
          go_roundw
          case rel => exact ⟨k - 1, by omega, by go_num, HX.out, by repeat (first | exact ⟨_, rfl⟩ | apply Qt.drewN)⟩
          case measure => simp [intOf]; omega
        · have HC : Hid (val B32 db < val B32 da) := val_lt_of_digit HV2.out (k - 1) (by omega) (by omega) hx (by rw [Nat.sub_add_cancel hp]; exact HD.out.symm)
          go_wp2_with fail
          go_quiet (fail)
          go_wp2_with fail
          go_quiet (fail)
          go_wp2
          go_ret
          refine ⟨?_, by repeat (first | exact ⟨_, rfl⟩ | apply Qt.drewN)⟩
          have := HC.out
          rw [HE1.out, HE2.out] at this
          rw [cmpN_gt this]
          rfl
  · have HC := Lib.hid (cmpN_gt (HGT hl))
    clear HLT HGT hv1 hv2 r1 r2 ea eb
    go_enter Tryz.func111, Tryz.ntmps111
    go_wp2_with fail
    refine t1.mono ?_
    rintro e w' ⟨rfl, rfl⟩
    go_wp2_with fail
    refine t2.mono ?_
    rintro e w' ⟨rfl, rfl⟩
    go_wp2_with fail
    go_ret
    exact ⟨by rw [HC.out]; rfl, Qt.refl _⟩
end Go.Proofs.YtehhkeenjlpikaaGreat
