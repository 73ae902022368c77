/- Plain mathematics of numbers as lists of digits: no program in sight. -/
namespace Go.Proofs.Ytfnmbhjifdfibaa
/-- The value of digits, least significant first. -/
def val (B : Nat) : List Nat → Nat
  | [] => 0
  | d :: ds => d + B * val B ds

/-- All digits are less than the base. -/
def Valid (B : Nat) (ds : List Nat) : Prop := ∀ d ∈ ds, d < B

def digsF (B : Nat) : Nat → Nat → List Nat
  | 0, _ => []
  | f + 1, n => if n = 0 then [] else n % B :: digsF B f (n / B)

/-- The digits of a number, least significant first, without leading zeros. -/
def digs (B n : Nat) : List Nat := digsF B n n

/-- Digits without the leading zeros. -/
def trimL (ds : List Nat) : List Nat := (ds.reverse.dropWhile (· == 0)).reverse

theorem val_nil (B : Nat) : val B [] = 0 := rfl
theorem val_cons (B d : Nat) (ds : List Nat) : val B (d :: ds) = d + B * val B ds := rfl

theorem digsF_fuel {B : Nat} (hB : 2 ≤ B) : ∀ (f g n : Nat), n ≤ f → n ≤ g → digsF B f n = digsF B g n := by
  intro f
  induction f with
  | zero => intro g n h1 h2; obtain rfl : n = 0 := by omega
            cases g <;> simp [digsF]
  | succ f ih =>
    intro g n h1 h2
    cases g with
    | zero => obtain rfl : n = 0 := by omega
              simp [digsF]
    | succ g =>
      simp only [digsF]
      split
      · rfl
      · have : n / B < n := Nat.div_lt_self (by omega) (by omega)
        rw [ih g (n / B) (by omega) (by omega)]

theorem digs_zero (B : Nat) : digs B 0 = [] := rfl
theorem digs_pos {B n : Nat} (hB : 2 ≤ B) (hn : n ≠ 0) : digs B n = n % B :: digs B (n / B) := by
  unfold digs
  obtain ⟨m, rfl⟩ : ∃ m, n = m + 1 := ⟨n - 1, by omega⟩
  have : (m + 1) / B < m + 1 := Nat.div_lt_self (by omega) (by omega)
  rw [digsF, if_neg hn, digsF_fuel hB m ((m + 1) / B) _ (by omega) (by omega)]

theorem val_digs {B : Nat} (hB : 2 ≤ B) (n : Nat) : val B (digs B n) = n := by
  induction n using Nat.strongRecOn with
  | ind n ih =>
    by_cases h : n = 0
    · subst h; rfl
    · rw [digs_pos hB h, val_cons, ih _ (Nat.div_lt_self (by omega) (by omega))]
      exact Nat.mod_add_div n B

theorem valid_nil (B : Nat) : Valid B [] := by intro d h; simp at h
theorem valid_cons {B d : Nat} {ds : List Nat} : Valid B (d :: ds) ↔ d < B ∧ Valid B ds := by simp [Valid]
theorem valid_append {B : Nat} {as bs : List Nat} : Valid B (as ++ bs) ↔ Valid B as ∧ Valid B bs := by
  simp only [Valid, List.mem_append]
  exact ⟨fun h => ⟨fun d hd => h d (.inl hd), fun d hd => h d (.inr hd)⟩, fun h d hd => hd.elim (h.1 d) (h.2 d)⟩

theorem valid_digs {B : Nat} (hB : 2 ≤ B) (n : Nat) : Valid B (digs B n) := by
  induction n using Nat.strongRecOn with
  | ind n ih =>
    by_cases h : n = 0
    · subst h; exact valid_nil B
    · rw [digs_pos hB h, valid_cons]
      exact ⟨Nat.mod_lt _ (by omega), ih _ (Nat.div_lt_self (by omega) (by omega))⟩

theorem val_append (B : Nat) (as bs : List Nat) : val B (as ++ bs) = val B as + B ^ as.length * val B bs := by
  induction as with
  | nil => simp [val]
  | cons a as ih => simp only [List.cons_append, val_cons, ih, List.length_cons, Nat.pow_succ, Nat.mul_add]; rw [Nat.mul_comm (B ^ as.length) B, Nat.mul_assoc]; omega

theorem val_lt {B : Nat} {ds : List Nat} (h : Valid B ds) : val B ds < B ^ ds.length := by
  induction ds with
  | nil => simp [val]
  | cons d ds ih =>
    rw [valid_cons] at h
    have := ih h.2
    rw [val_cons, List.length_cons, Nat.pow_succ, Nat.mul_comm (B ^ ds.length) B]
    have : B * (val B ds + 1) ≤ B * B ^ ds.length := Nat.mul_le_mul_left _ this
    rw [Nat.mul_add] at this
    omega

/-- Digits that do not end in a zero are the digits of their value. -/
theorem digs_of_val {B : Nat} (hB : 2 ≤ B) {ds : List Nat} (hv : Valid B ds) (hl : ds.getLast? ≠ some 0) : digs B (val B ds) = ds := by
  induction ds with
  | nil => rfl
  | cons d ds ih =>
    rw [valid_cons] at hv
    have hl' : ds.getLast? ≠ some 0 := by
      cases ds with
      | nil => simp
      | cons e es => simpa [List.getLast?_cons_cons] using hl
    have hne : val B (d :: ds) ≠ 0 := by
      rw [val_cons]
      intro h0
      have hd : d = 0 := by omega
      have hp : B * val B ds = 0 := by omega
      have hz : val B ds = 0 := by
        rcases Nat.mul_eq_zero.1 hp with h | h
        · omega
        · exact h
      have := ih hv.2 hl'
      rw [hz, digs_zero] at this
      subst this
      subst hd
      simp at hl
    rw [digs_pos hB hne, val_cons, Nat.add_mul_mod_self_left, Nat.mod_eq_of_lt hv.1, Nat.add_mul_div_left _ _ (by omega), Nat.div_eq_of_lt hv.1, Nat.zero_add, ih hv.2 hl']

theorem getLast_digs {B : Nat} (hB : 2 ≤ B) (n : Nat) : (digs B n).getLast? ≠ some 0 := by
  induction n using Nat.strongRecOn with
  | ind n ih =>
    by_cases h : n = 0
    · subst h; simp [digs_zero]
    · rw [digs_pos hB h]
      by_cases hq : n / B = 0
      · rw [hq, digs_zero]
        have : n % B = n := Nat.mod_eq_of_lt (by rcases Nat.lt_or_ge n B with h1 | h1
                                                 · exact h1
                                                 · have := Nat.div_pos h1 (by omega); omega)
        simp [this, h]
      · have := ih _ (Nat.div_lt_self (by omega : 0 < n) (by omega : 1 < B))
        rw [digs_pos hB hq] at this ⊢
        simpa [List.getLast?_cons_cons] using this

theorem trimL_nil : trimL [] = [] := rfl
theorem trimL_snoc_zero (ds : List Nat) : trimL (ds ++ [0]) = trimL ds := by simp [trimL]
theorem trimL_snoc {ds : List Nat} {d : Nat} (h : d ≠ 0) : trimL (ds ++ [d]) = ds ++ [d] := by simp [trimL, h]
theorem trimL_val (B : Nat) (ds : List Nat) : val B (trimL ds) = val B ds := by
  induction h : ds.length generalizing ds with
  | zero => rw [List.eq_nil_of_length_eq_zero h]; rfl
  | succ n ih =>
    obtain ⟨es, e, rfl⟩ : ∃ es e, ds = es ++ [e] := by
      refine ⟨ds.dropLast, ds.getLast (by intro h0; simp [h0] at h), (List.dropLast_concat_getLast _).symm⟩
    by_cases he : e = 0
    · subst he
      rw [trimL_snoc_zero, ih es (by simpa using h), val_append]; simp [val]
    · rw [trimL_snoc he]
theorem trimL_last (ds : List Nat) : (trimL ds).getLast? ≠ some 0 := by
  induction h : ds.length generalizing ds with
  | zero => rw [List.eq_nil_of_length_eq_zero h]; simp [trimL_nil]
  | succ n ih =>
    obtain ⟨es, e, rfl⟩ : ∃ es e, ds = es ++ [e] := by
      refine ⟨ds.dropLast, ds.getLast (by intro h0; simp [h0] at h), (List.dropLast_concat_getLast _).symm⟩
    by_cases he : e = 0
    · subst he
      rw [trimL_snoc_zero]; exact ih es (by simpa using h)
    · rw [trimL_snoc he]; simpa using he
theorem trimL_take (ds : List Nat) : ds.take (trimL ds).length = trimL ds := by
  induction h : ds.length generalizing ds with
  | zero => rw [List.eq_nil_of_length_eq_zero h]; rfl
  | succ n ih =>
    obtain ⟨es, e, rfl⟩ : ∃ es e, ds = es ++ [e] := by
      refine ⟨ds.dropLast, ds.getLast (by intro h0; simp [h0] at h), (List.dropLast_concat_getLast _).symm⟩
    by_cases he : e = 0
    · subst he
      have hle : (trimL es).length ≤ es.length := by
        have := ih es (by simpa using h)
        rw [← this]; simp [List.length_take]; omega
      rw [trimL_snoc_zero, List.take_append_of_le_length hle]
      exact ih es (by simpa using h)
    · rw [trimL_snoc he]; exact List.take_of_length_le (Nat.le_refl _)
theorem trimL_le (ds : List Nat) : (trimL ds).length ≤ ds.length := by
  rw [← trimL_take ds]; simp [List.length_take]; omega
theorem trimL_valid {B : Nat} {ds : List Nat} (h : Valid B ds) : Valid B (trimL ds) := by
  rw [← trimL_take ds]; intro d hd; exact h d (List.mem_of_mem_take hd)
theorem trimL_digs {B : Nat} (hB : 2 ≤ B) {ds : List Nat} (h : Valid B ds) : trimL ds = digs B (val B ds) := by
  rw [← trimL_val, digs_of_val hB (trimL_valid h) (trimL_last ds)]
theorem digs_len_le {B n k : Nat} (hB : 2 ≤ B) (h : n < B ^ k) : (digs B n).length ≤ k := by
  induction k generalizing n with
  | zero =>
    have : n = 0 := by simpa using h
    subst this; simp [digs_zero]
  | succ k ih =>
    by_cases h0 : n = 0
    · subst h0; simp [digs_zero]
    · rw [digs_pos hB h0, List.length_cons]
      have : n / B < B ^ k := Nat.div_lt_of_lt_mul (by rw [Nat.mul_comm]; rw [Nat.pow_succ] at h; exact h)
      have := ih this
      omega
theorem lt_pow_len {B : Nat} (hB : 2 ≤ B) (n : Nat) : n < B ^ (digs B n).length := by
  have := val_lt (valid_digs hB n)
  rwa [val_digs hB n] at this
theorem digs_len_mono {B a b : Nat} (hB : 2 ≤ B) (h : a ≤ b) : (digs B a).length ≤ (digs B b).length :=
  digs_len_le hB (Nat.lt_of_le_of_lt h (lt_pow_len hB b))
theorem lt_of_digs_len {B a b : Nat} (hB : 2 ≤ B) (h : (digs B a).length < (digs B b).length) : a < b := by
  rcases Nat.lt_or_ge a b with h1 | h1
  · exact h1
  · have := digs_len_mono hB h1; omega
theorem pow_le_of_len {B n : Nat} (hB : 2 ≤ B) {k : Nat} (h : k < (digs B n).length) : B ^ k ≤ n := by
  rcases Nat.lt_or_ge n (B ^ k) with h1 | h1
  · have := digs_len_le hB h1; omega
  · exact h1
theorem digs_len_add {B : Nat} (hB : 2 ≤ B) (a b : Nat) : (digs B (a + b)).length ≤ max (digs B a).length (digs B b).length + 1 := by
  apply digs_len_le hB
  have h1 := lt_pow_len hB a
  have h2 := lt_pow_len hB b
  have h3 : B ^ (digs B a).length ≤ B ^ max (digs B a).length (digs B b).length := Nat.pow_le_pow_right (by omega) (Nat.le_max_left _ _)
  have h4 : B ^ (digs B b).length ≤ B ^ max (digs B a).length (digs B b).length := Nat.pow_le_pow_right (by omega) (Nat.le_max_right _ _)
  rw [Nat.pow_succ]
  have : 2 * B ^ max (digs B a).length (digs B b).length ≤ B ^ max (digs B a).length (digs B b).length * B := by rw [Nat.mul_comm]; exact Nat.mul_le_mul_left _ hB
  omega
theorem digs_len_mul {B : Nat} (hB : 2 ≤ B) (a b : Nat) : (digs B (a * b)).length ≤ (digs B a).length + (digs B b).length := by
  apply digs_len_le hB
  rw [Nat.pow_add]
  have h1 := lt_pow_len hB a
  have h2 := lt_pow_len hB b
  exact Nat.mul_lt_mul_of_lt_of_le h1 (Nat.le_of_lt h2) (Nat.pow_pos (by omega))
theorem digs_eq_nil {B n : Nat} (hB : 2 ≤ B) : digs B n = [] ↔ n = 0 := by
  constructor
  · intro h
    have := val_digs hB n
    rw [h] at this
    exact this.symm
  · rintro rfl; rfl
theorem digs_inj {B a b : Nat} (hB : 2 ≤ B) (h : digs B a = digs B b) : a = b := by
  rw [← val_digs hB a, h, val_digs hB]
theorem val_snoc (B : Nat) (ds : List Nat) (d : Nat) : val B (ds ++ [d]) = val B ds + B ^ ds.length * d := by
  rw [val_append]; simp [val]
theorem val_take_succ (B : Nat) (ds : List Nat) (i : Nat) (h : i < ds.length) : val B (ds.take (i + 1)) = val B (ds.take i) + B ^ i * ds[i] := by
  rw [List.take_succ_eq_append_getElem h, val_snoc, List.length_take, Nat.min_eq_left (by omega)]
theorem val_split (B : Nat) (ds : List Nat) (i : Nat) : val B ds = val B (ds.take i) + B ^ i * val B (ds.drop i) := by
  rcases Nat.lt_or_ge ds.length i with h | h
  · rw [List.take_of_length_le (by omega), List.drop_of_length_le (by omega)]; simp [val]
  · conv => lhs; rw [← List.take_append_drop i ds, val_append, List.length_take, Nat.min_eq_left h]
theorem val_drop (B : Nat) (ds : List Nat) (i : Nat) (h : i < ds.length) : val B (ds.drop i) = ds[i] + B * val B (ds.drop (i + 1)) := by
  rw [List.drop_eq_getElem_cons h, val_cons]
theorem val_replicate (B n : Nat) : val B (List.replicate n 0) = 0 := by
  induction n with
  | zero => rfl
  | succ n ih => rw [List.replicate_succ, val_cons, ih]; simp
theorem valid_take {B : Nat} {ds : List Nat} (h : Valid B ds) (n : Nat) : Valid B (ds.take n) := fun d hd => h d (List.mem_of_mem_take hd)
theorem valid_drop {B : Nat} {ds : List Nat} (h : Valid B ds) (n : Nat) : Valid B (ds.drop n) := fun d hd => h d (List.mem_of_mem_drop hd)
theorem valid_get {B : Nat} {ds : List Nat} (h : Valid B ds) (i : Nat) (hi : i < ds.length) : ds[i] < B := h _ (List.getElem_mem hi)
theorem valid_set {B : Nat} {ds : List Nat} (h : Valid B ds) (i v : Nat) (hv : v < B) : Valid B (ds.set i v) := by
  intro d hd
  rcases List.mem_or_eq_of_mem_set hd with h1 | h1
  · exact h d h1
  · omega
theorem valid_replicate {B : Nat} (hB : 0 < B) (n : Nat) : Valid B (List.replicate n 0) := by
  intro d hd
  rw [(List.mem_replicate.1 hd).2]; exact hB
/-- Digits compared from the highest one. -/
theorem val_lt_of_digit {B : Nat} {as bs : List Nat} (ha : Valid B as) (i : Nat) (h1 : i < as.length) (h2 : i < bs.length)
    (hd : as[i] < bs[i]) (he : as.drop (i + 1) = bs.drop (i + 1)) : val B as < val B bs := by
  rw [val_split B as i, val_split B bs i, val_drop B as i h1, val_drop B bs i h2, he]
  have h3 : val B (as.take i) < B ^ i := by
    have := val_lt (valid_take ha i)
    rwa [List.length_take, Nat.min_eq_left (by omega)] at this
  have h4 : B ^ i * (as[i] + B * val B (bs.drop (i + 1)) + 1) ≤ B ^ i * (bs[i] + B * val B (bs.drop (i + 1))) := Nat.mul_le_mul_left _ (by omega)
  rw [Nat.mul_add _ _ 1] at h4
  omega
/-- The order of two numbers: -1, 0, 1. -/
def cmpN (a b : Nat) : Int := if a < b then -1 else if b < a then 1 else 0
theorem cmpN_lt {a b : Nat} (h : a < b) : cmpN a b = -1 := if_pos h
theorem cmpN_gt {a b : Nat} (h : b < a) : cmpN a b = 1 := by unfold cmpN; rw [if_neg (by omega), if_pos h]
theorem cmpN_eq (a : Nat) : cmpN a a = 0 := by unfold cmpN; rw [if_neg (by omega), if_neg (by omega)]
/-- Bit i of a number. -/
def bitN (n i : Nat) : Nat := n / 2 ^ i % 2
theorem bitN_lt (n i : Nat) : bitN n i < 2 := Nat.mod_lt _ (by omega)
def bitsUpto (n k : Nat) : List Nat := (List.range k).map (bitN n)
theorem bitsUpto_succ (n k : Nat) : bitsUpto n (k + 1) = bitsUpto n k ++ [bitN n k] := by simp [bitsUpto, List.range_succ]
theorem bitsUpto_length (n k : Nat) : (bitsUpto n k).length = k := by simp [bitsUpto]
theorem bitsUpto_valid (n k : Nat) : Valid 2 (bitsUpto n k) := by
  intro d hd
  simp only [bitsUpto, List.mem_map] at hd
  obtain ⟨i, _, rfl⟩ := hd
  exact bitN_lt n i
theorem bitsUpto_val (n k : Nat) : val 2 (bitsUpto n k) = n % 2 ^ k := by
  induction k with
  | zero => simp [bitsUpto, val, Nat.mod_one]
  | succ k ih => rw [bitsUpto_succ, val_snoc, ih, bitsUpto_length, Nat.mod_pow_succ, bitN]
theorem digs_bits (n : Nat) : digs 2 n = bitsUpto n (digs 2 n).length := by
  have h1 : val 2 (bitsUpto n (digs 2 n).length) = n := by
    rw [bitsUpto_val]; exact Nat.mod_eq_of_lt (lt_pow_len (by omega) n)
  have h2 : trimL (bitsUpto n (digs 2 n).length) = digs 2 n := by
    rw [trimL_digs (by omega) (bitsUpto_valid n _), h1]
  have h3 := trimL_take (bitsUpto n (digs 2 n).length)
  rw [h2, List.take_of_length_le (by rw [bitsUpto_length]; exact Nat.le_refl _)] at h3
  exact h3.symm
theorem digs_get {n i : Nat} (h : i < (digs 2 n).length) : (digs 2 n)[i] = bitN n i := by
  have h1 := digs_bits n
  have h2 : (digs 2 n)[i]? = (bitsUpto n (digs 2 n).length)[i]? := by rw [← h1]
  rw [List.getElem?_eq_getElem h] at h2
  simp [bitsUpto, h] at h2
  exact h2
theorem bitN_zero_of_len {n i : Nat} (h : (digs 2 n).length ≤ i) : bitN n i = 0 := by
  have h1 := lt_pow_len (B := 2) (by omega) n
  have h2 : 2 ^ (digs 2 n).length ≤ 2 ^ i := Nat.pow_le_pow_right (by omega) h
  unfold bitN
  rw [Nat.div_eq_of_lt (by omega)]
/-- A bit out of the digit that holds it. -/
theorem bitN_digit {ds : List Nat} (hv : Valid 4294967296 ds) (k : Nat) (h : k / 32 < ds.length) : bitN (val 4294967296 ds) k = ds[k / 32] / 2 ^ (k % 32) % 2 := by
  have hp : 4294967296 ^ (k / 32) = 2 ^ (32 * (k / 32)) := by rw [Nat.pow_mul]
  have hk : k = 32 * (k / 32) + k % 32 := (Nat.div_add_mod k 32).symm
  have hl : val 4294967296 (ds.take (k / 32)) < 2 ^ (32 * (k / 32)) := by
    have := val_lt (valid_take hv (k / 32))
    rwa [List.length_take, Nat.min_eq_left (by omega), hp] at this
  unfold bitN
  rw [val_split _ ds (k / 32), val_drop _ ds (k / 32) h, hp]
  have hk2 : 2 ^ k = 2 ^ (32 * (k / 32)) * 2 ^ (k % 32) := by rw [← Nat.pow_add, ← hk]
  rw [hk2]
  clear hk hk2
  have hr : k % 32 < 32 := Nat.mod_lt _ (by omega)
  generalize val 4294967296 (ds.drop (k / 32 + 1)) = R
  generalize ds[k / 32] = d
  generalize val 4294967296 (ds.take (k / 32)) = L at *
  generalize 2 ^ (32 * (k / 32)) = P at *
  rw [← Nat.div_div_eq_div_mul, Nat.add_mul_div_left _ _ (by omega), Nat.div_eq_of_lt hl, Nat.zero_add]
  generalize k % 32 = r at *
  have hB : (4294967296 : Nat) = 2 ^ r * (2 * 2 ^ (31 - r)) := by
    rw [← Nat.pow_succ', ← Nat.pow_add, show r + (31 - r).succ = 32 from by omega]
  rw [hB, Nat.mul_assoc, Nat.add_mul_div_left _ _ (Nat.two_pow_pos r), Nat.mul_assoc]
  omega
theorem take_set_lt {zs : List Nat} {k v : Nat} (h : k < zs.length) : (zs.set k v).take (k + 1) = zs.take k ++ [v] := by
  rw [List.take_succ_eq_append_getElem (by simpa using h), List.take_set_of_le (Nat.le_refl _)]; simp
theorem val_set (B : Nat) {zs : List Nat} {k v : Nat} (h : k < zs.length) : val B ((zs.set k v).take (k + 1)) = val B (zs.take k) + B ^ k * v := by
  rw [take_set_lt h, val_snoc, List.length_take, Nat.min_eq_left (by omega)]

/-- One digit: sum and carry. -/
theorem carry_step {B P X Y Z c x y : Nat} (h : Z + P * c = X + Y) : Z + P * ((x + y + c) % B) + P * B * ((x + y + c) / B) = X + P * x + (Y + P * y) := by
  have h1 : P * ((x + y + c) % B) + P * B * ((x + y + c) / B) = P * (x + y + c) := by
    rw [Nat.mul_assoc, ← Nat.mul_add, Nat.mod_add_div]
  rw [Nat.add_assoc, h1, Nat.mul_add, Nat.mul_add]
  omega

/-- One digit: difference and borrow. -/
theorem borrow_step {B P X Y Z c x y d b : Nat} (h : Z + Y = X + P * c) (hd : d + y + c = x + B * b) : Z + P * d + (Y + P * y) = X + P * x + P * B * b := by
  have h1 : P * (d + y + c) = P * (x + B * b) := by rw [hd]
  rw [Nat.mul_add, Nat.mul_add, Nat.mul_add] at h1
  rw [Nat.mul_assoc]
  omega

/-- Digits shifted right by s bits. -/
def shrD (s : Nat) : List Nat → List Nat
  | [] => []
  | d :: ds => (d + 4294967296 * ds.headD 0) / 2 ^ s % 4294967296 :: shrD s ds
theorem shrD_length (s : Nat) (ds : List Nat) : (shrD s ds).length = ds.length := by
  induction ds with
  | nil => rfl
  | cons d ds ih => simp [shrD, ih]
theorem shrD_get (s : Nat) (ds : List Nat) (i : Nat) (h : i < (shrD s ds).length) : (shrD s ds)[i] = ((ds[i]'(by rwa [shrD_length] at h)) + 4294967296 * (ds[i + 1]?.getD 0)) / 2 ^ s % 4294967296 := by
  induction ds generalizing i with
  | nil => simp [shrD] at h
  | cons d ds ih =>
    cases i with
    | zero =>
      cases ds <;> simp [shrD]
    | succ i =>
      simp only [shrD, List.getElem_cons_succ, List.getElem?_cons_succ]
      exact ih i (by simpa [shrD] using h)
theorem shrD_valid (s : Nat) (ds : List Nat) : Valid 4294967296 (shrD s ds) := by
  induction ds with
  | nil => exact valid_nil _
  | cons d ds ih => rw [shrD, valid_cons]; exact ⟨Nat.mod_lt _ (by omega), ih⟩
theorem head_mod {ds : List Nat} (hv : Valid 4294967296 ds) : val 4294967296 ds % 4294967296 = ds.headD 0 := by
  cases ds with
  | nil => rfl
  | cons d ds =>
    rw [valid_cons] at hv
    rw [val_cons, Nat.add_mul_mod_self_left, Nat.mod_eq_of_lt hv.1]; rfl
theorem shrD_val {s : Nat} (hs : s < 32) {ds : List Nat} (hv : Valid 4294967296 ds) : val 4294967296 (shrD s ds) = val 4294967296 ds / 2 ^ s := by
  induction ds with
  | nil => simp [shrD, val]
  | cons d ds ih =>
    have hv' := hv
    rw [valid_cons] at hv
    rw [shrD, val_cons, ih hv.2, val_cons, ← head_mod hv.2]
    have hB : (4294967296 : Nat) = 2 ^ s * 2 ^ (32 - s) := by rw [← Nat.pow_add, show s + (32 - s) = 32 from by omega]
    have hp : 0 < 2 ^ s := Nat.two_pow_pos s
    generalize val 4294967296 ds = v at *
    have hd := hv.1
    -- v = q * 2^s + r
    have hv1 : v = 2 ^ s * (v / 2 ^ s) + v % 2 ^ s := (Nat.div_add_mod v (2 ^ s)).symm
    have hr : v % 2 ^ s < 2 ^ s := Nat.mod_lt _ hp
    have e1 : v % 4294967296 % 2 ^ s = v % 2 ^ s := by
      rw [hB, Nat.mod_mul_right_mod]
    have hm1 : v % 4294967296 = 2 ^ s * (v % 4294967296 / 2 ^ s) + v % 2 ^ s := by
      conv => lhs; rw [← Nat.div_add_mod (v % 4294967296) (2 ^ s), e1]
    generalize hq : v / 2 ^ s = q at *
    generalize hr' : v % 2 ^ s = r at *
    generalize hq2 : v % 4294967296 / 2 ^ s = q2 at *
    have hlt : (d + 4294967296 * r) / 2 ^ s < 4294967296 := by
      apply Nat.div_lt_of_lt_mul
      have : 4294967296 * (r + 1) ≤ 4294967296 * 2 ^ s := Nat.mul_le_mul_left _ hr
      rw [Nat.mul_comm (2 ^ s)]
      omega
    have e2 : (d + 4294967296 * (v % 4294967296)) / 2 ^ s = (d + 4294967296 * r) / 2 ^ s + 4294967296 * q2 := by
      have h3 : d + 4294967296 * (v % 4294967296) = d + 4294967296 * r + 2 ^ s * (4294967296 * q2) := by
        rw [hm1, Nat.mul_add, ← Nat.mul_assoc 4294967296 (2 ^ s), Nat.mul_comm 4294967296 (2 ^ s), Nat.mul_assoc]; omega
      rw [h3, Nat.add_mul_div_left _ _ hp]
    have e3 : (d + 4294967296 * v) / 2 ^ s = (d + 4294967296 * r) / 2 ^ s + 4294967296 * q := by
      have h3 : d + 4294967296 * v = d + 4294967296 * r + 2 ^ s * (4294967296 * q) := by
        rw [hv1, Nat.mul_add, ← Nat.mul_assoc 4294967296 (2 ^ s), Nat.mul_comm 4294967296 (2 ^ s), Nat.mul_assoc]; omega
      rw [h3, Nat.add_mul_div_left _ _ hp]
    rw [e2, e3, Nat.add_mul_mod_self_left, Nat.mod_eq_of_lt hlt]
theorem val_drop_div {B : Nat} (hB : 2 ≤ B) {ds : List Nat} (hv : Valid B ds) (w : Nat) : val B (ds.drop w) = val B ds / B ^ w := by
  rcases Nat.lt_or_ge ds.length w with h | h
  · have h1 := val_lt hv
    have h2 : B ^ ds.length ≤ B ^ w := Nat.pow_le_pow_right (by omega) (by omega)
    rw [List.drop_of_length_le (by omega), Nat.div_eq_of_lt (by omega)]; rfl
  · have h1 := val_lt (valid_take hv w)
    rw [List.length_take, Nat.min_eq_left h] at h1
    rw [val_split B ds w, Nat.add_mul_div_left _ _ (Nat.pow_pos (by omega)), Nat.div_eq_of_lt h1, Nat.zero_add]
/-- A digit shifted left: its two parts, the lower one free below bit s. -/
theorem shl_digit {x s old : Nat} (hs : s < 32) (hx : x < 4294967296) (ho : old < 2 ^ s) :
    old ||| x * 2 ^ s % 4294967296 = old + x * 2 ^ s % 4294967296 ∧ old + x * 2 ^ s % 4294967296 < 4294967296 ∧ x * 2 ^ s / 4294967296 < 2 ^ s ∧ x * 2 ^ s < 18446744073709551616 := by
  have hB : (4294967296 : Nat) = 2 ^ s * 2 ^ (32 - s) := by rw [← Nat.pow_add, show s + (32 - s) = 32 from by omega]
  have hp : 0 < 2 ^ s := Nat.two_pow_pos s
  have e1 : x * 2 ^ s % 4294967296 = 2 ^ s * (x % 2 ^ (32 - s)) := by
    rw [hB, Nat.mul_comm x, Nat.mul_mod_mul_left]
  have h2 : x % 2 ^ (32 - s) < 2 ^ (32 - s) := Nat.mod_lt _ (Nat.two_pow_pos _)
  have h3 : 2 ^ s * (x % 2 ^ (32 - s) + 1) ≤ 2 ^ s * 2 ^ (32 - s) := Nat.mul_le_mul_left _ h2
  have h4 : x * 2 ^ s < 4294967296 * 2 ^ s := Nat.mul_lt_mul_of_pos_right hx hp
  have h5 : 2 ^ s ≤ 2 ^ 31 := Nat.pow_le_pow_right (by omega) (by omega)
  refine ⟨?_, ?_, Nat.div_lt_of_lt_mul h4, ?_⟩
  · rw [e1, Nat.or_comm, ← Nat.two_pow_add_eq_or_of_lt ho, Nat.add_comm]
  · rw [e1, hB]
    rw [Nat.mul_add] at h3
    omega
  · have : 4294967296 * 2 ^ s ≤ 4294967296 * 2 ^ 31 := Nat.mul_le_mul_left _ h5
    omega
theorem shl_math {B P X Z x t old low hi : Nat} (h : Z + P * old = X) (hx : low + B * hi = x * t) : Z + P * (old + low) + P * B * hi = X + P * (x * t) := by
  rw [← hx, Nat.mul_add, Nat.mul_add, Nat.mul_assoc]
  omega
theorem set_add (B : Nat) {zs : List Nat} {q e : Nat} (h : q < zs.length) : val B (zs.set q (zs[q] + e)) = val B zs + B ^ q * e := by
  have h1 := val_split B (zs.set q (zs[q] + e)) (q + 1)
  have h2 := val_split B zs (q + 1)
  rw [val_set B h, List.drop_set_of_lt (by omega), Nat.mul_add] at h1
  rw [val_take_succ B zs q h] at h2
  omega
theorem digit_le (B : Nat) {zs : List Nat} {q : Nat} (h : q < zs.length) : B ^ q * zs[q] ≤ val B zs := by
  have h2 := val_split B zs (q + 1)
  rw [val_take_succ B zs q h] at h2
  omega
/-- A bit laid into the digit that holds it, base 2^K. -/
theorem lay_bit {K n i : Nat} {zs : List Nat} (hK : 0 < K) (hq : i / K < zs.length) (he : val (2 ^ K) zs = n % 2 ^ i) :
    zs[i / K] + bitN n i * 2 ^ (i % K) < 2 ^ K ∧ val (2 ^ K) (zs.set (i / K) (zs[i / K] + bitN n i * 2 ^ (i % K))) = n % 2 ^ (i + 1) := by
  have hB : (2 ^ K) ^ (i / K) = 2 ^ (K * (i / K)) := by rw [Nat.pow_mul]
  have hi : 2 ^ i = 2 ^ (K * (i / K)) * 2 ^ (i % K) := by rw [← Nat.pow_add, Nat.div_add_mod]
  have hlt : n % 2 ^ i < 2 ^ i := Nat.mod_lt _ (Nat.two_pow_pos _)
  have hz : zs[i / K] < 2 ^ (i % K) := by
    have h3 := digit_le (2 ^ K) hq
    rw [hB, he] at h3
    have h4 : 2 ^ (K * (i / K)) * zs[i / K] < 2 ^ (K * (i / K)) * 2 ^ (i % K) := by rw [← hi]; omega
    exact Nat.lt_of_mul_lt_mul_left h4
  have hb := bitN_lt n i
  constructor
  · have hr : i % K < K := Nat.mod_lt _ hK
    have h4 : 2 * 2 ^ (i % K) ≤ 2 ^ K := by rw [← Nat.pow_succ']; exact Nat.pow_le_pow_right (by omega) hr
    have h5 : bitN n i * 2 ^ (i % K) ≤ 1 * 2 ^ (i % K) := Nat.mul_le_mul_right _ (by omega)
    omega
  · have e3 : n % 2 ^ (i + 1) = n % 2 ^ i + 2 ^ i * bitN n i := Nat.mod_pow_succ
    have e4 : 2 ^ i * bitN n i = 2 ^ (K * (i / K)) * (bitN n i * 2 ^ (i % K)) := by rw [hi, Nat.mul_assoc, Nat.mul_comm (bitN n i)]
    rw [set_add _ hq, he, e3, e4, hB]
/-- A bit out of the digit that holds it, base 2^K. -/
theorem bitN_digitK {K : Nat} (hK : 0 < K) {ds : List Nat} (hv : Valid (2 ^ K) ds) (k : Nat) (h : k / K < ds.length) : bitN (val (2 ^ K) ds) k = ds[k / K] / 2 ^ (k % K) % 2 := by
  have hp : (2 ^ K) ^ (k / K) = 2 ^ (K * (k / K)) := by rw [Nat.pow_mul]
  have hk : k = K * (k / K) + k % K := (Nat.div_add_mod k K).symm
  have hl : val (2 ^ K) (ds.take (k / K)) < 2 ^ (K * (k / K)) := by
    have := val_lt (valid_take hv (k / K))
    rwa [List.length_take, Nat.min_eq_left (by omega), hp] at this
  unfold bitN
  rw [val_split _ ds (k / K), val_drop _ ds (k / K) h, hp]
  have hk2 : 2 ^ k = 2 ^ (K * (k / K)) * 2 ^ (k % K) := by rw [← Nat.pow_add, ← hk]
  rw [hk2]
  clear hk hk2
  have hr : k % K < K := Nat.mod_lt _ hK
  generalize val (2 ^ K) (ds.drop (k / K + 1)) = R
  generalize ds[k / K] = d
  generalize val (2 ^ K) (ds.take (k / K)) = L at *
  generalize 2 ^ (K * (k / K)) = P at *
  rw [← Nat.div_div_eq_div_mul, Nat.add_mul_div_left _ _ (by omega), Nat.div_eq_of_lt hl, Nat.zero_add]
  generalize k % K = r at *
  have hB : (2 ^ K : Nat) = 2 ^ r * (2 * 2 ^ (K - 1 - r)) := by
    rw [← Nat.pow_succ', ← Nat.pow_add, show r + (K - 1 - r).succ = K from by omega]
  rw [hB, Nat.mul_assoc, Nat.add_mul_div_left _ _ (Nat.two_pow_pos r), Nat.mul_assoc]
  omega
theorem sb_math {B P X Z S Y c x y old s c' : Nat} (h : S + P * X * c = Z + P * (x * Y)) (hs : s + B * c' = x * y + old + c) :
    S + P * X * s + P * (X * B) * c' = Z + P * X * old + P * (x * (Y + X * y)) := by
  have h1 : P * X * (s + B * c') = P * X * (x * y + old + c) := by rw [hs]
  rw [Nat.mul_add, Nat.mul_add, Nat.mul_add] at h1
  have e1 : P * (X * B) * c' = P * X * (B * c') := by rw [← Nat.mul_assoc P X B, Nat.mul_assoc (P * X) B c']
  have e2 : P * (x * (Y + X * y)) = P * (x * Y) + P * X * (x * y) := by
    rw [Nat.mul_add, Nat.mul_add, Nat.mul_assoc P X, ← Nat.mul_assoc x X y, Nat.mul_comm x X, Nat.mul_assoc X x y]
  rw [e1, e2]
  omega

end Go.Proofs.Ytfnmbhjifdfibaa
