/- Digits of a number in a base as text: plain mathematics. -/
import Derived.Test.YtfnmbhjifdfibaaNum
namespace Go.Proofs.Ytfnmbhjifdfibaa

/-- The lowest c digits, padded by zeros. -/
def padded (b : Nat) : Nat → Nat → List Nat
  | 0, _ => []
  | c + 1, m => m % b :: padded b c (m / b)
theorem padded_length (b : Nat) : ∀ c m, (padded b c m).length = c
  | 0, _ => rfl
  | c + 1, m => by show (padded b c (m / b)).length + 1 = _; rw [padded_length b c]
theorem div_pow_succ' (b n c : Nat) : n / b / b ^ c = n / b ^ (c + 1) := by rw [Nat.div_div_eq_div_mul, Nat.pow_succ, Nat.mul_comm]
theorem digs_split {b : Nat} (hb : 2 ≤ b) : ∀ c n, n / b ^ c ≠ 0 → digs b n = padded b c n ++ digs b (n / b ^ c)
  | 0, n, _ => by simp [padded]
  | c + 1, n, h => by
    have hn : n ≠ 0 := fun e => h (by rw [e, Nat.zero_div])
    rw [digs_pos hb hn, digs_split hb c (n / b) (by rw [div_pow_succ']; exact h), div_pow_succ']
    rfl
theorem mod_pow_mod (b n c : Nat) : n % b ^ (c + 1) % b = n % b := Nat.mod_mod_of_dvd n (by rw [Nat.pow_succ]; exact Nat.dvd_mul_left b (b ^ c))
theorem mod_pow_div (b n c : Nat) : n % b ^ (c + 1) / b = n / b % b ^ c := by rw [Nat.pow_succ, Nat.mul_comm, Nat.mod_mul_right_div_self]
theorem padded_mod (b : Nat) : ∀ c n, padded b c (n % b ^ c) = padded b c n
  | 0, _ => rfl
  | c + 1, n => by
    show n % b ^ (c + 1) % b :: padded b c (n % b ^ (c + 1) / b) = n % b :: padded b c (n / b)
    rw [mod_pow_mod, mod_pow_div, padded_mod b c]
theorem padded_valid {b : Nat} (hb : 0 < b) : ∀ c n, Valid b (padded b c n)
  | 0, _ => valid_nil b
  | c + 1, _ => valid_cons.2 ⟨Nat.mod_lt _ hb, padded_valid hb c _⟩
/-- The sign of a digit. -/
def sym (d : Nat) : Nat := if d < 10 then 48 + d else 87 + d
theorem sym_lt {d : Nat} (h : d < 36) : sym d < 128 := by unfold sym; split <;> omega
theorem sym_inj {d e : Nat} (h1 : d < 36) (h2 : e < 36) (h : sym d = sym e) : d = e := by unfold sym at h; split at h <;> split at h <;> omega
theorem sym_ne {d : Nat} : sym d ≠ 45 := by unfold sym; split <;> omega
/-- The text of an integer in a base: its bytes as numbers. -/
def fmtL (b : Nat) (x : Int) : List Nat := (if x < 0 then [45] else []) ++ (if x = 0 then [48] else ((digs b x.natAbs).map sym).reverse)
/-- The digits of 0 in a text are one zero. -/
def digs1 (b n : Nat) : List Nat := if n = 0 then [0] else digs b n
theorem fmtL_eq (b : Nat) (x : Int) : fmtL b x = (if x < 0 then [45] else []) ++ ((digs1 b x.natAbs).map sym).reverse := by
  unfold fmtL digs1
  congr 1
  by_cases h : x = 0
  · rw [if_pos h, if_pos (by omega)]; rfl
  · rw [if_neg h, if_neg (by omega)]
theorem map_sym_inj : ∀ {as bs : List Nat}, (∀ a ∈ as, a < 36) → (∀ b ∈ bs, b < 36) → as.map sym = bs.map sym → as = bs
  | [], [], _, _, _ => rfl
  | [], b :: bs, _, _, h => by simp at h
  | a :: as, [], _, _, h => by simp at h
  | a :: as, b :: bs, h1, h2, h => by
    rw [List.map_cons, List.map_cons] at h
    injection h with e1 e2
    rw [sym_inj (h1 a (List.mem_cons_self ..)) (h2 b (List.mem_cons_self ..)) e1, map_sym_inj (fun x hx => h1 x (List.mem_cons_of_mem _ hx)) (fun x hx => h2 x (List.mem_cons_of_mem _ hx)) e2]
theorem digs1_valid {b : Nat} (hb : 2 ≤ b) (n : Nat) : Valid b (digs1 b n) := by
  unfold digs1
  split
  · intro d hd; simp at hd; omega
  · exact valid_digs hb n
theorem val_digs1 {b : Nat} (hb : 2 ≤ b) (n : Nat) : val b (digs1 b n) = n := by
  unfold digs1
  split
  · rename_i h; rw [h]; rfl
  · exact val_digs hb n
/-- A list of digits is the text's list of its value: no zero ahead, but for the one digit 0. -/
theorem digs1_of_val {b : Nat} (hb : 2 ≤ b) {ds : List Nat} (hv : Valid b ds) (h : ds.getLast? ≠ some 0 ∧ ds ≠ [] ∨ ds = [0]) : digs1 b (val b ds) = ds := by
  rcases h with ⟨h1, h2⟩ | h
  · have e := digs_of_val hb hv h1
    unfold digs1
    split
    · rename_i h0
      rw [h0, digs_zero] at e
      exact absurd e.symm h2
    · exact e
  · subst h; rfl
theorem digs1_inj {b m n : Nat} (hb : 2 ≤ b) (h : digs1 b m = digs1 b n) : m = n := by
  have := congrArg (val b) h
  rwa [val_digs1 hb, val_digs1 hb] at this
theorem no_minus (ds : List Nat) (xs : List Nat) : (ds.map sym).reverse ≠ 45 :: xs := fun h => by
  have h1 : (45 : Nat) ∈ (ds.map sym).reverse := by rw [h]; exact List.mem_cons_self ..
  rw [List.mem_reverse, List.mem_map] at h1
  obtain ⟨d, _, hd⟩ := h1
  exact sym_ne hd
theorem fmtL_inj {b : Nat} {x y : Int} (hb : 2 ≤ b) (hb2 : b ≤ 36) (h : fmtL b x = fmtL b y) : x = y := by
  rw [fmtL_eq, fmtL_eq] at h
  have key : ((digs1 b x.natAbs).map sym).reverse = ((digs1 b y.natAbs).map sym).reverse → x.natAbs = y.natAbs := fun e => by
    have e1 := congrArg List.reverse e
    rw [List.reverse_reverse, List.reverse_reverse] at e1
    exact digs1_inj hb (map_sym_inj (fun a ha => Nat.lt_of_lt_of_le (digs1_valid hb _ a ha) hb2) (fun a ha => Nat.lt_of_lt_of_le (digs1_valid hb _ a ha) hb2) e1)
  by_cases h1 : x < 0 <;> by_cases h2 : y < 0
  · rw [if_pos h1, if_pos h2] at h
    have := key (List.append_cancel_left h)
    omega
  · rw [if_pos h1, if_neg h2] at h
    exact absurd h.symm (no_minus _ _)
  · rw [if_neg h1, if_pos h2] at h
    exact absurd h (no_minus _ _)
  · rw [if_neg h1, if_neg h2] at h
    have := key h
    omega
/-- What reading a text from its beginning reckons. -/
theorem fold_val (b : Nat) : ∀ (es : List Nat) (a : Nat), es.foldl (fun a d => a * b + d) a = a * b ^ es.length + val b es.reverse
  | [], a => by simp [val]
  | e :: es, a => by
    rw [List.foldl_cons, fold_val b es, List.reverse_cons, val_snoc, List.length_reverse, List.length_cons, Nat.pow_succ, Nat.add_mul, Nat.mul_assoc, Nat.mul_comm b, Nat.mul_comm e]
    omega
/-- The digits of a text, in reading order, without a zero ahead that does not stand alone. -/
def Lead (es : List Nat) : Prop := es ≠ [] ∧ (es.head? = some 0 → es = [0])
theorem digs1_read {b : Nat} (hb : 2 ≤ b) {es : List Nat} (hv : Valid b es) (h : Lead es) : digs1 b (val b es.reverse) = es.reverse := by
  refine digs1_of_val hb (fun d hd => hv d (List.mem_reverse.1 hd)) ?_
  by_cases h0 : es.head? = some 0
  · right; rw [h.2 h0]; rfl
  · left
    exact ⟨by rw [List.getLast?_reverse]; exact h0, by simpa using h.1⟩
theorem lead_digs1 {b : Nat} (hb : 2 ≤ b) (n : Nat) : Lead (digs1 b n).reverse := by
  unfold digs1 Lead
  split
  · simp
  · rename_i h
    have h1 : digs b n ≠ [] := fun e => h ((digs_eq_nil hb).1 e)
    refine ⟨by simpa using h1, fun e => ?_⟩
    rw [List.head?_reverse] at e
    exact absurd e (getLast_digs hb n)
/-- A well formed text is the text of the integer that it reads as. -/
theorem fmtL_read {b : Nat} (hb : 2 ≤ b) {neg : Bool} {es : List Nat} (hv : Valid b es) (hl : Lead es) (hn : neg = true → es ≠ [0]) :
    fmtL b (if neg then -(val b es.reverse : Int) else (val b es.reverse : Int)) = (if neg then [45] else []) ++ es.map sym := by
  have hd := digs1_read hb hv hl
  have hm : ((digs1 b (val b es.reverse)).map sym).reverse = es.map sym := by rw [hd, List.map_reverse, List.reverse_reverse]
  cases neg
  · rw [fmtL_eq, if_neg (by simp), if_neg (by simp), if_neg (by simp), Int.natAbs_natCast, hm]
  · have hz : val b es.reverse ≠ 0 := fun e => by
      rw [e] at hd
      have h1 : es.reverse = [0] := hd.symm
      have h2 := congrArg List.reverse h1
      rw [List.reverse_reverse] at h2
      exact hn rfl h2
    rw [fmtL_eq, if_pos rfl, if_pos rfl, if_pos (by omega), Int.natAbs_neg, Int.natAbs_natCast, hm]
/-- The text of an integer is well formed. -/
theorem fmtL_form {b : Nat} (hb : 2 ≤ b) (x : Int) : ∃ es : List Nat, Valid b es ∧ Lead es ∧ (x < 0 → es ≠ [0]) ∧ val b es.reverse = x.natAbs ∧ fmtL b x = (if x < 0 then [45] else []) ++ es.map sym := by
  refine ⟨(digs1 b x.natAbs).reverse, fun d hd => digs1_valid hb _ d (List.mem_reverse.1 hd), lead_digs1 hb _, fun hx e => ?_, by rw [List.reverse_reverse, val_digs1 hb], ?_⟩
  · have h1 := congrArg List.reverse e
    rw [List.reverse_reverse] at h1
    have h2 := val_digs1 hb x.natAbs
    rw [h1] at h2
    have : val b ([0] : List Nat).reverse = 0 := rfl
    omega
  · rw [fmtL_eq, List.map_reverse]
end Go.Proofs.Ytfnmbhjifdfibaa
