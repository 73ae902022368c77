/- Division of long numbers (Knuth's algorithm D): plain mathematics. -/
import Derived.Test.YtfnmbhjifdfibaaNum
namespace Go.Proofs.Ytfnmbhjifdfibaa

/-- What the estimate of a digit gives: the greatest digit whose multiple of the two highest digits does not exceed the three highest. -/
structure Est (B U3 V2 D : Nat) : Prop where
  lt : D < B
  le : D * V2 ≤ U3
  max : ∀ d, d < B → d * V2 ≤ U3 → d ≤ D
/-- The estimate is not too small. -/
theorem Est.ge {B U3 V2 D β w0 x0 W V q : Nat} (h : Est B U3 V2 D) (hW : W = w0 + β * U3) (hV : V = x0 + β * V2) (hw : w0 < β) (hq : q < B) (hqv : q * V ≤ W) : q ≤ D := by
  refine h.max q hq ?_
  have h1 : q * (β * V2) ≤ q * V := Nat.mul_le_mul_left q (by omega)
  have h2 : q * (β * V2) = β * (q * V2) := by rw [← Nat.mul_assoc, Nat.mul_comm q β, Nat.mul_assoc]
  have h3 : β * (q * V2) < β * (U3 + 1) := by rw [Nat.mul_succ]; omega
  have := Nat.lt_of_mul_lt_mul_left h3
  omega
/-- The estimate is at most one too great. -/
theorem Est.le_succ {B U3 V2 D β w0 x0 W V q : Nat} (h : Est B U3 V2 D) (hW : W = w0 + β * U3) (hV : V = x0 + β * V2) (hx : x0 < β) (hB : B ≤ V2) (hlt : W < (q + 1) * V) : D ≤ q + 1 := by
  rcases Nat.eq_zero_or_pos D with h0 | h0
  · omega
  obtain ⟨d, rfl⟩ : ∃ d, D = d + 1 := ⟨D - 1, by omega⟩
  have hl := h.lt
  have hle := h.le
  have h1 : d * V ≤ W := by
    have h2 : d * x0 ≤ V2 * β := Nat.mul_le_mul (by omega) (by omega)
    have h3 : d * V = d * x0 + β * (d * V2) := by rw [hV, Nat.mul_add, ← Nat.mul_assoc d β, Nat.mul_comm d β, Nat.mul_assoc β]
    have h4 : β * ((d + 1) * V2) ≤ β * U3 := Nat.mul_le_mul_left β hle
    rw [Nat.add_mul, Nat.one_mul, Nat.mul_add] at h4
    rw [Nat.mul_comm V2 β] at h2
    omega
  have h5 : d * V < (q + 1) * V := Nat.lt_of_le_of_lt h1 hlt
  have := Nat.lt_of_mul_lt_mul_right h5
  omega
/-- What is left behind the subtraction of a multiple. -/
theorem sub_zero_case {W V D X q C : Nat} (hV : 0 < V) (he : X + V * D = W + C * 0) (hq : q = W / V) (hge : q ≤ D) : D = q ∧ X = W % V := by
  have h1 : V * D ≤ W := by omega
  have h2 : D ≤ W / V := (Nat.le_div_iff_mul_le hV).2 (by rw [Nat.mul_comm]; exact h1)
  have h3 : D = q := by omega
  subst h3
  have := Nat.div_add_mod W V
  rw [← hq] at this
  exact ⟨rfl, by omega⟩
theorem sub_one_case {W V D X Y q C k : Nat} (hV : 0 < V) (he : X + V * D = W + C * 1) (hX : X < C) (hq : q = W / V) (hle : D ≤ q + 1) (hy : Y + C * k = X + V) (hY : Y < C) (hk : k ≤ 1) : D = q + 1 ∧ Y = W % V := by
  have h1 : W < V * D := by omega
  have hdm := Nat.div_add_mod W V
  rw [← hq] at hdm
  have hlt := Nat.mod_lt W hV
  have h2 : D = q + 1 := by
    rcases Nat.lt_or_ge q D with h | h
    · omega
    · have := Nat.mul_le_mul_left V h
      omega
  subst h2
  rw [Nat.mul_succ] at he
  refine ⟨rfl, ?_⟩
  have hk1 : k = 1 := by
    rcases Nat.eq_zero_or_pos k with h | h
    · subst h; omega
    · omega
  subst hk1
  omega
/-- One digit of the subtraction of a multiple. -/
theorem submul_step {B P X Y Z c b p y r D l c' b' : Nat} (h : Z + Y * D = X + P * (c + b)) (hl : l + B * c' = y * D + c) (hr : r + l + b = p + B * b') : (Z + P * r) + (Y + P * y) * D = (X + P * p) + P * B * (c' + b') := by
  have h1 : P * (r + l + b) = P * (p + B * b') := by rw [hr]
  have h2 : P * (l + B * c') = P * (y * D + c) := by rw [hl]
  rw [Nat.mul_add, Nat.mul_add, Nat.mul_add] at h1
  rw [Nat.mul_add, Nat.mul_add] at h2
  rw [Nat.mul_add] at h
  rw [Nat.add_mul, Nat.mul_assoc P y, Nat.mul_add, Nat.mul_assoc P B c', Nat.mul_assoc P B b']
  omega
theorem submul_top {B P X Y Z c b p r D b' : Nat} (h : Z + Y * D = X + P * (c + b)) (hr : r + c + b = p + B * b') : (Z + P * r) + Y * D = (X + P * p) + P * B * b' := by
  have h1 : P * (r + c + b) = P * (p + B * b') := by rw [hr]
  rw [Nat.mul_add, Nat.mul_add, Nat.mul_add] at h1
  rw [Nat.mul_add] at h
  rw [Nat.mul_assoc P B b']
  omega
theorem addback_step {B P X Y Z c p y r c' : Nat} (h : Z + P * c = X + Y) (hr : r + B * c' = p + y + c) : (Z + P * r) + P * B * c' = (X + P * p) + (Y + P * y) := by
  have h1 : P * (r + B * c') = P * (p + y + c) := by rw [hr]
  rw [Nat.mul_add, Nat.mul_add, Nat.mul_add] at h1
  rw [Nat.mul_assoc]
  omega
theorem addback_top {B P X Y Z c p r c' : Nat} (h : Z + P * c = X + Y) (hr : r + B * c' = p + c) : (Z + P * r) + P * B * c' = (X + P * p) + Y := by
  have h1 : P * (r + B * c') = P * (p + c) := by rw [hr]
  rw [Nat.mul_add, Nat.mul_add] at h1
  rw [Nat.mul_assoc]
  omega
/-- The head of the loop of 'estimate'. -/
structure EstInv (B u2 u1 u0 v1 v2 D r o : Nat) : Prop where
  lt : D < B
  rlt : r < B
  olt : o ≤ 1
  eq : D * v1 + (r + B * o) = u2 * B + u1
  max : ∀ d, d < B → d * (v1 * B + v2) ≤ (u2 * B + u1) * B + u0 → d ≤ D
theorem est_over {B u2 u1 u0 v1 v2 D r : Nat} (h : EstInv B u2 u1 u0 v1 v2 D r 1) (hv2 : v2 < B) : Est B ((u2 * B + u1) * B + u0) (v1 * B + v2) D := by
  refine ⟨h.lt, ?_, h.max⟩
  have h1 := h.eq
  have h2 : D * v2 ≤ B * B := Nat.mul_le_mul (Nat.le_of_lt h.lt) (Nat.le_of_lt hv2)
  have h3 : (D * v1 + (r + B * 1)) * B = (u2 * B + u1) * B := by rw [h1]
  rw [Nat.mul_add, ← Nat.mul_assoc]
  rw [Nat.add_mul, Nat.mul_one, Nat.add_mul] at h3
  omega
theorem est_stop {B u2 u1 u0 v1 v2 D r : Nat} (h : EstInv B u2 u1 u0 v1 v2 D r 0) (hs : D * v2 ≤ r * B + u0) : Est B ((u2 * B + u1) * B + u0) (v1 * B + v2) D := by
  refine ⟨h.lt, ?_, h.max⟩
  have h1 := h.eq
  have h3 : (D * v1 + (r + B * 0)) * B = (u2 * B + u1) * B := by rw [h1]
  rw [Nat.mul_add, ← Nat.mul_assoc]
  rw [Nat.mul_zero, Nat.add_zero, Nat.add_mul] at h3
  omega
theorem est_next {B u2 u1 u0 v1 v2 D r r' o' : Nat} (h : EstInv B u2 u1 u0 v1 v2 D r 0) (hs : r * B + u0 < D * v2) (hr : r' + B * o' = r + v1) (hr' : r' < B) (ho : o' ≤ 1) : 0 < D ∧ EstInv B u2 u1 u0 v1 v2 (D - 1) r' o' := by
  have hD : 0 < D := by
    rcases Nat.eq_zero_or_pos D with h0 | h0
    · subst h0; simp at hs
    · exact h0
  refine ⟨hD, by have := h.lt; omega, hr', ho, ?_, fun d hd hle => ?_⟩
  · have h1 := h.eq
    obtain ⟨d, rfl⟩ : ∃ d, D = d + 1 := ⟨D - 1, by omega⟩
    rw [Nat.add_mul] at h1
    rw [Nat.add_sub_cancel]
    omega
  · have h2 := h.max d hd hle
    rcases Nat.lt_or_ge d D with h3 | h3
    · omega
    · exfalso
      have h4 : d = D := by omega
      subst h4
      have h1 := h.eq
      have h5 : (d * v1 + (r + B * 0)) * B = (u2 * B + u1) * B := by rw [h1]
      rw [Nat.mul_add, ← Nat.mul_assoc] at hle
      rw [Nat.mul_zero, Nat.add_zero, Nat.add_mul] at h5
      omega
theorem est_start_eq {B u2 u1 u0 v1 v2 r o : Nat} (hB : 0 < B) (hu : u2 = v1) (hr : r + B * o = u1 + v1) (hr' : r < B) (ho : o ≤ 1) : EstInv B u2 u1 u0 v1 v2 (B - 1) r o := by
  refine ⟨by omega, hr', ho, ?_, fun d hd _ => by omega⟩
  obtain ⟨b, rfl⟩ : ∃ b, B = b + 1 := ⟨B - 1, by omega⟩
  subst hu
  rw [Nat.add_sub_cancel, Nat.mul_add u2 b 1, Nat.mul_comm b u2]
  omega
theorem est_start_lt {B u2 u1 u0 v1 v2 : Nat} (hu : u2 < v1) (hu1 : u1 < B) (hu0 : u0 < B) (hv : v1 < B) : EstInv B u2 u1 u0 v1 v2 ((u2 * B + u1) / v1) ((u2 * B + u1) % v1) 0 := by
  have hm := Nat.mod_lt (u2 * B + u1) (show v1 > 0 by omega)
  refine ⟨?_, by omega, by omega, ?_, fun d hd hle => ?_⟩
  · refine Nat.div_lt_of_lt_mul ?_
    have := Nat.mul_le_mul_right B (Nat.succ_le_of_lt hu)
    rw [Nat.succ_mul] at this
    omega
  · rw [Nat.mul_zero, Nat.add_zero, Nat.mul_comm]
    exact Nat.div_add_mod _ _
  · rw [Nat.le_div_iff_mul_le (by omega)]
    have h1 : d * v1 * B < (u2 * B + u1 + 1) * B := by
      rw [Nat.mul_add, ← Nat.mul_assoc] at hle
      rw [Nat.add_mul (u2 * B + u1) 1 B]
      omega
    have := Nat.lt_of_mul_lt_mul_right h1
    omega
theorem div_finish {B : Nat} {us zs qs : List Nat} {j n M A W X q : Nat} (low : zs.take j = us.take j) (high : zs.drop (j + (n + 1)) = us.drop (j + (n + 1)))
    (hp : val B ((us.drop j).take (n + 1)) = val B (us.drop j)) (hW : val B (us.drop j) = W) (hX : val B ((zs.drop j).take (n + 1)) = X) (hWX : W = M * q + X) (hXM : X < M)
    (hinv : val B us + M * (B ^ (j + 1) * val B (qs.drop (j + 1))) = A) (hj : j < qs.length) :
    val B zs + M * (B ^ j * val B ((qs.set j q).drop j)) = A ∧ val B (zs.drop j) < M := by
  have h1 := val_split B (us.drop j) (n + 1)
  have h2 := val_split B (zs.drop j) (n + 1)
  rw [List.drop_drop] at h1 h2
  rw [high, hX] at h2
  have h3 : val B (zs.drop j) = X := by omega
  have h4 := val_split B us j
  have h5 := val_split B zs j
  rw [low, h3] at h5
  have h6 : (qs.set j q).drop j = q :: qs.drop (j + 1) := by
    rw [List.drop_eq_getElem_cons (by simpa using hj), List.drop_set_of_lt (by omega)]
    simp
  refine ⟨?_, by omega⟩
  rw [h6, val_cons]
  generalize val B (qs.drop (j + 1)) = Q at *
  have e1 : M * (B ^ j * (q + B * Q)) = B ^ j * (M * q) + M * (B ^ (j + 1) * Q) := by
    rw [Nat.mul_add, Nat.mul_add, Nat.pow_succ, Nat.mul_assoc (B ^ j) B Q, ← Nat.mul_assoc M (B ^ j) q, Nat.mul_comm M (B ^ j), Nat.mul_assoc (B ^ j) M q]
  have e2 : B ^ j * W = B ^ j * (M * q) + B ^ j * X := by rw [hWX, Nat.mul_add]
  rw [hW] at h4
  omega
theorem three_of {l : List Nat} {i a b c : Nat} (h0 : l[i]? = some a) (h1 : l[i + 1]? = some b) (h2 : l[i + 2]? = some c) : (l.drop i).take 3 = [a, b, c] := by
  obtain ⟨k0, e0⟩ := List.getElem?_eq_some_iff.1 h0
  obtain ⟨k1, e1⟩ := List.getElem?_eq_some_iff.1 h1
  obtain ⟨k2, e2⟩ := List.getElem?_eq_some_iff.1 h2
  rw [List.drop_eq_getElem_cons k0, List.drop_eq_getElem_cons k1, List.drop_eq_getElem_cons k2, e0, e1, e2]
  rfl
theorem two_of {l : List Nat} {i a b : Nat} (h0 : l[i]? = some a) (h1 : l[i + 1]? = some b) (hl : l.length = i + 2) : l.drop i = [a, b] := by
  obtain ⟨k0, e0⟩ := List.getElem?_eq_some_iff.1 h0
  obtain ⟨k1, e1⟩ := List.getElem?_eq_some_iff.1 h1
  rw [List.drop_eq_getElem_cons k0, List.drop_eq_getElem_cons k1, e0, e1, List.drop_of_length_le (by omega)]
/-- What a round of the division knows: the part of n + 1 digits from j on holds all that is left from there. -/
theorem part_all {B : Nat} {us : List Nat} (hv : Valid B us) {j n M : Nat} (hM : M < B ^ n) (hl : val B (us.drop (j + 1)) < M) (hj : j < us.length) :
    val B ((us.drop j).take (n + 1)) = val B (us.drop j) ∧ val B (us.drop j) < B * M := by
  have h1 := val_drop B us j hj
  have hd : us[j] < B := valid_get hv j hj
  have h2 := val_split B (us.drop (j + 1)) n
  have h3 : val B ((us.drop (j + 1)).drop n) = 0 := by
    rcases Nat.eq_zero_or_pos (val B ((us.drop (j + 1)).drop n)) with h | h
    · exact h
    · by_cases hn : n ≤ (us.drop (j + 1)).length
      · have h5 : B ^ n * 1 ≤ B ^ n * val B ((us.drop (j + 1)).drop n) := Nat.mul_le_mul_left _ h
        omega
      · rw [List.drop_of_length_le (by omega)] at h
        simp [val] at h
  constructor
  · rw [List.drop_eq_getElem_cons hj, List.take_succ_cons, val_cons, val_cons]
    rw [h3, Nat.mul_zero] at h2
    have h5 : val B (us.drop (j + 1)) = val B ((us.drop (j + 1)).take n) := by omega
    rw [← h5]
  · have h4 : B * (val B (us.drop (j + 1)) + 1) ≤ B * M := Nat.mul_le_mul_left _ hl
    rw [Nat.mul_succ] at h4
    omega
theorem knuth_round {B : Nat} (hB : 2 ≤ B) {us vs : List Nat} (hv : Valid B us) (hvs : Valid B vs) {j n u2 u1 u0 v1 v2 D : Nat} (hn : vs.length = n + 2) (hl : val B (us.drop (j + 1)) < val B vs) (hj : j + n + 3 ≤ us.length)
    (h2 : us[j + n + 2]? = some u2) (h1 : us[j + n + 1]? = some u1) (h0 : us[j + n]? = some u0) (g1 : vs[n + 1]? = some v1) (g2 : vs[n]? = some v2) (hv1 : 0 < v1) :
    u2 ≤ v1 ∧ (Est B ((u2 * B + u1) * B + u0) (v1 * B + v2) D → val B (us.drop j) / val B vs ≤ D ∧ D ≤ val B (us.drop j) / val B vs + 1) := by
  have hM := val_lt hvs
  rw [hn] at hM
  obtain ⟨p1, p2⟩ := part_all hv hM hl (show j < us.length by omega)
  have hW : val B (us.drop j) = val B ((us.drop j).take n) + B ^ n * ((u2 * B + u1) * B + u0) := by
    rw [← p1, val_split B ((us.drop j).take (n + 2 + 1)) n, List.take_take, show min n (n + 2 + 1) = n from by omega]
    congr 2
    rw [List.drop_take, List.drop_drop, show n + 2 + 1 - n = 3 from by omega, three_of (l := us) (i := j + n) h0 (by rw [← h1]) (by rw [← h2])]
    simp only [val, Nat.mul_zero, Nat.add_zero]
    rw [Nat.add_mul, Nat.mul_add, Nat.mul_comm u2 B, Nat.mul_comm (B * u2) B, Nat.mul_comm u1 B]
    omega
  have hV : val B vs = val B (vs.take n) + B ^ n * (v1 * B + v2) := by
    conv => lhs; rw [val_split B vs n, two_of (l := vs) (i := n) g2 g1 hn]
    simp only [val, Nat.mul_zero, Nat.add_zero]
    rw [Nat.mul_comm v1 B, Nat.add_comm v2]
  have hw : val B ((us.drop j).take n) < B ^ n := by
    have := val_lt (valid_take (valid_drop hv j) n)
    rwa [List.length_take, List.length_drop, Nat.min_eq_left (by omega)] at this
  have hx : val B (vs.take n) < B ^ n := by
    have := val_lt (valid_take hvs n)
    rwa [List.length_take, Nat.min_eq_left (by omega)] at this
  have hv2b : v2 < B := by
    obtain ⟨k, e⟩ := List.getElem?_eq_some_iff.1 g2
    rw [← e]; exact valid_get hvs n k
  have hP : 0 < B ^ n := Nat.pow_pos (by omega)
  have hVpos : 0 < val B vs := by omega
  constructor
  · rcases Nat.lt_or_ge v1 u2 with h | h
    · exfalso
      have a1 : B * val B vs < B * (B ^ n * (v1 * B + v2 + 1)) := by
        refine Nat.mul_lt_mul_of_pos_left ?_ (by omega)
        rw [hV, Nat.mul_succ]; omega
      have a2 : B ^ n * (B * (v1 * B + v2 + 1)) ≤ B ^ n * ((u2 * B + u1) * B + u0) := by
        refine Nat.mul_le_mul_left _ ?_
        have a3 : (v1 + 1) * B * B ≤ u2 * B * B := Nat.mul_le_mul_right B (Nat.mul_le_mul_right B h)
        have a4 : B * (v1 * B + v2 + 1) ≤ B * (v1 * B + B) := Nat.mul_le_mul_left B (by omega)
        have a5 : B * (v1 * B + B) = (v1 + 1) * B * B := by rw [Nat.add_mul, Nat.one_mul, Nat.mul_comm]
        have a6 : u2 * B * B ≤ (u2 * B + u1) * B := Nat.mul_le_mul_right B (by omega)
        omega
      have a7 : B * (B ^ n * (v1 * B + v2 + 1)) = B ^ n * (B * (v1 * B + v2 + 1)) := by rw [← Nat.mul_assoc, Nat.mul_comm B, Nat.mul_assoc]
      omega
    · exact h
  · intro he
    have hdm := Nat.div_add_mod (val B (us.drop j)) (val B vs)
    have hml := Nat.mod_lt (val B (us.drop j)) hVpos
    have hqB : val B (us.drop j) / val B vs < B := Nat.div_lt_of_lt_mul (by rw [Nat.mul_comm]; exact p2)
    have hBV : B ≤ v1 * B + v2 := by
      have := Nat.mul_le_mul_right B hv1
      omega
    refine ⟨he.ge hW hV hw hqB (by rw [Nat.mul_comm]; omega), he.le_succ hW hV hx hBV ?_⟩
    rw [Nat.add_mul, Nat.one_mul, Nat.mul_comm]
    omega
end Go.Proofs.Ytfnmbhjifdfibaa
