/- Contracts of package division. -/
import Derived.Test.YtehhkeenjlpikaaGreatBase
import Derived.Test.YtehhkeenjlpikaaGreatNatX
import Derived.Test.YtehhkeenjlpikaaGreatNatY
import Derived.Test.YtehhkeenjlpikaaGreatIntX
import Derived.WalkMore
import Derived.Deep.RegionHeld3
import Derived.Test.YtehhkeenjlpikaaGreatRefY
import Derived.Deep.LoopGhost
import Derived.Deep.QuietTactic
import Derived.BigQuiet
namespace Go.Proofs.YtehhkeenjlpikaaGreat
open Go.RowKit
/-- What the estimate of a digit gives: the greatest digit whose multiple of the two highest digits does not exceed the three highest. -/
structure Est (B U3 V2 D : Nat) : Prop where
  lt : D < B
  le : D * V2 ≤ U3
  max : ∀ d, d < B → d * V2 ≤ U3 → d ≤ D
/-- The estimate is not too small. -/
theorem Est.ge {B U3 V2 D β w0 x0 W V q : Nat} (h : Est B U3 V2 D) (hW : W = w0 + β * U3) (hV : V = x0 + β * V2) (hw : w0 < β) (hq : q < B) (hqv : q * V ≤ W) : q ≤ D := by
  refine h.max q hq ?_
  have h1 : q * (β * V2) ≤ q * V := Nat.mul_le_mul_left q (by omega)
  have h2 : q * (β * V2) = β * (q * V2) := by rw [← Nat.mul_assoc, Nat.mul_comm q β, Nat.mul_assoc]
  have h3 : β * (q * V2) < β * (U3 + 1) := by rw [Nat.mul_succ]; omega
  have := Nat.lt_of_mul_lt_mul_left h3
  omega
/-- The estimate is at most one too great. -/
theorem Est.le_succ {B U3 V2 D β w0 x0 W V q : Nat} (h : Est B U3 V2 D) (hW : W = w0 + β * U3) (hV : V = x0 + β * V2) (hx : x0 < β) (hB : B ≤ V2) (hlt : W < (q + 1) * V) : D ≤ q + 1 := by
  rcases Nat.eq_zero_or_pos D with h0 | h0
  · omega
  obtain ⟨d, rfl⟩ : ∃ d, D = d + 1 := ⟨D - 1, by omega⟩
  have hl := h.lt
  have hle := h.le
  have h1 : d * V ≤ W := by
    have h2 : d * x0 ≤ V2 * β := Nat.mul_le_mul (by omega) (by omega)
    have h3 : d * V = d * x0 + β * (d * V2) := by rw [hV, Nat.mul_add, ← Nat.mul_assoc d β, Nat.mul_comm d β, Nat.mul_assoc β]
    have h4 : β * ((d + 1) * V2) ≤ β * U3 := Nat.mul_le_mul_left β hle
    rw [Nat.add_mul, Nat.one_mul, Nat.mul_add] at h4
    rw [Nat.mul_comm V2 β] at h2
    omega
  have h5 : d * V < (q + 1) * V := Nat.lt_of_le_of_lt h1 hlt
  have := Nat.lt_of_mul_lt_mul_right h5
  omega
/-- What is left behind the subtraction of a multiple. -/
theorem sub_zero_case {W V D X q C : Nat} (hV : 0 < V) (he : X + V * D = W + C * 0) (hq : q = W / V) (hge : q ≤ D) : D = q ∧ X = W % V := by
  have h1 : V * D ≤ W := by omega
  have h2 : D ≤ W / V := (Nat.le_div_iff_mul_le hV).2 (by rw [Nat.mul_comm]; exact h1)
  have h3 : D = q := by omega
  subst h3
  have := Nat.div_add_mod W V
  rw [← hq] at this
  exact ⟨rfl, by omega⟩
theorem sub_one_case {W V D X Y q C k : Nat} (hV : 0 < V) (he : X + V * D = W + C * 1) (hX : X < C) (hq : q = W / V) (hle : D ≤ q + 1) (hy : Y + C * k = X + V) (hY : Y < C) (hk : k ≤ 1) : D = q + 1 ∧ Y = W % V := by
  have h1 : W < V * D := by omega
  have hdm := Nat.div_add_mod W V
  rw [← hq] at hdm
  have hlt := Nat.mod_lt W hV
  have h2 : D = q + 1 := by
    rcases Nat.lt_or_ge q D with h | h
    · omega
    · have := Nat.mul_le_mul_left V h
      omega
  subst h2
  rw [Nat.mul_succ] at he
  refine ⟨rfl, ?_⟩
  have hk1 : k = 1 := by
    rcases Nat.eq_zero_or_pos k with h | h
    · subst h; omega
    · omega
  subst hk1
  omega
/-- One digit of the subtraction of a multiple. -/
theorem submul_step {B P X Y Z c b p y r D l c' b' : Nat} (h : Z + Y * D = X + P * (c + b)) (hl : l + B * c' = y * D + c) (hr : r + l + b = p + B * b') : (Z + P * r) + (Y + P * y) * D = (X + P * p) + P * B * (c' + b') := by
  have h1 : P * (r + l + b) = P * (p + B * b') := by rw [hr]
  have h2 : P * (l + B * c') = P * (y * D + c) := by rw [hl]
  rw [Nat.mul_add, Nat.mul_add, Nat.mul_add] at h1
  rw [Nat.mul_add, Nat.mul_add] at h2
  rw [Nat.mul_add] at h
  rw [Nat.add_mul, Nat.mul_assoc P y, Nat.mul_add, Nat.mul_assoc P B c', Nat.mul_assoc P B b']
  omega
theorem submul_top {B P X Y Z c b p r D b' : Nat} (h : Z + Y * D = X + P * (c + b)) (hr : r + c + b = p + B * b') : (Z + P * r) + Y * D = (X + P * p) + P * B * b' := by
  have h1 : P * (r + c + b) = P * (p + B * b') := by rw [hr]
  rw [Nat.mul_add, Nat.mul_add, Nat.mul_add] at h1
  rw [Nat.mul_add] at h
  rw [Nat.mul_assoc P B b']
  omega
theorem addback_step {B P X Y Z c p y r c' : Nat} (h : Z + P * c = X + Y) (hr : r + B * c' = p + y + c) : (Z + P * r) + P * B * c' = (X + P * p) + (Y + P * y) := by
  have h1 : P * (r + B * c') = P * (p + y + c) := by rw [hr]
  rw [Nat.mul_add, Nat.mul_add, Nat.mul_add] at h1
  rw [Nat.mul_assoc]
  omega
theorem addback_top {B P X Y Z c p r c' : Nat} (h : Z + P * c = X + Y) (hr : r + B * c' = p + c) : (Z + P * r) + P * B * c' = (X + P * p) + Y := by
  have h1 : P * (r + B * c') = P * (p + c) := by rw [hr]
  rw [Nat.mul_add, Nat.mul_add] at h1
  rw [Nat.mul_assoc]
  omega
/-- The head of the loop of 'estimate'. -/
structure EstInv (B u2 u1 u0 v1 v2 D r o : Nat) : Prop where
  lt : D < B
  rlt : r < B
  olt : o ≤ 1
  eq : D * v1 + (r + B * o) = u2 * B + u1
  max : ∀ d, d < B → d * (v1 * B + v2) ≤ (u2 * B + u1) * B + u0 → d ≤ D
theorem est_over {B u2 u1 u0 v1 v2 D r : Nat} (h : EstInv B u2 u1 u0 v1 v2 D r 1) (hv2 : v2 < B) : Est B ((u2 * B + u1) * B + u0) (v1 * B + v2) D := by
  refine ⟨h.lt, ?_, h.max⟩
  have h1 := h.eq
  have h2 : D * v2 ≤ B * B := Nat.mul_le_mul (Nat.le_of_lt h.lt) (Nat.le_of_lt hv2)
  have h3 : (D * v1 + (r + B * 1)) * B = (u2 * B + u1) * B := by rw [h1]
  rw [Nat.mul_add, ← Nat.mul_assoc]
  rw [Nat.add_mul, Nat.mul_one, Nat.add_mul] at h3
  omega
theorem est_stop {B u2 u1 u0 v1 v2 D r : Nat} (h : EstInv B u2 u1 u0 v1 v2 D r 0) (hs : D * v2 ≤ r * B + u0) : Est B ((u2 * B + u1) * B + u0) (v1 * B + v2) D := by
  refine ⟨h.lt, ?_, h.max⟩
  have h1 := h.eq
  have h3 : (D * v1 + (r + B * 0)) * B = (u2 * B + u1) * B := by rw [h1]
  rw [Nat.mul_add, ← Nat.mul_assoc]
  rw [Nat.mul_zero, Nat.add_zero, Nat.add_mul] at h3
  omega
theorem est_next {B u2 u1 u0 v1 v2 D r r' o' : Nat} (h : EstInv B u2 u1 u0 v1 v2 D r 0) (hs : r * B + u0 < D * v2) (hr : r' + B * o' = r + v1) (hr' : r' < B) (ho : o' ≤ 1) : 0 < D ∧ EstInv B u2 u1 u0 v1 v2 (D - 1) r' o' := by
  have hD : 0 < D := by
    rcases Nat.eq_zero_or_pos D with h0 | h0
    · subst h0; simp at hs
    · exact h0
  refine ⟨hD, by have := h.lt; omega, hr', ho, ?_, fun d hd hle => ?_⟩
  · have h1 := h.eq
    obtain ⟨d, rfl⟩ : ∃ d, D = d + 1 := ⟨D - 1, by omega⟩
    rw [Nat.add_mul] at h1
    rw [Nat.add_sub_cancel]
    omega
  · have h2 := h.max d hd hle
    rcases Nat.lt_or_ge d D with h3 | h3
    · omega
    · exfalso
      have h4 : d = D := by omega
      subst h4
      have h1 := h.eq
      have h5 : (d * v1 + (r + B * 0)) * B = (u2 * B + u1) * B := by rw [h1]
      rw [Nat.mul_add, ← Nat.mul_assoc] at hle
      rw [Nat.mul_zero, Nat.add_zero, Nat.add_mul] at h5
      omega
theorem est_start_eq {B u2 u1 u0 v1 v2 r o : Nat} (hB : 0 < B) (hu : u2 = v1) (hr : r + B * o = u1 + v1) (hr' : r < B) (ho : o ≤ 1) : EstInv B u2 u1 u0 v1 v2 (B - 1) r o := by
  refine ⟨by omega, hr', ho, ?_, fun d hd _ => by omega⟩
  obtain ⟨b, rfl⟩ : ∃ b, B = b + 1 := ⟨B - 1, by omega⟩
  subst hu
  rw [Nat.add_sub_cancel, Nat.mul_add u2 b 1, Nat.mul_comm b u2]
  omega
theorem est_start_lt {B u2 u1 u0 v1 v2 : Nat} (hu : u2 < v1) (hu1 : u1 < B) (hu0 : u0 < B) (hv : v1 < B) : EstInv B u2 u1 u0 v1 v2 ((u2 * B + u1) / v1) ((u2 * B + u1) % v1) 0 := by
  have hm := Nat.mod_lt (u2 * B + u1) (show v1 > 0 by omega)
  refine ⟨?_, by omega, by omega, ?_, fun d hd hle => ?_⟩
  · refine Nat.div_lt_of_lt_mul ?_
    have := Nat.mul_le_mul_right B (Nat.succ_le_of_lt hu)
    rw [Nat.succ_mul] at this
    omega
  · rw [Nat.mul_zero, Nat.add_zero, Nat.mul_comm]
    exact Nat.div_add_mod _ _
  · rw [Nat.le_div_iff_mul_le (by omega)]
    have h1 : d * v1 * B < (u2 * B + u1 + 1) * B := by
      rw [Nat.mul_add, ← Nat.mul_assoc] at hle
      rw [Nat.add_mul (u2 * B + u1) 1 B]
      omega
    have := Nat.lt_of_mul_lt_mul_right h1
    omega
theorem div_finish {B : Nat} {us zs qs : List Nat} {j n M A W X q : Nat} (low : zs.take j = us.take j) (high : zs.drop (j + (n + 1)) = us.drop (j + (n + 1)))
    (hp : val B ((us.drop j).take (n + 1)) = val B (us.drop j)) (hW : val B (us.drop j) = W) (hX : val B ((zs.drop j).take (n + 1)) = X) (hWX : W = M * q + X) (hXM : X < M)
    (hinv : val B us + M * (B ^ (j + 1) * val B (qs.drop (j + 1))) = A) (hj : j < qs.length) :
    val B zs + M * (B ^ j * val B ((qs.set j q).drop j)) = A ∧ val B (zs.drop j) < M := by
  have h1 := val_split B (us.drop j) (n + 1)
  have h2 := val_split B (zs.drop j) (n + 1)
  rw [List.drop_drop] at h1 h2
  rw [high, hX] at h2
  have h3 : val B (zs.drop j) = X := by omega
  have h4 := val_split B us j
  have h5 := val_split B zs j
  rw [low, h3] at h5
  have h6 : (qs.set j q).drop j = q :: qs.drop (j + 1) := by
    rw [List.drop_eq_getElem_cons (by simpa using hj), List.drop_set_of_lt (by omega)]
    simp
  refine ⟨?_, by omega⟩
  rw [h6, val_cons]
  generalize val B (qs.drop (j + 1)) = Q at *
  have e1 : M * (B ^ j * (q + B * Q)) = B ^ j * (M * q) + M * (B ^ (j + 1) * Q) := by
    rw [Nat.mul_add, Nat.mul_add, Nat.pow_succ, Nat.mul_assoc (B ^ j) B Q, ← Nat.mul_assoc M (B ^ j) q, Nat.mul_comm M (B ^ j), Nat.mul_assoc (B ^ j) M q]
  have e2 : B ^ j * W = B ^ j * (M * q) + B ^ j * X := by rw [hWX, Nat.mul_add]
  rw [hW] at h4
  omega
theorem three_of {l : List Nat} {i a b c : Nat} (h0 : l[i]? = some a) (h1 : l[i + 1]? = some b) (h2 : l[i + 2]? = some c) : (l.drop i).take 3 = [a, b, c] := by
  obtain ⟨k0, e0⟩ := List.getElem?_eq_some_iff.1 h0
  obtain ⟨k1, e1⟩ := List.getElem?_eq_some_iff.1 h1
  obtain ⟨k2, e2⟩ := List.getElem?_eq_some_iff.1 h2
  rw [List.drop_eq_getElem_cons k0, List.drop_eq_getElem_cons k1, List.drop_eq_getElem_cons k2, e0, e1, e2]
  rfl
theorem two_of {l : List Nat} {i a b : Nat} (h0 : l[i]? = some a) (h1 : l[i + 1]? = some b) (hl : l.length = i + 2) : l.drop i = [a, b] := by
  obtain ⟨k0, e0⟩ := List.getElem?_eq_some_iff.1 h0
  obtain ⟨k1, e1⟩ := List.getElem?_eq_some_iff.1 h1
  rw [List.drop_eq_getElem_cons k0, List.drop_eq_getElem_cons k1, e0, e1, List.drop_of_length_le (by omega)]
/-- What a round of the division knows: the part of n + 1 digits from j on holds all that is left from there. -/
theorem part_all {B : Nat} {us : List Nat} (hv : Valid B us) {j n M : Nat} (hM : M < B ^ n) (hl : val B (us.drop (j + 1)) < M) (hj : j < us.length) :
    val B ((us.drop j).take (n + 1)) = val B (us.drop j) ∧ val B (us.drop j) < B * M := by
  have h1 := val_drop B us j hj
  have hd : us[j] < B := valid_get hv j hj
  have h2 := val_split B (us.drop (j + 1)) n
  have h3 : val B ((us.drop (j + 1)).drop n) = 0 := by
    rcases Nat.eq_zero_or_pos (val B ((us.drop (j + 1)).drop n)) with h | h
    · exact h
    · by_cases hn : n ≤ (us.drop (j + 1)).length
      · have h5 : B ^ n * 1 ≤ B ^ n * val B ((us.drop (j + 1)).drop n) := Nat.mul_le_mul_left _ h
        omega
      · rw [List.drop_of_length_le (by omega)] at h
        simp [val] at h
  constructor
  · rw [List.drop_eq_getElem_cons hj, List.take_succ_cons, val_cons, val_cons]
    rw [h3, Nat.mul_zero] at h2
    have h5 : val B (us.drop (j + 1)) = val B ((us.drop (j + 1)).take n) := by omega
    rw [← h5]
  · have h4 : B * (val B (us.drop (j + 1)) + 1) ≤ B * M := Nat.mul_le_mul_left _ hl
    rw [Nat.mul_succ] at h4
    omega
theorem knuth_round {B : Nat} (hB : 2 ≤ B) {us vs : List Nat} (hv : Valid B us) (hvs : Valid B vs) {j n u2 u1 u0 v1 v2 D : Nat} (hn : vs.length = n + 2) (hl : val B (us.drop (j + 1)) < val B vs) (hj : j + n + 3 ≤ us.length)
    (h2 : us[j + n + 2]? = some u2) (h1 : us[j + n + 1]? = some u1) (h0 : us[j + n]? = some u0) (g1 : vs[n + 1]? = some v1) (g2 : vs[n]? = some v2) (hv1 : 0 < v1) :
    u2 ≤ v1 ∧ (Est B ((u2 * B + u1) * B + u0) (v1 * B + v2) D → val B (us.drop j) / val B vs ≤ D ∧ D ≤ val B (us.drop j) / val B vs + 1) := by
  have hM := val_lt hvs
  rw [hn] at hM
  obtain ⟨p1, p2⟩ := part_all hv hM hl (show j < us.length by omega)
  have hW : val B (us.drop j) = val B ((us.drop j).take n) + B ^ n * ((u2 * B + u1) * B + u0) := by
    rw [← p1, val_split B ((us.drop j).take (n + 2 + 1)) n, List.take_take, show min n (n + 2 + 1) = n from by omega]
    congr 2
    rw [List.drop_take, List.drop_drop, show n + 2 + 1 - n = 3 from by omega, three_of (l := us) (i := j + n) h0 (by rw [← h1]) (by rw [← h2])]
    simp only [val, Nat.mul_zero, Nat.add_zero]
    rw [Nat.add_mul, Nat.mul_add, Nat.mul_comm u2 B, Nat.mul_comm (B * u2) B, Nat.mul_comm u1 B]
    omega
  have hV : val B vs = val B (vs.take n) + B ^ n * (v1 * B + v2) := by
    conv => lhs; rw [val_split B vs n, two_of (l := vs) (i := n) g2 g1 hn]
    simp only [val, Nat.mul_zero, Nat.add_zero]
    rw [Nat.mul_comm v1 B, Nat.add_comm v2]
  have hw : val B ((us.drop j).take n) < B ^ n := by
    have := val_lt (valid_take (valid_drop hv j) n)
    rwa [List.length_take, List.length_drop, Nat.min_eq_left (by omega)] at this
  have hx : val B (vs.take n) < B ^ n := by
    have := val_lt (valid_take hvs n)
    rwa [List.length_take, Nat.min_eq_left (by omega)] at this
  have hv2b : v2 < B := by
    obtain ⟨k, e⟩ := List.getElem?_eq_some_iff.1 g2
    rw [← e]; exact valid_get hvs n k
  have hP : 0 < B ^ n := Nat.pow_pos (by omega)
  have hVpos : 0 < val B vs := by omega
  constructor
  · rcases Nat.lt_or_ge v1 u2 with h | h
    · exfalso
      have a1 : B * val B vs < B * (B ^ n * (v1 * B + v2 + 1)) := by
        refine Nat.mul_lt_mul_of_pos_left ?_ (by omega)
        rw [hV, Nat.mul_succ]; omega
      have a2 : B ^ n * (B * (v1 * B + v2 + 1)) ≤ B ^ n * ((u2 * B + u1) * B + u0) := by
        refine Nat.mul_le_mul_left _ ?_
        have a3 : (v1 + 1) * B * B ≤ u2 * B * B := Nat.mul_le_mul_right B (Nat.mul_le_mul_right B h)
        have a4 : B * (v1 * B + v2 + 1) ≤ B * (v1 * B + B) := Nat.mul_le_mul_left B (by omega)
        have a5 : B * (v1 * B + B) = (v1 + 1) * B * B := by rw [Nat.add_mul, Nat.one_mul, Nat.mul_comm]
        have a6 : u2 * B * B ≤ (u2 * B + u1) * B := Nat.mul_le_mul_right B (by omega)
        omega
      have a7 : B * (B ^ n * (v1 * B + v2 + 1)) = B ^ n * (B * (v1 * B + v2 + 1)) := by rw [← Nat.mul_assoc, Nat.mul_comm B, Nat.mul_assoc]
      omega
    · exact h
  · intro he
    have hdm := Nat.div_add_mod (val B (us.drop j)) (val B vs)
    have hml := Nat.mod_lt (val B (us.drop j)) hVpos
    have hqB : val B (us.drop j) / val B vs < B := Nat.div_lt_of_lt_mul (by rw [Nat.mul_comm]; exact p2)
    have hBV : B ≤ v1 * B + v2 := by
      have := Nat.mul_le_mul_right B hv1
      omega
    refine ⟨he.ge hW hV hw hqB (by rw [Nat.mul_comm]; omega), he.le_succ hW hV hx hBV ?_⟩
    rw [Nat.add_mul, Nat.one_mul, Nat.mul_comm]
    omega
set_option maxRecDepth 100000 in
theorem estimate_any {w : World} {u2 u1 u0 v1 v2 : Nat} (h2 : u2 ≤ v1) (h1 : u1 < 4294967296) (h0 : u0 < 4294967296) (hv1 : v1 < 4294967296) (hv2 : v2 < 4294967296) :
    Calls Tryz.prog 139 #[.int .u32 u2, .int .u32 u1, .int .u32 u0, .int .u32 v1, .int .u32 v2] w fun e w' => ∃ D, e = .returned (.int .u32 (D : Nat)) ∧ Est 4294967296 ((u2 * 4294967296 + u1) * 4294967296 + u0) (v1 * 4294967296 + v2) D ∧ Qt w w' := by
  have HLOOP : Hid True := trivial
  by_cases hlt : u2 < v1
  · have hge : ¬ v1 ≤ u2 := by omega
    have HI := Lib.hid (est_start_lt (u0 := u0) (v2 := v2) hlt h1 h0 hv1)
    have HD := Lib.hid (div32_any u2 u1 v1 w hlt h1 hv1)
    generalize (u2 * 4294967296 + u1) / v1 = D0 at *
    generalize (u2 * 4294967296 + u1) % v1 = R0 at *
    go_enter Tryz.func139, Tryz.ntmps139
    go_wp2_with fail
    refine HD.out.mono ?_
    rintro e w1 ⟨rfl, hq⟩
    have HQ1 : Hid (Qt w w1) := hq
    clear hq HD
    go_wp2_with fail
    go_loop [11, 12, 13] (fun dv rv ov => ∃ D r o : Nat, dv = .int .u32 D ∧ rv = .int .u32 r ∧ ov = .int .u32 o ∧ D < 4294967296 ∧ r < 4294967296 ∧ o ≤ 1 ∧ Hid (EstInv 4294967296 u2 u1 u0 v1 v2 D r o)) (fun dv _ _ => (intOf dv).toNat)
    case atStart => exact ⟨D0, R0, 0, rfl, rfl, rfl, HI.out.lt, HI.out.rlt, HI.out.olt, HI.out⟩
    case round =>
      clear HI
      obtain ⟨D, r, o, rfl, rfl, rfl, hD, hr, ho, HI⟩ := hrel
      by_cases ho1 : o = 0
      · subst ho1
        go_wp2_with fail
        refine (mul32_ex hD hv2).mono ?_
        rintro e w' ⟨hi, lo, rfl, hp, hhi, hlo, rfl⟩
        have HP := Lib.hid hp
        by_cases hs : D * v2 ≤ r * 4294967296 + u0
        · have HE := Lib.hid (est_stop HI.out hs)
          by_cases hc1 : hi < r
          · clear hp hs
            go_wp2_with fail
            go_ret
            exact ⟨D, rfl, HE.out, HQ1.out⟩
          · have hc2 : ((hi : Int) == (r : Int)) = true := by simp; omega
            have hc3 : lo ≤ u0 := by omega
            clear hp hs
            go_wp2_with fail
            go_ret
            exact ⟨D, rfl, HE.out, HQ1.out⟩
        · have HST : Hid (∀ r' o', r' + 4294967296 * o' = r + v1 → r' < 4294967296 → o' ≤ 1 → 0 < D ∧ EstInv 4294967296 u2 u1 u0 v1 v2 (D - 1) r' o') := fun r' o' a b c => est_next HI.out (by omega) a b c
          have hD0 : 0 < D := by
            rcases Nat.eq_zero_or_pos D with h5 | h5
            · subst h5; simp at hs
            · exact h5
          have hc1 : ¬ hi < r := by omega
          by_cases hc4 : hi = r
          · have hc2 : ((hi : Int) == (r : Int)) = true := by simp; omega
            have hc3 : ¬ lo ≤ u0 := by omega
            clear hp hs hc4
            go_wp2_with fail
            refine (add32_ex (c := 0) hr hv1 (by omega)).mono ?_
            rintro e w' ⟨r', o', rfl, hq, hr', ho', rfl⟩
            have HN := Lib.hid (HST.out r' o' (by omega) hr' ho').2
            clear hq
            go_wp2_with fail
            go_round
            case rel => exact ⟨D - 1, r', o', by go_num, rfl, rfl, by omega, hr', ho', HN.out⟩
            case measure => simp [intOf]; omega
          · have hc2 : ((hi : Int) == (r : Int)) = false := by simp; omega
            clear hp hs hc4
            go_wp2_with fail
            refine (add32_ex (c := 0) hr hv1 (by omega)).mono ?_
            rintro e w' ⟨r', o', rfl, hq, hr', ho', rfl⟩
            have HN := Lib.hid (HST.out r' o' (by omega) hr' ho').2
            clear hq
            go_wp2_with fail
            go_round
            case rel => exact ⟨D - 1, r', o', by go_num, rfl, rfl, by omega, hr', ho', HN.out⟩
            case measure => simp [intOf]; omega
      · obtain rfl : o = 1 := by omega
        have HE := Lib.hid (est_over HI.out hv2)
        go_wp2_with fail
        go_ret
        exact ⟨D, rfl, HE.out, HQ1.out⟩
  · have hge : v1 ≤ u2 := by omega
    have heq : u2 = v1 := by omega
    go_enter Tryz.func139, Tryz.ntmps139
    go_wp2_with fail
    refine (add32_ex (c := 0) h1 hv1 (by omega)).mono ?_
    rintro e w1 ⟨R0, o0, rfl, hq, hr, ho, rfl⟩
    have HI : Hid (EstInv 4294967296 u2 u1 u0 v1 v2 4294967295 R0 o0) := est_start_eq (by omega) heq (by omega) hr ho
    have HQ1 : Hid (Qt w w) := Qt.refl w
    clear hq heq
    go_wp2_with fail
    go_loop [11, 12, 13] (fun dv rv ov => ∃ D r o : Nat, dv = .int .u32 D ∧ rv = .int .u32 r ∧ ov = .int .u32 o ∧ D < 4294967296 ∧ r < 4294967296 ∧ o ≤ 1 ∧ Hid (EstInv 4294967296 u2 u1 u0 v1 v2 D r o)) (fun dv _ _ => (intOf dv).toNat)
    case atStart => exact ⟨4294967295, R0, o0, rfl, rfl, rfl, HI.out.lt, HI.out.rlt, HI.out.olt, HI.out⟩
    case round =>
      clear HI
      obtain ⟨D, r, o, rfl, rfl, rfl, hD, hr, ho, HI⟩ := hrel
      by_cases ho1 : o = 0
      · subst ho1
        go_wp2_with fail
        refine (mul32_ex hD hv2).mono ?_
        rintro e w' ⟨hi, lo, rfl, hp, hhi, hlo, rfl⟩
        have HP := Lib.hid hp
        by_cases hs : D * v2 ≤ r * 4294967296 + u0
        · have HE := Lib.hid (est_stop HI.out hs)
          by_cases hc1 : hi < r
          · clear hp hs
            go_wp2_with fail
            go_ret
            exact ⟨D, rfl, HE.out, HQ1.out⟩
          · have hc2 : ((hi : Int) == (r : Int)) = true := by simp; omega
            have hc3 : lo ≤ u0 := by omega
            clear hp hs
            go_wp2_with fail
            go_ret
            exact ⟨D, rfl, HE.out, HQ1.out⟩
        · have HST : Hid (∀ r' o', r' + 4294967296 * o' = r + v1 → r' < 4294967296 → o' ≤ 1 → 0 < D ∧ EstInv 4294967296 u2 u1 u0 v1 v2 (D - 1) r' o') := fun r' o' a b c => est_next HI.out (by omega) a b c
          have hD0 : 0 < D := by
            rcases Nat.eq_zero_or_pos D with h5 | h5
            · subst h5; simp at hs
            · exact h5
          have hc1 : ¬ hi < r := by omega
          by_cases hc4 : hi = r
          · have hc2 : ((hi : Int) == (r : Int)) = true := by simp; omega
            have hc3 : ¬ lo ≤ u0 := by omega
            clear hp hs hc4
            go_wp2_with fail
            refine (add32_ex (c := 0) hr hv1 (by omega)).mono ?_
            rintro e w' ⟨r', o', rfl, hq, hr', ho', rfl⟩
            have HN := Lib.hid (HST.out r' o' (by omega) hr' ho').2
            clear hq
            go_wp2_with fail
            go_round
            case rel => exact ⟨D - 1, r', o', by go_num, rfl, rfl, by omega, hr', ho', HN.out⟩
            case measure => simp [intOf]; omega
          · have hc2 : ((hi : Int) == (r : Int)) = false := by simp; omega
            clear hp hs hc4
            go_wp2_with fail
            refine (add32_ex (c := 0) hr hv1 (by omega)).mono ?_
            rintro e w' ⟨r', o', rfl, hq, hr', ho', rfl⟩
            have HN := Lib.hid (HST.out r' o' (by omega) hr' ho').2
            clear hq
            go_wp2_with fail
            go_round
            case rel => exact ⟨D - 1, r', o', by go_num, rfl, rfl, by omega, hr', ho', HN.out⟩
            case measure => simp [intOf]; omega
      · obtain rfl : o = 1 := by omega
        have HE := Lib.hid (est_over HI.out hv2)
        go_wp2_with fail
        go_ret
        exact ⟨D, rfl, HE.out, HQ1.out⟩
theorem sub32_ex {w : World} {x y c : Nat} (hx : x < 4294967296) (hy : y < 4294967296) (hc : c ≤ 1) :
    Calls Tryz.prog 133 #[.int .u32 x, .int .u32 y, .int .u32 c] w fun e w' => ∃ d k : Nat, e = .returned (.tuple #[.int .u32 d, .int .u32 k]) ∧ d + y + c = x + 4294967296 * k ∧ d < 4294967296 ∧ k ≤ 1 ∧ w = w' := by
  refine (sub32_any x y c w hx hy hc).mono ?_
  rintro e w' ⟨rfl, rfl⟩
  refine ⟨_, _, rfl, ?_, Nat.mod_lt _ (by omega), ?_, rfl⟩
  · unfold bor
    split <;> omega
  · unfold bor; split <;> omega
theorem Only.refl (w : World) (g : Nat) : Only w w g := ⟨rfl, rfl, rfl, rfl, fun _ _ => rfl⟩
theorem Only.set' {w w1 : World} {g i : Nat} (h : Only w w1 g) (v : Value) : Only w (w1.setCell ⟨g, i, none⟩ v) g :=
  ⟨h.os, h.tape, h.output, by simpa using h.size, fun k hk => (Below.heap_setCell w1 ⟨g, i, none⟩ v k hk).trans (h.block k hk)⟩
theorem Rd.only {w w' : World} {g : Nat} {k : IntKind} {A : Option Addr} {ds : List Nat} (h : Rd w k A ds) (ho : Only w w' g) (hA : ∀ b o s, A = some ⟨b, o, s⟩ → b ≠ g) : Rd w' k A ds := by
  intro j hj
  obtain ⟨b, off, e, hb, hc⟩ := h j hj
  refine ⟨b, off, e, by rw [ho.size]; exact hb, ?_⟩
  rw [← hc]
  exact World.cell?_of_block (ho.block b (hA b off none e))
theorem drop_set_off (zs : List Nat) (j k s : Nat) : (zs.set (j + k) s).drop j = (zs.drop j).set k s := by
  rw [List.drop_set, if_neg (by omega), Nat.add_sub_cancel_left]
theorem get_drop {us : List Nat} {j k : Nat} (h : j + k < us.length) : (us.drop j)[k]'(by rw [List.length_drop]; omega) = us[j + k] := by rw [List.getElem_drop]
/-- The head of a round of a loop that changes a part of a row: what lies outside is as it was, and from k on. -/
structure PartInv (w wr : World) (g : Nat) (us zs : List Nat) (j k : Nat) : Prop where
  row : Row wr g .u32 141 zs
  len : zs.length = us.length
  valid : Valid B32 zs
  low : zs.take j = us.take j
  high : zs.drop (j + k) = us.drop (j + k)
  only : Only w wr g
theorem PartInv.set_ {w wr : World} {g j k s : Nat} {us zs : List Nat} (h : PartInv w wr g us zs j k) (hs : s < 4294967296) : PartInv w (wr.setCell ⟨g, j + k, none⟩ (.int .u32 (s : Int))) g us (zs.set (j + k) s) j (k + 1) := by
  refine ⟨h.row.set_ _ _, by simpa using h.len, valid_set h.valid _ _ hs, ?_, ?_, h.only.set' _⟩
  · rw [List.take_set_of_le (by omega)]; exact h.low
  · rw [← Nat.add_assoc, List.drop_set_of_lt (by omega)]
    have h1 := congrArg (List.drop 1) h.high
    rwa [List.drop_drop, List.drop_drop] at h1
theorem PartInv.get {w wr : World} {g j k : Nat} {us zs : List Nat} (h : PartInv w wr g us zs j k) (hk : j + k < us.length) : zs[j + k]? = some us[j + k] := by
  have h1 := congrArg (fun l => l[0]?) h.high
  simp only [List.getElem?_drop, Nat.add_zero] at h1
  rw [h1, List.getElem?_eq_getElem hk]
theorem PartInv.cell {w wr : World} {g j k : Nat} {us zs : List Nat} (h : PartInv w wr g us zs j k) (hk : j + k < us.length) : wr.cell? ⟨g, j + k, none⟩ = some (.int .u32 (us[j + k] : Nat)) := by
  have h1 := h.get hk
  have h2 : j + k < zs.length := by rw [h.len]; exact hk
  have h3 := h.row.cell h2
  rw [List.getElem?_eq_getElem h2] at h1
  injection h1 with h1
  rw [h3, h1]
theorem part_val {zs : List Nat} {j k s : Nat} (h : j + k < zs.length) : val B32 (((zs.set (j + k) s).drop j).take (k + 1)) = val B32 ((zs.drop j).take k) + B32 ^ k * s := by
  rw [drop_set_off, val_set B32 (by rw [List.length_drop]; omega)]
theorem part_old {us : List Nat} {j k : Nat} (h : j + k < us.length) : val B32 ((us.drop j).take (k + 1)) = val B32 ((us.drop j).take k) + B32 ^ k * us[j + k] := by
  rw [val_take_succ B32 _ k (by rw [List.length_drop]; omega), get_drop h]

set_option maxRecDepth 100000 in
theorem subMul_any {w : World} {g j c c2 n D : Nat} {A : Option Addr} {us vs : List Nat} (hrow : Row w g .u32 141 us) (hv : Valid B32 us) (hR : Rd w .u32 A vs) (hvs : Valid B32 vs) (hn : vs.length = n)
    (hA : ∀ b o s, A = some ⟨b, o, s⟩ → b ≠ g) (hj : j + n + 1 ≤ us.length) (hD : D < 4294967296) (hlen : us.length ≤ 17592186044416) :
    Calls Tryz.prog 140 #[.slice (some ⟨g, j, none⟩) (n + 1) c, .slice A n c2, .int .u32 D] w fun e w' => ∃ zs bo, e = .returned (.bool (decide (bo = 1))) ∧ bo ≤ 1 ∧ PartInv w w' g us zs j (n + 1) ∧
      val B32 ((zs.drop j).take (n + 1)) + val B32 vs * D = val B32 ((us.drop j).take (n + 1)) + B32 ^ (n + 1) * bo := by
  have HR := Lib.hid hR
  have HVS := Lib.hid hvs
  have HVU := Lib.hid hv
  have HN := Lib.hid hn
  have HAA := Lib.hid hA
  have hinv : PartInv w w g us us j 0 := ⟨hrow, rfl, hv, rfl, rfl, Only.refl _ _⟩
  clear hR hvs hv hn hA hrow
  go_enter Tryz.func140, Tryz.ntmps140
  go_wp2_with fail
  go_loopw [7, 8, 17] (fun cv bv iv wr => ∃ (k cc bb : Nat) (zs : List Nat), k ≤ n ∧ iv = .int .i64 k ∧ cv = .int .u32 cc ∧ bv = .int .u32 bb ∧ cc < 4294967296 ∧ bb ≤ 1 ∧ PartInv w wr g us zs j k ∧ Hid (val B32 ((zs.drop j).take k) + val B32 (vs.take k) * D = val B32 ((us.drop j).take k) + B32 ^ k * (cc + bb))) (fun _ _ iv _ => n - (intOf iv).toNat)
  case atStart => exact ⟨0, 0, 0, us, Nat.zero_le _, rfl, rfl, rfl, by omega, by omega, hinv, by show _ = _; simp [val]⟩
  case round =>
    clear hinv
    obtain ⟨k, cc, bb, zs, hk, rfl, rfl, rfl, hcc, hbb, hinv, HE⟩ := hrel
    by_cases hlt : k < n
    · have hkv : k < vs.length := by rw [HN.out]; exact hlt
      obtain ⟨b1, o1, rfl, hb1, hc1⟩ := (HR.out.only hinv.only HAA.out).at_ (j := k) hkv
      have hy : vs[k] < 4294967296 := valid_get HVS.out k hkv
      have hju : j + k < us.length := by omega
      have hcp := hinv.cell hju
      have hp : us[j + k] < 4294967296 := valid_get HVU.out _ hju
      have hfr := hinv.row.frozen (j + k)
      have HI := Lib.hid hinv
      have HLZ : Hid (j + k < zs.length) := by show _ < _; rw [hinv.len]; exact hju
      have HVT := Lib.hid (val_take_succ B32 vs k hkv)
      have HUT := Lib.hid (part_old hju)
      clear hinv
      generalize us[j + k] = p at *
      generalize vs[k] = y at *
      go_wp2_with fail
      refine (mul32_ex hy hD).mono ?_
      rintro e w' ⟨hi, lo, rfl, hp1, hhi, hlo, rfl⟩
      have HP := Lib.hid hp1
      clear hp1
      go_wp2_with fail
      refine (add32_ex (c := 0) hlo hcc (by omega)).mono ?_
      rintro e w' ⟨s, k1, rfl, hq, hsb, hk1, rfl⟩
      obtain ⟨hf, hcb⟩ := ma_bound hy hD hcc HP.out (s := s) (k := k1) (by omega)
      have HF := Lib.hid hf
      clear hf hq
      go_wp2_with fail
      refine (sub32_ex hp hsb hbb).mono ?_
      rintro e w' ⟨d, k2, rfl, hq, hdb, hk2, rfl⟩
      have HS : Hid (PartInv w (wr.setCell ⟨g, j + k, none⟩ (.int .u32 (d : Int))) g us (zs.set (j + k) d) j (k + 1) ∧ val B32 (((zs.set (j + k) d).drop j).take (k + 1)) + val B32 (vs.take (k + 1)) * D = val B32 ((us.drop j).take (k + 1)) + B32 ^ (k + 1) * (hi + k1 + k2)) := by
        refine ⟨HI.out.set_ hdb, ?_⟩
        rw [part_val HLZ.out, HVT.out, HUT.out, Nat.pow_succ]
        exact submul_step HE.out HF.out hq
      clear hq
      go_wp2_with fail
      go_roundw
      case rel => exact ⟨k + 1, hi + k1, k2, _, by omega, by go_num, by go_num, by go_num, hcb, hk2, HS.out.1, HS.out.2⟩
      case measure => simp [intOf]; omega
    · obtain rfl : k = n := by omega
      have hju : j + k < us.length := by omega
      have hcp := hinv.cell hju
      have hp : us[j + k] < 4294967296 := valid_get HVU.out _ hju
      have hfr := hinv.row.frozen (j + k)
      have HI := Lib.hid hinv
      have HLZ : Hid (j + k < zs.length) := by show _ < _; rw [hinv.len]; exact hju
      have HUT := Lib.hid (part_old hju)
      clear hinv
      generalize us[j + k] = p at *
      go_wp2_with fail
      refine (sub32_ex hp hcc hbb).mono ?_
      rintro e w' ⟨d, k2, rfl, hq, hdb, hk2, rfl⟩
      have HS : Hid (PartInv w (wr.setCell ⟨g, j + k, none⟩ (.int .u32 (d : Int))) g us (zs.set (j + k) d) j (k + 1) ∧ val B32 (((zs.set (j + k) d).drop j).take (k + 1)) + val B32 vs * D = val B32 ((us.drop j).take (k + 1)) + B32 ^ (k + 1) * k2) := by
        refine ⟨HI.out.set_ hdb, ?_⟩
        have h5 := HE.out
        have hvt : vs.take k = vs := List.take_of_length_le (by rw [HN.out]; exact Nat.le_refl _)
        rw [hvt] at h5
        rw [part_val HLZ.out, HUT.out, Nat.pow_succ]
        exact submul_top h5 hq
      clear hq
      go_wp2_with fail
      go_ret
      refine ⟨_, k2, ?_, hk2, HS.out.1, HS.out.2⟩
      have h01 : k2 = 0 ∨ k2 = 1 := by omega
      rcases h01 with rfl | rfl <;> rfl
set_option maxRecDepth 100000 in
theorem addBack_any {w : World} {g j c c2 n : Nat} {A : Option Addr} {us vs : List Nat} (hrow : Row w g .u32 141 us) (hv : Valid B32 us) (hR : Rd w .u32 A vs) (hvs : Valid B32 vs) (hn : vs.length = n)
    (hA : ∀ b o s, A = some ⟨b, o, s⟩ → b ≠ g) (hj : j + n + 1 ≤ us.length) (hlen : us.length ≤ 17592186044416) :
    Calls Tryz.prog 141 #[.slice (some ⟨g, j, none⟩) (n + 1) c, .slice A n c2] w fun e w' => ∃ zs k, e = .returned (.tuple #[]) ∧ k ≤ 1 ∧ PartInv w w' g us zs j (n + 1) ∧
      val B32 ((zs.drop j).take (n + 1)) + B32 ^ (n + 1) * k = val B32 ((us.drop j).take (n + 1)) + val B32 vs := by
  have HR := Lib.hid hR
  have HVS := Lib.hid hvs
  have HVU := Lib.hid hv
  have HN := Lib.hid hn
  have HAA := Lib.hid hA
  have hinv : PartInv w w g us us j 0 := ⟨hrow, rfl, hv, rfl, rfl, Only.refl _ _⟩
  clear hR hvs hv hn hA hrow
  go_enter Tryz.func141, Tryz.ntmps141
  go_wp2_with fail
  go_loopw [4, 9] (fun cv iv wr => ∃ (k cc : Nat) (zs : List Nat), k ≤ n ∧ iv = .int .i64 k ∧ cv = .int .u32 cc ∧ cc ≤ 1 ∧ PartInv w wr g us zs j k ∧ Hid (val B32 ((zs.drop j).take k) + B32 ^ k * cc = val B32 ((us.drop j).take k) + val B32 (vs.take k))) (fun _ iv _ => n - (intOf iv).toNat)
  case atStart => exact ⟨0, 0, us, Nat.zero_le _, rfl, rfl, by omega, hinv, by show _ = _; simp [val]⟩
  case round =>
    clear hinv
    obtain ⟨k, cc, zs, hk, rfl, rfl, hcc, hinv, HE⟩ := hrel
    by_cases hlt : k < n
    · have hkv : k < vs.length := by rw [HN.out]; exact hlt
      obtain ⟨b1, o1, rfl, hb1, hc1⟩ := (HR.out.only hinv.only HAA.out).at_ (j := k) hkv
      have hy : vs[k] < 4294967296 := valid_get HVS.out k hkv
      have hju : j + k < us.length := by omega
      have hcp := hinv.cell hju
      have hp : us[j + k] < 4294967296 := valid_get HVU.out _ hju
      have hfr := hinv.row.frozen (j + k)
      have HI := Lib.hid hinv
      have HLZ : Hid (j + k < zs.length) := by show _ < _; rw [hinv.len]; exact hju
      have HVT := Lib.hid (val_take_succ B32 vs k hkv)
      have HUT := Lib.hid (part_old hju)
      clear hinv
      generalize us[j + k] = p at *
      generalize vs[k] = y at *
      go_wp2_with fail
      refine (add32_ex hp hy hcc).mono ?_
      rintro e w' ⟨d, k2, rfl, hq, hdb, hk2, rfl⟩
      have HS : Hid (PartInv w (wr.setCell ⟨g, j + k, none⟩ (.int .u32 (d : Int))) g us (zs.set (j + k) d) j (k + 1) ∧ val B32 (((zs.set (j + k) d).drop j).take (k + 1)) + B32 ^ (k + 1) * k2 = val B32 ((us.drop j).take (k + 1)) + val B32 (vs.take (k + 1))) := by
        refine ⟨HI.out.set_ hdb, ?_⟩
        rw [part_val HLZ.out, HVT.out, HUT.out, Nat.pow_succ]
        exact addback_step HE.out hq
      clear hq
      go_wp2_with fail
      go_roundw
      case rel => exact ⟨k + 1, k2, _, by omega, by go_num, by go_num, hk2, HS.out.1, HS.out.2⟩
      case measure => simp [intOf]; omega
    · obtain rfl : k = n := by omega
      have hju : j + k < us.length := by omega
      have hcp := hinv.cell hju
      have hp : us[j + k] < 4294967296 := valid_get HVU.out _ hju
      have hfr := hinv.row.frozen (j + k)
      have HI := Lib.hid hinv
      have HLZ : Hid (j + k < zs.length) := by show _ < _; rw [hinv.len]; exact hju
      have HUT := Lib.hid (part_old hju)
      clear hinv
      generalize us[j + k] = p at *
      have HS : Hid (∀ e : Int, e = ((p + cc) % 4294967296 : Nat) → ∃ zs' k', k' ≤ 1 ∧ PartInv w (wr.setCell ⟨g, j + k, none⟩ (.int .u32 e)) g us zs' j (k + 1) ∧ val B32 ((zs'.drop j).take (k + 1)) + B32 ^ (k + 1) * k' = val B32 ((us.drop j).take (k + 1)) + val B32 vs) := by
        rintro e rfl
        refine ⟨zs.set (j + k) ((p + cc) % 4294967296), (p + cc) / 4294967296, by omega, HI.out.set_ (Nat.mod_lt _ (by omega)), ?_⟩
        have h5 := HE.out
        have hvt : vs.take k = vs := List.take_of_length_le (by rw [HN.out]; exact Nat.le_refl _)
        rw [hvt] at h5
        rw [part_val HLZ.out, HUT.out, Nat.pow_succ]
        exact addback_top h5 (Nat.mod_add_div _ _)
      go_wp2_with fail
      go_end0
      obtain ⟨zs', k', h5, h6, h7⟩ := HS.out _ (by go_num)
      exact ⟨zs', k', rfl, h5, h6, h7⟩
theorem Only.qt {w w1 w2 : World} {g : Nat} (h : Only w w1 g) (hq : Qt w1 w2) : Only w w2 g := by
  obtain ⟨n, rfl⟩ := hq
  exact ⟨h.os, h.tape, h.output, h.size, h.block⟩
theorem cell_far {w : World} {p q : Addr} {u v : Value} (hne : p.block ≠ q.block) (h : w.cell? q = some v) : (w.setCell p u).cell? q = some v :=
  (World.cell?_setCell_other _ _ _ _ (fun e => hne (by rw [e]))).trans h
theorem frozen_set {w : World} {p q : Addr} {u : Value} (h : w.frozen? q = false) : (w.setCell p u).frozen? q = false := by
  rw [World.frozen?_setCell]; exact h
/-- The call returns the numbers q and r in new memory. -/
def RetNN (w : World) (q r : Nat) (e : Ending) (w' : World) : Prop := ∃ A1 c1 A2 c2, e = .returned (.tuple #[.slice A1 (digs B32 q).length c1, .slice A2 (digs B32 r).length c2]) ∧ NO w' w.heap.size A1 c1 q ∧ NO w' w.heap.size A2 c2 r ∧ Ext w w'
theorem lz_any {w : World} {x : Nat} (hx : x < 4294967296) : Calls Tryz.prog 137 #[.int .u32 x] w fun e w' => e = .returned (.int .i64 ((32 - bl x : Nat) : Int)) ∧ w = w' := by
  have hb : bl x ≤ 32 := digs_len_le (by omega) (by omega)
  have HL : Hid (∀ w, Calls Tryz.prog 121 #[.int .u32 x] w fun e w' => e = .returned (.int .i64 (bl x)) ∧ w' = w) := fun w => by
    have := Tryz.bits_Len32 (x : Int) w (by omega) (by omega)
    rwa [show (x : Int).toNat = x from by omega, bitLen_bl hx] at this
  generalize bl x = k at *
  go_enter Tryz.func137, Tryz.ntmps137
  go_wp2_with fail
  refine (HL.out w).mono ?_
  rintro e w' ⟨rfl, rfl⟩
  go_wp2_with fail
  go_ret
  exact ⟨ret_int (by omega), rfl⟩
set_option maxHeartbeats 4000000 in
set_option maxRecDepth 100000 in
theorem divide_v {w : World} {A1 A2 : Option Addr} {c1 c2 L1 L2 n m : Nat} (h1 : NV w A1 c1 L1 n) (h2 : NV w A2 c2 L2 m) (hm : m ≠ 0) (hs1 : dl n ≤ 1000000000) (hs2 : dl m ≤ 1000000000) :
    Calls Tryz.prog 127 #[.slice A1 L1 c1, .slice A2 L2 c2] w (RetNN w (n / m) (n % m)) := by
  have HNB := Lib.hid (normal_v h2 (by omega))
  have H1 := Lib.hid h1
  have hmp : 0 < (digs B32 m).length := by
    rcases Nat.eq_zero_or_pos (digs B32 m).length with h | h
    · exact absurd ((digs_eq_nil B32_two).1 (List.eq_nil_of_length_eq_zero h)) hm
    · exact h
  clear h1 h2
  go_enter Tryz.func127, Tryz.ntmps127
  go_wp2_with fail
  go_step3
  go_wp2_with fail
  refine HNB.out.mono ?_
  rintro e w1 ⟨Ab, cb, rfl, hb, x1⟩
  have HB := Lib.hid hb
  have HCMP := Lib.hid (cmp_v (H1.out.ext x1) hb.nv)
  clear hb HNB
  go_wp2_with fail
  refine HCMP.out.mono ?_
  rintro e w2 ⟨rfl, hq⟩
  have x2 := hq.ext
  clear hq HCMP
  by_cases hlt : n < m
  · have hc : cmpN n m = -1 := cmpN_lt hlt
    rw [hc]
    have HNA := Lib.hid (normal_v ((H1.out.ext x1).ext x2) (by omega))
    have HD0 : Hid (n / m = 0) := Nat.div_eq_of_lt hlt
    have HD1 : Hid (n % m = n) := Nat.mod_eq_of_lt hlt
    clear hc
    go_wp2_with fail
    refine HNA.out.mono ?_
    rintro e w3 ⟨Ar, cr, rfl, hr, x3⟩
    have hx := (x1.trans x2).trans x3
    have HR := Lib.hid (Own.mono hr ((x1.trans x2).size) : NO w3 w.heap.size Ar cr n)
    clear hr
    go_wp2_with fail
    rw [Exit.noGoto_ret]
    go_ret2
    show RetNN w (n / m) (n % m) _ _
    rw [HD0.out, HD1.out]
    exact ⟨none, 0, _, _, rfl, Own.none_ _ _ _ _, HR.out, hx⟩
  · have hc : 0 ≤ cmpN n m := by unfold cmpN; split <;> (try split) <;> omega
    generalize cmpN n m = K at *
    have hc' : ¬ K < 0 := by omega
    by_cases hl1 : (digs B32 m).length = 1
    · have hd : digs B32 m = [m] := by
        have h5 := val_digs B32_two m
        match hdl : digs B32 m, hl1 with
        | [x], _ => rw [hdl] at h5; simp [val] at h5; rw [h5]
      have hmb : m < 4294967296 := valid_digs B32_two m m (by rw [hd]; simp)
      have hb2 := HB.out.ext x2
      obtain ⟨gb, rfl, _, hgb, hcb, _⟩ := Own.at_ hb2 (i := 0) (by rw [hd]; simp)
      simp only [hd, List.getElem_cons_zero] at hcb
      have HDS := Lib.hid (divSmall_v ((H1.out.ext x1).ext x2) (show 0 < m by omega) hmb (by omega))
      clear hb2 hd hc
      generalize (digs B32 m).length = lb at *
      subst hl1
      go_wp2_with fail
      refine HDS.out.mono ?_
      rintro e w3 ⟨Aq, cq, rfl, hq, x3⟩
      have hrm : n % m < 18446744073709551616 := by have := Nat.mod_lt n (show m > 0 by omega); omega
      have HOF := Lib.hid (of_any (w := w3) (n % m) hrm)
      have HQ := Lib.hid hq
      have hrb : n % m < 4294967296 := by have := Nat.mod_lt n (show m > 0 by omega); omega
      clear hq HDS hrm
      have hrI : ((n : Int) % (m : Int)) = ((n % m : Nat) : Int) := (Int.natCast_emod n m).symm
      obtain ⟨r, hr⟩ : ∃ r, r = n % m := ⟨_, rfl⟩
      rw [← hr] at hrI HOF hrb
      have HRR := Lib.hid hr
      clear hr
      go_wp2_with fail
      refine HOF.out.mono ?_
      rintro e w4 ⟨A5, c5, rfl, h5, x5⟩
      have hx := ((x1.trans x2).trans x3).trans x5
      have s1 := ((x1.trans x2)).size
      have s2 := (((x1.trans x2)).trans x3).size
      have HA : Hid (NO w4 w.heap.size Aq cq (n / m)) := Own.mono (NO.ext HQ.out x5) s1
      have HBB : Hid (NO w4 w.heap.size A5 c5 r) := Own.mono h5 s2
      clear h5 s1 s2
      go_wp2_with fail
      rw [Exit.noGoto_ret]
      go_ret2
      show RetNN w (n / m) (n % m) _ _
      rw [← HRR.out]
      exact ⟨_, _, _, _, rfl, HA.out, HBB.out, hx⟩
    · have hl2 : 2 ≤ (digs B32 m).length := by omega
      have hl1' : (((digs B32 m).length : Int) == 1) = false := by rw [beq_eq_false_iff_ne]; omega
      -- the highest digit
      obtain ⟨top, htop, htb, hblm⟩ := bl_top (a := m) (L := (digs B32 m).length - 1) (by omega)
      have hb2 := HB.out.ext x2
      obtain ⟨gb, rfl, _, hgb, hcb, _⟩ := Own.at_ hb2 (i := (digs B32 m).length - 1) (by omega)
      rw [List.getElem?_eq_getElem (by omega)] at htop
      injection htop with htop
      rw [htop] at hcb
      have hbt : bl top ≤ 32 := digs_len_le (by omega) (by omega)
      obtain ⟨sh, hsh⟩ : ∃ sh, sh = 32 - bl top := ⟨_, rfl⟩
      have HLZ := Lib.hid (lz_any (w := w2) htb)
      rw [← hsh] at HLZ
      have HLB := Lib.hid hblm
      have HNVB : Hid (NV w2 (some ⟨gb, 0, none⟩) cb (digs B32 m).length m) := (hb2 : NO w2 w.heap.size _ cb m).nv
      have HSH := Lib.hid hsh
      have HDLM : Hid (dl m = (digs B32 m).length) := rfl
      have hlbb : (digs B32 m).length ≤ 1000000000 := hs2
      clear hb2 hblm htop
      generalize (digs B32 m).length = lb at *
      have hlb : lb - 1 < lb := by omega
      have hdlm : dl m = lb := HDLM.out
      have hsh31 : sh ≤ 32 := by omega
      clear hsh
      -- M, the divisor shifted
      obtain ⟨M, hM⟩ : ∃ M, M = m * 2 ^ sh := ⟨_, rfl⟩
      have hMlt : M < B32 ^ lb := by
        rw [hM]
        have h5 := lt_pow_len (B := 2) (by omega) m
        have h6 : B32 ^ lb = 2 ^ bl m * 2 ^ sh := by
          rw [← Nat.pow_add, HLB.out, show 32 * (lb - 1) + bl top + sh = 32 * lb from by have := HSH.out; omega, Nat.pow_mul]; rfl
        rw [h6]
        exact Nat.mul_lt_mul_of_pos_right h5 (Nat.two_pow_pos _)
      have hMge : m ≤ M := by rw [hM]; exact Nat.le_mul_of_pos_right m (Nat.two_pow_pos _)
      have hMl : (digs B32 M).length = lb := by
        have h5 : dl M ≤ lb := dl_le hMlt
        have h6 := dl_mono hMge
        rw [hdlm] at h6
        exact Nat.le_antisymm h5 h6
      have HSHL : Hid (Calls Tryz.prog 138 #[.slice (some ⟨gb, 0, none⟩) lb cb, .int .i64 (sh : Int)] w2 (RetN w2 M)) := by
        rw [hM]
        exact shl_v HNVB.out (by omega) (by omega) (by omega)
      have HM := Lib.hid hM
      have HMLT := Lib.hid hMlt
      clear hM hMlt hMge hdlm
      go_wp2_with fail
      refine HLZ.out.mono ?_
      rintro e w' ⟨rfl, rfl⟩
      go_wp2_with fail
      refine HSHL.out.mono ?_
      rintro e w3 ⟨Av, cv, rfl, hv, x3⟩
      have HV := Lib.hid hv
      clear hv HSHL HLZ
      rw [hMl]
      go_wp2_with fail
      have hA3 := ((H1.out.ext x1).ext x2).ext x3
      have HLA : Hid (dl n = (digs B32 n).length) := rfl
      have hla : (digs B32 n).length ≤ 1000000000 := hs1
      have hlaL : lb ≤ (digs B32 n).length := by
        have h5 := dl_mono (show m ≤ n by omega)
        rw [HDLM.out] at h5
        exact h5
      have HNA := Lib.hid (normal_v hA3 (by omega))
      have HSA := Lib.hid (fun w' (hx : Ext w3 w') => shl_v (n := (sh : Int)) (m := sh) (hA3.ext hx) (by omega) (by omega) (by omega))
      obtain ⟨A, hA⟩ : ∃ A, A = n * 2 ^ sh := ⟨_, rfl⟩
      rw [← hA] at HSA
      have hAlt : A < B32 ^ (digs B32 n).length * 2 ^ sh := by
        rw [hA]
        exact Nat.mul_lt_mul_of_pos_right (lt_pow_len B32_two n) (Nat.two_pow_pos _)
      have hAl : (digs B32 A).length ≤ (digs B32 n).length + 1 := by
        refine digs_len_le B32_two ?_
        rw [Nat.pow_succ]
        have h5 : 2 ^ sh ≤ B32 := by
          have : (2 : Nat) ^ sh ≤ 2 ^ 32 := Nat.pow_le_pow_right (by omega) hsh31
          unfold B32; omega
        have := Nat.mul_le_mul_left (B32 ^ (digs B32 n).length) h5
        omega
      have HA := Lib.hid hA
      have HALT := Lib.hid hAlt
      clear hA hAlt hA3
      refine HNA.out.mono ?_
      rintro e w4 ⟨An, cn, rfl, _, x4⟩
      generalize (digs B32 n).length = la at *
      obtain ⟨k, hk⟩ : ∃ k, lb = k + 2 := ⟨lb - 2, by omega⟩
      subst hk
      obtain ⟨nq, hnq⟩ : ∃ nq, la = nq + k + 1 := ⟨la - k - 1, by omega⟩
      subst hnq
      have hnq1 : 1 ≤ nq := by omega
      have HMGE : Hid (B32 ^ (k + 1) * 2 ^ sh ≤ M) := by
        show _ ≤ _
        rw [HM.out]
        refine Nat.mul_le_mul_right _ ?_
        rcases Nat.lt_or_ge m (B32 ^ (k + 1)) with h5 | h5
        · have h6 := dl_le h5
          rw [HDLM.out] at h6
          omega
        · exact h5
      clear HNA
      go_wp2_with (at_make; refine wpList_mkrow rfl _ _ _ rfl _ _ _ Tryz.underlying23 info_u32 (by omega) _ _ _ (nq + k + 1 + 1) rfl rfl (by omega) (by omega) ?_)
      intro gu w5 hgu hrow x5
      go_wp2_with fail
      refine (HSA.out w5 (x4.trans x5)).mono ?_
      rintro e w6 ⟨As, cs, rfl, hs, x6⟩
      have hrow6 := hrow.ext x6
      have hrd6 := (hs : NO w6 w5.heap.size As cs A).nr.rd
      clear hrow hs HSA
      go_wp2_with (with_reducible refine wpList_copyrow rfl (.tmp 56) (.tmp 59) 23 23 rfl 141 Tryz.underlying23 size_u32 gu _ _ _ As .u32 _ _ _ rfl rfl hrow6 hrd6 hAl (by simp) ?_)
      intro w7 hrow7 hb7
      obtain ⟨us0, hus0⟩ : ∃ us0, us0 = digs B32 A ++ List.replicate (nq + k + 1 + 1 - (digs B32 A).length) 0 := ⟨_, rfl⟩
      rw [← hus0] at hrow7
      have hul : us0.length = nq + k + 2 := by rw [hus0, List.length_append, List.length_replicate]; omega
      have huv : Valid B32 us0 := by
        rw [hus0, valid_append]
        exact ⟨valid_digs B32_two A, valid_replicate (by unfold B32; omega) _⟩
      have hua : val B32 us0 = A := by rw [hus0, val_append, val_digs B32_two, val_replicate, Nat.mul_zero, Nat.add_zero]
      have x37 : Ext w3 w7 := ((x4.trans x5).trans x6).step hb7 (by have := x4.size; omega)
      clear hrow6 hrd6 hus0 hAl x6 x5 hb7
      go_wp2_with (at_make; refine wpList_mkrow rfl _ _ _ rfl _ _ _ Tryz.underlying23 info_u32 (by omega) _ _ _ nq rfl rfl (by omega) (by omega) ?_)
      intro gq w8 hgq hrowq x8
      have hguq : gu < gq := by have := hrow7.lt; omega
      have hrowu := hrow7.ext x8
      have x38 := x37.trans x8
      clear hrow7 x37 x8
      have hvt : val B32 (us0.drop nq) < M := by
        rw [val_drop_div B32_two huv, hua]
        refine Nat.div_lt_of_lt_mul ?_
        have h5 := HALT.out
        have h6 : B32 ^ (nq + k + 1) * 2 ^ sh = B32 ^ nq * (B32 ^ (k + 1) * 2 ^ sh) := by rw [Nat.add_assoc, Nat.pow_add, Nat.mul_assoc]
        have h7 := Nat.mul_le_mul_left (B32 ^ nq) HMGE.out
        omega
      obtain ⟨qs0, hqs0⟩ : ∃ qs0, qs0 = List.replicate nq 0 := ⟨_, rfl⟩
      have hql : qs0.length = nq := by rw [hqs0]; simp
      have hqv : Valid B32 qs0 := by rw [hqs0]; exact valid_replicate (by unfold B32; omega) _
      have HST : Hid (val B32 us0 + M * (B32 ^ nq * val B32 (qs0.drop nq)) = A) := by
        show _ = _
        rw [hua, List.drop_of_length_le (by omega)]
        simp [val]
      have HVT := Lib.hid hvt
      have hvl : (digs B32 M).length = k + 2 := hMl
      have hvv := valid_digs B32_two M
      have hvd := val_digs B32_two M
      have hvn := getLast_digs B32_two M
      have hv3 : Own w3 w2.heap.size .u32 141 Av cv (digs B32 M) := HV.out
      generalize digs B32 M = vs at *
      obtain ⟨gv, hAv, z1, hgv, z2, z3⟩ := Own.at_ hv3 (i := k + 1) (by omega)
      clear z1 z2 z3
      subst hAv
      have HVR : Hid (Rd w3 .u32 (some ⟨gv, 0, none⟩) vs) := Own.rd hv3
      have hgvu : gv < gu := by have := x4.size; omega
      rw [← hqs0] at hrowq
      have HRU := Lib.hid hrowu
      have HRQ := Lib.hid hrowq
      have HVV := Lib.hid hvv
      have HVD := Lib.hid hvd
      have HVN := Lib.hid hvn
      have HVL := Lib.hid hvl
      have HUL := Lib.hid hul
      have HQL := Lib.hid hql
      have HUV := Lib.hid huv
      have HQV := Lib.hid hqv
      clear hua hvt hqs0 hv3 hrowu hrowq hvv hvd hvn hvl hul hql huv hqv hcb hMl
      go_wp2_with fail
      go_step3
      go_wp2_with fail
      go_loopw [13] (fun jv wr => ∃ (t : Nat) (us qs : List Nat), t ≤ nq ∧ jv = .int .i64 ((t : Int) - 1) ∧ Row wr gu .u32 141 us ∧ Row wr gq .u32 141 qs ∧ Hid (us.length = nq + k + 2) ∧ Hid (qs.length = nq) ∧ Hid (Valid B32 us) ∧ Hid (Valid B32 qs) ∧ Hid (val B32 us + M * (B32 ^ t * val B32 (qs.drop t)) = A) ∧ Hid (val B32 (us.drop t) < M) ∧ Ext w3 wr) (fun jv _ => (intOf jv + 1).toNat)
      case atStart => exact ⟨nq, us0, qs0, Nat.le_refl _, rfl, HRU.out, HRQ.out, HUL.out, HQL.out, HUV.out, HQV.out, HST.out, HVT.out, x38⟩
      case round =>
        clear HRU HRQ HUL HQL HUV HQV HST HVT
        obtain ⟨t, us, qs, ht, rfl, hru, hrq, HUL, HQL, HUV, HQV, HST, HLT, hx⟩ := hrel
        by_cases ht0 : t = 0
        · subst ht0
          have hqn : val B32 qs = n / m ∧ val B32 us = (n % m) * 2 ^ sh := by
            have h5 := HST.out
            have h6 := HLT.out
            rw [Nat.pow_zero, Nat.one_mul, List.drop_zero, HM.out, HA.out] at h5
            rw [List.drop_zero, HM.out] at h6
            have hmp2 : 0 < m * 2 ^ sh := by omega
            have h7 : n * 2 ^ sh / (m * 2 ^ sh) = val B32 qs := by
              rw [← h5, Nat.add_mul_div_left _ _ hmp2, Nat.div_eq_of_lt h6, Nat.zero_add]
            have h8 : n * 2 ^ sh % (m * 2 ^ sh) = val B32 us := by
              rw [← h5, Nat.add_mul_mod_self_left, Nat.mod_eq_of_lt h6]
            rw [Nat.mul_div_mul_right _ _ (Nat.two_pow_pos sh)] at h7
            rw [Nat.mul_mod_mul_right] at h8
            exact ⟨h7.symm, h8.symm⟩
          have hnrq : NR wr (some ⟨gq, 0, none⟩) nq qs := ⟨by have := hrq.rd qs.length; rwa [List.take_length] at this, HQV.out, by rw [HQL.out]; exact Nat.le_refl _, by omega⟩
          have hnru : NR wr (some ⟨gu, 0, none⟩) (nq + k + 1 + 1) us := ⟨by have := hru.rd us.length; rwa [List.take_length] at this, HUV.out, by rw [HUL.out]; omega, by omega⟩
          have hdq : dl (V qs) ≤ 35184372088832 := by
            have h5 := len_V HQV.out
            rw [HQL.out] at h5
            exact Nat.le_trans h5 (by omega)
          have HNQ := Lib.hid (normal_any hnrq hdq)
          rw [HQL.out] at HNQ
          have HNU := Lib.hid hnru
          have HQN := Lib.hid hqn
          clear hqn hnrq hnru hdq
          have HBG : Hid (w.heap.size ≤ wr.heap.size ∧ Ext w wr) := by
            have h5 := ((x1.trans x2).trans x3).trans hx
            exact ⟨h5.size, h5⟩
          have HSR : Hid (∀ w', Ext wr w' → Calls Tryz.prog 142 #[.slice (some ⟨gu, 0, none⟩) (nq + k + 1 + 1) (nq + k + 1 + 1), .int .i64 (sh : Int)] w' (RetN w' (n % m))) := fun w' hx' => by
            have h5 : NV w' (some ⟨gu, 0, none⟩) (nq + k + 1 + 1) (nq + k + 1 + 1) ((n % m) * 2 ^ sh) := ⟨us, HUL.out, HQN.out.2, HNU.out.ext hx'⟩
            have h6 : dl ((n % m) * 2 ^ sh) ≤ nq + k + 1 + 1 := h5.dl
            have h7 := shr_v (n := (sh : Int)) (m := sh) h5 (by omega) (by omega) (by omega)
            rwa [Nat.mul_div_cancel _ (Nat.two_pow_pos sh)] at h7
          go_wp2_with fail
          refine HNQ.out.mono ?_
          rintro e w20 ⟨A5, c5, rfl, h5, x5⟩
          have HA5 := Lib.hid h5
          clear h5
          go_wp2_with fail
          refine (HSR.out _ x5).mono ?_
          rintro e w21 ⟨A6, c6, rfl, h6, x6⟩
          have hB20 : w.heap.size ≤ w20.heap.size := by have := HBG.out.1; have := x5.size; omega
          have HR1 : Hid (NO w21 w.heap.size A5 c5 (n / m)) := by
            have h7 : NO w21 wr.heap.size A5 c5 (V qs) := NO.ext HA5.out x6
            rw [show V qs = n / m from HQN.out.1] at h7
            exact Own.mono h7 HBG.out.1
          have HR2 : Hid (NO w21 w.heap.size A6 c6 (n % m)) := Own.mono h6 hB20
          have HEQ : Hid (V qs = n / m) := HQN.out.1
          have hxf := (HBG.out.2.trans x5).trans x6
          clear h6
          rw [HEQ.out]
          go_wp2_with fail
          rw [Exit.noGoto_ret]
          go_ret2
          exact ⟨_, _, _, _, rfl, HR1.out, HR2.out, hxf⟩
        · obtain ⟨j, hj⟩ : ∃ j, t = j + 1 := ⟨t - 1, by omega⟩
          subst hj
          have hu2l : j + k + 2 < us.length := by rw [HUL.out]; omega
          have hvl1 : k + 1 < vs.length := by rw [HVL.out]; omega
          have cu2 := hru.cell (i := j + k + 2) hu2l
          have cu1 := hru.cell (i := j + k + 1) (by omega)
          have cu0 := hru.cell (i := j + k) (by omega)
          obtain ⟨_, _, hA1, _, cv1⟩ := HVR.out (k + 1) hvl1
          obtain ⟨_, _, hA2, _, cv2⟩ := HVR.out k (by omega)
          injection hA1 with hA1
          injection hA1 with e1 e2
          injection hA2 with hA2
          injection hA2 with e3 e4
          subst e1 e2 e3 e4
          replace cv1 := hx.cell cv1
          replace cv2 := hx.cell cv2
          rw [Nat.zero_add] at cv1 cv2
          have hqj : j < qs.length := by rw [HQL.out]; omega
          have cq := hrq.cell (i := j) hqj
          have fq := hrq.frozen j
          have hv1p : 0 < vs[k + 1] := by
            rcases Nat.eq_zero_or_pos vs[k + 1] with h5 | h5
            · exfalso
              apply HVN.out
              rw [List.getLast?_eq_getElem?, HVL.out, show k + 2 - 1 = k + 1 from by omega, List.getElem?_eq_getElem hvl1, h5]
            · exact h5
          have HKR := Lib.hid (fun D => knuth_round (D := D) B32_two HUV.out HVV.out (n := k) (j := j) HVL.out (by rw [HVD.out]; exact HLT.out) (by rw [HUL.out]; omega) (List.getElem?_eq_getElem hu2l) (List.getElem?_eq_getElem (by omega)) (List.getElem?_eq_getElem (by omega)) (List.getElem?_eq_getElem hvl1) (List.getElem?_eq_getElem (by omega)) hv1p)
          have bu2 := valid_get HUV.out (j + k + 2) hu2l
          have bu1 := valid_get HUV.out (j + k + 1) (by omega)
          have bu0 := valid_get HUV.out (j + k) (by omega)
          have bv1 := valid_get HVV.out (k + 1) hvl1
          have bv2 := valid_get HVV.out k (by omega)
          generalize us[j + k + 2] = u2 at *
          generalize us[j + k + 1] = u1 at *
          generalize us[j + k] = u0 at *
          generalize vs[k + 1] = v1 at *
          generalize vs[k] = v2 at *
          obtain ⟨n2, hn2⟩ : ∃ n2 : Nat, (k : Int) + 2 = (n2 : Int) := ⟨k + 2, by omega⟩
          obtain ⟨n3, hpl⟩ : ∃ n3 : Nat, j + n2 + 1 - j = n3 := ⟨_, rfl⟩
          have HN2 : Hid (n2 = k + 2) := by show _ = _; omega
          have HN3 : Hid (n3 = k + 3) := by show _ = _; omega
          clear hu2l hvl1 hv1p
          have cu2' : wr.cell? ⟨gu, j + n2, none⟩ = some (.int .u32 (u2 : Int)) := by rw [HN2.out]; exact cu2
          have cu1' : wr.cell? ⟨gu, j + (k + 1), none⟩ = some (.int .u32 (u1 : Int)) := cu1
          clear cu2 cu1
          have HEST : Hid (∀ w', Calls Tryz.prog 139 #[.int .u32 u2, .int .u32 u1, .int .u32 u0, .int .u32 v1, .int .u32 v2] w' fun e w'' => ∃ D, e = .returned (.int .u32 (D : Nat)) ∧ Est 4294967296 ((u2 * 4294967296 + u1) * 4294967296 + u0) (v1 * 4294967296 + v2) D ∧ Qt w' w'') := fun w' => estimate_any (HKR.out 0).1 bu1 bu0 bv1 bv2
          have hi1 : IntKind.i64.wrap ((n2 : Int) - 1) = (k : Int) + 1 := by rw [IntWalk.i64_in _ (by omega)]; omega
          have hi2 : IntKind.i64.wrap ((n2 : Int) - 2) = (k : Int) := by rw [IntWalk.i64_in _ (by omega)]; omega
          have ht1 : ((k : Int) + 1).toNat = k + 1 := by omega
          have hb0 : (0 : Int) ≤ (k : Int) := by omega
          have hb2 : (0 : Int) ≤ (k : Int) + 1 := by omega
          have hb1 : (0 : Int) ≤ (n2 : Int) := by omega
          have hb3 : (n2 : Int) < (n3 : Int) := by omega
          have hb4 : (k : Int) + 1 < (n3 : Int) := by omega
          have hb5 : (k : Int) < (n3 : Int) := by omega
          have hb6 : (k : Int) + 1 < (n2 : Int) := by omega
          have hb7 : (k : Int) < (n2 : Int) := by omega
          have hb8 : (j : Int) < (nq : Int) := by omega
          have hOO : Only wr wr gq := Only.refl _ _
          generalize qs[j] = q0 at *
          have hOd : Only wr wr.drew gq := Only.qt hOO ⟨1, rfl⟩
          have hxd : Ext wr wr.drew := Ext.drew wr
          have hqu : gq ≠ gu := by omega
          have hqv' : gq ≠ gv := by omega
          go_wp2_with fail
          go_region_held3 (fun w' => Only wr w' gq ∧ w'.cell? ⟨gu, j + n2, none⟩ = some (.int .u32 (u2 : Int)) ∧ w'.cell? ⟨gu, j + (k + 1), none⟩ = some (.int .u32 (u1 : Int)) ∧ w'.cell? ⟨gu, j + k, none⟩ = some (.int .u32 (u0 : Int)) ∧ w'.cell? ⟨gv, k + 1, none⟩ = some (.int .u32 (v1 : Int)) ∧ w'.cell? ⟨gv, k, none⟩ = some (.int .u32 (v2 : Int)) ∧ (∃ z : Nat, w'.cell? ⟨gq, j, none⟩ = some (.int .u32 (z : Int))) ∧ w'.frozen? ⟨gq, j, none⟩ = false)
            (first | exact ⟨hOd, cu2', cu1', cu0, cv1, cv2, ⟨q0, cq⟩, fq⟩ | exact ⟨hO9, d2, d1, d0, b1', b2', ⟨q0, cq9⟩, fq9⟩ | exact ⟨hO9.set' _, cell_far hqu d2, cell_far hqu d1, cell_far hqu d0, cell_far hqv' b1', cell_far hqv' b2', ⟨D, World.cell?_setCell_same _ _ _ cq9⟩, frozen_set fq9⟩)
            (first
              | (go_at_call 139; refine (HEST.out _).mono ?_; rintro e w9 ⟨D, rfl, hest, hq9⟩; have hx9 := Ext.trans hxd (Qt.ext hq9); have hO9 := Only.qt hOd hq9; have d2 := Ext.cell hx9 cu2'; have d1 := Ext.cell hx9 cu1'; have d0 := Ext.cell hx9 cu0; have b1' := Ext.cell hx9 cv1; have b2' := Ext.cell hx9 cv2; have cq9 := Ext.cell hx9 cq; have fq9 := Ext.frozen hx9 cq fq))
          have hru9 := hru.ext hx9
          have hrq9 := hrq.ext hx9
          have hx39 := hx.trans hx9
          have HGQ : Hid (w3.heap.size ≤ gq) := by show _ ≤ _; have := x4.size; omega
          have HGU : Hid (w3.heap.size ≤ gu) := by show _ ≤ _; have := x4.size; omega
          obtain ⟨w10, hw10⟩ : ∃ z : World, z = w9.setCell ⟨gq, j, none⟩ (.int .u32 (D : Int)) := ⟨_, rfl⟩
          rw [← hw10]
          have hru10 : Row w10 gu .u32 141 us := by rw [hw10]; exact hru9.far (by show gu ≠ gq; omega) _
          have hrq10 : Row w10 gq .u32 141 (qs.set j D) := by rw [hw10]; exact hrq9.set_ j D
          have hx310 : Ext w3 w10 := by rw [hw10]; exact Below.setCell hx39 (p := ⟨gq, j, none⟩) HGQ.out _
          have hqj' : j < (qs.set j D).length := by rw [List.length_set]; exact hqj
          have cq10 := hrq10.cell hqj'
          have fq10 := hrq10.frozen j
          rw [List.getElem_set_self] at cq10
          have HQ := Lib.hid ((HKR.out D).2 hest)
          have HSM : Hid (Calls Tryz.prog 140 #[.slice (some ⟨gu, j, none⟩) n3 (nq + k + 1 + 1 - j), .slice (some ⟨gv, 0, none⟩) (k + 2) cv, .int .u32 (D : Int)] w10 fun e w' => ∃ zs bo, e = .returned (.bool (decide (bo = 1))) ∧ bo ≤ 1 ∧ PartInv w10 w' gu us zs j (k + 2 + 1) ∧
              val B32 ((zs.drop j).take (k + 2 + 1)) + val B32 vs * D = val B32 ((us.drop j).take (k + 2 + 1)) + B32 ^ (k + 2 + 1) * bo) := by
            rw [show n3 = k + 2 + 1 from by rw [HN3.out]]
            exact subMul_any hru10 HUV.out (HVR.out.below hx310) HVV.out HVL.out (fun b o s e => by injection e with e; injection e with e; omega) (by rw [HUL.out]; omega) hest.lt (by rw [HUL.out]; omega)
          have HDL : Hid (D < 4294967296) := hest.lt
          have hDl : D < 4294967296 := HDL.out
          have hVRR := Lib.hid (HVR.out.below hx310)
          have HRQ10 := Lib.hid hrq10
          clear hru9 hrq9 hx39 hw10 hx9 hO9 d2 d1 d0 b1' b2' cq9 fq9 hest hq9 hOd hxd hOO cu2' cu1' cu0 cv1 cv2 cq fq HEST hru hrq hrq10 hqj' HKR
          go_wp2_with fail
          refine HSM.out.mono ?_
          rintro e w11 ⟨zs, bo, rfl, hbo, hP, hval⟩
          have HPP := Lib.hid hP
          have HVAL := Lib.hid hval
          clear hval HSM
          have HGN : Hid (gq ≠ gu) := hqu
          have HPA : Hid (val B32 ((us.drop j).take (k + 2 + 1)) = val B32 (us.drop j)) := (part_all HUV.out HMLT.out HLT.out (by rw [HUL.out]; omega)).1
          have HMP : Hid (0 < M) := by show 0 < M; have := HLT.out; omega
          have HVALM : Hid (val B32 ((zs.drop j).take (k + 2 + 1)) + M * D = val B32 (us.drop j) + B32 ^ (k + 2 + 1) * bo) := by
            show _ = _
            rw [← HPA.out, ← HVD.out, Nat.mul_comm (val B32 vs) D, Nat.mul_comm D (val B32 vs)]
            exact HVAL.out
          have HQM : Hid (val B32 (us.drop j) / M ≤ D ∧ D ≤ val B32 (us.drop j) / M + 1) := by
            have h5 := HQ.out
            rw [HVD.out] at h5
            exact h5
          by_cases hb0 : bo = 0
          · subst hb0
            have hd01 : decide ((0 : Nat) = 1) = false := rfl
            have h7 := sub_zero_case HMP.out HVALM.out rfl HQM.out.1
            have h8 := div_finish (q := D) HPP.out.low HPP.out.high HPA.out rfl h7.2 (by rw [h7.1]; exact (Nat.div_add_mod _ _).symm) (Nat.mod_lt _ HMP.out) HST.out hqj
            have HREL : Hid (∃ (t : Nat) (us qs : List Nat), t ≤ nq ∧ Value.int .i64 ((j : Int) - 1) = .int .i64 ((t : Int) - 1) ∧ Row w11 gu .u32 141 us ∧ Row w11 gq .u32 141 qs ∧ Hid (us.length = nq + k + 2) ∧ Hid (qs.length = nq) ∧ Hid (Valid B32 us) ∧ Hid (Valid B32 qs) ∧ Hid (val B32 us + M * (B32 ^ t * val B32 (qs.drop t)) = A) ∧ Hid (val B32 (us.drop t) < M) ∧ Ext w3 w11) :=
              ⟨j, zs, qs.set j D, by omega, rfl, HPP.out.row, HRQ10.out.only HPP.out.only HGN.out, by show _ = _; rw [HPP.out.len]; exact HUL.out, by show _ = _; rw [List.length_set]; exact HQL.out, HPP.out.valid, valid_set HQV.out _ _ HDL.out, h8.1, h8.2, Below.trans hx310 (HPP.out.only.below HGU.out)⟩
            rw [hd01]
            clear h7 h8
            go_wp2_with fail
            rw [← hn2]
            go_roundw
            case rel =>
              have hrel := HREL.out
              first | exact hrel | ((repeat apply Exists.intro); exact ⟨hrel, rfl⟩)
            case measure => first | (simp [intOf]; done) | (simp [intOf]; omega)
          · obtain rfl : bo = 1 := by omega
            have hd11 : decide ((1 : Nat) = 1) = true := rfl
            have hD1 : 1 ≤ D := by
              rcases Nat.eq_zero_or_pos D with h5 | h5
              · exfalso
                have h6 := HVALM.out
                rw [h5] at h6
                have h7 := val_lt (valid_take (valid_drop HPP.out.valid j) (k + 2 + 1))
                have h8 : B32 ^ ((zs.drop j).take (k + 2 + 1)).length ≤ B32 ^ (k + 2 + 1) := Nat.pow_le_pow_right (by unfold B32; omega) (by rw [List.length_take]; omega)
                omega
              · exact h5
            have hrq11 := HRQ10.out.only HPP.out.only HGN.out
            have hqj11 : j < (qs.set j D).length := by rw [List.length_set]; exact hqj
            have cq11 := hrq11.cell hqj11
            have fq11 := hrq11.frozen j
            rw [List.getElem_set_self] at cq11
            have HRQ11 := Lib.hid hrq11
            clear hrq11 cq10 fq10
            rw [hd11]
            go_wp2_with fail
            have hDI : (D : Int) - 1 = ((D - 1 : Nat) : Int) := by omega
            rw [hDI]
            obtain ⟨w12, hw12⟩ : ∃ z : World, z = w11.setCell ⟨gq, j, none⟩ (.int .u32 ((D - 1 : Nat) : Int)) := ⟨_, rfl⟩
            rw [← hw12]
            have HR12 : Hid (Row w12 gu .u32 141 zs) := by show Row _ _ _ _ _; rw [hw12]; exact HPP.out.row.far (by show gu ≠ gq; omega) _
            have HRQ12 : Hid (Row w12 gq .u32 141 (qs.set j (D - 1))) := by
              show Row _ _ _ _ _
              rw [hw12]
              have h5 := HRQ11.out.set_ j (D - 1)
              rwa [List.set_set] at h5
            have HX12 : Hid (Ext w3 w12) := by
              show Ext _ _
              rw [hw12]
              exact Below.setCell (Below.trans hx310 (HPP.out.only.below HGU.out)) (p := ⟨gq, j, none⟩) HGQ.out _
            have HZL : Hid (zs.length = nq + k + 2) := by show _ = _; rw [HPP.out.len]; exact HUL.out
            have HAB : Hid (Calls Tryz.prog 141 #[.slice (some ⟨gu, j, none⟩) n3 (nq + k + 1 + 1 - j), .slice (some ⟨gv, 0, none⟩) (k + 2) cv] w12 fun e w' => ∃ zs2 kk, e = .returned (.tuple #[]) ∧ kk ≤ 1 ∧ PartInv w12 w' gu zs zs2 j (k + 2 + 1) ∧
                val B32 ((zs2.drop j).take (k + 2 + 1)) + B32 ^ (k + 2 + 1) * kk = val B32 ((zs.drop j).take (k + 2 + 1)) + val B32 vs) := by
              show Calls _ _ _ _ _
              rw [show n3 = k + 2 + 1 from by rw [HN3.out]]
              exact addBack_any HR12.out HPP.out.valid (HVR.out.below HX12.out) HVV.out HVL.out (fun b o s e => by injection e with e; injection e with e; omega) (by rw [HZL.out]; omega) (by rw [HZL.out]; omega)
            clear hw12 cq11 fq11
            refine HAB.out.mono ?_
            rintro e w13 ⟨zs2, kk, rfl, hkk, hP2, hval2⟩
            have hX := val_lt (valid_take (valid_drop HPP.out.valid j) (k + 2 + 1))
            have hY := val_lt (valid_take (valid_drop hP2.valid j) (k + 2 + 1))
            rw [List.length_take, List.length_drop, HZL.out, Nat.min_eq_left (by omega)] at hX
            rw [List.length_take, List.length_drop, hP2.len, HZL.out, Nat.min_eq_left (by omega)] at hY
            rw [HVD.out] at hval2
            have h7 := sub_one_case HMP.out HVALM.out hX rfl HQM.out.2 hval2 hY hkk
            have h8 := div_finish (q := D - 1) (hP2.low.trans HPP.out.low) (hP2.high.trans HPP.out.high) HPA.out rfl h7.2 (by rw [show D - 1 = val B32 (us.drop j) / M from by omega]; exact (Nat.div_add_mod _ _).symm) (Nat.mod_lt _ HMP.out) HST.out hqj
            have HREL : Hid (∃ (t : Nat) (us qs : List Nat), t ≤ nq ∧ Value.int .i64 ((j : Int) - 1) = .int .i64 ((t : Int) - 1) ∧ Row w13 gu .u32 141 us ∧ Row w13 gq .u32 141 qs ∧ Hid (us.length = nq + k + 2) ∧ Hid (qs.length = nq) ∧ Hid (Valid B32 us) ∧ Hid (Valid B32 qs) ∧ Hid (val B32 us + M * (B32 ^ t * val B32 (qs.drop t)) = A) ∧ Hid (val B32 (us.drop t) < M) ∧ Ext w3 w13) :=
              ⟨j, zs2, qs.set j (D - 1), by omega, rfl, hP2.row, HRQ12.out.only hP2.only HGN.out, by show _ = _; rw [hP2.len]; exact HZL.out, by show _ = _; rw [List.length_set]; exact HQL.out, hP2.valid, valid_set HQV.out _ _ (Nat.lt_of_le_of_lt (Nat.sub_le D 1) HDL.out), h8.1, h8.2, Below.trans HX12.out (hP2.only.below HGU.out)⟩
            clear h7 h8 hX hY hval2 hP2 HAB
            go_wp2_with fail
            rw [← hn2]
            go_roundw
            case rel =>
              have hrel := HREL.out
              first | exact hrel | ((repeat apply Exists.intro); exact ⟨hrel, rfl⟩)
            case measure => first | (simp [intOf]; done) | (simp [intOf]; omega)
set_option maxHeartbeats 4000000 in
set_option maxRecDepth 100000 in
theorem gcd_z {w : World} {s1 s2 : Bool} {A1 A2 : Option Addr} {c1 c2 L1 L2 : Nat} {x y : Int} (h1 : ZV w s1 A1 c1 L1 x) (h2 : ZV w s2 A2 c2 L2 y) (hs1 : dl x.natAbs ≤ 1000000) (hs2 : dl y.natAbs ≤ 1000000) :
    Calls Tryz.prog 108 #[.agg #[.bool s1, .slice A1 L1 c1], .agg #[.bool s2, .slice A2 L2 c2]] w (RetZ w (Nat.gcd x.natAbs y.natAbs : Nat)) := by
  go_enter Tryz.func108, Tryz.ntmps108
  go_wp2_with fail
  obtain ⟨w0, hw0⟩ : ∃ z : World, z = (((w.alloc (.cells #[.bool s1, .slice A1 L1 c1] 25)).alloc (.cells #[.bool s2, .slice A2 L2 c2] 25)).alloc (.cells #[.bool false, .slice none 0 0] 25)) := ⟨_, rfl⟩
  rw [← hw0]
  have b0 := box_at w #[.bool s1, .slice A1 L1 c1] 25
  have b1 := box_at (w.alloc (.cells #[.bool s1, .slice A1 L1 c1] 25)) #[.bool s2, .slice A2 L2 c2] 25
  have b2 := box_at ((w.alloc (.cells #[.bool s1, .slice A1 L1 c1] 25)).alloc (.cells #[.bool s2, .slice A2 L2 c2] 25)) #[.bool false, .slice none 0 0] 25
  have hsz : w0.heap.size = w.heap.size + 1 + 1 + 1 := by rw [hw0]; simp
  rw [← hw0] at b2
  have y2 : Ext ((w.alloc (.cells #[.bool s1, .slice A1 L1 c1] 25)).alloc (.cells #[.bool s2, .slice A2 L2 c2] 25)) w0 := by rw [hw0]; exact Ext.alloc _ _
  have y1 : Ext (w.alloc (.cells #[.bool s1, .slice A1 L1 c1] 25)) w0 := (Ext.alloc _ _).trans y2
  have y0 : Ext w w0 := (Ext.alloc _ _).trans y1
  have x0 : Ext w w0 := y0
  have e0_0 := y1.cell (b0.1 0 (.bool s1) rfl)
  have e0_1 := y1.cell (b0.1 1 (.slice A1 L1 c1) rfl)
  have e1_0 := y2.cell (b1.1 0 (.bool s2) rfl)
  have e1_1 := y2.cell (b1.1 1 (.slice A2 L2 c2) rfl)
  have q2_0 := b2.1 0 (.bool false) rfl
  have f2_0 := b2.2 0
  have q2_1 := b2.1 1 (.slice none 0 0) rfl
  have f2_1 := b2.2 1
  simp only [World.size_alloc] at e1_0 e1_1 q2_0 f2_0 q2_1 f2_1
  clear hw0 b0 b1 b2 y0 y1 y2
  clear hsz
  go_wp2_with fail
  have HK : Hid (∀ w', Ext w0 w' → Ext w0 w' ∧ w'.cell? ⟨w.heap.size, 0, none⟩ = some (.bool s1) ∧ w'.cell? ⟨w.heap.size, 1, none⟩ = some (.slice A1 L1 c1) ∧ w'.cell? ⟨w.heap.size + 1, 0, none⟩ = some (.bool s2) ∧ w'.cell? ⟨w.heap.size + 1, 1, none⟩ = some (.slice A2 L2 c2)) := fun w' hk => ⟨hk, hk.cell e0_0, hk.cell e0_1, hk.cell e1_0, hk.cell e1_1⟩
  first
  | go_region_held3 (fun w' => Ext w0 w' ∧ w'.cell? ⟨w.heap.size, 0, none⟩ = some (.bool s1) ∧ w'.cell? ⟨w.heap.size, 1, none⟩ = some (.slice A1 L1 c1) ∧ w'.cell? ⟨w.heap.size + 1, 0, none⟩ = some (.bool s2) ∧ w'.cell? ⟨w.heap.size + 1, 1, none⟩ = some (.slice A2 L2 c2))
      ((refine HK.out _ ?_; (repeat' (first | with_reducible exact Ext.refl _ | with_reducible assumption | with_reducible apply Ext.alloc_r | with_reducible apply Ext.drew_r | with_reducible apply Ext.drewN_r | with_reducible refine Ext.trans ?_ ‹Ext _ _›))))
      (first
        | (go_at_call_of 122 (#[Value.slice A2 L2 c2]); have hgd := p; clear hgd; refine (normal_v (h2.nv.ext (by repeat' (first | with_reducible exact Ext.refl _ | with_reducible assumption | with_reducible apply Ext.alloc_r | with_reducible apply Ext.drew_r | with_reducible apply Ext.drewN_r | with_reducible refine Ext.trans ?_ ‹Ext _ _›))) (by omega)).mono ?_; rintro e w2 ⟨Aq, cq, rfl, q, x2⟩)
        | (go_at_call_of 122 (#[Value.slice A1 L1 c1]); refine (normal_v (h1.nv.ext (by repeat' (first | with_reducible exact Ext.refl _ | with_reducible assumption | with_reducible apply Ext.alloc_r | with_reducible apply Ext.drew_r | with_reducible apply Ext.drewN_r | with_reducible refine Ext.trans ?_ ‹Ext _ _›))) (by omega)).mono ?_; rintro e w1 ⟨Ap, cp, rfl, p, x1⟩))
  | fail
  clear HK
  have xh : Ext w0 w2 := (by repeat' (first | with_reducible exact Ext.refl _ | with_reducible assumption | with_reducible apply Ext.alloc_r | with_reducible apply Ext.drew_r | with_reducible apply Ext.drewN_r | with_reducible refine Ext.trans ?_ ‹Ext _ _›))
  replace e0_0 := xh.cell e0_0
  replace e0_1 := xh.cell e0_1
  replace e1_0 := xh.cell e1_0
  replace e1_1 := xh.cell e1_1
  clear xh
  go_wp2_with fail
  have x0c : Ext w0 w2 := (by repeat' (first | with_reducible exact Ext.refl _ | with_reducible assumption | with_reducible apply Ext.alloc_r | with_reducible apply Ext.drew_r | with_reducible apply Ext.drewN_r | with_reducible refine Ext.trans ?_ ‹Ext _ _›))
  have xw : Ext w w2 := Ext.trans x0 x0c
  have t1 := x0c.cell q2_0
  have t2 := x0c.cell q2_1
  have p1 := x0c.frozen q2_0 f2_0
  have p2 := x0c.frozen q2_1 f2_1
  have HP := Lib.hid p
  have HQ := Lib.hid q
  clear p q
  go_loopg [5, 6] y.natAbs (fun kk xv yv wr => ∃ (X Y : Nat) (A5 : Option Addr) (c5 : Nat) (A6 : Option Addr) (c6 : Nat), xv = .slice A5 (digs B32 X).length c5 ∧ yv = .slice A6 (digs B32 Y).length c6 ∧ Hid (NV wr A5 c5 (digs B32 X).length X) ∧ Hid (NV wr A6 c6 (digs B32 Y).length Y) ∧ Hid (Nat.gcd X Y = Nat.gcd x.natAbs y.natAbs) ∧ dl X ≤ 1000000 ∧ dl Y ≤ 1000000 ∧ Hid (Y ≤ kk) ∧ Ext w2 wr)
  case atStart => exact ⟨x.natAbs, y.natAbs, Ap, cp, Aq, cq, rfl, rfl, NO.nv (HP.out.ext (by repeat' (first | with_reducible exact Ext.refl _ | with_reducible assumption | with_reducible apply Ext.alloc_r | with_reducible apply Ext.drew_r | with_reducible apply Ext.drewN_r | with_reducible refine Ext.trans ?_ ‹Ext _ _›))), NO.nv (HQ.out.ext (by repeat' (first | with_reducible exact Ext.refl _ | with_reducible assumption | with_reducible apply Ext.alloc_r | with_reducible apply Ext.drew_r | with_reducible apply Ext.drewN_r | with_reducible refine Ext.trans ?_ ‹Ext _ _›))), rfl, hs1, hs2, Nat.le_refl _, Ext.refl _⟩
  case round =>
    obtain ⟨X, Y, A5, c5, A6, c6, rfl, rfl, HX, HY, HG, hdx, hdy, HK, hx⟩ := hrel
    have d1 := hx.cell t1
    have d2 := hx.cell t2
    have g1 := hx.frozen t1 p1
    have g2 := hx.frozen t2 p2
    have hxx := xw.trans hx
    have hB := World.block_lt_of_cell? wr _ d1
    have HLX : Hid (dl X = (digs B32 X).length) := rfl
    have HLY : Hid (dl Y = (digs B32 Y).length) := rfl
    have HZY : Hid ((digs B32 Y).length = 0 → Y = 0) := fun h => (digs_eq_nil B32_two).1 (List.eq_nil_of_length_eq_zero h)
    have hlx : (digs B32 X).length ≤ 1000000 := hdx
    have hly : (digs B32 Y).length ≤ 1000000 := hdy
    have HDX := Lib.hid hdx
    have HDY := Lib.hid hdy
    clear hdx hdy
    generalize (digs B32 X).length = lx at *
    generalize (digs B32 Y).length = ly at *
    by_cases hbig : 2 < lx ∨ 2 < ly
    · by_cases hy0 : ly = 0
      · have hYz : Y = 0 := HZY.out hy0
        have h2 : 2 < lx := by omega
        have hG0 : Nat.gcd x.natAbs y.natAbs = X := by rw [← HG.out, hYz, Nat.gcd_zero_right]
        have HFR := Lib.hid (from_z (s := false) (x := (X : Int)) (w := wr) ⟨by rw [Int.natAbs_natCast]; exact HX.out, (fun h => by cases h), fun _ => Int.natCast_nonneg _⟩ (by rw [Int.natAbs_natCast]; have := HDX.out; omega))
        have HG0 := Lib.hid hG0
        clear hYz hG0 hbig
        subst hy0
        go_wp2_with fail
        refine HFR.out.mono ?_
        rintro e w9 ⟨sb, A9, c9, L9, rfl, hz, x9⟩
        have e1 := x9.cell d1
        have e2 := x9.cell d2
        have v1 := x9.frozen d1 g1
        have v2 := x9.frozen d2 g2
        obtain ⟨r5, r6, hz', hxx'⟩ := fin_z (by omega) hB (hxx.trans x9) hz e1 e2
        have HZ := Lib.hid hz'
        clear hz hz' 
        go_wp2_with fail
        refine bodyPost_ret (v := .agg #[.bool sb, .slice A9 L9 c9]) (by simp [results, Tryz.results108, go_sem, r5, r6]) rfl ?_
        show RetZ w _ _ _
        rw [HG0.out]
        exact ⟨_, _, _, _, rfl, HZ.out, hxx'⟩
      · have hyb : ((ly : Int) == 0) = false := by rw [beq_eq_false_iff_ne]; omega
        have hY0 : Y ≠ 0 := fun h => by have := HY.out.dl; rw [h] at HLY; have h5 := HLY.out; have h6 : dl 0 = 0 := rfl; omega
        have HDV := Lib.hid (divide_v HX.out HY.out hY0 (by have := HDX.out; omega) (by have := HDY.out; omega))
        have HLT : Hid (X % Y < Y) := Nat.mod_lt _ (by omega)
        have HG2 : Hid (Nat.gcd Y (X % Y) = Nat.gcd x.natAbs y.natAbs) := by
          show _ = _
          rw [← HG.out, Nat.gcd_comm Y, ← Nat.gcd_rec, Nat.gcd_comm]
        clear hY0
        by_cases h2 : 2 < lx
        · clear hbig
          go_wp2_with fail
          refine HDV.out.mono ?_
          rintro e w9 ⟨A7, c7, A8, c8, rfl, hq, hr, x9⟩
          have HR : Hid (NV w9 A8 c8 (digs B32 (X % Y)).length (X % Y)) := NO.nv hr
          have HY9 : Hid (NV w9 A6 c6 (digs B32 Y).length Y) := by
            show NV _ _ _ _ _
            rw [← show dl Y = (digs B32 Y).length from rfl, HLY.out]
            exact HY.out.ext x9
          have hx9 := hx.trans x9
          have HRY : Hid (dl (X % Y) ≤ 1000000) := Nat.le_trans (dl_mono (Nat.le_of_lt HLT.out)) HDY.out
          have HLQ : Hid (ly = (digs B32 Y).length) := HLY.out.symm
          clear hq hr
          go_wp2_with fail
          rw [HLQ.out]
          go_roundg (X % Y)
          case measure => have h5 := HLT.out; have h6 : Y ≤ gk := HK.out; omega
          case rel => exact ⟨Y, X % Y, A6, c6, A8, c8, rfl, rfl, HY9.out, HR.out, HG2.out, HDY.out, HRY.out, Nat.le_refl _, hx9⟩
        · have h3 : 2 < ly := by omega
          clear hbig
          go_wp2_with fail
          refine HDV.out.mono ?_
          rintro e w9 ⟨A7, c7, A8, c8, rfl, hq, hr, x9⟩
          have HR : Hid (NV w9 A8 c8 (digs B32 (X % Y)).length (X % Y)) := NO.nv hr
          have HY9 : Hid (NV w9 A6 c6 (digs B32 Y).length Y) := by
            show NV _ _ _ _ _
            rw [← show dl Y = (digs B32 Y).length from rfl, HLY.out]
            exact HY.out.ext x9
          have hx9 := hx.trans x9
          have HRY : Hid (dl (X % Y) ≤ 1000000) := Nat.le_trans (dl_mono (Nat.le_of_lt HLT.out)) HDY.out
          have HLQ : Hid (ly = (digs B32 Y).length) := HLY.out.symm
          clear hq hr
          go_wp2_with fail
          rw [HLQ.out]
          go_roundg (X % Y)
          case measure => have h5 := HLT.out; have h6 : Y ≤ gk := HK.out; omega
          case rel => exact ⟨Y, X % Y, A6, c6, A8, c8, rfl, rfl, HY9.out, HR.out, HG2.out, HDY.out, HRY.out, Nat.le_refl _, hx9⟩
    · have h2 : ¬ 2 < lx := by omega
      have h3 : ¬ 2 < ly := by omega
      clear hbig
      have hX64 : X < 18446744073709551616 := by
        have h5 := lt_pow_len B32_two X
        have h6 : B32 ^ (digs B32 X).length ≤ B32 ^ 2 := Nat.pow_le_pow_right (by unfold B32; omega) (by have := HLX.out; unfold dl at this; omega)
        have h7 : B32 ^ 2 = 18446744073709551616 := by unfold B32; rfl
        omega
      have hY64 : Y < 18446744073709551616 := by
        have h5 := lt_pow_len B32_two Y
        have h6 : B32 ^ (digs B32 Y).length ≤ B32 ^ 2 := Nat.pow_le_pow_right (by unfold B32; omega) (by have := HLY.out; unfold dl at this; omega)
        have h7 : B32 ^ 2 = 18446744073709551616 := by unfold B32; rfl
        omega
      have HU1 := Lib.hid (uint64_yes_v HX.out hX64)
      have HU2 := Lib.hid (fun w' (hx' : Ext wr w') => uint64_yes_v (HY.out.ext hx') hY64)
      go_wp2_with fail
      refine HU1.out.mono ?_
      rintro e w9 ⟨rfl, hq9⟩
      have x9 := hq9.ext
      go_wp2_with fail
      refine (HU2.out _ x9).mono ?_
      rintro e w10 ⟨rfl, hq10⟩
      have x10 := x9.trans hq10.ext
      clear hq9 hq10
      go_wp2_with fail
      obtain ⟨wo, rfl⟩ : ∃ wo : World, wo = wr := ⟨_, rfl⟩
      clear HU1 HU2 HX HY HP HQ HLX HLY HZY HK HDX HDY
      go_loopw [9, 11] (fun mv nv wz => ∃ M N : Nat, mv = .int .u64 M ∧ nv = .int .u64 N ∧ M < 18446744073709551616 ∧ N < 18446744073709551616 ∧ Hid (Nat.gcd M N = Nat.gcd x.natAbs y.natAbs) ∧ Ext wo wz) (fun _ nv _ => (intOf nv).toNat)
      case atStart => exact ⟨X, Y, rfl, rfl, hX64, hY64, HG.out, x10⟩
      case round =>
        obtain ⟨M, N, rfl, rfl, hM, hN, HMN, hxz⟩ := hrel
        by_cases hn0 : N = 0
        · have HFG : Hid (Nat.gcd x.natAbs y.natAbs = M) := by show _ = _; rw [← HMN.out, hn0, Nat.gcd_zero_right]
          subst hn0
          have HOF := Lib.hid (of_any (w := wr) M hM)
          have k1 := hxz.cell d1
          have k2 := hxz.cell d2
          have k3 := hxz.frozen d1 g1
          have k4 := hxz.frozen d2 g2
          go_wp2_with fail
          refine HOF.out.mono ?_
          rintro e w11 ⟨A11, c11, rfl, h11, x11⟩
          have hMn : dl M ≤ 17592186044416 := by
            have h5 : dl M ≤ 2 := dl_le (by have : B32 ^ 2 = 18446744073709551616 := by unfold B32; rfl
                                            omega)
            omega
          have HFR := Lib.hid (from_z (s := false) (x := (M : Int)) (w := w11) (c := c11) (L := (digs B32 M).length) (A := A11) ⟨by rw [Int.natAbs_natCast]; exact NO.nv h11, (fun h => by cases h), fun _ => Int.natCast_nonneg _⟩ (by rw [Int.natAbs_natCast]; exact hMn))
          clear h11 hMn
          replace k3 := x11.frozen k1 k3
          replace k4 := x11.frozen k2 k4
          replace k1 := x11.cell k1
          replace k2 := x11.cell k2
          have hB2 := World.block_lt_of_cell? w11 _ k1
          go_wp2_with fail
          refine HFR.out.mono ?_
          rintro e w12 ⟨sb, A9, c9, L9, rfl, hz, x12⟩
          replace k3 := x12.frozen k1 k3
          replace k4 := x12.frozen k2 k4
          replace k1 := x12.cell k1
          replace k2 := x12.cell k2
          obtain ⟨r5, r6, hz', hxx'⟩ := fin_z (by omega) hB2 (((hxx.trans hxz).trans x11).trans x12) hz k1 k2
          have HZ := Lib.hid hz'
          clear hz hz'
          go_wp2_with fail
          refine bodyPost_ret (v := .agg #[.bool sb, .slice A9 L9 c9]) (by simp [results, Tryz.results108, go_sem, r5, r6]) rfl ?_
          show RetZ w _ _ _
          rw [HFG.out]
          exact ⟨_, _, _, _, rfl, HZ.out, hxx'⟩
        · have hn1 : ((N : Int) != 0) = true := by simp; omega
          have hn3 : (1 : Int) ≤ (N : Int) := by omega
          have HG3 : Hid (Nat.gcd N (M % N) = Nat.gcd x.natAbs y.natAbs) := by
            show _ = _
            rw [← HMN.out, Nat.gcd_comm N, ← Nat.gcd_rec, Nat.gcd_comm]
          have hlt : M % N < N := Nat.mod_lt _ (by omega)
          have hMN : (M : Int) % (N : Int) = ((M % N : Nat) : Int) := (Int.natCast_emod M N).symm
          obtain ⟨R, hR⟩ : ∃ R, R = M % N := ⟨_, rfl⟩
          rw [← hR] at HG3 hlt hMN
          have hMN2 : (M : Int).tmod (N : Int) = (R : Int) := by rw [hR]; rfl
          clear hR
          have hXQ : Hid (∀ q, Ext wo (wr.drewN q)) := fun q => hxz.trans (Qt.ext ⟨q, rfl⟩)
          go_wp2_with fail
          go_quiet (fail)
          go_wp2_with fail
          go_roundw
          case rel => exact ⟨N, R, by go_num, by go_num, hN, by omega, HG3.out, hXQ.out _⟩
          case measure => simp [intOf]; omega
theorem isZero_z {w : World} {s1 : Bool} {A1 : Option Addr} {c1 L1 : Nat} {x : Int} (h : ZV w s1 A1 c1 L1 x) : Calls Tryz.prog 129 #[.agg #[.bool s1, .slice A1 L1 c1]] w fun e w' => e = .returned (.bool (x == 0)) ∧ Ext w w' := by
  have hs : (x.sign == 0) = (x == 0) := by rw [Bool.eq_iff_iff, beq_iff_eq, beq_iff_eq]; rcases sign_cases x with ⟨a, b⟩ | ⟨a, b⟩ | ⟨a, b⟩ <;> omega
  have HS := Lib.hid hs
  clear hs
  go_enter Tryz.func129, Tryz.ntmps129
  go_wp2_with fail
  refine (sign_z (h.ext (Ext.alloc _ _))).mono ?_
  rintro e w1 ⟨rfl, x1⟩
  generalize x.sign = sg at *
  go_wp2_with fail
  go_ret
  exact ⟨by rw [← HS.out]; rfl, (Ext.alloc _ _).trans x1⟩
theorem quo_sign {s1 s2 : Bool} {x y : Int} (n1 : s1 = true → x ≤ 0) (p1 : s1 = false → 0 ≤ x) (n2 : s2 = true → y ≤ 0) (p2 : s2 = false → 0 ≤ y) : ((!s1 == s2) = true → x.tdiv y ≤ 0) ∧ ((!s1 == s2) = false → 0 ≤ x.tdiv y) := by
  have key : ∀ a b : Int, 0 ≤ a → 0 ≤ b → 0 ≤ a.tdiv b := fun a b ha hb => Int.tdiv_nonneg ha hb
  cases s1 <;> cases s2
  · exact ⟨(fun h => by cases h), fun _ => key _ _ (p1 rfl) (p2 rfl)⟩
  · refine ⟨fun _ => ?_, (fun h => by cases h)⟩
    have h5 := key x (-y) (p1 rfl) (by have := n2 rfl; omega)
    rw [Int.tdiv_neg] at h5
    omega
  · refine ⟨fun _ => ?_, (fun h => by cases h)⟩
    have h5 := key (-x) y (by have := n1 rfl; omega) (p2 rfl)
    rw [Int.neg_tdiv] at h5
    omega
  · refine ⟨(fun h => by cases h), fun _ => ?_⟩
    have h5 := key (-x) (-y) (by have := n1 rfl; omega) (by have := n2 rfl; omega)
    rw [Int.neg_tdiv, Int.tdiv_neg] at h5
    omega
theorem rem_sign {s1 : Bool} {x y : Int} (n1 : s1 = true → x ≤ 0) (p1 : s1 = false → 0 ≤ x) : (s1 = true → x.tmod y ≤ 0) ∧ (s1 = false → 0 ≤ x.tmod y) := by
  refine ⟨fun h => ?_, fun h => Int.tmod_nonneg y (p1 h)⟩
  have h5 := Int.tmod_nonneg y (show 0 ≤ -x by have := n1 h; omega)
  rw [Int.neg_tmod] at h5
  omega
/-- The call returns quotient and remainder in new memory, and OK. -/
def RetQR (w : World) (q r : Int) (e : Ending) (w' : World) : Prop := ∃ sq Aq cq Lq sr Ar cr Lr, e = .returned (.tuple #[.agg #[.bool sq, .slice Aq Lq cq], .agg #[.bool sr, .slice Ar Lr cr], .int .i64 0]) ∧ ZO w' w.heap.size sq Aq cq Lq q ∧ ZO w' w.heap.size sr Ar cr Lr r ∧ Ext w w'
set_option maxHeartbeats 4000000 in
set_option maxRecDepth 100000 in
theorem quo_z {w : World} {s1 s2 : Bool} {A1 A2 : Option Addr} {c1 c2 L1 L2 : Nat} {x y : Int} (h1 : ZV w s1 A1 c1 L1 x) (h2 : ZV w s2 A2 c2 L2 y) (hy : (y == 0) = false) (hs1 : dl x.natAbs ≤ 1000000000) (hs2 : dl y.natAbs ≤ 1000000000) :
    Calls Tryz.prog 109 #[.agg #[.bool s1, .slice A1 L1 c1], .agg #[.bool s2, .slice A2 L2 c2]] w (RetQR w (x.tdiv y) (x.tmod y)) := by
  have hm : y.natAbs ≠ 0 := by have := ne_of_beq_false hy; omega
  have n2a : w.heap.size + 1 + 1 ≠ w.heap.size := by omega
  have n2b : w.heap.size + 1 + 1 ≠ w.heap.size + 1 := by omega
  have n3a : w.heap.size + 1 + 1 + 1 ≠ w.heap.size := by omega
  have n3b : w.heap.size + 1 + 1 + 1 ≠ w.heap.size + 1 := by omega
  go_enter Tryz.func109, Tryz.ntmps109
  go_wp2_with fail
  obtain ⟨w0, hw0⟩ : ∃ z : World, z = ((((w.alloc (.cells #[.bool s1, .slice A1 L1 c1] 25)).alloc (.cells #[.bool s2, .slice A2 L2 c2] 25)).alloc (.cells #[.bool false, .slice none 0 0] 25)).alloc (.cells #[.bool false, .slice none 0 0] 25)) := ⟨_, rfl⟩
  rw [← hw0]
  have b0 := box_at w #[.bool s1, .slice A1 L1 c1] 25
  have b1 := box_at (w.alloc (.cells #[.bool s1, .slice A1 L1 c1] 25)) #[.bool s2, .slice A2 L2 c2] 25
  have b2 := box_at ((w.alloc (.cells #[.bool s1, .slice A1 L1 c1] 25)).alloc (.cells #[.bool s2, .slice A2 L2 c2] 25)) #[.bool false, .slice none 0 0] 25
  have b3 := box_at (((w.alloc (.cells #[.bool s1, .slice A1 L1 c1] 25)).alloc (.cells #[.bool s2, .slice A2 L2 c2] 25)).alloc (.cells #[.bool false, .slice none 0 0] 25)) #[.bool false, .slice none 0 0] 25
  have hsz : w0.heap.size = w.heap.size + 1 + 1 + 1 + 1 := by rw [hw0]; simp
  rw [← hw0] at b3
  have y3 : Ext (((w.alloc (.cells #[.bool s1, .slice A1 L1 c1] 25)).alloc (.cells #[.bool s2, .slice A2 L2 c2] 25)).alloc (.cells #[.bool false, .slice none 0 0] 25)) w0 := by rw [hw0]; exact Ext.alloc _ _
  have y2 : Ext ((w.alloc (.cells #[.bool s1, .slice A1 L1 c1] 25)).alloc (.cells #[.bool s2, .slice A2 L2 c2] 25)) w0 := (Ext.alloc _ _).trans y3
  have y1 : Ext (w.alloc (.cells #[.bool s1, .slice A1 L1 c1] 25)) w0 := (Ext.alloc _ _).trans y2
  have y0 : Ext w w0 := (Ext.alloc _ _).trans y1
  have x0 : Ext w w0 := y0
  have e0_0 := y1.cell (b0.1 0 (.bool s1) rfl)
  have e0_1 := y1.cell (b0.1 1 (.slice A1 L1 c1) rfl)
  have e1_0 := y2.cell (b1.1 0 (.bool s2) rfl)
  have e1_1 := y2.cell (b1.1 1 (.slice A2 L2 c2) rfl)
  have q2_0 := y3.cell (b2.1 0 (.bool false) rfl)
  have f2_0 := y3.frozen (b2.1 0 (.bool false) rfl) (b2.2 0)
  have q2_1 := y3.cell (b2.1 1 (.slice none 0 0) rfl)
  have f2_1 := y3.frozen (b2.1 1 (.slice none 0 0) rfl) (b2.2 1)
  have q3_0 := b3.1 0 (.bool false) rfl
  have f3_0 := b3.2 0
  have q3_1 := b3.1 1 (.slice none 0 0) rfl
  have f3_1 := b3.2 1
  simp only [World.size_alloc] at e1_0 e1_1 q2_0 f2_0 q2_1 f2_1 q3_0 f3_0 q3_1 f3_1
  clear hw0 b0 b1 b2 b3 y0 y1 y2 y3
  clear hsz
  go_wp2_with fail
  refine (isZero_z (h2.ext (by repeat' (first | with_reducible exact Ext.refl _ | with_reducible assumption | with_reducible apply Ext.alloc_r | with_reducible apply Ext.drew_r | with_reducible apply Ext.drewN_r | with_reducible refine Ext.trans ?_ ‹Ext _ _›)))).mono ?_
  rintro e w1 ⟨rfl, x1⟩
  replace f2_0 := x1.frozen q2_0 f2_0
  replace f2_1 := x1.frozen q2_1 f2_1
  replace f3_0 := x1.frozen q3_0 f3_0
  replace f3_1 := x1.frozen q3_1 f3_1
  replace e0_0 := x1.cell e0_0
  replace e0_1 := x1.cell e0_1
  replace e1_0 := x1.cell e1_0
  replace e1_1 := x1.cell e1_1
  replace q2_0 := x1.cell q2_0
  replace q2_1 := x1.cell q2_1
  replace q3_0 := x1.cell q3_0
  replace q3_1 := x1.cell q3_1
  go_wp2_with fail
  refine (divide_v (h1.nv.ext (by repeat' (first | with_reducible exact Ext.refl _ | with_reducible assumption | with_reducible apply Ext.alloc_r | with_reducible apply Ext.drew_r | with_reducible apply Ext.drewN_r | with_reducible refine Ext.trans ?_ ‹Ext _ _›))) (h2.nv.ext (by repeat' (first | with_reducible exact Ext.refl _ | with_reducible assumption | with_reducible apply Ext.alloc_r | with_reducible apply Ext.drew_r | with_reducible apply Ext.drewN_r | with_reducible refine Ext.trans ?_ ‹Ext _ _›))) hm hs1 hs2).mono ?_
  rintro e w2 ⟨Aq, cq, Ar, cr, rfl, hq, hr, x2⟩
  replace f2_0 := x2.frozen q2_0 f2_0
  replace f2_1 := x2.frozen q2_1 f2_1
  replace f3_0 := x2.frozen q3_0 f3_0
  replace f3_1 := x2.frozen q3_1 f3_1
  replace e0_0 := x2.cell e0_0
  replace e0_1 := x2.cell e0_1
  replace e1_0 := x2.cell e1_0
  replace e1_1 := x2.cell e1_1
  replace q2_0 := x2.cell q2_0
  replace q2_1 := x2.cell q2_1
  replace q3_0 := x2.cell q3_0
  replace q3_1 := x2.cell q3_1
  have HF1 : Hid (∀ w', Ext w2 w' → Calls Tryz.prog 99 #[.bool (!s1 == s2), .slice Aq (digs B32 (x.natAbs / y.natAbs)).length cq] w' (RetZ w' (x.tdiv y))) := fun w' hx => by
    refine from_z ⟨by rw [Int.natAbs_tdiv]; exact NO.nv (hq.ext hx), (quo_sign h1.neg h1.pos h2.neg h2.pos).1, (quo_sign h1.neg h1.pos h2.neg h2.pos).2⟩ ?_
    rw [Int.natAbs_tdiv]
    show dl (x.natAbs / y.natAbs) ≤ 17592186044416
    have h5 := dl_mono (Nat.div_le_self x.natAbs y.natAbs)
    omega
  have HF2 : Hid (∀ w', Ext w2 w' → Calls Tryz.prog 99 #[.bool s1, .slice Ar (digs B32 (x.natAbs % y.natAbs)).length cr] w' (RetZ w' (x.tmod y))) := fun w' hx => by
    refine from_z ⟨by rw [Int.natAbs_tmod]; exact NO.nv (hr.ext hx), (rem_sign h1.neg h1.pos).1, (rem_sign h1.neg h1.pos).2⟩ ?_
    rw [Int.natAbs_tmod]
    have h5 := dl_mono (Nat.mod_le x.natAbs y.natAbs)
    omega
  generalize (digs B32 (x.natAbs / y.natAbs)).length = lq at *
  generalize (digs B32 (x.natAbs % y.natAbs)).length = lr at *
  have xw : Ext w w2 := (by repeat' (first | with_reducible exact Ext.refl _ | with_reducible assumption | with_reducible apply Ext.alloc_r | with_reducible apply Ext.drew_r | with_reducible apply Ext.drewN_r | with_reducible refine Ext.trans ?_ ‹Ext _ _›))
  have hB2 := World.block_lt_of_cell? w2 _ q2_0
  have hB3 := World.block_lt_of_cell? w2 _ q3_0
  simp only at hB2 hB3
  have xd : Ext w2 (w2).drew := Ext.drew _
  clear hq hr
  go_wp2_with fail
  go_region_held3 (fun w' => w'.cell? ⟨w.heap.size, 0, none⟩ = some (.bool s1) ∧ w'.cell? ⟨w.heap.size + 1, 0, none⟩ = some (.bool s2))
    (first | exact ⟨xd.cell e0_0, xd.cell e1_0⟩ | exact ⟨y7.cell e0_0, y7.cell e1_0⟩ | exact ⟨y8.cell e0_0, y8.cell e1_0⟩ | exact ⟨cell_far n2a (cell_far n2a (y8.cell e0_0)), cell_far n2b (cell_far n2b (y8.cell e1_0))⟩ | exact ⟨cell_far n3a (cell_far n3a (cell_far n2a (cell_far n2a (y8.cell e0_0)))), cell_far n3b (cell_far n3b (cell_far n2b (cell_far n2b (y8.cell e1_0))))⟩)
    (first
      | (go_at_call_of 99 (#[Value.bool s1, Value.slice Ar lr cr]); refine (HF2.out _ y7).mono ?_; rintro e w8 ⟨s8, A8, c8, L8, rfl, z8, x8⟩; have y8 := Ext.trans y7 x8; have a1 := Ext.cell y8 q2_0; have a2 := Ext.cell y8 q2_1; have a3 := Ext.cell y8 q3_0; have a4 := Ext.cell y8 q3_1; have b1 := Ext.frozen y8 q2_0 f2_0; have b2 := Ext.frozen y8 q2_1 f2_1; have b3 := Ext.frozen y8 q3_0 f3_0; have b4 := Ext.frozen y8 q3_1 f3_1)
      | (go_at_call_of 99 (#[Value.bool (!s1 == s2), Value.slice Aq lq cq]); refine (HF1.out _ xd).mono ?_; rintro e w7 ⟨s7, A7, c7, L7, rfl, z7, x7⟩; have y7 := Ext.trans xd x7))
  have n32 : w.heap.size + 1 + 1 + 1 ≠ w.heap.size + 1 + 1 := by omega
  have hsz7 : (w2).heap.size ≤ w7.heap.size := y7.size
  have HZ7 : Hid (ZO w8 (w2).heap.size s7 A7 c7 L7 (x.tdiv y)) := z7.ext x8
  have HZ8 : Hid (ZO w8 (w2).heap.size s8 A8 c8 L8 (x.tmod y)) := z8.mono hsz7
  have HXF := Lib.hid (Ext.trans xw y8)
  clear z7 z8 x7 x8 hsz7
  obtain ⟨ww, hww⟩ : ∃ z : World, z = (((w8.setCell ⟨w.heap.size + 1 + 1, 0, none⟩ (.bool s7)).setCell ⟨w.heap.size + 1 + 1, 1, none⟩ (.slice A7 L7 c7)).setCell ⟨w.heap.size + 1 + 1 + 1, 0, none⟩ (.bool s8)).setCell ⟨w.heap.size + 1 + 1 + 1, 1, none⟩ (.slice A8 L8 c8) := ⟨_, rfl⟩
  rw [← hww]
  obtain ⟨r1, r2⟩ := res_set (r1 := .bool s7) (r2 := .slice A7 L7 c7) a1 a2
  have k1 : ww.cell? ⟨w.heap.size + 1 + 1, 0, none⟩ = some (.bool s7) := by rw [hww]; exact cell_far n32 (cell_far n32 r1)
  have k2 : ww.cell? ⟨w.heap.size + 1 + 1, 1, none⟩ = some (.slice A7 L7 c7) := by rw [hww]; exact cell_far n32 (cell_far n32 r2)
  obtain ⟨r3, r4⟩ := res_set (r1 := .bool s8) (r2 := .slice A8 L8 c8) (cell_far n32.symm (cell_far n32.symm a3) : ((w8.setCell ⟨w.heap.size + 1 + 1, 0, none⟩ (.bool s7)).setCell ⟨w.heap.size + 1 + 1, 1, none⟩ (.slice A7 L7 c7)).cell? ⟨w.heap.size + 1 + 1 + 1, 0, none⟩ = _) (cell_far n32.symm (cell_far n32.symm a4))
  have k3 : ww.cell? ⟨w.heap.size + 1 + 1 + 1, 0, none⟩ = some (.bool s8) := by rw [hww]; exact r3
  have k4 : ww.cell? ⟨w.heap.size + 1 + 1 + 1, 1, none⟩ = some (.slice A8 L8 c8) := by rw [hww]; exact r4
  have hle : w.heap.size ≤ (w2).heap.size := xw.size
  have HF7 : Hid (ZO ww w.heap.size s7 A7 c7 L7 (x.tdiv y)) := by
    refine ⟨?_, HZ7.out.sign, HZ7.out.len⟩
    rw [hww]
    exact Own.mono ((((Own.set_far HZ7.out.no (p := ⟨_, 0, none⟩) hB2 _).set_far (p := ⟨_, 1, none⟩) hB2 _).set_far (p := ⟨_, 0, none⟩) hB3 _).set_far (p := ⟨_, 1, none⟩) hB3 _) hle
  have HF8 : Hid (ZO ww w.heap.size s8 A8 c8 L8 (x.tmod y)) := by
    refine ⟨?_, HZ8.out.sign, HZ8.out.len⟩
    rw [hww]
    exact Own.mono ((((Own.set_far HZ8.out.no (p := ⟨_, 0, none⟩) hB2 _).set_far (p := ⟨_, 1, none⟩) hB2 _).set_far (p := ⟨_, 0, none⟩) hB3 _).set_far (p := ⟨_, 1, none⟩) hB3 _) hle
  have hxx : Ext w ww := by
    rw [hww]
    exact Below.setCell (Below.setCell (Below.setCell (Below.setCell HXF.out (p := ⟨w.heap.size + 1 + 1, 0, none⟩) (by show _ ≤ w.heap.size + 1 + 1; omega) _) (p := ⟨w.heap.size + 1 + 1, 1, none⟩) (by show _ ≤ w.heap.size + 1 + 1; omega) _) (p := ⟨w.heap.size + 1 + 1 + 1, 0, none⟩) (by show _ ≤ w.heap.size + 1 + 1 + 1; omega) _) (p := ⟨w.heap.size + 1 + 1 + 1, 1, none⟩) (by show _ ≤ w.heap.size + 1 + 1 + 1; omega) _
  clear hww r1 r2 r3 r4
  go_wp2_with fail
  refine bodyPost_ret (v := .tuple #[.agg #[.bool s7, .slice A7 L7 c7], .agg #[.bool s8, .slice A8 L8 c8], .int .i64 0]) (by simp [results, Tryz.results109, go_sem, k1, k2, k3, k4]) rfl ?_
  exact ⟨_, _, _, _, _, _, _, _, rfl, HF7.out, HF8.out, hxx⟩
end Go.Proofs.YtehhkeenjlpikaaGreat
