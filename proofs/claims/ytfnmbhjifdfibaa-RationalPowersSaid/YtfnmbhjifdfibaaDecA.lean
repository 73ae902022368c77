/- Contracts of package decimal, first part: chunks, digits, signs, reversal. -/
import Derived.Test.YtfnmbhjifdfibaaText
import Derived.Test.YtfnmbhjifdfibaaRefA
import Derived.WalkLawsBesides
import Derived.WalkSpells
import Derived.BigRegion
import Derived.Deep.QuietTactic
import Derived.BigQuiet
namespace Go.Proofs.Ytfnmbhjifdfibaa
open Go.RowKit

theorem pow_grow {b c : Nat} (hb : 2 ≤ b) (h : b ^ c < 4294967296) : c ≤ 31 := by
  rcases Nat.lt_or_ge 31 c with h1 | h1
  · have h2 : 2 ^ 32 ≤ 2 ^ c := Nat.pow_le_pow_right (by omega) h1
    have h3 : 2 ^ c ≤ b ^ c := Nat.pow_le_pow_left hb c
    omega
  · exact h1
theorem chunk_any {w : World} {b : Nat} (h1 : 2 ≤ b) (h2 : b ≤ 36) :
    Calls Try.prog 129 #[.int .i64 b] w fun e w' => (∃ p c : Nat, e = .returned (.tuple #[.int .u32 p, .int .i64 c]) ∧ p = b ^ c ∧ p < 4294967296 ∧ 1 ≤ c ∧ c ≤ 31) ∧ w = w' := by
  go_enter Try.func129, Try.ntmps129
  go_wp2_with fail
  go_loop [4, 5] (fun p c => ∃ m k : Nat, p = .int .u64 m ∧ c = .int .i64 k ∧ m = b ^ k ∧ m < 4294967296 ∧ 1 ≤ k) (fun p _ => 4294967296 - (intOf p).toNat)
  case atStart => exact ⟨b, 1, rfl, rfl, by simp, by omega, by omega⟩
  case round =>
    obtain ⟨m, k, rfl, rfl, hm, hl, hk1⟩ := hrel
    have hk2 : k ≤ 31 := pow_grow h1 (by omega)
    have HPP : Hid ((m : Int) * (b : Int) = ((m * b : Nat) : Int)) := (Int.natCast_mul m b).symm
    have hmb : m * b ≤ 4294967296 * 36 := Nat.mul_le_mul (by omega) h2
    have hm0 : 0 < m := by rw [hm]; exact Nat.pow_pos (by omega)
    have hmm : m < m * b := by have := Nat.mul_le_mul_left m h1; omega
    have HM := Lib.hid hm
    have HP : Hid (m * b = b ^ (k + 1)) := by show _ = _; rw [hm, Nat.pow_succ]
    have hq1 : 0 ≤ (m : Int) * (b : Int) := by rw [HPP.out]; omega
    have hq2 : (m : Int) * (b : Int) ≤ 154618822656 := by rw [HPP.out]; omega
    clear hm
    go_wp2_with fail
    · have hle' : (m : Int) * (b : Int) ≤ 4294967295 := by assumption
      rw [HPP.out] at hle'
      go_round
      case rel => exact ⟨m * b, k + 1, by go_num, by go_num, HP.out, by omega, by omega⟩
      case measure => simp [intOf]; omega
    · go_ret2
      exact ⟨⟨m, k, rfl, HM.out, hl, hk1, hk2⟩, rfl⟩
theorem digit_any {w : World} {c : Nat} (hc : c < 256) :
    Calls Try.prog 141 #[.int .u8 c] w fun e w' => e = .returned (.int .u32 (dg c)) ∧ w = w' := by
  go_enter Try.func141, Try.ntmps141
  have HD : Hid (∀ x : Int, x = (dg c : Int) → Ending.returned (Value.int IntKind.u32 x) = .returned (.int .u32 (dg c))) := fun x h => by rw [h]
  go_wp2_with fail
  all_goals go_ret
  all_goals refine ⟨HD.out _ ?_, rfl⟩
  all_goals (clear HD; simp only [beq_iff_eq, beq_eq_false_iff_ne, ne_eq] at *)
  all_goals unfold dg
  all_goals (split <;> (try split) <;> omega)
theorem split_any {w : World} {s : ByteArray} :
    Calls Try.prog 140 #[.string s] w fun e w' => (∃ neg t, e = .returned (.tuple #[.bool neg, .string t]) ∧ bs s = (if neg then [45] else []) ++ bs t ∧ (neg = false → (bs s).head? ≠ some 45)) ∧ Qt w w' := by
  go_enter Try.func140, Try.ntmps140
  go_wp2_with fail
  · have h1 : 0 < s.size := by assumption
    have h2 := ‹((_ : Int) == 45) = true›
    have h0 : (bs s)[0]? = some (s[0]).toNat := bs_get? h1
    have hb : (s[0]).toNat = 45 := by have := eq_of_beq h2; omega
    go_quiet (fail)
    go_wp2_with fail
    go_ret2
    refine ⟨⟨true, _, rfl, ?_, fun h => by cases h⟩, _, rfl⟩
    rw [bs_drop]
    rw [hb] at h0
    cases hl : bs s with
    | nil => rw [hl] at h0; cases h0
    | cons x l => rw [hl] at h0; simp at h0; rw [h0]; rfl
  · have h1 : 0 < s.size := by assumption
    have h2 := ‹((_ : Int) == 45) = false›
    have h0 : (bs s)[0]? = some (s[0]).toNat := bs_get? h1
    have hb : (s[0]).toNat ≠ 45 := by intro h; rw [h] at h2; simp at h2
    go_ret2
    refine ⟨⟨false, s, rfl, by simp, fun _ h => ?_⟩, Qt.refl _⟩
    rw [List.head?_eq_getElem?, h0] at h
    injection h with h
    exact hb h
  · have h1 : ¬ 0 < s.size := by assumption
    go_ret2
    refine ⟨⟨false, s, rfl, by simp, fun _ h => ?_⟩, Qt.refl _⟩
    have h2 : bs s = [] := List.eq_nil_of_length_eq_zero (by rw [bs_length]; omega)
    rw [h2] at h
    cases h
theorem Own.cell {w : World} {B c : Nat} {k : IntKind} {T : TypeId} {g i : Nat} {ds : List Nat} (h : Own w B k T (some ⟨g, 0, none⟩) c ds) (hi : i < ds.length) : w.cell? ⟨g, i, none⟩ = some (.int k (ds[i] : Nat)) := by
  obtain ⟨b, off, hA, _, hc⟩ := h.rd i hi
  injection hA with hA
  injection hA with h1 h2
  subst h1 h2
  simpa using hc
theorem Own.addr {w : World} {B c : Nat} {k : IntKind} {T : TypeId} {A : Option Addr} {ds : List Nat} (h : Own w B k T A c ds) (hn : ds ≠ []) : ∃ g, A = some ⟨g, 0, none⟩ ∧ B ≤ g := by
  rcases h.form with ⟨_, _, h1⟩ | ⟨g, cur, h1, hB, _⟩
  · exact absurd h1 hn
  · exact ⟨g, h1, hB⟩
/-- What holds at the head of a round of 'Reverse'. -/
def RevInv (w wr : World) (B g c : Nat) (ds : List Nat) (i j : Nat) : Prop :=
  ∃ zs : List Nat, Own wr B .u8 5 (some ⟨g, 0, none⟩) c zs ∧ zs.length = ds.length ∧ (∀ k, k < ds.length → zs[k]? = if k < i ∨ j < k then ds[ds.length - 1 - k]? else ds[k]?) ∧ Below B w wr
theorem RevInv.step {w wr : World} {B g c i j : Nat} {ds zs : List Nat} (ho : Own wr B .u8 5 (some ⟨g, 0, none⟩) c zs) (hl : zs.length = ds.length) (hv : ∀ k, k < ds.length → zs[k]? = if k < i ∨ j < k then ds[ds.length - 1 - k]? else ds[k]?)
    (hb : Below B w wr) (hij : i < j) (hs : i + j + 1 = ds.length) (hg : B ≤ g) {x y : Nat} (hx : zs[i]? = some x) (hy : zs[j]? = some y) :
    RevInv w (((wr.setCell ⟨g, i, none⟩ (.int .u8 (y : Int))).setCell ⟨g, j, none⟩ (.int .u8 (x : Int))).drew) B g c ds (i + 1) (j - 1) := by
  have ho' := (ho.set_ i y).set_ j x
  refine ⟨(zs.set i y).set j x, ho', by simpa using hl, fun k hk => ?_, ?_⟩
  · have hi := hv i (by omega)
    have hj := hv j (by omega)
    rw [if_neg (by omega), hx] at hi
    rw [if_neg (by omega), hy] at hj
    by_cases h1 : k = j
    · subst h1
      rw [List.getElem?_set_self (by simp; omega), if_pos (by omega), hi, show ds.length - 1 - k = i from by omega]
    · rw [List.getElem?_set_ne (by omega)]
      by_cases h2 : k = i
      · subst h2
        rw [List.getElem?_set_self (by omega), if_pos (by omega), hj, show ds.length - 1 - k = j from by omega]
      · rw [List.getElem?_set_ne (by omega), hv k hk]
        by_cases h3 : k < i ∨ j < k
        · rw [if_pos h3, if_pos (by omega)]
        · rw [if_neg h3, if_neg (by omega)]
  · exact Below.drew (Below.setCell (Below.setCell hb (p := ⟨g, i, none⟩) hg _) (p := ⟨g, j, none⟩) hg _)
theorem reverse_own {w : World} {B c n : Nat} {A : Option Addr} {ds : List Nat} (h : Own w B .u8 5 A c ds) (hn : n = ds.length) :
    Calls Try.prog 131 #[.slice A n c] w fun e w' => e = .returned (.tuple #[]) ∧ Own w' B .u8 5 A c ds.reverse ∧ Below B w w' := by
  subst hn
  have hcm := h.le
  unfold maxLen at hcm
  by_cases h0 : ds = []
  · subst h0
    have H := Lib.hid h
    clear h
    go_enter Try.func131, Try.ntmps131
    go_wp2_with fail
    go_loopw [2, 3] (fun i j wr => i = .int .i64 0 ∧ j = .int .i64 (-1) ∧ wr = w) (fun _ _ _ => 0)
    case atStart => exact ⟨rfl, rfl, rfl⟩
    case round =>
      obtain ⟨rfl, rfl, rfl⟩ := hrel
      go_wp2_with fail
      go_end0
      exact ⟨rfl, H.out, Below.refl _ _⟩
  · obtain ⟨g, rfl, hg⟩ := h.addr h0
    have hp : 0 < ds.length := List.length_pos_iff.2 h0
    have hinv : RevInv w w B g c ds 0 (ds.length - 1) := ⟨ds, h, rfl, fun k hk => by rw [if_neg (by omega)], Below.refl _ _⟩
    have HN : Hid (ds.length = ds.length) := rfl
    clear h
    go_enter Try.func131, Try.ntmps131
    go_wp2_with fail
    go_loopw [2, 3] (fun iv jv wr => ∃ i j : Nat, iv = .int .i64 i ∧ jv = .int .i64 ((ds.length : Int) - 1 - i) ∧ j + i + 1 = ds.length ∧ i ≤ ds.length ∧ RevInv w wr B g c ds i j) (fun i _ _ => ds.length - (intOf i).toNat)
    case atStart => exact ⟨0, ds.length - 1, rfl, by go_num, by omega, by omega, hinv⟩
    case round =>
      clear hinv
      obtain ⟨i, j, rfl, rfl, hs, hi, zs, ho, hl, hv, hb⟩ := hrel
      by_cases hij : i < j
      · have hci := ho.cell (i := i) (by omega)
        have hcj := ho.cell (i := j) (by omega)
        have hfi := ho.frozen i
        have hfj := ho.frozen j
        have hx : zs[i]? = some zs[i] := List.getElem?_eq_getElem (by omega)
        have hy : zs[j]? = some zs[j] := List.getElem?_eq_getElem (by omega)
        have hj : (ds.length : Int) - 1 - i = j := by omega
        generalize zs[i] = x at *
        generalize zs[j] = y at *
        have HS : Hid (RevInv w (((wr.setCell ⟨g, i, none⟩ (.int .u8 (y : Int))).setCell ⟨g, j, none⟩ (.int .u8 (x : Int))).drew) B g c ds (i + 1) (j - 1)) := RevInv.step ho hl hv hb hij (by omega) hg hx hy
        rw [hj]
        clear ho hl hv hb hx hy
        go_wp2_with fail
        go_region
        go_wp2_with fail
        go_roundw
        case rel => exact ⟨i + 1, j - 1, by go_num, by go_num, by omega, by omega, HS.out⟩
        case measure => simp [intOf]; omega
      · have HO := Lib.hid ho
        have hj : (ds.length : Int) - 1 - i = j := by omega
        have hr : zs = ds.reverse := by
          apply List.ext_getElem? 
          intro k
          by_cases hk : k < ds.length
          · rw [hv k hk, List.getElem?_reverse hk]
            by_cases h3 : k < i ∨ j < k
            · rw [if_pos h3]
            · rw [if_neg h3, show ds.length - 1 - k = k from by omega]
          · rw [List.getElem?_eq_none (by omega), List.getElem?_eq_none (by simp; omega)]
        subst hr
        rw [hj]
        clear hv hl ho
        go_wp2_with fail
        go_end0
        exact ⟨rfl, HO.out, hb⟩
end Go.Proofs.Ytfnmbhjifdfibaa
