/- Strings as lists of numbers below 256. -/
import Derived.Test.YtfnmbhjifdfibaaDec
import Derived.Test.YtfnmbhjifdfibaaMem
import Derived.Lib.Strings
import Derived.Laws.Concat
namespace Go.Proofs.Ytfnmbhjifdfibaa
open Go.RowKit

/-- The bytes of a string as numbers. -/
def bs (s : ByteArray) : List Nat := s.data.toList.map UInt8.toNat
theorem bs_length (s : ByteArray) : (bs s).length = s.size := by unfold bs; rw [List.length_map, Array.length_toList]; rfl
theorem bs_lt {s : ByteArray} {x : Nat} (h : x ∈ bs s) : x < 256 := by
  simp only [bs, List.mem_map] at h
  obtain ⟨b, _, rfl⟩ := h
  exact b.toNat_lt
theorem bs_get {s : ByteArray} {i : Nat} (h : i < s.size) : (bs s)[i]'(by rw [bs_length]; exact h) = (s[i]).toNat := by
  simp [bs, ByteArray.getElem_eq_getElem_data]
theorem bs_get? {s : ByteArray} {i : Nat} (h : i < s.size) : (bs s)[i]? = some (s[i]).toNat := by
  rw [List.getElem?_eq_getElem (by rw [bs_length]; exact h), bs_get h]
theorem bs_inj {s t : ByteArray} (h : bs s = bs t) : s = t := by
  have h1 : s.data.toList = t.data.toList := (List.map_inj_right (fun _ _ e => UInt8.toNat_inj.1 e)).1 h
  exact ByteArray.ext (Array.toList_inj.1 h1)
theorem bs_eq (s t : ByteArray) : (s.toList == t.toList) = decide (bs s = bs t) := by
  rw [Lib.toList_data, Lib.toList_data, Bool.eq_iff_iff, beq_iff_eq, decide_eq_true_iff]
  exact ⟨fun h => by unfold bs; rw [h], fun h => by rw [bs_inj h]⟩
theorem bs_extract (s : ByteArray) (a b : Nat) : bs (s.extract a b) = ((bs s).drop a).take (b - a) := by
  unfold bs
  rw [Lib.extract_data, List.map_take, List.map_drop]
theorem bs_drop (s : ByteArray) (a : Nat) : bs (s.extract a s.size) = (bs s).drop a := by
  rw [bs_extract, List.take_of_length_le (by rw [List.length_drop, bs_length]; exact Nat.le_refl _)]
theorem bs_take (s : ByteArray) (a : Nat) : bs (s.extract 0 a) = (bs s).take a := by rw [bs_extract, List.drop_zero, Nat.sub_zero]
theorem bs_append (s t : ByteArray) : bs (s ++ t) = bs s ++ bs t := by simp [bs, ByteArray.data_append]
theorem bs_empty : bs ⟨#[]⟩ = [] := rfl
/-- The string of numbers below 256. -/
def str (l : List Nat) : ByteArray := ⟨(l.map UInt8.ofNat).toArray⟩
theorem bs_str {l : List Nat} (h : ∀ x ∈ l, x < 256) : bs (str l) = l := by
  unfold bs str
  rw [List.map_map]
  conv => rhs; rw [← List.map_id l]
  apply List.map_congr_left
  intro x hx
  have := h x hx
  simp [UInt8.toNat_ofNat']
  omega
/-- The order of strings. -/
theorem bytesLess_bs (s t : ByteArray) : Op.bytesLess s.toList t.toList = decide (bs s < bs t) := by
  rw [Lib.toList_data, Lib.toList_data]
  unfold bs
  generalize s.data.toList = a
  generalize t.data.toList = b
  induction a generalizing b with
  | nil => cases b <;> simp [Op.bytesLess]
  | cons x a ih =>
    cases b with
    | nil => simp [Op.bytesLess]
    | cons y b =>
      simp only [Op.bytesLess, ih, List.map_cons, List.cons_lt_cons_iff]
      rw [Bool.eq_iff_iff]
      simp [UInt8.lt_iff_toNat_lt, UInt8.toNat_inj]
/-- The call returns a string of these bytes, and changes nothing. -/
def RetS (w : World) (l : List Nat) (e : Ending) (w' : World) : Prop := ∃ s, e = .returned (.string s) ∧ bs s = l ∧ Ext w w'
theorem sym_get : ∀ i : Fin 36, ([48, 49, 50, 51, 52, 53, 54, 55, 56, 57, 97, 98, 99, 100, 101, 102, 103, 104, 105, 106, 107, 108, 109, 110, 111, 112, 113, 114, 115, 116, 117, 118, 119, 120, 121, 122] : List Nat)[i.val]? = some (sym i.val) := by decide
/-- The digit that a sign stands for: 36 if none. -/
def dg (c : Nat) : Nat := if 48 ≤ c ∧ c ≤ 57 then c - 48 else if 97 ≤ c ∧ c ≤ 122 then c - 87 else 36
theorem dg_sym {d : Nat} (h : d < 36) : dg (sym d) = d := by unfold dg sym; split <;> (split <;> (try split) <;> omega)
theorem sym_dg {c : Nat} (h : dg c < 36) : sym (dg c) = c := by
  unfold dg at h ⊢
  unfold sym
  split at h
  · rename_i h1; rw [if_pos h1, if_pos (by omega)]; omega
  · rename_i h1
    rw [if_neg h1]
    split at h
    · rename_i h2; rw [if_pos h2, if_neg (by omega)]; omega
    · omega
theorem dg_le (c : Nat) : dg c ≤ 36 := by unfold dg; split <;> (try split) <;> omega
end Go.Proofs.Ytfnmbhjifdfibaa
