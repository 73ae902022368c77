/- What the laws on numbers call, and further contracts of package natural. -/
import Derived.Test.YtehhkeenjlpikaaGreatRefs
import Derived.Test.YtehhkeenjlpikaaGreatNatX
import Derived.Test.YtehhkeenjlpikaaGreatShelf
namespace Go.Proofs.YtehhkeenjlpikaaGreat
open Go.RowKit
theorem digs_lit {ds : List Nat} {n : Nat} (hv : Valid B32 ds) (hl : ds.getLast? ≠ some 0) (hn : val B32 ds = n) : digs B32 n = ds := by
  rw [← hn]; exact digs_of_val B32_two hv hl
theorem dl_lit {ds : List Nat} {n : Nat} (hv : Valid B32 ds) (hl : ds.getLast? ≠ some 0) (hn : val B32 ds = n) : dl n = ds.length := by
  unfold dl; rw [digs_lit hv hl hn]

theorem few2 {w : World} {n n1 n2 c1 c2 : Nat} {A1 A2 : Option Addr} (h1 : n1 ≤ 9223372036854775807) (h2 : n2 ≤ 9223372036854775807) :
    Calls Tryz.prog 53 #[.int .i64 n, .slice (some ⟨w.heap.size, 0, none⟩) 2 2] (w.alloc (.cells #[.slice A1 n1 c1, .slice A2 n2 c2] 22))
      fun e w' => e = .returned (.bool (decide (n1 ≤ n) && decide (n2 ≤ n))) ∧ Ext w w' := by
  have := few_any (w := w.alloc (.cells #[.slice A1 n1 c1, .slice A2 n2 c2] 22)) (g := w.heap.size) (n := n) (c := 2) [n1, n2] (by
    intro j hj
    match j, hj with
    | 0, _ => exact ⟨A1, c1, by simp⟩
    | 1, _ => exact ⟨A2, c2, by simp⟩) (by simp) (by simp; omega)
  refine this.mono ?_
  rintro e w' ⟨rfl, rfl⟩
  exact ⟨by simp, Ext.alloc _ _⟩
theorem few1 {w : World} {n n1 c1 : Nat} {A1 : Option Addr} (h1 : n1 ≤ 9223372036854775807) :
    Calls Tryz.prog 53 #[.int .i64 n, .slice (some ⟨w.heap.size, 0, none⟩) 1 1] (w.alloc (.cells #[.slice A1 n1 c1] 22))
      fun e w' => e = .returned (.bool (decide (n1 ≤ n))) ∧ Ext w w' := by
  have := few_any (w := w.alloc (.cells #[.slice A1 n1 c1] 22)) (g := w.heap.size) (n := n) (c := 1) [n1] (by
    intro j hj
    match j, hj with
    | 0, _ => exact ⟨A1, c1, by simp⟩) (by simp) (by simpa using h1)
  refine this.mono ?_
  rintro e w' ⟨rfl, rfl⟩
  exact ⟨by simp, Ext.alloc _ _⟩
theorem few3 {w : World} {n n1 n2 n3 c1 c2 c3 : Nat} {A1 A2 A3 : Option Addr} (h1 : n1 ≤ 9223372036854775807) (h2 : n2 ≤ 9223372036854775807) (h3 : n3 ≤ 9223372036854775807) :
    Calls Tryz.prog 53 #[.int .i64 n, .slice (some ⟨w.heap.size, 0, none⟩) 3 3] (w.alloc (.cells #[.slice A1 n1 c1, .slice A2 n2 c2, .slice A3 n3 c3] 22))
      fun e w' => e = .returned (.bool (decide (n1 ≤ n) && (decide (n2 ≤ n) && decide (n3 ≤ n)))) ∧ Ext w w' := by
  have := few_any (w := w.alloc (.cells #[.slice A1 n1 c1, .slice A2 n2 c2, .slice A3 n3 c3] 22)) (g := w.heap.size) (n := n) (c := 3) [n1, n2, n3] (by
    intro j hj
    match j, hj with
    | 0, _ => exact ⟨A1, c1, by simp⟩
    | 1, _ => exact ⟨A2, c2, by simp⟩
    | 2, _ => exact ⟨A3, c3, by simp⟩) (by simp) (by simp; omega)
  refine this.mono ?_
  rintro e w' ⟨rfl, rfl⟩
  exact ⟨by simp, Ext.alloc _ _⟩

theorem len_V {ds : List Nat} (h : Valid B32 ds) : dl (V ds) ≤ ds.length := by
  unfold dl; rw [← trim_V h]; exact trimL_le ds
theorem bl_V {ds : List Nat} (h : Valid B32 ds) : bl (V ds) ≤ 32 * ds.length := by
  unfold bl
  apply digs_len_le (by omega)
  have := val_lt h
  rwa [show B32 = 2 ^ 32 from rfl, ← Nat.pow_mul] at this
theorem bl_add (a b : Nat) : bl (a + b) ≤ max (bl a) (bl b) + 1 := digs_len_add (by omega) a b
theorem bl_mul (a b : Nat) : bl (a * b) ≤ bl a + bl b := digs_len_mul (by omega) a b
theorem bl_mono {a b : Nat} (h : a ≤ b) : bl a ≤ bl b := digs_len_mono (by omega) h
theorem dl_add (a b : Nat) : dl (a + b) ≤ max (dl a) (dl b) + 1 := digs_len_add B32_two a b
theorem dl_mul (a b : Nat) : dl (a * b) ≤ dl a + dl b := digs_len_mul B32_two a b
theorem dl_mono {a b : Nat} (h : a ≤ b) : dl a ≤ dl b := digs_len_mono B32_two h

/-- What 'Is' says where the digits are those of the number. -/
theorem is_yes {w : World} {B : Nat} {A1 A2 : Option Addr} {c1 c2 n m : Nat} (h1 : NO w B A1 c1 n) (h2 : BN w A2 c2 m) (hnm : n = m) (hs : bl m ≤ 8796093022208) :
    Calls Tryz.prog 94 #[.slice A1 (digs B32 n).length c1, .slice A2 (digs 2 m).length c2] w fun e w' => e = .returned (.bool true) ∧ Ext w w' := by
  subst hnm
  refine (is_any h1.nr h2 hs).mono ?_
  rintro e w' ⟨rfl, hx⟩
  exact ⟨by simp, hx⟩

theorem len_zero2 (n : Nat) : (((digs 2 n).length : Int) == 0) = (n == 0) := by
  rw [Bool.eq_iff_iff]
  simp [digs_eq_nil (B := 2) (by omega)]
theorem cmpN_ge {a b : Nat} (h : b ≤ a) : 0 ≤ cmpN a b := by unfold cmpN; rw [if_neg (by omega)]; split <;> omega

/-- A slice of L digits, not necessarily without leading zeros, whose value is n. -/
def NV (w : World) (A : Option Addr) (c L n : Nat) : Prop := ∃ ds : List Nat, ds.length = L ∧ V ds = n ∧ NR w A c ds

section
variable {w w' : World} {A A1 A2 : Option Addr} {B c c1 c2 L L1 L2 n n1 n2 : Nat}
theorem NR.nv {ds : List Nat} (h : NR w A c ds) : NV w A c ds.length (V ds) := ⟨ds, rfl, rfl, h⟩
theorem NO.nv (h : NO w B A c n) : NV w A c (digs B32 n).length n := ⟨digs B32 n, rfl, val_digs B32_two n, h.nr⟩
theorem NV.ext (h : NV w A c L n) (hx : Ext w w') : NV w' A c L n := by
  obtain ⟨ds, h1, h2, h3⟩ := h
  exact ⟨ds, h1, h2, h3.ext hx⟩
theorem NV.le (h : NV w A c L n) : L ≤ c := by obtain ⟨ds, rfl, _, h3⟩ := h; exact h3.le
theorem NV.cap (h : NV w A c L n) : c ≤ 9223372036854775807 := by obtain ⟨ds, _, _, h3⟩ := h; exact h3.cap
theorem NV.dl (h : NV w A c L n) : dl n ≤ L := by obtain ⟨ds, rfl, rfl, h3⟩ := h; exact len_V h3.valid
theorem NV.bl (h : NV w A c L n) : bl n ≤ 32 * L := by obtain ⟨ds, rfl, rfl, h3⟩ := h; exact bl_V h3.valid

theorem normal_v (h : NV w A c L n) (hs : Go.Proofs.YtehhkeenjlpikaaGreat.dl n ≤ 35184372088832) : Calls Tryz.prog 122 #[.slice A L c] w (RetN w n) := by
  obtain ⟨ds, rfl, rfl, h3⟩ := h
  exact normal_any h3 hs
theorem isZero_v (h : NV w A c L n) : Calls Tryz.prog 104 #[.slice A L c] w fun e w' => e = .returned (.bool (n == 0)) ∧ w = w' := by
  obtain ⟨ds, rfl, rfl, h3⟩ := h
  exact isZero_any h3
theorem uint64_yes_v (h : NV w A c L n) (hlt : n < 18446744073709551616) : Calls Tryz.prog 128 #[.slice A L c] w fun e w' => e = .returned (.tuple #[.int .u64 n, .bool true]) ∧ Qt w w' := by
  obtain ⟨ds, rfl, rfl, h3⟩ := h
  exact uint64_yes h3 hlt
theorem uint64_no_v (h : NV w A c L n) (hge : 18446744073709551616 ≤ n) : Calls Tryz.prog 128 #[.slice A L c] w fun e w' => e = .returned (.tuple #[.int .u64 0, .bool false]) ∧ Qt w w' := by
  obtain ⟨ds, rfl, rfl, h3⟩ := h
  exact uint64_no h3 hge
theorem cmp_v (h1 : NV w A1 c1 L1 n1) (h2 : NV w A2 c2 L2 n2) : Calls Tryz.prog 111 #[.slice A1 L1 c1, .slice A2 L2 c2] w fun e w' => e = .returned (.int .i64 (cmpN n1 n2)) ∧ Qt w w' := by
  obtain ⟨d1, rfl, rfl, h1⟩ := h1
  obtain ⟨d2, rfl, rfl, h2⟩ := h2
  exact cmp_any h1 h2
theorem cmp_eq_v (h1 : NV w A1 c1 L1 n1) (h2 : NV w A2 c2 L2 n2) (he : n1 = n2) : Calls Tryz.prog 111 #[.slice A1 L1 c1, .slice A2 L2 c2] w fun e w' => e = .returned (.int .i64 0) ∧ Qt w w' := by
  have := cmp_v h1 h2
  rwa [he, cmpN_eq] at this
theorem add_v (h1 : NV w A1 c1 L1 n1) (h2 : NV w A2 c2 L2 n2) (hs : Go.Proofs.YtehhkeenjlpikaaGreat.dl n1 ≤ 17592186044416) (hs2 : Go.Proofs.YtehhkeenjlpikaaGreat.dl n2 ≤ 17592186044416) : Calls Tryz.prog 110 #[.slice A1 L1 c1, .slice A2 L2 c2] w (RetN w (n1 + n2)) := by
  obtain ⟨d1, rfl, rfl, h1⟩ := h1
  obtain ⟨d2, rfl, rfl, h2⟩ := h2
  exact add_any h1 h2 hs hs2
theorem sub_yes_v (h1 : NV w A1 c1 L1 n1) (h2 : NV w A2 c2 L2 n2) (hs : Go.Proofs.YtehhkeenjlpikaaGreat.dl n1 ≤ 17592186044416) (hge : n2 ≤ n1) : Calls Tryz.prog 112 #[.slice A1 L1 c1, .slice A2 L2 c2] w (RetNT w (n1 - n2)) := by
  obtain ⟨d1, rfl, rfl, h1⟩ := h1
  obtain ⟨d2, rfl, rfl, h2⟩ := h2
  exact sub_yes h1 h2 hs hge
theorem sub_no_v (h1 : NV w A1 c1 L1 n1) (h2 : NV w A2 c2 L2 n2) (hlt : n1 < n2) : Calls Tryz.prog 112 #[.slice A1 L1 c1, .slice A2 L2 c2] w fun e w' => e = .returned (.tuple #[.slice none 0 0, .bool false]) ∧ Ext w w' := by
  obtain ⟨d1, rfl, rfl, h1⟩ := h1
  obtain ⟨d2, rfl, rfl, h2⟩ := h2
  exact sub_no h1 h2 hlt
theorem mul_v (h1 : NV w A1 c1 L1 n1) (h2 : NV w A2 c2 L2 n2) (hs : Go.Proofs.YtehhkeenjlpikaaGreat.dl n1 + Go.Proofs.YtehhkeenjlpikaaGreat.dl n2 ≤ 17592186044416) (hm : min (Go.Proofs.YtehhkeenjlpikaaGreat.dl n1) (Go.Proofs.YtehhkeenjlpikaaGreat.dl n2) < 48) : Calls Tryz.prog 106 #[.slice A1 L1 c1, .slice A2 L2 c2] w (RetN w (n1 * n2)) := by
  obtain ⟨d1, rfl, rfl, h1⟩ := h1
  obtain ⟨d2, rfl, rfl, h2⟩ := h2
  exact mul_any h1 h2 hs hm
theorem divSmall_v {d : Nat} (h : NV w A c L n) (hd0 : 0 < d) (hd : d < 4294967296) (hs : Go.Proofs.YtehhkeenjlpikaaGreat.dl n ≤ 17592186044416) : Calls Tryz.prog 124 #[.slice A L c, .int .u32 d] w (RetDS w (n / d) (n % d)) := by
  obtain ⟨ds, rfl, rfl, h3⟩ := h
  exact divSmall_any h3 hd0 hd hs
theorem rof_v (h : NV w A c L n) (hs : L ≤ 274877906944) : Calls Tryz.prog 107 #[.slice A L c] w (RetB w n) := by
  obtain ⟨ds, rfl, rfl, h3⟩ := h
  exact rof_any h3 hs
end
theorem RetN.nil {w : World} {e : Ending} {w' : World} (h : e = .returned (.slice none 0 0) ∧ w = w') : RetN w 0 e w' := by
  obtain ⟨rfl, rfl⟩ := h
  exact ⟨none, 0, rfl, Own.none_ _ _ _ _, Ext.refl _⟩
theorem shl_v {w : World} {A : Option Addr} {c L a m : Nat} {n : Int} (h : NV w A c L a) (hs : dl a ≤ 17592186044416) (hn : n ≤ 16777216) (hm : m = n.toNat) :
    Calls Tryz.prog 138 #[.slice A L c, .int .i64 n] w (RetN w (a * 2 ^ m)) := by
  obtain ⟨ds, rfl, rfl, h3⟩ := h
  rcases Int.lt_or_le n 0 with h0 | h0
  · exact shl_neg h3 hs (by omega) h0
  · obtain ⟨k, rfl⟩ : ∃ k : Nat, n = k := ⟨n.toNat, by omega⟩
    obtain rfl : m = k := by omega
    exact shl_nat h3 hs (by omega)
theorem shr_v {w : World} {A : Option Addr} {c L a m : Nat} {n : Int} (h : NV w A c L a) (hs : dl a ≤ 17592186044416) (hn : n ≤ 4611686018427387904) (hm : m = n.toNat) :
    Calls Tryz.prog 142 #[.slice A L c, .int .i64 n] w (RetN w (a / 2 ^ m)) := by
  obtain ⟨ds, rfl, rfl, h3⟩ := h
  rcases Int.lt_or_le n 0 with h0 | h0
  · obtain rfl : m = 0 := by omega
    rw [Nat.pow_zero, Nat.div_one]
    rcases Nat.eq_zero_or_pos (V ds) with hz | hz
    · rw [hz]
      exact (shr_neg0 h3 h0 hz).mono fun _ _ h => RetN.nil h
    · refine shr_neg h3 hs h0 ?_
      rcases Nat.eq_zero_or_pos (dl (V ds)) with h1 | h1
      · have h2 := lt_pow_len B32_two (V ds)
        unfold dl at h1
        rw [h1] at h2
        simp at h2; omega
      · exact h1
  · obtain ⟨k, rfl⟩ : ∃ k : Nat, n = k := ⟨n.toNat, by omega⟩
    obtain rfl : m = k := by omega
    rcases Nat.lt_or_ge (m / 32) (dl (V ds)) with hl | hl
    · exact shr_any h3 hs (by omega) hl
    · have hz : V ds / 2 ^ m = 0 := by
        apply Nat.div_eq_of_lt
        have h1 := lt_pow_len B32_two (V ds)
        have h2 : B32 ^ (digs B32 (V ds)).length = 2 ^ (32 * dl (V ds)) := by rw [Nat.pow_mul]; rfl
        have h4 : 2 ^ (32 * dl (V ds)) ≤ 2 ^ m := Nat.pow_le_pow_right (by omega) (by omega)
        omega
      rw [hz]
      exact (shr_far h3 (by omega) hl).mono fun _ _ h => RetN.nil h
theorem bitLenAux_digs : ∀ (f x : Nat), x < 2 ^ f → Lib.bitLenAux f x = (digs 2 x).length := by
  intro f
  induction f with
  | zero =>
    intro x h
    obtain rfl : x = 0 := by simpa using h
    rfl
  | succ f ih =>
    intro x h
    rw [Lib.bitLenAux]
    split
    · rename_i h0; subst h0; rfl
    · rename_i h0
      rw [digs_pos (by omega) h0, ih (x / 2) (by rw [Nat.pow_succ] at h; omega), List.length_cons, Nat.add_comm]
theorem bitLen_bl {x : Nat} (h : x < 4294967296) : Lib.bitLen x = bl x := bitLenAux_digs 64 x (by omega)
theorem bl_div {a k : Nat} (h : a / 2 ^ k ≠ 0) : bl a = k + bl (a / 2 ^ k) := by
  have h1 := congrArg List.length (down_digs a k)
  rw [List.length_drop] at h1
  have h2 : (digs 2 (a / 2 ^ k)).length ≠ 0 := fun h0 => h (by
    have := val_digs (B := 2) (by omega) (a / 2 ^ k)
    rw [List.eq_nil_of_length_eq_zero h0] at this
    exact this.symm)
  unfold bl
  omega
/-- The bits of a number by its highest digit. -/
theorem bl_top {a L : Nat} (hl : (digs B32 a).length = L + 1) : ∃ t, (digs B32 a)[L]? = some t ∧ t < 4294967296 ∧ bl a = 32 * L + bl t := by
  have hlt : L < (digs B32 a).length := by omega
  refine ⟨(digs B32 a)[L], List.getElem?_eq_getElem hlt, valid_get (valid_digs B32_two a) L hlt, ?_⟩
  have h1 := val_drop_div B32_two (valid_digs B32_two a) L
  rw [val_digs B32_two, val_drop B32 _ L hlt, List.drop_of_length_le (by omega), val_nil, Nat.mul_zero, Nat.add_zero] at h1
  have h2 : B32 ^ L = 2 ^ (32 * L) := by rw [Nat.pow_mul]; rfl
  rw [h2] at h1
  have h3 : (digs B32 a)[L] ≠ 0 := by
    intro h0
    apply getLast_digs B32_two a
    rw [List.getLast?_eq_getElem?, show (digs B32 a).length - 1 = L from by omega, List.getElem?_eq_getElem hlt, h0]
  rw [bl_div (k := 32 * L) (by rw [← h1]; exact h3), ← h1]

theorem bitLen_any {w : World} {A : Option Addr} {c : Nat} {ds : List Nat} (h : NR w A c ds) (hs : dl (V ds) ≤ 17592186044416) :
    Calls Tryz.prog 96 #[.slice A ds.length c] w fun e w' => e = .returned (.int .i64 (bl (V ds))) ∧ w = w' := by
  have ht := trim_nr h
  have hn := h.trim
  clear h
  unfold dl at hs
  have hz := len_zero (V ds)
  generalize V ds = a at *
  by_cases h0 : a = 0
  · subst h0
    go_enter Tryz.func96, Tryz.ntmps96
    go_wp2_with fail
    refine ht.mono ?_
    rintro e w' ⟨rfl, rfl⟩
    go_wp2_with fail
    go_ret
    exact ⟨rfl, rfl⟩
  · have hz1 : (((digs B32 a).length : Int) == 0) = false := by rw [hz]; simpa using h0
    have hp : 0 < (digs B32 a).length := by
      rcases Nat.eq_zero_or_pos (digs B32 a).length with h | h
      · rw [h] at hz1; simp at hz1
      · exact h
    obtain ⟨L, hL⟩ : ∃ L, (digs B32 a).length = L + 1 := ⟨(digs B32 a).length - 1, by omega⟩
    obtain ⟨t, hgt, htb, hbl⟩ := bl_top hL
    have HB : Hid (bl a = 32 * L + bl t) := hbl
    have hbt : bl t ≤ 32 := digs_len_le (by omega) (by omega)
    obtain ⟨hlt, hge⟩ := List.getElem?_eq_some_iff.1 hgt
    obtain ⟨b, o, rfl, hb, hcell⟩ := hn.rd.at_ hlt
    rw [hge] at hcell
    have HLn : Hid (∀ w : World, Calls Tryz.prog 121 #[.int .u32 (t : Int)] w fun e w' => e = .returned (.int .i64 (bl t)) ∧ w' = w) := fun w => by
      have := Tryz.bits_Len32 t w (by omega) (by omega)
      rwa [Int.toNat_natCast, bitLen_bl htb] at this
    rw [hL] at ht hs
    clear hn hz hz1 hp hbl hgt hlt hge hL h0
    generalize bl t = bt at *
    generalize bl a = ba at *
    go_enter Tryz.func96, Tryz.ntmps96
    go_wp2_with fail
    refine ht.mono ?_
    rintro e w' ⟨rfl, rfl⟩
    go_wp2_with fail
    refine (HLn.out _).mono ?_
    rintro e w' ⟨rfl, rfl⟩
    go_wp2_with fail
    go_ret
    exact ⟨by rw [HB.out]; congr 2, rfl⟩
theorem bitLen_v {w : World} {A : Option Addr} {c L a : Nat} (h : NV w A c L a) (hs : dl a ≤ 17592186044416) :
    Calls Tryz.prog 96 #[.slice A L c] w fun e w' => e = .returned (.int .i64 (bl a)) ∧ w = w' := by
  obtain ⟨ds, rfl, rfl, h3⟩ := h
  exact bitLen_any h3 hs
theorem and_one (x : Nat) (h : x < 4294967296) : bits BinOp.and IntKind.u32 (x : Int) 1 = ((x % 2 : Nat) : Int) := by
  have := u32_and_nat x 1 h (by omega)
  rw [show x &&& 1 = x % 2 from Nat.and_one_is_mod x] at this
  exact this

theorem bitN_zero_of_lenV {ds : List Nat} (hv : Valid B32 ds) {i : Nat} (h : ds.length ≤ i / 32) : bitN (V ds) i = 0 := by
  have h1 := val_lt hv
  have h2 : V ds < 2 ^ i := by
    refine Nat.lt_of_lt_of_le h1 ?_
    rw [show B32 = 2 ^ 32 from rfl, ← Nat.pow_mul]
    exact Nat.pow_le_pow_right (by omega) (by omega)
  unfold bitN
  rw [Nat.div_eq_of_lt h2]

end Go.Proofs.YtehhkeenjlpikaaGreat
