/- Contracts of the reference for natural numbers. -/
import Derived.Test.YtjefndkhonpalaaDoorBase
import Derived.Maps.AppendAt
import Derived.Laws.AppendOwnNone
namespace Go.Proofs.YtjefndkhonpalaaDoor
open Go.RowKit
theorem info_int : (Tryd.prog.info? 3).map (fun i => (i.zero, i.size, i.bytes)) = some (some (.int .i64 0), 1, 8) := by kernel_rfl

/-- Trim of the reference: as natural's. -/
theorem rtrim_any (A : Option Addr) (c : Nat) (ds : List Nat) (w : World) (hc : ds.length ≤ c) (hn : c ≤ 9223372036854775807) (hr : Rd w .i64 A ds) :
    Calls Tryd.prog 12 #[.slice A ds.length c] w fun e w' => e = .returned (.slice A (trimL ds).length c) ∧ w = w' := by
  have H := Lib.hid hr
  clear hr
  go_enter Tryd.func12, Tryd.ntmps12
  go_wp2
  go_loop [3] (fun i => ∃ k : Nat, k ≤ ds.length ∧ i = .int .i64 k ∧ trimL ds = trimL (ds.take k)) (fun i => (intOf i).toNat)
  case atStart => exact ⟨_, Nat.le_refl _, rfl, by rw [List.take_length]⟩
  case round =>
    obtain ⟨k, hk, rfl, ht⟩ := hrel
    have HT := Lib.hid ht
    clear ht
    by_cases h0 : k = 0
    · subst h0
      go_wp2
      go_ret
      exact ⟨ret_slice (by rw [HT.out]; rfl), rfl⟩
    · have hk1 : k - 1 < ds.length := by omega
      obtain ⟨b, off, rfl, hb, hcell⟩ := H.out (k - 1) hk1
      have hp : 0 < k := by omega
      have HS := Lib.hid (take_snoc' ds (k - 1) hk1)
      go_wp2
      · have hz : (↑ds[k - 1] == (0 : Int)) = true := by assumption
        have hz' : ds[k - 1] = 0 := by simpa using hz
        go_round
        case rel =>
          refine ⟨k - 1, by omega, by go_num, ?_⟩
          have e : k = k - 1 + 1 := by omega
          rw [HT.out]
          conv => lhs; rw [e, HS.out, hz', trimL_snoc_zero]
        case measure => simp [intOf]; omega
      · have hz : (↑ds[k - 1] == (0 : Int)) = false := by assumption
        have hz' : ds[k - 1] ≠ 0 := by simpa using hz
        go_ret
        refine ⟨ret_slice ?_, rfl⟩
        have e : k = k - 1 + 1 := by omega
        rw [HT.out]
        conv => rhs; rw [e, HS.out, trimL_snoc hz', ← HS.out, ← e]
        rw [List.length_take]; omega


/-- A number as its canonical bits in memory. -/
structure BN (w : World) (A : Option Addr) (c n : Nat) : Prop where
  rd : Rd w .i64 A (digs 2 n)
  le : (digs 2 n).length ≤ c
  cap : c ≤ 9223372036854775807
  nz : A = none → c = 0
  ty : ∀ g o s, A = some ⟨g, o, s⟩ → ∃ cur fr, w.heap[g]? = some (.cells cur 3 fr)
/-- The number of bits. -/
def bl (n : Nat) : Nat := (digs 2 n).length
theorem BN.ext {w w' : World} {A : Option Addr} {c n : Nat} (h : BN w A c n) (hx : Ext w w') : BN w' A c n :=
  ⟨h.rd.below hx, h.le, h.cap, h.nz, fun g o s e => by
    obtain ⟨cur, fr, hh⟩ := h.ty g o s e
    exact ⟨cur, fr, (hx.block g (Array.getElem?_eq_some_iff.1 hh).1).trans hh⟩⟩
theorem Own.ty {w : World} {B c : Nat} {k : IntKind} {T : TypeId} {A : Option Addr} {ds : List Nat} (h : Own w B k T A c ds) (g o : Nat) (s : Option Nat) (e : A = some ⟨g, o, s⟩) : ∃ cur fr, w.heap[g]? = some (.cells cur T fr) := by
  rcases Own.form h with ⟨h1, _⟩ | ⟨g', cur, h1, _, hh, _⟩
  · rw [h1] at e; cases e
  · rw [h1] at e
    injection e with e
    injection e with e1
    subst e1
    exact ⟨cur, _, hh⟩
/-- The call returns the number n as bits, and changes nothing. -/
def RetB (w : World) (n : Nat) (e : Ending) (w' : World) : Prop := ∃ A c, e = .returned (.slice A (digs 2 n).length c) ∧ BN w' A c n ∧ Ext w w'

theorem trim_own {w : World} {B c : Nat} {A : Option Addr} {ds : List Nat} {n : Nat} (h : Own w B .i64 3 A c ds) (hv : Valid 2 ds) (hn : val 2 ds = n) :
    Calls Tryd.prog 12 #[.slice A ds.length c] w (fun e w' => e = .returned (.slice A (digs 2 n).length c) ∧ w = w') ∧ BN w A c n := by
  have ht : trimL ds = digs 2 n := by rw [trimL_digs (by omega) hv, hn]
  have hle := Own.le h
  unfold maxLen at hle
  have hr := Own.rd h
  have hnz : A = none → c = 0 := by
    rintro rfl
    rcases Own.form h with ⟨_, h1, _⟩ | ⟨_, _, h1, _⟩
    · exact h1
    · cases h1
  refine ⟨by rw [← ht]; exact rtrim_any A c ds w hle.1 (by omega) hr, ?_, ?_, by omega, hnz, Own.ty h⟩
  · rw [← ht, ← trimL_take]; exact hr.take _
  · rw [← ht]; have := trimL_le ds; omega

theorem rof_any {w : World} {A : Option Addr} {c : Nat} {ds : List Nat} (h : NR w A c ds) (hs : ds.length ≤ 274877906944) :
    Calls Tryd.prog 6 #[.slice A ds.length c] w (RetB w (V ds)) := by
  have HV := Lib.hid h.valid
  have HR := Lib.hid h.rd
  clear h
  have hB : w.heap.size ≤ w.heap.size := Nat.le_refl _
  go_enter Tryd.func6, Tryd.ntmps6
  go_wp2_with fail
  go_loopw [3, 4] (fun v i wr => ∃ (k : Nat) (A' : Option Addr) (c' : Nat), k ≤ 32 * ds.length ∧ i = .int .i64 k ∧ v = .slice A' k c' ∧ Own wr w.heap.size .i64 3 A' c' (bitsUpto (V ds) k) ∧ Ext w wr) (fun _ i _ => 32 * ds.length - (intOf i).toNat)
  case atStart => exact ⟨0, none, 0, Nat.zero_le _, rfl, rfl, Own.none_ _ _ _ _, Ext.refl _⟩
  case round =>
    obtain ⟨k, A', c', hk, rfl, rfl, hown, hext⟩ := hrel
    by_cases hlt : k < 32 * ds.length
    · have hq : k / 32 < ds.length := by omega
      obtain ⟨b1, o1, rfl, hb1, hc1⟩ := (HR.out.below hext).at_ (j := k / 32) hq
      have hx : ds[k / 32] < 4294967296 := valid_get HV.out _ hq
      have HB := Lib.hid (bitN_digit HV.out k hq)
      have hbw := hext.size
      have hd0 : (0 : Int) ≤ ((ds[k / 32] : Nat) : Int) / 2 ^ (k % 32) := by
        have e : ((ds[k / 32] / 2 ^ (k % 32) : Nat) : Int) = ((ds[k / 32] : Nat) : Int) / 2 ^ (k % 32) := by simp
        rw [← e]; exact Int.natCast_nonneg _
      have he : ((ds[k / 32] : Nat) : Int) / 2 ^ (k % 32) % 2 = (bitN (V ds) k : Int) := by
        rw [show V ds = val 4294967296 ds from rfl, HB.out]; simp
      have HE := Lib.hid he
      clear he
      go_wp2_with (at_builtin; refine wpList_app1 rfl _ _ _ rfl w.heap.size 3 .i64 8 Tryd.underlying25 info_int (by omega) A' c' k (bitsUpto (V ds) k) (bitsUpto_length _ _) rfl (hown.below (Ext.alloc _ _)) wr.heap.size (bitN (V ds) k) rfl ?h2 ?h3 ?h4 ?h5)
      case h2 => simp [HE.out]
      case h3 => omega
      case h4 => simp; omega
      case h5 =>
        intro A2 c2 w2 hown2 hb2
        have hx2 : Ext w w2 := Below.trans hext (Below.trans (Below.mono (Ext.alloc wr _) hbw) hb2)
        rw [← bitsUpto_succ] at hown2
        go_wp2_with fail
        go_roundw
        case rel => exact ⟨k + 1, A2, c2, by omega, by go_num, rfl, hown2, hx2⟩
        case measure => simp [intOf]; omega
    · obtain rfl : k = 32 * ds.length := by omega
      have hv : val 2 (bitsUpto (V ds) (32 * ds.length)) = V ds := by
        rw [bitsUpto_val, Nat.pow_mul]
        exact Nat.mod_eq_of_lt (val_lt HV.out)
      obtain ⟨ht, hbn⟩ := trim_own hown (bitsUpto_valid _ _) hv
      rw [bitsUpto_length] at ht
      have HT := Lib.hid ht
      have HN := Lib.hid hbn
      clear hown ht hbn hv
      go_wp2_with fail
      refine HT.out.mono ?_
      rintro e w' ⟨rfl, rfl⟩
      go_wp2_with fail
      go_ret
      exact ⟨_, _, rfl, HN.out, hext⟩

theorem few_any {w : World} {g n c : Nat} (lens : List Nat) (hc : ∀ j (h : j < lens.length), ∃ A c, w.cell? ⟨g, j, none⟩ = some (.slice A lens[j] c)) (hl : lens.length ≤ 1000) (hm : ∀ l ∈ lens, l ≤ 9223372036854775807) :
    Calls Tryd.prog 5 #[.int .i64 n, .slice (some ⟨g, 0, none⟩) lens.length c] w fun e w' => e = .returned (.bool (lens.all fun l => decide (l ≤ n))) ∧ w = w' := by
  have HC := Lib.hid hc
  have HM := Lib.hid hm
  clear hc hm
  have HR : Hid ((∀ l ∈ lens, l ≤ n) → (lens.all fun l => decide (l ≤ n)) = true) := by
    intro h; simpa using h
  have HR2 : Hid (∀ j (h : j < lens.length), n < lens[j] → (lens.all fun l => decide (l ≤ n)) = false) := by
    intro j h hj
    rw [List.all_eq_false]
    exact ⟨_, List.getElem_mem h, by simpa using hj⟩
  generalize (lens.all fun l => decide (l ≤ n)) = R at *
  go_enter Tryd.func5, Tryd.ntmps5
  go_wp2_with fail
  go_loop [5] (fun i => ∃ k : Nat, k ≤ lens.length ∧ i = .int .i64 k ∧ ∀ j (h : j < lens.length), j < k → lens[j] ≤ n) (fun i => lens.length - (intOf i).toNat)
  case atStart => exact ⟨0, Nat.zero_le _, rfl, fun j _ h => absurd h (by omega)⟩
  case round =>
    obtain ⟨k, hk, rfl, hd⟩ := hrel
    have HD := Lib.hid hd
    clear hd
    by_cases hlt : k < lens.length
    · obtain ⟨A, c', hcell⟩ := HC.out k hlt
      have hlm := HM.out _ (List.getElem_mem hlt)
      by_cases hx : lens[k] ≤ n
      · have HD2 : Hid (∀ j (h : j < lens.length), j < k + 1 → lens[j] ≤ n) := by
          intro j h hj
          by_cases e : j = k
          · subst e; exact hx
          · exact HD.out j h (by omega)
        generalize lens[k] = l at *
        go_wp2_with fail
        go_round
        case rel => exact ⟨k + 1, by omega, by go_num, HD2.out⟩
        case measure => simp [intOf]; omega
      · have HF := Lib.hid (HR2.out k hlt (by omega))
        have hx' : n < lens[k] := by omega
        clear hx
        generalize lens[k] = l at *
        go_wp2_with fail
        go_ret
        exact ⟨by rw [HF.out]; rfl, rfl⟩
    · have HF : Hid (R = true) := HR.out (by
        intro l hl
        obtain ⟨j, h, rfl⟩ := List.getElem_of_mem hl
        exact HD.out j h (by omega))
      go_wp2_with fail
      go_ret
      exact ⟨by rw [HF.out]; rfl, rfl⟩

theorem Own.set_ {w : World} {B g c : Nat} {k : IntKind} {T : TypeId} {ds : List Nat} (h : Own w B k T (some ⟨g, 0, none⟩) c ds) (i v : Nat) :
    Own (w.setCell ⟨g, i, none⟩ (.int k (v : Int))) B k T (some ⟨g, 0, none⟩) c (ds.set i v) := by
  have h1 := (World.ownsRow.stored h i (.int k (v : Int))).1
  unfold Own
  rw [List.length_set]
  have e : nums k (ds.set i v) = (nums k ds).set i (.int k (v : Int)) := by simp [nums, List.map_set]
  rw [e]
  exact h1
theorem Own.frozen {w : World} {B g c : Nat} {k : IntKind} {T : TypeId} {ds : List Nat} (h : Own w B k T (some ⟨g, 0, none⟩) c ds) (i : Nat) : w.frozen? ⟨g, i, none⟩ = false := by
  rcases h.form with ⟨h0, _⟩ | ⟨g', cur, hA, _, hh, _⟩
  · cases h0
  · injection hA with hA
    injection hA with e
    subst e
    simp [World.frozen?, hh]
theorem Own.at_ {w : World} {B c : Nat} {k : IntKind} {T : TypeId} {A : Option Addr} {ds : List Nat} (h : Own w B k T A c ds) {i : Nat} (hi : i < ds.length) :
    ∃ g, A = some ⟨g, 0, none⟩ ∧ B ≤ g ∧ g < w.heap.size ∧ w.cell? ⟨g, i, none⟩ = some (.int k (ds[i] : Nat)) ∧ w.frozen? ⟨g, i, none⟩ = false := by
  rcases h.form with ⟨_, _, rfl⟩ | ⟨g, cur, rfl, hB, hh, _⟩
  · simp at hi
  · obtain ⟨b, o, hA, hlt, hc⟩ := h.rd i hi
    injection hA with hA
    injection hA with e1 e2
    subst e1 e2
    exact ⟨g, rfl, hB, hlt, by simpa using hc, h.frozen i⟩

/-- What 'To' holds after i bits. -/
def ToInv (w wr : World) (n i : Nat) (A : Option Addr) (c : Nat) (zs : List Nat) : Prop :=
  Own wr w.heap.size .u32 34 A c zs ∧ zs.length = (i + 31) / 32 ∧ Valid B32 zs ∧ val B32 zs = n % 2 ^ i ∧ Ext w wr

theorem to_digit {n i : Nat} {zs : List Nat} (hl : zs.length = i / 32 + 1) (he : val B32 zs = n % 2 ^ i) :
    zs[i / 32] + bitN n i * 2 ^ (i % 32) < 4294967296 ∧ val B32 (zs.set (i / 32) (zs[i / 32] + bitN n i * 2 ^ (i % 32))) = n % 2 ^ (i + 1) := by
  have hB : B32 ^ (i / 32) = 2 ^ (32 * (i / 32)) := by rw [Nat.pow_mul]; rfl
  have hi : 2 ^ i = 2 ^ (32 * (i / 32)) * 2 ^ (i % 32) := by rw [← Nat.pow_add, Nat.div_add_mod]
  have h1 : val B32 zs = val B32 (zs.take (i / 32)) + B32 ^ (i / 32) * zs[i / 32] := by
    rw [← val_take_succ B32 zs (i / 32) (by omega), List.take_of_length_le (by omega)]
  have h2 : val B32 (zs.set (i / 32) (zs[i / 32] + bitN n i * 2 ^ (i % 32))) = val B32 (zs.take (i / 32)) + B32 ^ (i / 32) * (zs[i / 32] + bitN n i * 2 ^ (i % 32)) := by
    have := val_set B32 (zs := zs) (k := i / 32) (v := zs[i / 32] + bitN n i * 2 ^ (i % 32)) (by omega)
    rwa [List.take_of_length_le (by simp; omega)] at this
  have hlt : n % 2 ^ i < 2 ^ i := Nat.mod_lt _ (Nat.two_pow_pos _)
  have hz : zs[i / 32] < 2 ^ (i % 32) := by
    have h3 : 2 ^ (32 * (i / 32)) * zs[i / 32] < 2 ^ (32 * (i / 32)) * 2 ^ (i % 32) := by rw [← hi, ← hB]; omega
    exact Nat.lt_of_mul_lt_mul_left h3
  have hb := bitN_lt n i
  constructor
  · have h4 : 2 ^ (i % 32) ≤ 2 ^ 31 := Nat.pow_le_pow_right (by omega) (by omega)
    have h5 : bitN n i * 2 ^ (i % 32) ≤ 1 * 2 ^ (i % 32) := Nat.mul_le_mul_right _ (by omega)
    omega
  · have e3 : n % 2 ^ (i + 1) = n % 2 ^ i + 2 ^ i * bitN n i := Nat.mod_pow_succ
    have e4 : 2 ^ i * bitN n i = 2 ^ (32 * (i / 32)) * (bitN n i * 2 ^ (i % 32)) := by rw [hi, Nat.mul_assoc, Nat.mul_comm (bitN n i)]
    rw [h2, Nat.mul_add, ← Nat.add_assoc, ← h1, he, e3, e4, hB]

theorem to_close {n : Nat} {zs : List Nat} (hl : zs.length = (bl n + 31) / 32) (hv : Valid B32 zs) (he : val B32 zs = n % 2 ^ bl n) : zs = digs B32 n := by
  have hn : val B32 zs = n := by rw [he]; exact Nat.mod_eq_of_lt (lt_pow_len (by omega) n)
  have h1 := digs_of_val B32_two hv (fun hlast => by
    obtain ⟨es, rfl⟩ : ∃ es, zs = es ++ [0] := List.getLast?_eq_some_iff.1 hlast
    have h2 : val B32 es < B32 ^ es.length := val_lt (valid_append.1 hv).1
    rw [val_snoc, Nat.mul_zero, Nat.add_zero] at hn
    simp at hl
    have h3 : 2 ^ (bl n - 1) ≤ n := pow_le_of_len (by omega) (by unfold bl at *; omega)
    have h4 : B32 ^ es.length ≤ 2 ^ (bl n - 1) := by
      rw [show B32 = 2 ^ 32 from rfl, ← Nat.pow_mul]
      exact Nat.pow_le_pow_right (by omega) (by omega)
    omega)
  rw [← h1, hn]

theorem ToInv.cell {w w2 : World} {n k : Nat} {A : Option Addr} {c : Nat} {zs : List Nat} (hown : Own w2 w.heap.size .u32 34 A c zs) (hl : zs.length = k / 32 + 1) (hv : Valid B32 zs)
    (he : val B32 zs = n % 2 ^ k) (hext : Ext w w2) :
    ∃ g d zs', A = some ⟨g, 0, none⟩ ∧ w.heap.size ≤ g ∧ g < w2.heap.size ∧ w2.cell? ⟨g, k / 32, none⟩ = some (.int .u32 (d : Nat)) ∧ w2.frozen? ⟨g, k / 32, none⟩ = false ∧ d + bitN n k * 2 ^ (k % 32) < 4294967296 ∧
      zs'.length = zs.length ∧ ToInv w (w2.setCell ⟨g, k / 32, none⟩ (.int .u32 ((d + bitN n k * 2 ^ (k % 32) : Nat) : Int))) n (k + 1) (some ⟨g, 0, none⟩) c zs' := by
  obtain ⟨g, rfl, hBg, hglt, hcell, hfr⟩ := hown.at_ (i := k / 32) (by omega)
  obtain ⟨hd1, hd2⟩ := to_digit hl he
  exact ⟨g, _, _, rfl, hBg, hglt, hcell, hfr, hd1, by simp, hown.set_ _ _, by simp; omega, valid_set hv _ _ hd1, hd2, Below.setCell hext (p := ⟨g, k / 32, none⟩) hBg _⟩
theorem ToInv.drew {w w2 : World} {n k : Nat} {A : Option Addr} {c : Nat} {zs : List Nat} (h : ToInv w w2 n k A c zs) : ToInv w w2.drew n k A c zs := ⟨h.1, h.2.1, h.2.2.1, h.2.2.2.1, Below.drew h.2.2.2.2⟩

theorem rtrim_bn {w : World} {A : Option Addr} {c n : Nat} (h : BN w A c n) :
    Calls Tryd.prog 12 #[.slice A (digs 2 n).length c] w fun e w' => e = .returned (.slice A (digs 2 n).length c) ∧ w = w' := by
  have := rtrim_any A c (digs 2 n) w h.le h.cap h.rd
  rwa [trimL_digs (by omega) (valid_digs (by omega) n), val_digs (by omega)] at this

/-- The call returns the digits of n in new memory. -/
def RetT (w : World) (n : Nat) (e : Ending) (w' : World) : Prop := ∃ A c, e = .returned (.slice A (digs B32 n).length c) ∧ Rd w' .u32 A (digs B32 n) ∧ (digs B32 n).length ≤ c ∧ c ≤ 9223372036854775807 ∧ Ext w w'

theorem div_pow_succ (a k : Nat) : a / 2 ^ k = 2 * (a / 2 ^ (k + 1)) + bitN a k := by
  unfold bitN
  rw [Nat.pow_succ, ← Nat.div_div_eq_div_mul]
  omega
theorem cmp_bits {a b k : Nat} (h : a / 2 ^ (k + 1) = b / 2 ^ (k + 1)) (hne : bitN a k ≠ bitN b k) : (bitN a k : Int) - (bitN b k : Int) = cmpN a b := by
  have h1 := div_pow_succ a k
  have h2 := div_pow_succ b k
  have h3 := bitN_lt a k
  have h4 := bitN_lt b k
  rcases Nat.lt_or_ge (bitN a k) (bitN b k) with hl | hl
  · have : a < b := by
      rcases Nat.lt_or_ge a b with h5 | h5
      · exact h5
      · have := Nat.div_le_div_right (c := 2 ^ k) h5; omega
    rw [cmpN_lt this]; omega
  · have : b < a := by
      rcases Nat.lt_or_ge b a with h5 | h5
      · exact h5
      · have := Nat.div_le_div_right (c := 2 ^ k) h5; omega
    rw [cmpN_gt this]; omega

theorem mod_pow_succ' (a k : Nat) : a % 2 ^ (k + 1) = a % 2 ^ k + 2 ^ k * bitN a k := Nat.mod_pow_succ

/-- What the reference's sum holds after i bits. -/
def RAInv (w wr : World) (a b i cy : Nat) (A : Option Addr) (c : Nat) (zs : List Nat) : Prop :=
  Own wr w.heap.size .i64 3 A c zs ∧ zs.length = i ∧ Valid 2 zs ∧ val 2 zs + 2 ^ i * cy = a % 2 ^ i + b % 2 ^ i ∧ Ext w wr

theorem RAInv.step {w w2 : World} {a b i cy s : Nat} {A : Option Addr} {c : Nat} {zs : List Nat} (hown : Own w2 w.heap.size .i64 3 A c (zs ++ [s % 2])) (hl : zs.length = i) (hv : Valid 2 zs)
    (he : val 2 zs + 2 ^ i * cy = a % 2 ^ i + b % 2 ^ i) (hs : s = bitN a i + bitN b i + cy) (hext : Ext w w2) : RAInv w w2 a b (i + 1) (s / 2) A c (zs ++ [s % 2]) := by
  refine ⟨hown, by simp [hl], valid_append.2 ⟨hv, by intro d hd; simp at hd; omega⟩, ?_, hext⟩
  rw [val_snoc, hl, mod_pow_succ', mod_pow_succ', Nat.pow_succ]
  have h := carry_step (B := 2) (P := 2 ^ i) (x := bitN a i) (y := bitN b i) he
  rw [← hs] at h
  exact h

/-- What the reference's difference holds after i bits. -/
def RSInv (w wr : World) (a b i cy : Nat) (A : Option Addr) (c : Nat) (zs : List Nat) : Prop :=
  Own wr w.heap.size .i64 3 A c zs ∧ zs.length = i ∧ Valid 2 zs ∧ val 2 zs + b % 2 ^ i = a % 2 ^ i + 2 ^ i * cy ∧ Ext w wr

theorem RSInv.step {w w2 : World} {a b i cy d bo : Nat} {A : Option Addr} {c : Nat} {zs : List Nat} (hown : Own w2 w.heap.size .i64 3 A c (zs ++ [d])) (hl : zs.length = i) (hv : Valid 2 zs)
    (he : val 2 zs + b % 2 ^ i = a % 2 ^ i + 2 ^ i * cy) (hd : d < 2) (hs : d + bitN b i + cy = bitN a i + 2 * bo) (hext : Ext w w2) : RSInv w w2 a b (i + 1) bo A c (zs ++ [d]) := by
  refine ⟨hown, by simp [hl], valid_append.2 ⟨hv, by intro x hx; simp at hx; omega⟩, ?_, hext⟩
  rw [val_snoc, hl, mod_pow_succ', mod_pow_succ', Nat.pow_succ]
  exact borrow_step he hs

theorem size_int : (Tryd.prog.info? 3).map (·.size) = some 1 := by kernel_rfl

/-- The base of the words of the reference. -/
def B15 : Nat := 32768
theorem B15_eq : B15 = 2 ^ 15 := rfl
/-- The call returns a new row of L words of value n. -/
def RetW (w : World) (L n : Nat) (e : Ending) (w' : World) : Prop :=
  ∃ g zs, e = .returned (.slice (some ⟨g, 0, none⟩) L L) ∧ w.heap.size ≤ g ∧ Row w' g .i64 3 zs ∧ zs.length = L ∧ Valid B15 zs ∧ val B15 zs = n ∧ Ext w w'
/-- The head of a round of 'words'. -/
def WInv (w wr : World) (g L n k : Nat) : Prop := ∃ zs, Row wr g .i64 3 zs ∧ zs.length = L ∧ Valid B15 zs ∧ val B15 zs = n % 2 ^ k ∧ Ext w wr
theorem WInv.cell {w wr : World} {g L n k : Nat} (h : WInv w wr g L n k) (hk : k / 15 < L) (hg : w.heap.size ≤ g) :
    ∃ d : Nat, wr.cell? ⟨g, k / 15, none⟩ = some (.int .i64 (d : Nat)) ∧ wr.frozen? ⟨g, k / 15, none⟩ = false ∧ d + bitN n k * 2 ^ (k % 15) < 32768 ∧
      ∀ e : Int, e = ((d + bitN n k * 2 ^ (k % 15) : Nat) : Int) → WInv w (wr.setCell ⟨g, k / 15, none⟩ (.int .i64 e)).drew g L n (k + 1) := by
  obtain ⟨zs, hz, hl, hv, he, hext⟩ := h
  have hq : k / 15 < zs.length := by omega
  obtain ⟨h1, h2⟩ := lay_bit (K := 15) (n := n) (i := k) (by omega) hq he
  refine ⟨zs[k / 15], hz.cell hq, hz.frozen _, h1, ?_⟩
  rintro e rfl
  exact ⟨_, (hz.set_ _ _).drew, by simpa using hl, valid_set hv _ _ h1, h2, Below.drew (Below.setCell hext (p := ⟨g, k / 15, none⟩) hg _)⟩

/-- The head of a round of the outer loop of the reference's product. -/
def RMOut (w wr : World) (g : Nat) (da db : List Nat) (i : Nat) : Prop :=
  ∃ zs, Row wr g .i64 3 zs ∧ zs.length = da.length + db.length ∧ Valid B15 zs ∧ val B15 zs = val B15 (da.take i) * val B15 db ∧
    zs.drop (i + db.length) = List.replicate (da.length - i) 0 ∧ Ext w wr
/-- The head of a round of its inner loop: Z the row at its start. -/
def RMIn (w wr : World) (g : Nat) (da db Z : List Nat) (x i j c : Nat) : Prop :=
  ∃ zs, Row wr g .i64 3 zs ∧ zs.length = da.length + db.length ∧ Valid B15 zs ∧ zs.drop (i + j) = Z.drop (i + j) ∧
    val B15 (zs.take (i + j)) + B15 ^ (i + j) * c = val B15 (Z.take (i + j)) + B15 ^ i * (x * val B15 (db.take j)) ∧ Ext w wr

theorem RMIn.step {w w2 : World} {g : Nat} {da db Z zs : List Nat} {x i j c s c' old : Nat} (hj : j < db.length) (hi : i < da.length) (hZ : Z.length = da.length + db.length)
    (hz : Row w2 g .i64 3 zs) (hl : zs.length = da.length + db.length) (hv : Valid B15 zs) (hd : zs.drop (i + j) = Z.drop (i + j))
    (he : val B15 (zs.take (i + j)) + B15 ^ (i + j) * c = val B15 (Z.take (i + j)) + B15 ^ i * (x * val B15 (db.take j)))
    (hold : Z[i + j]? = some old) (hs : s + 32768 * c' = x * db[j] + old + c) (hsb : s < 32768) (hg : w.heap.size ≤ g) (hext : Ext w w2) :
    RMIn w (w2.setCell ⟨g, i + j, none⟩ (.int .i64 (s : Int))) g da db Z x i (j + 1) c' := by
  refine ⟨zs.set (i + j) s, hz.set_ _ _, by simpa using hl, valid_set hv _ _ hsb, ?_, ?_, Below.setCell hext (p := ⟨g, i + j, none⟩) hg _⟩
  · rw [← Nat.add_assoc, List.drop_set_of_lt (by omega)]
    have h1 := congrArg (List.drop 1) hd
    rwa [List.drop_drop, List.drop_drop] at h1
  · rw [← Nat.add_assoc, val_set B15 (by omega), val_take_succ B15 Z (i + j) (by omega), val_take_succ B15 db j hj]
    have ho : Z[i + j]'(by omega) = old := by
      rw [List.getElem?_eq_getElem (by omega)] at hold
      injection hold
    rw [ho, Nat.pow_succ, Nat.pow_add]
    rw [Nat.pow_add] at he
    have := sb_math (B := B15) (s := s) (c' := c') (y := db[j]) (old := old) he hs
    rw [← Nat.mul_assoc (B15 ^ i)] at this
    exact this

theorem RMIn.close {w w2 : World} {g : Nat} {da db Z zs : List Nat} {x i c : Nat} (hi : i < da.length) (hx : da[i] = x) (hZ : Z.length = da.length + db.length)
    (hz : Row w2 g .i64 3 zs) (hl : zs.length = da.length + db.length) (hv : Valid B15 zs) (hd : zs.drop (i + db.length) = Z.drop (i + db.length))
    (he : val B15 (zs.take (i + db.length)) + B15 ^ (i + db.length) * c = val B15 (Z.take (i + db.length)) + B15 ^ i * (x * val B15 (db.take db.length)))
    (hc : c < 32768) (hZv : val B15 Z = val B15 (da.take i) * val B15 db) (hZd : Z.drop (i + db.length) = List.replicate (da.length - i) 0) (hg : w.heap.size ≤ g) (hext : Ext w w2) :
    RMOut w (w2.setCell ⟨g, i + db.length, none⟩ (.int .i64 (c : Int))) g da db (i + 1) := by
  have hk : i + db.length < zs.length := by omega
  have hdz : (zs.set (i + db.length) c).drop (i + 1 + db.length) = List.replicate (da.length - (i + 1)) 0 := by
    rw [show i + 1 + db.length = i + db.length + 1 from by omega, List.drop_set_of_lt (by omega)]
    have h1 := congrArg (List.drop 1) (hd.trans hZd)
    rw [List.drop_drop, List.drop_replicate] at h1
    rw [h1]
    congr 1
  refine ⟨zs.set (i + db.length) c, hz.set_ _ _, by simpa using hl, valid_set hv _ _ hc, ?_, hdz, Below.setCell hext (p := ⟨g, i + db.length, none⟩) hg _⟩
  rw [val_split B15 _ (i + 1 + db.length), hdz, val_replicate, Nat.mul_zero, Nat.add_zero, show i + 1 + db.length = i + db.length + 1 from by omega, val_set B15 hk, he, List.take_length,
    val_take_succ B15 da i hi, hx, Nat.add_mul, ← hZv]
  have h2 : val B15 Z = val B15 (Z.take (i + db.length)) := by
    conv => lhs; rw [val_split B15 Z (i + db.length), hZd, val_replicate, Nat.mul_zero, Nat.add_zero]
  rw [h2, Nat.mul_assoc]


theorem rm_digit {x y old c : Nat} (hx : x < 32768) (hy : y < 32768) (ho : old < 32768) (hc : c < 32768) :
    (x * y + old + c) / 32768 < 32768 ∧ (x * y + old + c) % 32768 < 32768 ∧ (x * y + old + c) % 32768 + 32768 * ((x * y + old + c) / 32768) = x * y + old + c ∧ x * y ≤ 1073676289 := by
  have hb : x * y ≤ 32767 * 32767 := Nat.mul_le_mul (by omega) (by omega)
  generalize x * y = P at *
  omega

theorem Own.far {w w' : World} {B g c : Nat} {k : IntKind} {T : TypeId} {ds : List Nat} (h : Own w B k T (some ⟨g, 0, none⟩) c ds) (hh : w'.heap[g]? = w.heap[g]?) : Own w' B k T (some ⟨g, 0, none⟩) c ds := by
  refine ⟨h.1, ?_⟩
  rcases h.2 with ⟨hv, _⟩ | ⟨g', cap, cur, hv, hg, hr, r⟩
  · injection hv with h1; cases h1
  · have hv' := hv
    injection hv' with h1
    injection h1 with h1
    injection h1 with h1
    subst h1
    exact .inr ⟨g, cap, cur, hv, hg, hh.trans hr, r⟩

section
variable {P : Program} {w : World} {ops : Array Oper} {rest : List Oper} {o : Oper} {a : Act} {Q : Exit → Act → World → Prop}
/-- 'append(s, v)': one element; where the row lies behind it. -/
theorem wpList_app1_at (hgd : o.guard = none) (s x : Operand) (t : TypeId) (ho : o.op = .call { callee := .builtin .append, args := #[s, x], argTypes := #[t, t] })
    (B : Nat) (e : TypeId) (k : IntKind) (by_ : Nat) (ht : P.underlying t = some (.slice e)) (hi : (P.info? e).map (fun i => (i.zero, i.size, i.bytes)) = some (some (.int k 0), 1, by_)) (hb8 : by_ ≤ 8)
    (g0 c n : Nat) (ds : List Nat) (hn : ds.length = n) (hs : a.eval s = .slice (some ⟨g0, 0, none⟩) n c) (hown : Own w B k e (some ⟨g0, 0, none⟩) c ds)
    (g : Nat) (v : Nat) (hx : a.eval x = .slice (some ⟨g, 0, none⟩) 1 1) (hc : w.cell? ⟨g, 0, none⟩ = some (.int k (v : Int)))
    (hlen : n ≤ 17592186044000) (hB : B ≤ w.heap.size)
    (h : ∀ g' c' w', Own w' B k e (some ⟨g', 0, none⟩) c' (ds ++ [v]) → (g' = g0 ∨ g' = w.heap.size) → (∀ j, j < w.heap.size → j ≠ g0 → w'.heap[j]? = w.heap[j]?) → Below B w w' →
      wpList P ops Q rest (a.put o.dst (.slice (some ⟨g', 0, none⟩) (n + 1) c')) w') : wpList P ops Q (o :: rest) a w := by
  subst hn
  obtain ⟨i, hi1, hz, hsz, hby⟩ := info_parts hi
  refine wpList_append_own_at (w := w) hgd s x t ho B e i (.int k 0) 1 by_ ht hi1 hz hsz hby rfl (by omega) _ ds.length (nums k ds) hs hown ⟨g, 0, none⟩ 1 1 (nums k [v]) hx (by simp [nums]) ?_ (nums_one k _) (by unfold maxLen; omega) ?_ hB ?_
  · intro j u hj
    match j, hj with
    | 0, hj => simp [nums] at hj; subst hj; simpa [Addr.add] using hc
    | j + 1, hj => simp [nums] at hj
  · have : (ds.length + 1) * by_ ≤ (ds.length + 1) * 8 := Nat.mul_le_mul_left _ hb8
    omega
  · intro v' w' how hgr hnil hat
    rw [← nums_append] at how
    have hl : ds.length + 1 = (ds ++ [v]).length := by simp
    rcases how.2 with ⟨hv, hn⟩ | ⟨g', cap, cur, hv, hg', hh, r⟩
    · omega
    · subst hv
      have hb : Below B w w' := (Below.refl B w).grown hgr hB (fun k hk => hown.block_ge k hk)
      have ho : Own w' B k e (some ⟨g', 0, none⟩) cap (ds ++ [v]) := by
        unfold Own
        rw [← hl]
        exact how
      refine h _ _ w' ho ?_ ?_ hb
      · rcases hat with h1 | h1
        · left; injection h1
        · right; injection h1
      · intro j hj hne
        refine hgr.block j hj (fun e => hne ?_)
        injection e
end

/-- The memory of 'DivMod': quotient bits, remainder, divisor. -/
structure DS (w wr : World) (gq gr gd cd : Nat) (qs rs ds : List Nat) : Prop where
  q : Row wr gq .i64 3 qs
  r : Row wr gr .i64 3 rs
  d : Own wr 0 .i64 3 (some ⟨gd, 0, none⟩) cd ds
  ext : Ext w wr
  qr : gq ≠ gr
  qd : gq ≠ gd
  rd : gr ≠ gd
  bq : w.heap.size ≤ gq
  br : w.heap.size ≤ gr
theorem DS.setQ {w wr : World} {gq gr gd cd : Nat} {qs rs ds : List Nat} (h : DS w wr gq gr gd cd qs rs ds) (i v : Nat) :
    DS w (wr.setCell ⟨gq, i, none⟩ (.int .i64 (v : Int))) gq gr gd cd (qs.set i v) rs ds :=
  ⟨h.q.set_ _ _, h.r.far (p := ⟨gq, i, none⟩) (Ne.symm h.qr) _, h.d.far (Below.heap_setCell wr ⟨gq, i, none⟩ _ gd (Ne.symm h.qd)), Below.setCell h.ext (p := ⟨gq, i, none⟩) h.bq _, h.qr, h.qd, h.rd, h.bq, h.br⟩
theorem DS.setR {w wr : World} {gq gr gd cd : Nat} {qs rs ds : List Nat} (h : DS w wr gq gr gd cd qs rs ds) (i v : Nat) :
    DS w (wr.setCell ⟨gr, i, none⟩ (.int .i64 (v : Int))) gq gr gd cd qs (rs.set i v) ds :=
  ⟨h.q.far (p := ⟨gr, i, none⟩) h.qr _, h.r.set_ _ _, h.d.far (Below.heap_setCell wr ⟨gr, i, none⟩ _ gd (Ne.symm h.rd)), Below.setCell h.ext (p := ⟨gr, i, none⟩) h.br _, h.qr, h.qd, h.rd, h.bq, h.br⟩
theorem DS.drewN {w wr : World} {gq gr gd cd : Nat} {qs rs ds : List Nat} (h : DS w wr gq gr gd cd qs rs ds) (n : Nat) : DS w (wr.drewN n) gq gr gd cd qs rs ds :=
  ⟨h.q, h.r, h.d, h.ext.trans (Qt.ext ⟨n, rfl⟩), h.qr, h.qd, h.rd, h.bq, h.br⟩
theorem DS.dcell {w wr : World} {gq gr gd cd : Nat} {qs rs ds : List Nat} (h : DS w wr gq gr gd cd qs rs ds) {i : Nat} (hi : i < ds.length) : wr.cell? ⟨gd, i, none⟩ = some (.int .i64 (ds[i] : Nat)) := by
  obtain ⟨g, hA, _, _, hc, _⟩ := h.d.at_ hi
  injection hA with hA
  injection hA with e
  subst e
  exact hc

theorem Row.cell' {w : World} {g : Nat} {k : IntKind} {T : TypeId} {ds : List Nat} (h : Row w g k T ds) {i x : Nat} (hi : ds[i]? = some x) : w.cell? ⟨g, i, none⟩ = some (.int k (x : Int)) := by
  obtain ⟨hlt, hx⟩ := List.getElem?_eq_some_iff.1 hi
  rw [h.cell hlt, hx]
theorem DS.dcell' {w wr : World} {gq gr gd cd : Nat} {qs rs ds : List Nat} (h : DS w wr gq gr gd cd qs rs ds) {i x : Nat} (hi : ds[i]? = some x) : wr.cell? ⟨gd, i, none⟩ = some (.int .i64 (x : Int)) := by
  obtain ⟨hlt, hx⟩ := List.getElem?_eq_some_iff.1 hi
  rw [h.dcell hlt, hx]

/-- The heads of the rounds of 'DivMod', as numbers. -/
def DOut (a b n k : Nat) (qs rs : List Nat) : Prop :=
  rs.length = n ∧ Valid 2 qs ∧ Valid B15 rs ∧ val B15 rs < b ∧ a / 2 ^ k = val 2 (qs.drop k) * b + val B15 rs ∧ k ≤ qs.length ∧ qs.take k = List.replicate k 0
def DDbl (rs : List Nat) (n bit j c : Nat) (zs : List Nat) : Prop :=
  zs.length = n ∧ Valid B15 zs ∧ c ≤ 1 ∧ zs.drop j = rs.drop j ∧ val B15 (zs.take j) + B15 ^ j * c = 2 * val B15 (rs.take j) + bit
def DSub (zs ds : List Nat) (n j c : Nat) (ys : List Nat) : Prop :=
  ys.length = n ∧ Valid B15 ys ∧ c ≤ 1 ∧ ys.drop j = zs.drop j ∧ val B15 (ys.take j) + val B15 (ds.take j) = val B15 (zs.take j) + B15 ^ j * c

theorem drop_get {xs ys : List Nat} {j : Nat} (h : xs.drop j = ys.drop j) (h1 : j < xs.length) (h2 : j < ys.length) : xs[j] = ys[j] := by
  have h3 := congrArg (fun l => l[0]?) h
  simp only [List.getElem?_drop, Nat.add_zero] at h3
  rw [List.getElem?_eq_getElem h1, List.getElem?_eq_getElem h2] at h3
  injection h3
theorem drop_set_succ {xs ys : List Nat} {j v : Nat} (h : xs.drop j = ys.drop j) : (xs.set j v).drop (j + 1) = ys.drop (j + 1) := by
  rw [List.drop_set_of_lt (by omega)]
  have h1 := congrArg (List.drop 1) h
  rwa [List.drop_drop, List.drop_drop] at h1

theorem dbl_step {P X Z x c bit : Nat} (h : Z + P * c = 2 * X + bit) : Z + P * ((2 * x + c) % 32768) + P * 32768 * ((2 * x + c) / 32768) = 2 * (X + P * x) + bit := by
  have h1 : P * ((2 * x + c) % 32768) + P * 32768 * ((2 * x + c) / 32768) = P * (2 * x + c) := by
    rw [Nat.mul_assoc, ← Nat.mul_add, Nat.mod_add_div]
  rw [Nat.add_assoc, h1, Nat.mul_add, Nat.mul_left_comm P 2 x]
  omega
theorem DDbl.step {rs zs : List Nat} {n bit j c : Nat} (h : DDbl rs n bit j c zs) (hj : j < n) (hr : rs.length = n) :
    ∃ x, zs[j]? = some x ∧ x < 32768 ∧ c ≤ 1 ∧ DDbl rs n bit (j + 1) ((2 * x + c) / 32768) (zs.set j ((2 * x + c) % 32768)) := by
  obtain ⟨hl, hv, hc, hd, he⟩ := h
  have hx := valid_get hv j (by omega)
  have hg := drop_get hd (by omega) (by omega)
  refine ⟨zs[j], by rw [List.getElem?_eq_getElem (by omega)], hx, hc, by simpa using hl, valid_set hv _ _ (by unfold B15; omega), ?_, drop_set_succ hd, ?_⟩
  · have : zs[j] < 32768 := hx
    omega
  · rw [val_set B15 (by omega), val_take_succ B15 rs j (by omega), ← hg, Nat.pow_succ]
    exact dbl_step he
theorem DDbl.close {rs zs : List Nat} {n bit c : Nat} (h : DDbl rs n bit n c zs) (hr : rs.length = n) (hlt : 2 * val B15 rs + bit < B15 ^ n) :
    zs.length = n ∧ Valid B15 zs ∧ val B15 zs = 2 * val B15 rs + bit := by
  obtain ⟨hl, hv, _, _, he⟩ := h
  rw [List.take_of_length_le (by omega), List.take_of_length_le (by omega)] at he
  refine ⟨hl, hv, ?_⟩
  have : c = 0 := by
    rcases Nat.eq_zero_or_pos c with h0 | h0
    · exact h0
    · have : B15 ^ n * 1 ≤ B15 ^ n * c := Nat.mul_le_mul_left _ h0
      omega
  subst this
  omega
theorem sub_step {P X Y Z x y c d b : Nat} (h : Z + Y = X + P * c) (hd : d + y + c = x + 32768 * b) : Z + P * d + (Y + P * y) = X + P * x + P * 32768 * b := borrow_step h hd
theorem DSub.step {zs ds ys : List Nat} {n j c : Nat} (h : DSub zs ds n j c ys) (hj : j < n) (hz : zs.length = n) (hd0 : ds.length = n) (hv0 : Valid B15 ds) :
    ∃ x y, ys[j]? = some x ∧ ds[j]? = some y ∧ x < 32768 ∧ y < 32768 ∧ c ≤ 1 ∧
      (y + c ≤ x → DSub zs ds n (j + 1) 0 (ys.set j (x - y - c))) ∧ (x < y + c → DSub zs ds n (j + 1) 1 (ys.set j (x + 32768 - y - c))) := by
  obtain ⟨hl, hv, hc, hd, he⟩ := h
  have hx : ys[j] < 32768 := valid_get hv j (by omega)
  have hy : ds[j] < 32768 := valid_get hv0 j (by omega)
  have hg := drop_get hd (by omega) (by omega)
  refine ⟨ys[j], ds[j], by rw [List.getElem?_eq_getElem (by omega)], by rw [List.getElem?_eq_getElem (by omega)], hx, hy, hc, ?_, ?_⟩
  · intro hle
    refine ⟨by simpa using hl, valid_set hv _ _ (by unfold B15; omega), by omega, drop_set_succ hd, ?_⟩
    rw [val_set B15 (by omega), val_take_succ B15 zs j (by omega), val_take_succ B15 ds j (by omega), ← hg, Nat.pow_succ]
    exact sub_step he (by omega)
  · intro hlt
    refine ⟨by simpa using hl, valid_set hv _ _ (by unfold B15; omega), by omega, drop_set_succ hd, ?_⟩
    rw [val_set B15 (by omega), val_take_succ B15 zs j (by omega), val_take_succ B15 ds j (by omega), ← hg, Nat.pow_succ]
    exact sub_step he (by omega)
theorem DSub.close {zs ds ys : List Nat} {n c : Nat} (h : DSub zs ds n n c ys) (hz : zs.length = n) (hd0 : ds.length = n) (hge : val B15 ds ≤ val B15 zs) :
    ys.length = n ∧ Valid B15 ys ∧ val B15 ys + val B15 ds = val B15 zs := by
  obtain ⟨hl, hv, _, _, he⟩ := h
  rw [List.take_of_length_le (by omega), List.take_of_length_le (by omega), List.take_of_length_le (by omega)] at he
  refine ⟨hl, hv, ?_⟩
  have h1 := val_lt hv
  rw [hl] at h1
  have : c = 0 := by
    rcases Nat.eq_zero_or_pos c with h0 | h0
    · exact h0
    · have : B15 ^ n * 1 ≤ B15 ^ n * c := Nat.mul_le_mul_left _ h0
      omega
  subst this
  omega

theorem DOut.skip {a b n k : Nat} {qs rs zs : List Nat} (h : DOut a b n (k + 1) qs rs) (hl : zs.length = n) (hv : Valid B15 zs) (he : val B15 zs = 2 * val B15 rs + bitN a k) (hlt : val B15 zs < b) :
    DOut a b n k qs zs := by
  obtain ⟨h1, h2, h3, h4, h5, h6, h7⟩ := h
  have hz : qs[k]'(by omega) = 0 := by
    have := congrArg (fun l => l[k]?) h7
    simp only [List.getElem?_take, if_pos (Nat.lt_succ_self k), List.getElem?_replicate] at this
    rw [List.getElem?_eq_getElem (by omega)] at this
    simpa using this
  refine ⟨hl, h2, hv, hlt, ?_, by omega, ?_⟩
  · rw [div_pow_succ, h5, val_drop 2 qs k (by omega), hz, he, Nat.zero_add, Nat.mul_add, Nat.mul_assoc]
    omega
  · have := congrArg (List.take k) h7
    rw [List.take_take, List.take_replicate, Nat.min_eq_left (by omega)] at this
    exact this
theorem DOut.hit {a b n k : Nat} {qs rs zs ys : List Nat} (h : DOut a b n (k + 1) qs rs) (hl : ys.length = n) (hv : Valid B15 ys) (he : val B15 zs = 2 * val B15 rs + bitN a k) (hs : val B15 ys + b = val B15 zs) :
    DOut a b n k (qs.set k 1) ys := by
  obtain ⟨h1, h2, h3, h4, h5, h6, h7⟩ := h
  have hb := bitN_lt a k
  refine ⟨hl, valid_set h2 _ _ (by omega), hv, by omega, ?_, by simp; omega, ?_⟩
  · rw [div_pow_succ, h5, val_drop 2 (qs.set k 1) k (by simp; omega), List.drop_set_of_lt (by omega)]
    simp only [List.getElem_set_self]
    rw [Nat.mul_add, Nat.add_mul, Nat.mul_assoc]
    omega
  · rw [List.take_set_of_le (Nat.le_refl _)]
    have := congrArg (List.take k) h7
    rw [List.take_take, List.take_replicate, Nat.min_eq_left (by omega)] at this
    exact this

/-- The call returns two numbers as bits, and changes nothing. -/
def RetBB (w : World) (x y : Nat) (e : Ending) (w' : World) : Prop :=
  ∃ A c A' c', e = .returned (.tuple #[.slice A (digs 2 x).length c, .slice A' (digs 2 y).length c']) ∧ BN w' A c x ∧ BN w' A' c' y ∧ Ext w w'

theorem dm_end {a b n : Nat} {qs rs : List Nat} (h : DOut a b n 0 qs rs) : val 2 qs = a / b ∧ val B15 rs = a % b := by
  obtain ⟨_, _, _, h4, h5, _, _⟩ := h
  rw [Nat.pow_zero, Nat.div_one, List.drop_zero, Nat.mul_comm] at h5
  constructor
  · rw [h5, Nat.mul_add_div (by omega), Nat.div_eq_of_lt h4, Nat.add_zero]
  · rw [h5, Nat.mul_add_mod, Nat.mod_eq_of_lt h4]

section
variable {P : Program} {w : World} {ops : Array Oper} {rest : List Oper} {o : Oper} {a : Act} {Q : Exit → Act → World → Prop}
/-- 'append(s, x...)': the elements of another slice. -/
theorem wpList_appN (hgd : o.guard = none) (s x : Operand) (t : TypeId) (ho : o.op = .call { callee := .builtin .append, args := #[s, x], argTypes := #[t, t] })
    (B : Nat) (e : TypeId) (k : IntKind) (by_ : Nat) (ht : P.underlying t = some (.slice e)) (hi : (P.info? e).map (fun i => (i.zero, i.size, i.bytes)) = some (some (.int k 0), 1, by_)) (hb8 : by_ ≤ 8)
    (A : Option Addr) (c n : Nat) (ds : List Nat) (hn : ds.length = n) (hs : a.eval s = .slice A n c) (hown : Own w B k e A c ds)
    (X : Option Addr) (m c2 : Nat) (es : List Nat) (hm : es.length = m) (hx : a.eval x = .slice X m c2) (hrd : Rd w k X es) (hnz : X = none → c2 = 0)
    (hlen : n + m ≤ 17592186044000) (hB : B ≤ w.heap.size)
    (h : ∀ A' c' w', Own w' B k e A' c' (ds ++ es) → Below B w w' → wpList P ops Q rest (a.put o.dst (.slice A' (n + m) c')) w') : wpList P ops Q (o :: rest) a w := by
  subst hn
  subst hm
  obtain ⟨i, hi1, hz, hsz, hby⟩ := info_parts hi
  cases X with
  | none =>
    have hes : es = [] := by
      cases es with
      | nil => rfl
      | cons y ys => obtain ⟨_, _, h1, _⟩ := hrd 0 (by simp); cases h1
    subst hes
    rw [hnz rfl] at hx
    refine wpList_append_own_none (w := w) hgd s x t ho B e i 1 ht hi1 _ ds.length (nums k ds) hs hown hx ?_
    have := h A c w (by rw [List.append_nil]; exact hown) (Below.refl _ _)
    exact this
  | some ad =>
    refine wpList_append_own w hgd s x t ho B e i (.int k 0) 1 by_ ht hi1 hz hsz hby rfl (by omega) _ ds.length (nums k ds) hs hown ad es.length c2 (nums k es) hx (by simp [nums]) ?_ (nums_one k _) (by unfold maxLen; omega) ?_ hB ?_
    · intro j u hj
      rw [nums_get] at hj
      obtain ⟨dj, hdj, rfl⟩ := Option.map_eq_some_iff.1 hj
      obtain ⟨hlt, hget⟩ := List.getElem?_eq_some_iff.1 hdj
      obtain ⟨b, off, hA, _, hc⟩ := hrd j hlt
      injection hA with hA
      subst hA
      have : (⟨b, off, none⟩ : Addr).add j = ⟨b, off + j, none⟩ := by unfold Addr.add; split <;> simp_all
      rw [this, hc, hget]
    · have : (ds.length + es.length) * by_ ≤ (ds.length + es.length) * 8 := Nat.mul_le_mul_left _ hb8
      omega
    · intro v' w' how hgr hnil
      rw [← nums_append] at how
      have hb : Below B w w' := (Below.refl B w).grown hgr hB (fun k hk => hown.block_ge k hk)
      have hl : ds.length + es.length = (ds ++ es).length := by simp
      rcases how.2 with ⟨hv, hn⟩ | ⟨g', cap, cur, hv, hg', hh, r⟩
      · subst hv
        have e0 : ds ++ es = [] := List.eq_nil_of_length_eq_zero (by rw [← hl]; exact hn)
        have := h none 0 w' (by rw [e0]; exact Own.none_ _ _ _ _) hb
        rw [hn] at this
        exact this
      · subst hv
        have ho : Own w' B k e (some ⟨g', 0, none⟩) cap (ds ++ es) := by
          unfold Own
          rw [← hl]
          exact how
        exact h _ _ w' ho hb
end

theorem zeros_digs {a : Nat} (m : Nat) (ha : a ≠ 0) : List.replicate m 0 ++ digs 2 a = digs 2 (a * 2 ^ m) := by
  have hv : Valid 2 (List.replicate m 0 ++ digs 2 a) := valid_append.2 ⟨valid_replicate (by omega) _, valid_digs (by omega) a⟩
  have he : val 2 (List.replicate m 0 ++ digs 2 a) = a * 2 ^ m := by
    rw [val_append, val_replicate, val_digs (by omega), List.length_replicate, Nat.zero_add, Nat.mul_comm]
  rw [← he, digs_of_val (by omega) hv]
  have h1 := getLast_digs (B := 2) (by omega) a
  intro h2
  have h3 : digs 2 a ≠ [] := fun h => ha (by have := val_digs (B := 2) (by omega) a; rw [h] at this; exact this.symm)
  obtain ⟨es, e, h4⟩ : ∃ es e, digs 2 a = es ++ [e] := ⟨_, _, (List.dropLast_concat_getLast h3).symm⟩
  rw [h4] at h1 h2
  simp at h1 h2
  exact h1 h2
theorem Own.bn {w : World} {B : Nat} {A : Option Addr} {c n : Nat} (h : Own w B .i64 3 A c (digs 2 n)) : BN w A c n := by
  have hle := Own.le h
  unfold maxLen at hle
  refine ⟨Own.rd h, hle.1, by omega, ?_, Own.ty h⟩
  rintro rfl
  rcases Own.form h with ⟨_, h1, _⟩ | ⟨_, _, h1, _⟩
  · exact h1
  · cases h1

theorem down_digs (a k : Nat) : (digs 2 a).drop k = digs 2 (a / 2 ^ k) := by
  have hv := valid_drop (valid_digs (B := 2) (by omega) a) k
  have h1 := val_drop_div (B := 2) (by omega) (valid_digs (B := 2) (by omega) a) k
  rw [val_digs (by omega)] at h1
  rw [← h1, digs_of_val (by omega) hv]
  intro h2
  have h3 := getLast_digs (B := 2) (by omega) a
  rw [List.getLast?_drop] at h2
  split at h2
  · cases h2
  · exact h3 h2

end Go.Proofs.YtjefndkhonpalaaDoor
