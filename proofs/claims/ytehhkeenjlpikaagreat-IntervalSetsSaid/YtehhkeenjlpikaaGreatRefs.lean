/- Contracts of the reference for natural numbers. -/
import Derived.Test.YtehhkeenjlpikaaGreatBase
import Derived.Maps.AppendAt
import Derived.Laws.AppendOwnNone
namespace Go.Proofs.YtehhkeenjlpikaaGreat
open Go.RowKit
theorem info_int : (Tryz.prog.info? 3).map (fun i => (i.zero, i.size, i.bytes)) = some (some (.int .i64 0), 1, 8) := by kernel_rfl

/-- Trim of the reference: as natural's. -/
theorem rtrim_any (A : Option Addr) (c : Nat) (ds : List Nat) (w : World) (hc : ds.length ≤ c) (hn : c ≤ 9223372036854775807) (hr : Rd w .i64 A ds) :
    Calls Tryz.prog 113 #[.slice A ds.length c] w fun e w' => e = .returned (.slice A (trimL ds).length c) ∧ w = w' := by
  have H := Lib.hid hr
  clear hr
  go_enter Tryz.func113, Tryz.ntmps113
  go_wp2
  go_loop [3] (fun i => ∃ k : Nat, k ≤ ds.length ∧ i = .int .i64 k ∧ trimL ds = trimL (ds.take k)) (fun i => (intOf i).toNat)
  case atStart => exact ⟨_, Nat.le_refl _, rfl, by rw [List.take_length]⟩
  case round =>
    obtain ⟨k, hk, rfl, ht⟩ := hrel
    have HT := Lib.hid ht
    clear ht
    by_cases h0 : k = 0
    · subst h0
      go_wp2
      go_ret
      exact ⟨ret_slice (by rw [HT.out]; rfl), rfl⟩
    · have hk1 : k - 1 < ds.length := by omega
      obtain ⟨b, off, rfl, hb, hcell⟩ := H.out (k - 1) hk1
      have hp : 0 < k := by omega
      have HS := Lib.hid (take_snoc' ds (k - 1) hk1)
      go_wp2
      · have hz : (↑ds[k - 1] == (0 : Int)) = true := by assumption
        have hz' : ds[k - 1] = 0 := by simpa using hz
        go_round
        case rel =>
          refine ⟨k - 1, by omega, by go_num, ?_⟩
          have e : k = k - 1 + 1 := by omega
          rw [HT.out]
          conv => lhs; rw [e, HS.out, hz', trimL_snoc_zero]
        case measure => simp [intOf]; omega
      · have hz : (↑ds[k - 1] == (0 : Int)) = false := by assumption
        have hz' : ds[k - 1] ≠ 0 := by simpa using hz
        go_ret
        refine ⟨ret_slice ?_, rfl⟩
        have e : k = k - 1 + 1 := by omega
        rw [HT.out]
        conv => rhs; rw [e, HS.out, trimL_snoc hz', ← HS.out, ← e]
        rw [List.length_take]; omega


/-- A number as its canonical bits in memory. -/
structure BN (w : World) (A : Option Addr) (c n : Nat) : Prop where
  rd : Rd w .i64 A (digs 2 n)
  le : (digs 2 n).length ≤ c
  cap : c ≤ 9223372036854775807
  nz : A = none → c = 0
  ty : ∀ g o s, A = some ⟨g, o, s⟩ → ∃ cur fr, w.heap[g]? = some (.cells cur 3 fr)
/-- The number of bits. -/
def bl (n : Nat) : Nat := (digs 2 n).length
theorem BN.ext {w w' : World} {A : Option Addr} {c n : Nat} (h : BN w A c n) (hx : Ext w w') : BN w' A c n :=
  ⟨h.rd.below hx, h.le, h.cap, h.nz, fun g o s e => by
    obtain ⟨cur, fr, hh⟩ := h.ty g o s e
    exact ⟨cur, fr, (hx.block g (Array.getElem?_eq_some_iff.1 hh).1).trans hh⟩⟩
theorem Own.ty {w : World} {B c : Nat} {k : IntKind} {T : TypeId} {A : Option Addr} {ds : List Nat} (h : Own w B k T A c ds) (g o : Nat) (s : Option Nat) (e : A = some ⟨g, o, s⟩) : ∃ cur fr, w.heap[g]? = some (.cells cur T fr) := by
  rcases Own.form h with ⟨h1, _⟩ | ⟨g', cur, h1, _, hh, _⟩
  · rw [h1] at e; cases e
  · rw [h1] at e
    injection e with e
    injection e with e1
    subst e1
    exact ⟨cur, _, hh⟩
/-- The call returns the number n as bits, and changes nothing. -/
def RetB (w : World) (n : Nat) (e : Ending) (w' : World) : Prop := ∃ A c, e = .returned (.slice A (digs 2 n).length c) ∧ BN w' A c n ∧ Ext w w'

theorem trim_own {w : World} {B c : Nat} {A : Option Addr} {ds : List Nat} {n : Nat} (h : Own w B .i64 3 A c ds) (hv : Valid 2 ds) (hn : val 2 ds = n) :
    Calls Tryz.prog 113 #[.slice A ds.length c] w (fun e w' => e = .returned (.slice A (digs 2 n).length c) ∧ w = w') ∧ BN w A c n := by
  have ht : trimL ds = digs 2 n := by rw [trimL_digs (by omega) hv, hn]
  have hle := Own.le h
  unfold maxLen at hle
  have hr := Own.rd h
  have hnz : A = none → c = 0 := by
    rintro rfl
    rcases Own.form h with ⟨_, h1, _⟩ | ⟨_, _, h1, _⟩
    · exact h1
    · cases h1
  refine ⟨by rw [← ht]; exact rtrim_any A c ds w hle.1 (by omega) hr, ?_, ?_, by omega, hnz, Own.ty h⟩
  · rw [← ht, ← trimL_take]; exact hr.take _
  · rw [← ht]; have := trimL_le ds; omega

theorem rof_any {w : World} {A : Option Addr} {c : Nat} {ds : List Nat} (h : NR w A c ds) (hs : ds.length ≤ 274877906944) :
    Calls Tryz.prog 107 #[.slice A ds.length c] w (RetB w (V ds)) := by
  have HV := Lib.hid h.valid
  have HR := Lib.hid h.rd
  clear h
  have hB : w.heap.size ≤ w.heap.size := Nat.le_refl _
  go_enter Tryz.func107, Tryz.ntmps107
  go_wp2_with fail
  go_loopw [3, 4] (fun v i wr => ∃ (k : Nat) (A' : Option Addr) (c' : Nat), k ≤ 32 * ds.length ∧ i = .int .i64 k ∧ v = .slice A' k c' ∧ Own wr w.heap.size .i64 3 A' c' (bitsUpto (V ds) k) ∧ Ext w wr) (fun _ i _ => 32 * ds.length - (intOf i).toNat)
  case atStart => exact ⟨0, none, 0, Nat.zero_le _, rfl, rfl, Own.none_ _ _ _ _, Ext.refl _⟩
  case round =>
    obtain ⟨k, A', c', hk, rfl, rfl, hown, hext⟩ := hrel
    by_cases hlt : k < 32 * ds.length
    · have hq : k / 32 < ds.length := by omega
      obtain ⟨b1, o1, rfl, hb1, hc1⟩ := (HR.out.below hext).at_ (j := k / 32) hq
      have hx : ds[k / 32] < 4294967296 := valid_get HV.out _ hq
      have HB := Lib.hid (bitN_digit HV.out k hq)
      have hbw := hext.size
      have hd0 : (0 : Int) ≤ ((ds[k / 32] : Nat) : Int) / 2 ^ (k % 32) := by
        have e : ((ds[k / 32] / 2 ^ (k % 32) : Nat) : Int) = ((ds[k / 32] : Nat) : Int) / 2 ^ (k % 32) := by simp
        rw [← e]; exact Int.natCast_nonneg _
      have he : ((ds[k / 32] : Nat) : Int) / 2 ^ (k % 32) % 2 = (bitN (V ds) k : Int) := by
        rw [show V ds = val 4294967296 ds from rfl, HB.out]; simp
      have HE := Lib.hid he
      clear he
      go_wp2_with (at_builtin; refine wpList_app1 rfl _ _ _ rfl w.heap.size 3 .i64 8 Tryz.underlying32 info_int (by omega) A' c' k (bitsUpto (V ds) k) (bitsUpto_length _ _) rfl (hown.below (Ext.alloc _ _)) wr.heap.size (bitN (V ds) k) rfl ?h2 ?h3 ?h4 ?h5)
      case h2 => simp [HE.out]
      case h3 => omega
      case h4 => simp; omega
      case h5 =>
        intro A2 c2 w2 hown2 hb2
        have hx2 : Ext w w2 := Below.trans hext (Below.trans (Below.mono (Ext.alloc wr _) hbw) hb2)
        rw [← bitsUpto_succ] at hown2
        go_wp2_with fail
        go_roundw
        case rel => exact ⟨k + 1, A2, c2, by omega, by go_num, rfl, hown2, hx2⟩
        case measure => simp [intOf]; omega
    · obtain rfl : k = 32 * ds.length := by omega
      have hv : val 2 (bitsUpto (V ds) (32 * ds.length)) = V ds := by
        rw [bitsUpto_val, Nat.pow_mul]
        exact Nat.mod_eq_of_lt (val_lt HV.out)
      obtain ⟨ht, hbn⟩ := trim_own hown (bitsUpto_valid _ _) hv
      rw [bitsUpto_length] at ht
      have HT := Lib.hid ht
      have HN := Lib.hid hbn
      clear hown ht hbn hv
      go_wp2_with fail
      refine HT.out.mono ?_
      rintro e w' ⟨rfl, rfl⟩
      go_wp2_with fail
      go_ret
      exact ⟨_, _, rfl, HN.out, hext⟩

theorem bit_any {w : World} {A : Option Addr} {c n i : Nat} (h : BN w A c n) (_hi : i ≤ 4611686018427387904) :
    Calls Tryz.prog 114 #[.slice A (digs 2 n).length c, .int .i64 i] w fun e w' => e = .returned (.int .i64 (bitN n i)) ∧ w = w' := by
  have hle := h.le
  have hcap := h.cap
  by_cases hlt : i < (digs 2 n).length
  · obtain ⟨b, o, rfl, hb, hc⟩ := h.rd.at_ hlt
    rw [digs_get hlt] at hc
    clear h
    generalize (digs 2 n).length = L at *
    go_enter Tryz.func114, Tryz.ntmps114
    go_wp2_with fail
    go_ret
    exact ⟨rfl, rfl⟩
  · have hz := bitN_zero_of_len (n := n) (i := i) (by omega)
    rw [hz]
    clear h
    generalize (digs 2 n).length = L at *
    go_enter Tryz.func114, Tryz.ntmps114
    go_wp2_with fail
    go_ret
    exact ⟨rfl, rfl⟩

theorem few_any {w : World} {g n c : Nat} (lens : List Nat) (hc : ∀ j (h : j < lens.length), ∃ A c, w.cell? ⟨g, j, none⟩ = some (.slice A lens[j] c)) (hl : lens.length ≤ 1000) (hm : ∀ l ∈ lens, l ≤ 9223372036854775807) :
    Calls Tryz.prog 53 #[.int .i64 n, .slice (some ⟨g, 0, none⟩) lens.length c] w fun e w' => e = .returned (.bool (lens.all fun l => decide (l ≤ n))) ∧ w = w' := by
  have HC := Lib.hid hc
  have HM := Lib.hid hm
  clear hc hm
  have HR : Hid ((∀ l ∈ lens, l ≤ n) → (lens.all fun l => decide (l ≤ n)) = true) := by
    intro h; simpa using h
  have HR2 : Hid (∀ j (h : j < lens.length), n < lens[j] → (lens.all fun l => decide (l ≤ n)) = false) := by
    intro j h hj
    rw [List.all_eq_false]
    exact ⟨_, List.getElem_mem h, by simpa using hj⟩
  generalize (lens.all fun l => decide (l ≤ n)) = R at *
  go_enter Tryz.func53, Tryz.ntmps53
  go_wp2_with fail
  go_loop [5] (fun i => ∃ k : Nat, k ≤ lens.length ∧ i = .int .i64 k ∧ ∀ j (h : j < lens.length), j < k → lens[j] ≤ n) (fun i => lens.length - (intOf i).toNat)
  case atStart => exact ⟨0, Nat.zero_le _, rfl, fun j _ h => absurd h (by omega)⟩
  case round =>
    obtain ⟨k, hk, rfl, hd⟩ := hrel
    have HD := Lib.hid hd
    clear hd
    by_cases hlt : k < lens.length
    · obtain ⟨A, c', hcell⟩ := HC.out k hlt
      have hlm := HM.out _ (List.getElem_mem hlt)
      by_cases hx : lens[k] ≤ n
      · have HD2 : Hid (∀ j (h : j < lens.length), j < k + 1 → lens[j] ≤ n) := by
          intro j h hj
          by_cases e : j = k
          · subst e; exact hx
          · exact HD.out j h (by omega)
        generalize lens[k] = l at *
        go_wp2_with fail
        go_round
        case rel => exact ⟨k + 1, by omega, by go_num, HD2.out⟩
        case measure => simp [intOf]; omega
      · have HF := Lib.hid (HR2.out k hlt (by omega))
        have hx' : n < lens[k] := by omega
        clear hx
        generalize lens[k] = l at *
        go_wp2_with fail
        go_ret
        exact ⟨by rw [HF.out]; rfl, rfl⟩
    · have HF : Hid (R = true) := HR.out (by
        intro l hl
        obtain ⟨j, h, rfl⟩ := List.getElem_of_mem hl
        exact HD.out j h (by omega))
      go_wp2_with fail
      go_ret
      exact ⟨by rw [HF.out]; rfl, rfl⟩

theorem Own.set_ {w : World} {B g c : Nat} {k : IntKind} {T : TypeId} {ds : List Nat} (h : Own w B k T (some ⟨g, 0, none⟩) c ds) (i v : Nat) :
    Own (w.setCell ⟨g, i, none⟩ (.int k (v : Int))) B k T (some ⟨g, 0, none⟩) c (ds.set i v) := by
  have h1 := (World.ownsRow.stored h i (.int k (v : Int))).1
  unfold Own
  rw [List.length_set]
  have e : nums k (ds.set i v) = (nums k ds).set i (.int k (v : Int)) := by simp [nums, List.map_set]
  rw [e]
  exact h1
theorem Own.frozen {w : World} {B g c : Nat} {k : IntKind} {T : TypeId} {ds : List Nat} (h : Own w B k T (some ⟨g, 0, none⟩) c ds) (i : Nat) : w.frozen? ⟨g, i, none⟩ = false := by
  rcases h.form with ⟨h0, _⟩ | ⟨g', cur, hA, _, hh, _⟩
  · cases h0
  · injection hA with hA
    injection hA with e
    subst e
    simp [World.frozen?, hh]
theorem Own.at_ {w : World} {B c : Nat} {k : IntKind} {T : TypeId} {A : Option Addr} {ds : List Nat} (h : Own w B k T A c ds) {i : Nat} (hi : i < ds.length) :
    ∃ g, A = some ⟨g, 0, none⟩ ∧ B ≤ g ∧ g < w.heap.size ∧ w.cell? ⟨g, i, none⟩ = some (.int k (ds[i] : Nat)) ∧ w.frozen? ⟨g, i, none⟩ = false := by
  rcases h.form with ⟨_, _, rfl⟩ | ⟨g, cur, rfl, hB, hh, _⟩
  · simp at hi
  · obtain ⟨b, o, hA, hlt, hc⟩ := h.rd i hi
    injection hA with hA
    injection hA with e1 e2
    subst e1 e2
    exact ⟨g, rfl, hB, hlt, by simpa using hc, h.frozen i⟩

/-- What 'To' holds after i bits. -/
def ToInv (w wr : World) (n i : Nat) (A : Option Addr) (c : Nat) (zs : List Nat) : Prop :=
  Own wr w.heap.size .u32 141 A c zs ∧ zs.length = (i + 31) / 32 ∧ Valid B32 zs ∧ val B32 zs = n % 2 ^ i ∧ Ext w wr

theorem to_digit {n i : Nat} {zs : List Nat} (hl : zs.length = i / 32 + 1) (he : val B32 zs = n % 2 ^ i) :
    zs[i / 32] + bitN n i * 2 ^ (i % 32) < 4294967296 ∧ val B32 (zs.set (i / 32) (zs[i / 32] + bitN n i * 2 ^ (i % 32))) = n % 2 ^ (i + 1) := by
  have hB : B32 ^ (i / 32) = 2 ^ (32 * (i / 32)) := by rw [Nat.pow_mul]; rfl
  have hi : 2 ^ i = 2 ^ (32 * (i / 32)) * 2 ^ (i % 32) := by rw [← Nat.pow_add, Nat.div_add_mod]
  have h1 : val B32 zs = val B32 (zs.take (i / 32)) + B32 ^ (i / 32) * zs[i / 32] := by
    rw [← val_take_succ B32 zs (i / 32) (by omega), List.take_of_length_le (by omega)]
  have h2 : val B32 (zs.set (i / 32) (zs[i / 32] + bitN n i * 2 ^ (i % 32))) = val B32 (zs.take (i / 32)) + B32 ^ (i / 32) * (zs[i / 32] + bitN n i * 2 ^ (i % 32)) := by
    have := val_set B32 (zs := zs) (k := i / 32) (v := zs[i / 32] + bitN n i * 2 ^ (i % 32)) (by omega)
    rwa [List.take_of_length_le (by simp; omega)] at this
  have hlt : n % 2 ^ i < 2 ^ i := Nat.mod_lt _ (Nat.two_pow_pos _)
  have hz : zs[i / 32] < 2 ^ (i % 32) := by
    have h3 : 2 ^ (32 * (i / 32)) * zs[i / 32] < 2 ^ (32 * (i / 32)) * 2 ^ (i % 32) := by rw [← hi, ← hB]; omega
    exact Nat.lt_of_mul_lt_mul_left h3
  have hb := bitN_lt n i
  constructor
  · have h4 : 2 ^ (i % 32) ≤ 2 ^ 31 := Nat.pow_le_pow_right (by omega) (by omega)
    have h5 : bitN n i * 2 ^ (i % 32) ≤ 1 * 2 ^ (i % 32) := Nat.mul_le_mul_right _ (by omega)
    omega
  · have e3 : n % 2 ^ (i + 1) = n % 2 ^ i + 2 ^ i * bitN n i := Nat.mod_pow_succ
    have e4 : 2 ^ i * bitN n i = 2 ^ (32 * (i / 32)) * (bitN n i * 2 ^ (i % 32)) := by rw [hi, Nat.mul_assoc, Nat.mul_comm (bitN n i)]
    rw [h2, Nat.mul_add, ← Nat.add_assoc, ← h1, he, e3, e4, hB]

theorem to_close {n : Nat} {zs : List Nat} (hl : zs.length = (bl n + 31) / 32) (hv : Valid B32 zs) (he : val B32 zs = n % 2 ^ bl n) : zs = digs B32 n := by
  have hn : val B32 zs = n := by rw [he]; exact Nat.mod_eq_of_lt (lt_pow_len (by omega) n)
  have h1 := digs_of_val B32_two hv (fun hlast => by
    obtain ⟨es, rfl⟩ : ∃ es, zs = es ++ [0] := List.getLast?_eq_some_iff.1 hlast
    have h2 : val B32 es < B32 ^ es.length := val_lt (valid_append.1 hv).1
    rw [val_snoc, Nat.mul_zero, Nat.add_zero] at hn
    simp at hl
    have h3 : 2 ^ (bl n - 1) ≤ n := pow_le_of_len (by omega) (by unfold bl at *; omega)
    have h4 : B32 ^ es.length ≤ 2 ^ (bl n - 1) := by
      rw [show B32 = 2 ^ 32 from rfl, ← Nat.pow_mul]
      exact Nat.pow_le_pow_right (by omega) (by omega)
    omega)
  rw [← h1, hn]

theorem ToInv.cell {w w2 : World} {n k : Nat} {A : Option Addr} {c : Nat} {zs : List Nat} (hown : Own w2 w.heap.size .u32 141 A c zs) (hl : zs.length = k / 32 + 1) (hv : Valid B32 zs)
    (he : val B32 zs = n % 2 ^ k) (hext : Ext w w2) :
    ∃ g d zs', A = some ⟨g, 0, none⟩ ∧ w.heap.size ≤ g ∧ g < w2.heap.size ∧ w2.cell? ⟨g, k / 32, none⟩ = some (.int .u32 (d : Nat)) ∧ w2.frozen? ⟨g, k / 32, none⟩ = false ∧ d + bitN n k * 2 ^ (k % 32) < 4294967296 ∧
      zs'.length = zs.length ∧ ToInv w (w2.setCell ⟨g, k / 32, none⟩ (.int .u32 ((d + bitN n k * 2 ^ (k % 32) : Nat) : Int))) n (k + 1) (some ⟨g, 0, none⟩) c zs' := by
  obtain ⟨g, rfl, hBg, hglt, hcell, hfr⟩ := hown.at_ (i := k / 32) (by omega)
  obtain ⟨hd1, hd2⟩ := to_digit hl he
  exact ⟨g, _, _, rfl, hBg, hglt, hcell, hfr, hd1, by simp, hown.set_ _ _, by simp; omega, valid_set hv _ _ hd1, hd2, Below.setCell hext (p := ⟨g, k / 32, none⟩) hBg _⟩
theorem ToInv.drew {w w2 : World} {n k : Nat} {A : Option Addr} {c : Nat} {zs : List Nat} (h : ToInv w w2 n k A c zs) : ToInv w w2.drew n k A c zs := ⟨h.1, h.2.1, h.2.2.1, h.2.2.2.1, Below.drew h.2.2.2.2⟩

theorem rtrim_bn {w : World} {A : Option Addr} {c n : Nat} (h : BN w A c n) :
    Calls Tryz.prog 113 #[.slice A (digs 2 n).length c] w fun e w' => e = .returned (.slice A (digs 2 n).length c) ∧ w = w' := by
  have := rtrim_any A c (digs 2 n) w h.le h.cap h.rd
  rwa [trimL_digs (by omega) (valid_digs (by omega) n), val_digs (by omega)] at this

/-- The call returns the digits of n in new memory. -/
def RetT (w : World) (n : Nat) (e : Ending) (w' : World) : Prop := ∃ A c, e = .returned (.slice A (digs B32 n).length c) ∧ Rd w' .u32 A (digs B32 n) ∧ (digs B32 n).length ≤ c ∧ c ≤ 9223372036854775807 ∧ Ext w w'

theorem to_any {w : World} {A : Option Addr} {c n : Nat} (h : BN w A c n) (hs : bl n ≤ 8796093022208) :
    Calls Tryz.prog 119 #[.slice A (digs 2 n).length c] w (RetT w n) := by
  have ht := rtrim_bn h
  have hr := h.rd
  unfold bl at hs
  have HG : Hid (∀ i (hi : i < (digs 2 n).length), (digs 2 n)[i] = bitN n i) := fun i hi => digs_get hi
  have HC : Hid (∀ zs : List Nat, zs.length = ((digs 2 n).length + 31) / 32 → Valid B32 zs → val B32 zs = n % 2 ^ (digs 2 n).length → zs = digs B32 n) := fun zs h1 h2 h3 => to_close h1 h2 h3
  clear h
  generalize digs 2 n = bs at *
  have HR := Lib.hid hr
  clear hr
  go_enter Tryz.func119, Tryz.ntmps119
  go_wp2_with fail
  refine ht.mono ?_
  rintro e w' ⟨rfl, rfl⟩
  clear ht
  go_wp2_with fail
  go_loopw [3, 4] (fun v i wr => ∃ (k : Nat) (A' : Option Addr) (c' : Nat) (zs : List Nat), k ≤ bs.length ∧ i = .int .i64 k ∧ v = .slice A' zs.length c' ∧ ToInv w wr n k A' c' zs) (fun _ i _ => bs.length - (intOf i).toNat)
  case atStart => exact ⟨0, none, 0, [], Nat.zero_le _, rfl, rfl, Own.none_ _ _ _ _, rfl, valid_nil _, by simp [val, Nat.mod_one], Ext.refl _⟩
  case round =>
    obtain ⟨k, A', c', zs, hk, rfl, rfl, hown, hl, hv, he, hext⟩ := hrel
    by_cases hlt : k < bs.length
    · obtain ⟨b1, o1, rfl, hb1, hc0⟩ := HR.out.at_ (j := k) hlt
      rw [HG.out k hlt] at hc0
      have hc1 := hext.cell hc0
      have hbw := hext.size
      have hbit := bitN_lt n k
      by_cases hm : k % 32 = 0
      · have hm1 : (((k : Int) % 32) == 0) = true := by simp; omega
        have HE := Lib.hid he
        have HV := Lib.hid hv
        have hlz : zs.length ≤ 17592186044000 := by omega
        have hlz2 : zs.length = k / 32 := by omega
        have HLZ := Lib.hid hlz2
        clear hl he hv hm hlz2
        go_wp2_with (at_builtin; refine wpList_app1 rfl _ _ _ rfl w.heap.size 141 .u32 4 Tryz.underlying22 info_u32 (by omega) A' c' zs.length zs rfl rfl (hown.below (Ext.alloc _ _)) wr.heap.size 0 rfl ?h2 ?h3 ?h4 ?h5)
        case h2 => simp
        case h3 => omega
        case h4 => simp; omega
        case h5 =>
          intro A2 c2 w2 hown2 hb2
          have hx2 : Ext w w2 := Below.trans hext (Below.trans (Below.mono (Ext.alloc wr _) hbw) hb2)
          go_wp2_with fail
          have hlen : zs.length + 1 = (zs ++ [0]).length := by simp
          rw [hlen]
          have hl1 : (zs ++ [0]).length = k / 32 + 1 := by simp [HLZ.out]
          have hv1 : Valid B32 (zs ++ [0]) := valid_append.2 ⟨HV.out, by intro d hd; simp at hd; subst hd; unfold B32; omega⟩
          have he1 : val B32 (zs ++ [0]) = n % 2 ^ k := by rw [val_snoc, HE.out]; simp
          clear hown hc1 hlen
          have hc2 : w2.cell? ⟨b1, o1 + k, none⟩ = some (.int .i64 (bitN n k : Int)) := hx2.cell hc0
          obtain ⟨g, d, zs', rfl, hBg, hglt, hcell, hfr, hd1, hlz', hinv⟩ := ToInv.cell hown2 hl1 hv1 he1 hx2
          have hz1 : (k : Int) / 32 < ((zs ++ [0]).length : Int) := by omega
          have hz2 : (0 : Int) ≤ (k : Int) / 32 := by omega
          have hz3 : IntKind.i64.wrap ((k : Int) / 32) = (k : Int) / 32 := IntWalk.i64_in _ (by omega)
          have hz4 : ((k : Int) / 32).toNat = k / 32 := by omega
          have HI := Lib.hid hinv.drew
          have HL' := Lib.hid hlz'
          clear hc0 hl1 he1 hv1 hown2 hlz' hinv
          generalize zs ++ [0] = zs1 at *
          generalize bitN n k = bt at *
          have hval : ((d : Int) + (bt : Int) * 2 ^ (k % 32)) % 4294967296 = ((d + bt * 2 ^ (k % 32) : Nat) : Int) := by
            rw [← Int.emod_eq_of_lt (a := ((d + bt * 2 ^ (k % 32) : Nat) : Int)) (b := 4294967296) (by omega) (by omega)]
            simp
          have HVAL := Lib.hid hval
          clear hval
          go_region
          rw [HVAL.out]
          clear hd1 hz2 hz3 hz4 hcell hfr
          go_wp2_with fail
          go_roundw
          case rel => exact ⟨k + 1, _, c2, zs', by omega, by go_num, by rw [HL'.out], HI.out⟩
          case measure => simp [intOf]; omega
      · have hm1 : (((k : Int) % 32) == 0) = false := by simp; omega
        have hl1 : zs.length = k / 32 + 1 := by omega
        have hv1 := hv
        have he1 := he
        have HL1 := Lib.hid hl1
        have HE := Lib.hid he
        clear hl he hv hm hl1 he1
        go_wp2_with fail
        obtain ⟨w2, rfl⟩ : ∃ w2 : World, w2 = wr := ⟨_, rfl⟩
        obtain ⟨c2, rfl⟩ : ∃ c2 : Nat, c2 = c' := ⟨_, rfl⟩
        have hx2 := hext
        have hl1 := HL1.out
        have he1 := HE.out
        clear hc1
        have hc2 : w2.cell? ⟨b1, o1 + k, none⟩ = some (.int .i64 (bitN n k : Int)) := hx2.cell hc0
        obtain ⟨g, d, zs', rfl, hBg, hglt, hcell, hfr, hd1, hlz', hinv⟩ := ToInv.cell hown hl1 hv1 he1 hx2
        have hz1 : (k : Int) / 32 < ((zs).length : Int) := by omega
        have hz2 : (0 : Int) ≤ (k : Int) / 32 := by omega
        have hz3 : IntKind.i64.wrap ((k : Int) / 32) = (k : Int) / 32 := IntWalk.i64_in _ (by omega)
        have hz4 : ((k : Int) / 32).toNat = k / 32 := by omega
        have HI := Lib.hid hinv.drew
        have HL' := Lib.hid hlz'
        clear hc0 hl1 he1 hv1 hown hlz' hinv
        generalize zs = zs1 at *
        generalize bitN n k = bt at *
        have hval : ((d : Int) + (bt : Int) * 2 ^ (k % 32)) % 4294967296 = ((d + bt * 2 ^ (k % 32) : Nat) : Int) := by
          rw [← Int.emod_eq_of_lt (a := ((d + bt * 2 ^ (k % 32) : Nat) : Int)) (b := 4294967296) (by omega) (by omega)]
          simp
        have HVAL := Lib.hid hval
        clear hval
        go_region
        rw [HVAL.out]
        clear hd1 hz2 hz3 hz4 hcell hfr
        go_wp2_with fail
        go_roundw
        case rel => exact ⟨k + 1, _, c2, zs', by omega, by go_num, by rw [HL'.out], HI.out⟩
        case measure => simp [intOf]; omega
    · obtain rfl : k = bs.length := by omega
      have hz := HC.out zs hl hv he
      have HZ := Lib.hid hz
      have hr := Own.rd hown
      have hle := Own.le hown
      unfold maxLen at hle
      rw [hz] at hr hle
      clear hown hl hv he hz
      go_wp2_with fail
      go_ret
      exact ⟨_, _, by rw [← HZ.out]; rfl, hr, hle.1, by omega, hext⟩

theorem is_any {w : World} {A1 A2 : Option Addr} {c1 c2 n : Nat} {ds : List Nat} (h1 : NR w A1 c1 ds) (h2 : BN w A2 c2 n) (hs : bl n ≤ 8796093022208) :
    Calls Tryz.prog 94 #[.slice A1 ds.length c1, .slice A2 (digs 2 n).length c2] w fun e w' => e = .returned (.bool (decide (ds = digs B32 n))) ∧ Ext w w' := by
  have ht := to_any h2 hs
  clear h2
  have HR1 := Lib.hid h1.rd
  have l1 := h1.le
  have l2 := h1.cap
  clear h1
  unfold RetT at ht
  generalize digs B32 n = dd at *
  have HR : Hid (ds.length = dd.length → (∀ j (h : j < ds.length) (h' : j < dd.length), ds[j] = dd[j]) → decide (ds = dd) = true) := by
    intro hl h
    simp only [decide_eq_true_eq]
    exact List.ext_getElem hl h
  have HR2 : Hid (∀ j (h : j < ds.length) (h' : j < dd.length), ds[j] ≠ dd[j] → decide (ds = dd) = false) := by
    intro j h h' hne
    simp only [decide_eq_false_iff_not]
    intro e; subst e; exact hne rfl
  have HR3 : Hid (ds.length ≠ dd.length → decide (ds = dd) = false) := by
    intro hne
    simp only [decide_eq_false_iff_not]
    intro e; subst e; exact hne rfl
  generalize decide (ds = dd) = R at *
  by_cases hll : ds.length = dd.length
  · have hb : (((ds.length : Nat) : Int) != ((dd.length : Nat) : Int)) = false := by simp [hll]
    have HLL := Lib.hid hll
    clear hll
    go_enter Tryz.func94, Tryz.ntmps94
    go_wp2_with fail
    refine ht.mono ?_
    rintro e w1 ⟨A, c, rfl, hr, hle, hcap, hx⟩
    clear ht
    have HR4 := Lib.hid hr
    clear hr
    go_wp2_with fail
    go_loopw [6] (fun i wr => ∃ k : Nat, k ≤ ds.length ∧ i = .int .i64 k ∧ (∀ j (h : j < ds.length) (h' : j < dd.length), j < k → ds[j] = dd[j]) ∧ Ext w1 wr) (fun i _ => ds.length - (intOf i).toNat)
    case atStart => exact ⟨0, Nat.zero_le _, rfl, fun j _ _ h => absurd h (by omega), Ext.refl _⟩
    case round =>
      obtain ⟨k, hk, rfl, hd, hext⟩ := hrel
      have HD := Lib.hid hd
      clear hd
      by_cases hlt : k < ds.length
      · have hlt2 : k < dd.length := by have := HLL.out; omega
        obtain ⟨b1, o1, rfl, hb1, hc1⟩ := ((HR1.out.below hx).below hext).at_ hlt
        obtain ⟨b2, o2, rfl, hb2, hc2⟩ := (HR4.out.below hext).at_ hlt2
        by_cases he : ds[k] = dd[k]
        · have HD2 : Hid (∀ j (h : j < ds.length) (h' : j < dd.length), j < k + 1 → ds[j] = dd[j]) := by
            intro j h h' hj
            by_cases e : j = k
            · subst e; exact he
            · exact HD.out j h h' (by omega)
          have hne : (((ds[k] : Nat) : Int) != ((dd[k] : Nat) : Int)) = false := by simp [he]
          clear he
          generalize ds[k] = x at *
          generalize dd[k] = y at *
          go_wp2_with fail
          go_quiet (fail)
          go_wp2_with fail
          go_roundw
          case rel => exact ⟨k + 1, by omega, by go_num, HD2.out, hext.trans (Qt.ext ⟨_, rfl⟩)⟩
          case measure => simp [intOf]; omega
        · have HF := Lib.hid (HR2.out k hlt hlt2 he)
          have hne : (((ds[k] : Nat) : Int) != ((dd[k] : Nat) : Int)) = true := by simp; omega
          clear he
          generalize ds[k] = x at *
          generalize dd[k] = y at *
          go_wp2_with fail
          go_quiet (fail)
          go_wp2_with fail
          go_ret
          exact ⟨by rw [HF.out]; rfl, (hx.trans hext).trans (Qt.ext ⟨_, rfl⟩)⟩
      · have HF : Hid (R = true) := HR.out HLL.out (fun j h h' => HD.out j h h' (by omega))
        go_wp2_with fail
        go_ret
        exact ⟨by rw [HF.out]; rfl, hx.trans hext⟩
  · have hb : (((ds.length : Nat) : Int) != ((dd.length : Nat) : Int)) = true := by simp; omega
    have HF := Lib.hid (HR3.out hll)
    clear hll
    go_enter Tryz.func94, Tryz.ntmps94
    go_wp2_with fail
    refine ht.mono ?_
    rintro e w1 ⟨A, c, rfl, hr, hle, hcap, hx⟩
    go_wp2_with fail
    go_ret
    exact ⟨by rw [HF.out]; rfl, hx⟩
theorem div_pow_succ (a k : Nat) : a / 2 ^ k = 2 * (a / 2 ^ (k + 1)) + bitN a k := by
  unfold bitN
  rw [Nat.pow_succ, ← Nat.div_div_eq_div_mul]
  omega
theorem cmp_bits {a b k : Nat} (h : a / 2 ^ (k + 1) = b / 2 ^ (k + 1)) (hne : bitN a k ≠ bitN b k) : (bitN a k : Int) - (bitN b k : Int) = cmpN a b := by
  have h1 := div_pow_succ a k
  have h2 := div_pow_succ b k
  have h3 := bitN_lt a k
  have h4 := bitN_lt b k
  rcases Nat.lt_or_ge (bitN a k) (bitN b k) with hl | hl
  · have : a < b := by
      rcases Nat.lt_or_ge a b with h5 | h5
      · exact h5
      · have := Nat.div_le_div_right (c := 2 ^ k) h5; omega
    rw [cmpN_lt this]; omega
  · have : b < a := by
      rcases Nat.lt_or_ge b a with h5 | h5
      · exact h5
      · have := Nat.div_le_div_right (c := 2 ^ k) h5; omega
    rw [cmpN_gt this]; omega

theorem rcmp_any {w : World} {A1 A2 : Option Addr} {c1 c2 a b : Nat} (h1 : BN w A1 c1 a) (h2 : BN w A2 c2 b) (hs1 : bl a ≤ 8796093022208) (hs2 : bl b ≤ 8796093022208) :
    Calls Tryz.prog 88 #[.slice A1 (digs 2 a).length c1, .slice A2 (digs 2 b).length c2] w fun e w' => e = .returned (.int .i64 (cmpN a b)) ∧ w = w' := by
  have hb1 : ∀ i : Nat, i ≤ 4611686018427387904 → _ := fun i hi => bit_any h1 (i := i) hi
  have hb2 : ∀ i : Nat, i ≤ 4611686018427387904 → _ := fun i hi => bit_any h2 (i := i) hi
  have HB1 := Lib.hid hb1
  have HB2 := Lib.hid hb2
  unfold bl at hs1 hs2
  have l1 := lt_pow_len (B := 2) (by omega) a
  have l2 := lt_pow_len (B := 2) (by omega) b
  clear h1 h2 hb1 hb2
  generalize (digs 2 a).length = la at *
  generalize (digs 2 b).length = lb at *
  rcases Nat.lt_or_ge la lb with hl | hl
  · have HA : Hid (a / 2 ^ lb = b / 2 ^ lb) := by
      show _ = _
      have p1 : 2 ^ la ≤ 2 ^ lb := Nat.pow_le_pow_right (by omega) (by omega)
      have p2 : 2 ^ lb ≤ 2 ^ lb := Nat.pow_le_pow_right (by omega) (by omega)
      rw [Nat.div_eq_of_lt (by omega), Nat.div_eq_of_lt (by omega)]
    clear l1 l2
    have hl' : la < lb := hl
    go_enter Tryz.func88, Tryz.ntmps88
    go_wp2_with fail
    go_loop [5] (fun i => ∃ k : Nat, k ≤ lb ∧ i = .int .i64 ((k : Int) - 1) ∧ a / 2 ^ k = b / 2 ^ k) (fun i => (intOf i + 1).toNat)
    case atStart => exact ⟨lb, Nat.le_refl _, rfl, HA.out⟩
    case round =>
      clear HA
      obtain ⟨k, hk, rfl, hd⟩ := hrel
      have HD := Lib.hid hd
      clear hd
      by_cases h0 : k = 0
      · subst h0
        have hab : a = b := by simpa using HD.out
        have HC : Hid (cmpN a b = 0) := by show _ = _; rw [hab, cmpN_eq]
        clear hab
        go_wp2_with fail
        go_ret
        exact ⟨by rw [HC.out]; rfl, rfl⟩
      · have hk1 : ((k : Int) - 1) = ((k - 1 : Nat) : Int) := by omega
        rw [hk1]
        have hk2 : k - 1 + 1 = k := by omega
        have t1 := HB1.out (k - 1) (by omega)
        have t2 := HB2.out (k - 1) (by omega)
        have HT1 := Lib.hid t1
        have HT2 := Lib.hid t2
        have HD1 : Hid (bitN a (k - 1) ≠ bitN b (k - 1) → (bitN a (k - 1) : Int) - (bitN b (k - 1) : Int) = cmpN a b) := fun hne => cmp_bits (by rw [hk2]; exact HD.out) hne
        have HD2 : Hid (bitN a (k - 1) = bitN b (k - 1) → a / 2 ^ (k - 1) = b / 2 ^ (k - 1)) := fun he => by
          rw [div_pow_succ a (k - 1), div_pow_succ b (k - 1), hk2, HD.out, he]
        have bx := bitN_lt a (k - 1)
        have by_ := bitN_lt b (k - 1)
        have HK1 := Lib.hid hk1
        clear hk1 hk2 t1 t2 HB1 HB2 HD
        have hk3 : k - 1 < k := by omega
        have hk4 : k - 1 ≤ lb := by omega
        generalize k - 1 = j at *
        generalize bitN a j = x at *
        generalize bitN b j = y at *
        by_cases he : x = y
        · have HE := Lib.hid (HD2.out he)
          have hne : ((x : Int) != (y : Int)) = false := by simp [he]
          clear he HD1 HD2
          go_wp2_with fail
          refine HT1.out.mono ?_
          rintro e w' ⟨rfl, rfl⟩
          go_wp2_with fail
          refine HT2.out.mono ?_
          rintro e w' ⟨rfl, rfl⟩
          go_wp2_with fail
          go_round
          case rel => exact ⟨j, by omega, rfl, HE.out⟩
          case measure => simp [intOf]
        · have HE := Lib.hid (HD1.out he)
          have hne : ((x : Int) != (y : Int)) = true := by simp; omega
          clear he HD1 HD2
          go_wp2_with fail
          refine HT1.out.mono ?_
          rintro e w' ⟨rfl, rfl⟩
          go_wp2_with fail
          refine HT2.out.mono ?_
          rintro e w' ⟨rfl, rfl⟩
          go_wp2_with fail
          refine HT1.out.mono ?_
          rintro e w' ⟨rfl, rfl⟩
          go_wp2_with fail
          refine HT2.out.mono ?_
          rintro e w' ⟨rfl, rfl⟩
          go_wp2_with fail
          go_ret
          exact ⟨by rw [← HE.out]; rfl, rfl⟩
  · have HA : Hid (a / 2 ^ la = b / 2 ^ la) := by
      show _ = _
      have p1 : 2 ^ la ≤ 2 ^ la := Nat.pow_le_pow_right (by omega) (by omega)
      have p2 : 2 ^ lb ≤ 2 ^ la := Nat.pow_le_pow_right (by omega) (by omega)
      rw [Nat.div_eq_of_lt (by omega), Nat.div_eq_of_lt (by omega)]
    clear l1 l2
    have hl' : ¬ la < lb := by omega
    go_enter Tryz.func88, Tryz.ntmps88
    go_wp2_with fail
    go_loop [5] (fun i => ∃ k : Nat, k ≤ la ∧ i = .int .i64 ((k : Int) - 1) ∧ a / 2 ^ k = b / 2 ^ k) (fun i => (intOf i + 1).toNat)
    case atStart => exact ⟨la, Nat.le_refl _, rfl, HA.out⟩
    case round =>
      clear HA
      obtain ⟨k, hk, rfl, hd⟩ := hrel
      have HD := Lib.hid hd
      clear hd
      by_cases h0 : k = 0
      · subst h0
        have hab : a = b := by simpa using HD.out
        have HC : Hid (cmpN a b = 0) := by show _ = _; rw [hab, cmpN_eq]
        clear hab
        go_wp2_with fail
        go_ret
        exact ⟨by rw [HC.out]; rfl, rfl⟩
      · have hk1 : ((k : Int) - 1) = ((k - 1 : Nat) : Int) := by omega
        rw [hk1]
        have hk2 : k - 1 + 1 = k := by omega
        have t1 := HB1.out (k - 1) (by omega)
        have t2 := HB2.out (k - 1) (by omega)
        have HT1 := Lib.hid t1
        have HT2 := Lib.hid t2
        have HD1 : Hid (bitN a (k - 1) ≠ bitN b (k - 1) → (bitN a (k - 1) : Int) - (bitN b (k - 1) : Int) = cmpN a b) := fun hne => cmp_bits (by rw [hk2]; exact HD.out) hne
        have HD2 : Hid (bitN a (k - 1) = bitN b (k - 1) → a / 2 ^ (k - 1) = b / 2 ^ (k - 1)) := fun he => by
          rw [div_pow_succ a (k - 1), div_pow_succ b (k - 1), hk2, HD.out, he]
        have bx := bitN_lt a (k - 1)
        have by_ := bitN_lt b (k - 1)
        have HK1 := Lib.hid hk1
        clear hk1 hk2 t1 t2 HB1 HB2 HD
        have hk3 : k - 1 < k := by omega
        have hk4 : k - 1 ≤ la := by omega
        generalize k - 1 = j at *
        generalize bitN a j = x at *
        generalize bitN b j = y at *
        by_cases he : x = y
        · have HE := Lib.hid (HD2.out he)
          have hne : ((x : Int) != (y : Int)) = false := by simp [he]
          clear he HD1 HD2
          go_wp2_with fail
          refine HT1.out.mono ?_
          rintro e w' ⟨rfl, rfl⟩
          go_wp2_with fail
          refine HT2.out.mono ?_
          rintro e w' ⟨rfl, rfl⟩
          go_wp2_with fail
          go_round
          case rel => exact ⟨j, by omega, rfl, HE.out⟩
          case measure => simp [intOf]
        · have HE := Lib.hid (HD1.out he)
          have hne : ((x : Int) != (y : Int)) = true := by simp; omega
          clear he HD1 HD2
          go_wp2_with fail
          refine HT1.out.mono ?_
          rintro e w' ⟨rfl, rfl⟩
          go_wp2_with fail
          refine HT2.out.mono ?_
          rintro e w' ⟨rfl, rfl⟩
          go_wp2_with fail
          refine HT1.out.mono ?_
          rintro e w' ⟨rfl, rfl⟩
          go_wp2_with fail
          refine HT2.out.mono ?_
          rintro e w' ⟨rfl, rfl⟩
          go_wp2_with fail
          go_ret
          exact ⟨by rw [← HE.out]; rfl, rfl⟩

theorem mod_pow_succ' (a k : Nat) : a % 2 ^ (k + 1) = a % 2 ^ k + 2 ^ k * bitN a k := Nat.mod_pow_succ

/-- What the reference's sum holds after i bits. -/
def RAInv (w wr : World) (a b i cy : Nat) (A : Option Addr) (c : Nat) (zs : List Nat) : Prop :=
  Own wr w.heap.size .i64 3 A c zs ∧ zs.length = i ∧ Valid 2 zs ∧ val 2 zs + 2 ^ i * cy = a % 2 ^ i + b % 2 ^ i ∧ Ext w wr

theorem RAInv.step {w w2 : World} {a b i cy s : Nat} {A : Option Addr} {c : Nat} {zs : List Nat} (hown : Own w2 w.heap.size .i64 3 A c (zs ++ [s % 2])) (hl : zs.length = i) (hv : Valid 2 zs)
    (he : val 2 zs + 2 ^ i * cy = a % 2 ^ i + b % 2 ^ i) (hs : s = bitN a i + bitN b i + cy) (hext : Ext w w2) : RAInv w w2 a b (i + 1) (s / 2) A c (zs ++ [s % 2]) := by
  refine ⟨hown, by simp [hl], valid_append.2 ⟨hv, by intro d hd; simp at hd; omega⟩, ?_, hext⟩
  rw [val_snoc, hl, mod_pow_succ', mod_pow_succ', Nat.pow_succ]
  have h := carry_step (B := 2) (P := 2 ^ i) (x := bitN a i) (y := bitN b i) he
  rw [← hs] at h
  exact h

theorem radd_any {w : World} {A1 A2 : Option Addr} {c1 c2 a b : Nat} (h1 : BN w A1 c1 a) (h2 : BN w A2 c2 b) (hs1 : bl a ≤ 8796093022208) (hs2 : bl b ≤ 8796093022208) :
    Calls Tryz.prog 87 #[.slice A1 (digs 2 a).length c1, .slice A2 (digs 2 b).length c2] w (RetB w (a + b)) := by
  unfold bl at hs1 hs2
  have HB1 : Hid (∀ (wr : World) (i : Nat), Ext w wr → i ≤ 4611686018427387904 → Calls Tryz.prog 114 #[.slice A1 (digs 2 a).length c1, .int .i64 i] wr fun e w' => e = .returned (.int .i64 (bitN a i)) ∧ wr = w') :=
    fun wr i hx hi => bit_any (h1.ext hx) hi
  have HB2 : Hid (∀ (wr : World) (i : Nat), Ext w wr → i ≤ 4611686018427387904 → Calls Tryz.prog 114 #[.slice A2 (digs 2 b).length c2, .int .i64 i] wr fun e w' => e = .returned (.int .i64 (bitN b i)) ∧ wr = w') :=
    fun wr i hx hi => bit_any (h2.ext hx) hi
  have HEnd : Hid (∀ i : Nat, (digs 2 a).length ≤ i → (digs 2 b).length ≤ i → a < 2 ^ i ∧ b < 2 ^ i) := by
    intro i ha hb
    have l1 := lt_pow_len (B := 2) (by omega) a
    have l2 := lt_pow_len (B := 2) (by omega) b
    have p1 : 2 ^ (digs 2 a).length ≤ 2 ^ i := Nat.pow_le_pow_right (by omega) ha
    have p2 : 2 ^ (digs 2 b).length ≤ 2 ^ i := Nat.pow_le_pow_right (by omega) hb
    exact ⟨by omega, by omega⟩
  clear h1 h2
  generalize (digs 2 a).length = la at *
  generalize (digs 2 b).length = lb at *
  go_enter Tryz.func87, Tryz.ntmps87
  go_wp2_with fail
  go_loopw [5, 6, 7] (fun v cv i wr => ∃ (k cy : Nat) (A' : Option Addr) (c' : Nat) (zs : List Nat), k ≤ max la lb + 1 ∧ i = .int .i64 k ∧ cv = .int .i64 cy ∧ cy ≤ 1 ∧ v = .slice A' k c' ∧ RAInv w wr a b k cy A' c' zs) (fun _ _ i _ => max la lb + 2 - (intOf i).toNat)
  case atStart => exact ⟨0, 0, none, 0, [], Nat.zero_le _, rfl, rfl, by omega, rfl, Own.none_ _ _ _ _, rfl, valid_nil _, by simp [val, Nat.mod_one], Ext.refl _⟩
  case round =>
    obtain ⟨k, cy, A', c', zs, hk, rfl, rfl, hcy, rfl, hown, hl, hv, he, hext⟩ := hrel
    have hcase : (k < la) ∨ (¬ k < la ∧ k < lb) ∨ (¬ k < la ∧ ¬ k < lb ∧ 0 < cy) ∨ (¬ k < la ∧ ¬ k < lb ∧ ¬ 0 < cy) := by omega
    have hkm : (k < la ∨ k < lb ∨ 0 < cy) → k ≤ max la lb := by
      intro h
      rcases Nat.lt_or_ge k (max la lb + 1) with h1 | h1
      · omega
      · have hke : k = max la lb + 1 := by omega
        obtain ⟨e1, e2⟩ := HEnd.out (max la lb) (by omega) (by omega)
        have e3 : 2 ^ k = 2 * 2 ^ max la lb := by rw [hke, Nat.pow_succ, Nat.mul_comm]
        rw [Nat.mod_eq_of_lt (show a < 2 ^ k by omega), Nat.mod_eq_of_lt (show b < 2 ^ k by omega)] at he
        have hcy1 : cy = 0 := by
          rcases Nat.eq_zero_or_pos cy with h2 | h2
          · exact h2
          · have : 2 ^ k * 1 ≤ 2 ^ k * cy := Nat.mul_le_mul_left _ h2
            omega
        omega
    have HKM := Lib.hid hkm
    clear hkm
    have t1 := Lib.hid (HB1.out wr k hext (by omega))
    have t2 := Lib.hid (HB2.out wr k hext (by omega))
    have bx := bitN_lt a k
    have by_ := bitN_lt b k
    have hbw := hext.size
    have HL := Lib.hid hl
    have HV := Lib.hid hv
    have HE := Lib.hid he
    clear hl hv he
    rcases hcase with h | ⟨h, h'⟩ | ⟨h, h', h''⟩ | ⟨h, h', h''⟩
    · have hkm := HKM.out (by omega)
      go_wp2_with fail
      refine t1.out.mono ?_
      rintro e w' ⟨rfl, rfl⟩
      go_wp2_with fail
      refine t2.out.mono ?_
      rintro e w' ⟨rfl, rfl⟩
      go_wp2_with (at_builtin; refine wpList_app1 rfl _ _ _ rfl w.heap.size 3 .i64 8 Tryz.underlying32 info_int (by omega) A' c' k zs HL.out rfl (hown.below (Ext.alloc _ _)) wr.heap.size ((bitN a k + bitN b k + cy) % 2) rfl ?h2 ?h3 ?h4 ?h5)
      case h2 => simp
      case h3 => omega
      case h4 => simp; omega
      case h5 =>
        intro A2 c2 w2 hown2 hb2
        have hx2 : Ext w w2 := Below.trans hext (Below.trans (Below.mono (Ext.alloc wr _) hbw) hb2)
        have HS := Lib.hid (RAInv.step hown2 HL.out HV.out HE.out rfl hx2)
        clear hown2
        go_wp2_with fail
        go_roundw
        case rel => exact ⟨k + 1, _, A2, c2, _, by omega, by go_num, by go_num, by omega, rfl, HS.out⟩
        case measure => simp [intOf]; omega
    · have hkm := HKM.out (by omega)
      go_wp2_with fail
      refine t1.out.mono ?_
      rintro e w' ⟨rfl, rfl⟩
      go_wp2_with fail
      refine t2.out.mono ?_
      rintro e w' ⟨rfl, rfl⟩
      go_wp2_with (at_builtin; refine wpList_app1 rfl _ _ _ rfl w.heap.size 3 .i64 8 Tryz.underlying32 info_int (by omega) A' c' k zs HL.out rfl (hown.below (Ext.alloc _ _)) wr.heap.size ((bitN a k + bitN b k + cy) % 2) rfl ?h2 ?h3 ?h4 ?h5)
      case h2 => simp
      case h3 => omega
      case h4 => simp; omega
      case h5 =>
        intro A2 c2 w2 hown2 hb2
        have hx2 : Ext w w2 := Below.trans hext (Below.trans (Below.mono (Ext.alloc wr _) hbw) hb2)
        have HS := Lib.hid (RAInv.step hown2 HL.out HV.out HE.out rfl hx2)
        clear hown2
        go_wp2_with fail
        go_roundw
        case rel => exact ⟨k + 1, _, A2, c2, _, by omega, by go_num, by go_num, by omega, rfl, HS.out⟩
        case measure => simp [intOf]; omega
    · have hkm := HKM.out (by omega)
      go_wp2_with fail
      refine t1.out.mono ?_
      rintro e w' ⟨rfl, rfl⟩
      go_wp2_with fail
      refine t2.out.mono ?_
      rintro e w' ⟨rfl, rfl⟩
      go_wp2_with (at_builtin; refine wpList_app1 rfl _ _ _ rfl w.heap.size 3 .i64 8 Tryz.underlying32 info_int (by omega) A' c' k zs HL.out rfl (hown.below (Ext.alloc _ _)) wr.heap.size ((bitN a k + bitN b k + cy) % 2) rfl ?h2 ?h3 ?h4 ?h5)
      case h2 => simp
      case h3 => omega
      case h4 => simp; omega
      case h5 =>
        intro A2 c2 w2 hown2 hb2
        have hx2 : Ext w w2 := Below.trans hext (Below.trans (Below.mono (Ext.alloc wr _) hbw) hb2)
        have HS := Lib.hid (RAInv.step hown2 HL.out HV.out HE.out rfl hx2)
        clear hown2
        go_wp2_with fail
        go_roundw
        case rel => exact ⟨k + 1, _, A2, c2, _, by omega, by go_num, by go_num, by omega, rfl, HS.out⟩
        case measure => simp [intOf]; omega
    · obtain rfl : cy = 0 := by omega
      have hv := HE.out
      obtain ⟨e1, e2⟩ := HEnd.out k (by omega) (by omega)
      rw [Nat.mod_eq_of_lt e1, Nat.mod_eq_of_lt e2, Nat.mul_zero, Nat.add_zero] at hv
      obtain ⟨ht, hbn⟩ := trim_own hown HV.out hv
      rw [HL.out] at ht
      have HT := Lib.hid ht
      have HN := Lib.hid hbn
      clear hown ht hbn hv HKM e1 e2
      go_wp2_with fail
      refine HT.out.mono ?_
      rintro e w' ⟨rfl, rfl⟩
      go_wp2_with fail
      go_ret
      exact ⟨_, _, rfl, HN.out, hext⟩

/-- What the reference's difference holds after i bits. -/
def RSInv (w wr : World) (a b i cy : Nat) (A : Option Addr) (c : Nat) (zs : List Nat) : Prop :=
  Own wr w.heap.size .i64 3 A c zs ∧ zs.length = i ∧ Valid 2 zs ∧ val 2 zs + b % 2 ^ i = a % 2 ^ i + 2 ^ i * cy ∧ Ext w wr

theorem RSInv.step {w w2 : World} {a b i cy d bo : Nat} {A : Option Addr} {c : Nat} {zs : List Nat} (hown : Own w2 w.heap.size .i64 3 A c (zs ++ [d])) (hl : zs.length = i) (hv : Valid 2 zs)
    (he : val 2 zs + b % 2 ^ i = a % 2 ^ i + 2 ^ i * cy) (hd : d < 2) (hs : d + bitN b i + cy = bitN a i + 2 * bo) (hext : Ext w w2) : RSInv w w2 a b (i + 1) bo A c (zs ++ [d]) := by
  refine ⟨hown, by simp [hl], valid_append.2 ⟨hv, by intro x hx; simp at hx; omega⟩, ?_, hext⟩
  rw [val_snoc, hl, mod_pow_succ', mod_pow_succ', Nat.pow_succ]
  exact borrow_step he hs

theorem rsub_any {w : World} {A1 A2 : Option Addr} {c1 c2 a b : Nat} (h1 : BN w A1 c1 a) (h2 : BN w A2 c2 b) (hba : b ≤ a) (hs1 : bl a ≤ 8796093022208) :
    Calls Tryz.prog 89 #[.slice A1 (digs 2 a).length c1, .slice A2 (digs 2 b).length c2] w (RetB w (a - b)) := by
  unfold bl at hs1
  have HB1 : Hid (∀ (wr : World) (i : Nat), Ext w wr → i ≤ 4611686018427387904 → Calls Tryz.prog 114 #[.slice A1 (digs 2 a).length c1, .int .i64 i] wr fun e w' => e = .returned (.int .i64 (bitN a i)) ∧ wr = w') :=
    fun wr i hx hi => bit_any (h1.ext hx) hi
  have HB2 : Hid (∀ (wr : World) (i : Nat), Ext w wr → i ≤ 4611686018427387904 → Calls Tryz.prog 114 #[.slice A2 (digs 2 b).length c2, .int .i64 i] wr fun e w' => e = .returned (.int .i64 (bitN b i)) ∧ wr = w') :=
    fun wr i hx hi => bit_any (h2.ext hx) hi
  have HA : Hid (a < 2 ^ (digs 2 a).length) := lt_pow_len (by omega) a
  have HBA := Lib.hid hba
  clear h1 h2 hba
  generalize (digs 2 a).length = la at *
  generalize (digs 2 b).length = lb at *
  go_enter Tryz.func89, Tryz.ntmps89
  go_wp2_with fail
  go_loopw [5, 6, 7] (fun v cv i wr => ∃ (k cy : Nat) (A' : Option Addr) (c' : Nat) (zs : List Nat), k ≤ la ∧ i = .int .i64 k ∧ cv = .int .i64 cy ∧ cy ≤ 1 ∧ v = .slice A' k c' ∧ RSInv w wr a b k cy A' c' zs) (fun _ _ i _ => la - (intOf i).toNat)
  case atStart => exact ⟨0, 0, none, 0, [], Nat.zero_le _, rfl, rfl, by omega, rfl, Own.none_ _ _ _ _, rfl, valid_nil _, by simp [val, Nat.mod_one], Ext.refl _⟩
  case round =>
    obtain ⟨k, cy, A', c', zs, hk, rfl, rfl, hcy, rfl, hown, hl, hv, he, hext⟩ := hrel
    have HL := Lib.hid hl
    have HV := Lib.hid hv
    have HE := Lib.hid he
    clear hl hv he
    by_cases hlt : k < la
    · have t1 := Lib.hid (HB1.out wr k hext (by omega))
      have t2 := Lib.hid (HB2.out wr k hext (by omega))
      have bx := bitN_lt a k
      have by_ := bitN_lt b k
      have hbw := hext.size
      have HSt : Hid (∀ (w2 : World) (A2 : Option Addr) (c2 d bo : Nat), Own w2 w.heap.size .i64 3 A2 c2 (zs ++ [d]) → d < 2 → d + bitN b k + cy = bitN a k + 2 * bo → Ext w w2 → RSInv w w2 a b (k + 1) bo A2 c2 (zs ++ [d])) :=
        fun w2 A2 c2 d bo h1 h2 h3 h4 => RSInv.step h1 HL.out HV.out HE.out h2 h3 h4
      generalize bitN a k = x at *
      generalize bitN b k = y at *
      by_cases hs : x < y + cy
      · have hneg : (x : Int) - (y : Int) - (cy : Int) < 0 := by omega
        go_wp2_with fail
        refine t1.out.mono ?_
        rintro e w' ⟨rfl, rfl⟩
        go_wp2_with fail
        refine t2.out.mono ?_
        rintro e w' ⟨rfl, rfl⟩
        go_wp2_with (at_builtin; refine wpList_app1 rfl _ _ _ rfl w.heap.size 3 .i64 8 Tryz.underlying32 info_int (by omega) A' c' k zs HL.out rfl (hown.below (Ext.alloc _ _)) wr.heap.size (x + 2 - y - cy) rfl ?h2 ?h3 ?h4 ?h5)
        case h2 => simp; omega
        case h3 => omega
        case h4 => simp; omega
        case h5 =>
          intro A2 c2 w2 hown2 hb2
          have hx2 : Ext w w2 := Below.trans hext (Below.trans (Below.mono (Ext.alloc wr _) hbw) hb2)
          have HS := Lib.hid (HSt.out w2 A2 c2 (x + 2 - y - cy) 1 hown2 (by omega) (by omega) hx2)
          clear hown2
          go_wp2_with fail
          go_roundw
          case rel => exact ⟨k + 1, 1, A2, c2, _, by omega, by go_num, by go_num, by omega, rfl, HS.out⟩
          case measure => simp [intOf]; omega
      · have hneg : ¬ (x : Int) - (y : Int) - (cy : Int) < 0 := by omega
        go_wp2_with fail
        refine t1.out.mono ?_
        rintro e w' ⟨rfl, rfl⟩
        go_wp2_with fail
        refine t2.out.mono ?_
        rintro e w' ⟨rfl, rfl⟩
        go_wp2_with (at_builtin; refine wpList_app1 rfl _ _ _ rfl w.heap.size 3 .i64 8 Tryz.underlying32 info_int (by omega) A' c' k zs HL.out rfl (hown.below (Ext.alloc _ _)) wr.heap.size (x - y - cy) rfl ?h2 ?h3 ?h4 ?h5)
        case h2 => simp; omega
        case h3 => omega
        case h4 => simp; omega
        case h5 =>
          intro A2 c2 w2 hown2 hb2
          have hx2 : Ext w w2 := Below.trans hext (Below.trans (Below.mono (Ext.alloc wr _) hbw) hb2)
          have HS := Lib.hid (HSt.out w2 A2 c2 (x - y - cy) 0 hown2 (by omega) (by omega) hx2)
          clear hown2
          go_wp2_with fail
          go_roundw
          case rel => exact ⟨k + 1, 0, A2, c2, _, by omega, by go_num, by go_num, by omega, rfl, HS.out⟩
          case measure => simp [intOf]; omega
    · obtain rfl : k = la := by omega
      have hz := val_lt HV.out
      rw [HL.out] at hz
      have he := HE.out
      have ha := HA.out
      have hbb := HBA.out
      rw [Nat.mod_eq_of_lt ha, Nat.mod_eq_of_lt (Nat.lt_of_le_of_lt hbb ha)] at he
      have hv : val 2 zs = a - b := by
        rcases Nat.le_one_iff_eq_zero_or_eq_one.1 hcy with rfl | rfl <;> omega
      obtain ⟨ht, hbn⟩ := trim_own hown HV.out hv
      rw [HL.out] at ht
      have HT := Lib.hid ht
      have HN := Lib.hid hbn
      clear hown ht hbn hv hz he ha hbb
      go_wp2_with fail
      refine HT.out.mono ?_
      rintro e w' ⟨rfl, rfl⟩
      go_wp2_with fail
      go_ret
      exact ⟨_, _, rfl, HN.out, hext⟩
theorem size_int : (Tryz.prog.info? 3).map (·.size) = some 1 := by kernel_rfl

/-- The base of the words of the reference. -/
def B15 : Nat := 32768
theorem B15_eq : B15 = 2 ^ 15 := rfl
/-- The call returns a new row of L words of value n. -/
def RetW (w : World) (L n : Nat) (e : Ending) (w' : World) : Prop :=
  ∃ g zs, e = .returned (.slice (some ⟨g, 0, none⟩) L L) ∧ w.heap.size ≤ g ∧ Row w' g .i64 3 zs ∧ zs.length = L ∧ Valid B15 zs ∧ val B15 zs = n ∧ Ext w w'
/-- The head of a round of 'words'. -/
def WInv (w wr : World) (g L n k : Nat) : Prop := ∃ zs, Row wr g .i64 3 zs ∧ zs.length = L ∧ Valid B15 zs ∧ val B15 zs = n % 2 ^ k ∧ Ext w wr
theorem WInv.cell {w wr : World} {g L n k : Nat} (h : WInv w wr g L n k) (hk : k / 15 < L) (hg : w.heap.size ≤ g) :
    ∃ d : Nat, wr.cell? ⟨g, k / 15, none⟩ = some (.int .i64 (d : Nat)) ∧ wr.frozen? ⟨g, k / 15, none⟩ = false ∧ d + bitN n k * 2 ^ (k % 15) < 32768 ∧
      ∀ e : Int, e = ((d + bitN n k * 2 ^ (k % 15) : Nat) : Int) → WInv w (wr.setCell ⟨g, k / 15, none⟩ (.int .i64 e)).drew g L n (k + 1) := by
  obtain ⟨zs, hz, hl, hv, he, hext⟩ := h
  have hq : k / 15 < zs.length := by omega
  obtain ⟨h1, h2⟩ := lay_bit (K := 15) (n := n) (i := k) (by omega) hq he
  refine ⟨zs[k / 15], hz.cell hq, hz.frozen _, h1, ?_⟩
  rintro e rfl
  exact ⟨_, (hz.set_ _ _).drew, by simpa using hl, valid_set hv _ _ h1, h2, Below.drew (Below.setCell hext (p := ⟨g, k / 15, none⟩) hg _)⟩

theorem words_any {w : World} {A : Option Addr} {c n : Nat} (h : BN w A c n) (hs : bl n ≤ 8796093022208) :
    Calls Tryz.prog 115 #[.slice A (digs 2 n).length c] w (RetW w ((bl n + 14) / 15) n) := by
  have hr := h.rd
  have HG : Hid (∀ i (hi : i < (digs 2 n).length), (digs 2 n)[i] = bitN n i) := fun i hi => digs_get hi
  have HN : Hid (n % 2 ^ (digs 2 n).length = n) := Nat.mod_eq_of_lt (lt_pow_len (by omega) n)
  clear h
  unfold bl at hs ⊢
  generalize digs 2 n = bs at *
  have HR := Lib.hid hr
  clear hr
  go_enter Tryz.func115, Tryz.ntmps115
  go_wp2_with (at_make; refine wpList_mkrow rfl _ _ _ rfl _ _ _ Tryz.underlying32 info_int (by omega) _ _ _ ((bs.length + 14) / 15) rfl rfl (by omega) (by omega) ?_)
  intro g w1 hg hrow hx
  have hinv : WInv w w1 g ((bs.length + 14) / 15) n 0 := ⟨_, hrow, by simp, valid_replicate (by unfold B15; omega) _, by simp [val_replicate, Nat.mod_one], hx⟩
  clear hrow hx
  go_wp2_with fail
  go_loopw [4] (fun i wr => ∃ k : Nat, k ≤ bs.length ∧ i = .int .i64 k ∧ WInv w wr g ((bs.length + 14) / 15) n k) (fun i _ => bs.length - (intOf i).toNat)
  case atStart => exact ⟨0, Nat.zero_le _, rfl, hinv⟩
  case round =>
    clear hinv
    obtain ⟨k, hk, rfl, hinv⟩ := hrel
    by_cases hlt : k < bs.length
    · have hext : Ext w wr := by obtain ⟨_, _, _, _, _, h⟩ := hinv; exact h
      obtain ⟨b1, o1, rfl, hb1, hc0⟩ := HR.out.at_ (j := k) hlt
      rw [HG.out k hlt] at hc0
      have hc1 := hext.cell hc0
      have hbit := bitN_lt n k
      obtain ⟨d, hcell, hfr, hd1, hstep⟩ := WInv.cell hinv (by omega) hg
      have HS := Lib.hid hstep
      clear hinv hstep hc0
      have hz1 : (k : Int) / 15 < (((bs.length + 14) / 15 : Nat) : Int) := by omega
      have hz2 : (0 : Int) ≤ (k : Int) / 15 := by omega
      have hz3 : IntKind.i64.wrap ((k : Int) / 15) = (k : Int) / 15 := IntWalk.i64_in _ (by omega)
      have hz4 : ((k : Int) / 15).toNat = k / 15 := by omega
      generalize bitN n k = bt at *
      go_wp2_with fail
      go_region
      have hI : ((bt * 2 ^ (k % 15) : Nat) : Int) = (bt : Int) * 2 ^ (k % 15) := by simp
      have hS := HS.out (wrap64 ((d : Int) + wrap64 ((bt : Int) * 2 ^ (k % 15)))) (by rw [← hI, IntWalk.wrap64_in ((bt * 2 ^ (k % 15) : Nat) : Int) (by omega), IntWalk.wrap64_in _ (by omega)]; omega)
      have HS2 := Lib.hid hS
      clear hS hI hd1 hz2 hz3 hz4 hcell hfr hc1
      go_wp2_with fail
      go_roundw
      case rel => exact ⟨k + 1, by omega, by go_num, HS2.out⟩
      case measure => simp [intOf]; omega
    · obtain rfl : k = bs.length := by omega
      obtain ⟨zs, hz, hl, hv, he, hext⟩ := hinv
      rw [HN.out] at he
      go_wp2_with fail
      go_ret
      exact ⟨g, zs, rfl, hg, hz, hl, hv, he, hext⟩

/-- 'bits': words back to bits. -/
theorem rbits_any {w : World} {A : Option Addr} {c n : Nat} {ws : List Nat} (hr : Rd w .i64 A ws) (hv : Valid B15 ws) (hn : val B15 ws = n) (hs : ws.length ≤ 586406201480) :
    Calls Tryz.prog 116 #[.slice A ws.length c] w (RetB w n) := by
  have HR := Lib.hid hr
  have HV := Lib.hid hv
  have HG : Hid (∀ k (h : k / 15 < ws.length), bitN n k = ws[k / 15] / 2 ^ (k % 15) % 2) := fun k h => by rw [← hn]; exact bitN_digitK (K := 15) (by omega) hv k h
  have HN : Hid (val 2 (bitsUpto n (15 * ws.length)) = n) := by
    show _ = _
    rw [bitsUpto_val, Nat.pow_mul]
    apply Nat.mod_eq_of_lt
    rw [← hn]
    exact val_lt hv
  clear hr hv hn
  go_enter Tryz.func116, Tryz.ntmps116
  go_wp2_with (at_make; refine wpList_mkrow rfl _ _ _ rfl _ _ _ Tryz.underlying32 info_int (by omega) _ _ _ (15 * ws.length) rfl rfl (by omega) (by omega) ?_)
  intro g w1 hg hrow hx
  go_wp2_with fail
  go_loopw [4] (fun i wr => ∃ (k : Nat) (zs : List Nat), k ≤ 15 * ws.length ∧ i = .int .i64 k ∧ Row wr g .i64 3 zs ∧ zs.length = 15 * ws.length ∧ zs.take k = bitsUpto n k ∧ Ext w wr) (fun i _ => 15 * ws.length - (intOf i).toNat)
  case atStart => exact ⟨0, _, Nat.zero_le _, rfl, hrow, by simp, by simp [bitsUpto], hx⟩
  case round =>
    clear hrow
    obtain ⟨k, zs, hk, rfl, hz, hl, ht, hext⟩ := hrel
    by_cases hlt : k < 15 * ws.length
    · have hq : k / 15 < ws.length := by omega
      obtain ⟨b1, o1, rfl, hb1, hc1⟩ := (HR.out.below hext).at_ (j := k / 15) hq
      have HB := Lib.hid (HG.out k hq)
      have hwb : ws[k / 15] < 32768 := valid_get HV.out _ hq
      obtain ⟨z0, hcell⟩ := hz.some_ (i := k) (by omega)
      have hfr := hz.frozen k
      have HS : Hid (∀ e : Int, e = (bitN n k : Int) → ∃ zs', Row (wr.setCell ⟨g, k, none⟩ (.int .i64 e)) g .i64 3 zs' ∧ zs'.length = 15 * ws.length ∧ zs'.take (k + 1) = bitsUpto n (k + 1) ∧ Ext w (wr.setCell ⟨g, k, none⟩ (.int .i64 e))) := by
        rintro e rfl
        exact ⟨zs.set k (bitN n k), hz.set_ _ _, by simpa using hl, by rw [take_set_lt (by omega), ht, bitsUpto_succ], Below.setCell hext (p := ⟨g, k, none⟩) hg _⟩
      clear hz hl ht
      generalize ws[k / 15] = x at *
      go_wp2_with fail
      go_roundw
      case rel =>
        obtain ⟨zs', h1, h2, h3, h4⟩ := HS.out (((x : Int) / 2 ^ (k % 15)).tmod 2) (by
          have e : ((x / 2 ^ (k % 15) : Nat) : Int) = (x : Int) / 2 ^ (k % 15) := by simp
          rw [HB.out, ← e]
          rfl)
        exact ⟨k + 1, zs', by omega, by go_num, h1, h2, h3, h4⟩
      case measure => simp [intOf]; omega
    · obtain rfl : k = 15 * ws.length := by omega
      rw [← hl, List.take_length, hl] at ht
      have hml : zs.length ≤ maxLen := by rw [hl]; unfold maxLen; omega
      have hown : Own wr w.heap.size .i64 3 (some ⟨g, 0, none⟩) zs.length zs := Own.of_row' hz hg hml rfl (List.take_length)
      obtain ⟨h1, h2⟩ := trim_own (n := n) hown (by rw [ht]; exact bitsUpto_valid _ _) (by rw [ht]; exact HN.out)
      rw [hl] at h1 h2
      have HT := Lib.hid h1
      have HB := Lib.hid h2
      clear hz hl ht hown h1 h2
      go_wp2_with fail
      refine HT.out.mono ?_
      rintro e w' ⟨rfl, rfl⟩
      go_wp2_with fail
      go_ret
      exact ⟨_, _, rfl, HB.out, hext⟩

/-- The head of a round of the outer loop of the reference's product. -/
def RMOut (w wr : World) (g : Nat) (da db : List Nat) (i : Nat) : Prop :=
  ∃ zs, Row wr g .i64 3 zs ∧ zs.length = da.length + db.length ∧ Valid B15 zs ∧ val B15 zs = val B15 (da.take i) * val B15 db ∧
    zs.drop (i + db.length) = List.replicate (da.length - i) 0 ∧ Ext w wr
/-- The head of a round of its inner loop: Z the row at its start. -/
def RMIn (w wr : World) (g : Nat) (da db Z : List Nat) (x i j c : Nat) : Prop :=
  ∃ zs, Row wr g .i64 3 zs ∧ zs.length = da.length + db.length ∧ Valid B15 zs ∧ zs.drop (i + j) = Z.drop (i + j) ∧
    val B15 (zs.take (i + j)) + B15 ^ (i + j) * c = val B15 (Z.take (i + j)) + B15 ^ i * (x * val B15 (db.take j)) ∧ Ext w wr

theorem RMIn.step {w w2 : World} {g : Nat} {da db Z zs : List Nat} {x i j c s c' old : Nat} (hj : j < db.length) (hi : i < da.length) (hZ : Z.length = da.length + db.length)
    (hz : Row w2 g .i64 3 zs) (hl : zs.length = da.length + db.length) (hv : Valid B15 zs) (hd : zs.drop (i + j) = Z.drop (i + j))
    (he : val B15 (zs.take (i + j)) + B15 ^ (i + j) * c = val B15 (Z.take (i + j)) + B15 ^ i * (x * val B15 (db.take j)))
    (hold : Z[i + j]? = some old) (hs : s + 32768 * c' = x * db[j] + old + c) (hsb : s < 32768) (hg : w.heap.size ≤ g) (hext : Ext w w2) :
    RMIn w (w2.setCell ⟨g, i + j, none⟩ (.int .i64 (s : Int))) g da db Z x i (j + 1) c' := by
  refine ⟨zs.set (i + j) s, hz.set_ _ _, by simpa using hl, valid_set hv _ _ hsb, ?_, ?_, Below.setCell hext (p := ⟨g, i + j, none⟩) hg _⟩
  · rw [← Nat.add_assoc, List.drop_set_of_lt (by omega)]
    have h1 := congrArg (List.drop 1) hd
    rwa [List.drop_drop, List.drop_drop] at h1
  · rw [← Nat.add_assoc, val_set B15 (by omega), val_take_succ B15 Z (i + j) (by omega), val_take_succ B15 db j hj]
    have ho : Z[i + j]'(by omega) = old := by
      rw [List.getElem?_eq_getElem (by omega)] at hold
      injection hold
    rw [ho, Nat.pow_succ, Nat.pow_add]
    rw [Nat.pow_add] at he
    have := sb_math (B := B15) (s := s) (c' := c') (y := db[j]) (old := old) he hs
    rw [← Nat.mul_assoc (B15 ^ i)] at this
    exact this

theorem RMIn.close {w w2 : World} {g : Nat} {da db Z zs : List Nat} {x i c : Nat} (hi : i < da.length) (hx : da[i] = x) (hZ : Z.length = da.length + db.length)
    (hz : Row w2 g .i64 3 zs) (hl : zs.length = da.length + db.length) (hv : Valid B15 zs) (hd : zs.drop (i + db.length) = Z.drop (i + db.length))
    (he : val B15 (zs.take (i + db.length)) + B15 ^ (i + db.length) * c = val B15 (Z.take (i + db.length)) + B15 ^ i * (x * val B15 (db.take db.length)))
    (hc : c < 32768) (hZv : val B15 Z = val B15 (da.take i) * val B15 db) (hZd : Z.drop (i + db.length) = List.replicate (da.length - i) 0) (hg : w.heap.size ≤ g) (hext : Ext w w2) :
    RMOut w (w2.setCell ⟨g, i + db.length, none⟩ (.int .i64 (c : Int))) g da db (i + 1) := by
  have hk : i + db.length < zs.length := by omega
  have hdz : (zs.set (i + db.length) c).drop (i + 1 + db.length) = List.replicate (da.length - (i + 1)) 0 := by
    rw [show i + 1 + db.length = i + db.length + 1 from by omega, List.drop_set_of_lt (by omega)]
    have h1 := congrArg (List.drop 1) (hd.trans hZd)
    rw [List.drop_drop, List.drop_replicate] at h1
    rw [h1]
    congr 1
  refine ⟨zs.set (i + db.length) c, hz.set_ _ _, by simpa using hl, valid_set hv _ _ hc, ?_, hdz, Below.setCell hext (p := ⟨g, i + db.length, none⟩) hg _⟩
  rw [val_split B15 _ (i + 1 + db.length), hdz, val_replicate, Nat.mul_zero, Nat.add_zero, show i + 1 + db.length = i + db.length + 1 from by omega, val_set B15 hk, he, List.take_length,
    val_take_succ B15 da i hi, hx, Nat.add_mul, ← hZv]
  have h2 : val B15 Z = val B15 (Z.take (i + db.length)) := by
    conv => lhs; rw [val_split B15 Z (i + db.length), hZd, val_replicate, Nat.mul_zero, Nat.add_zero]
  rw [h2, Nat.mul_assoc]


theorem rm_digit {x y old c : Nat} (hx : x < 32768) (hy : y < 32768) (ho : old < 32768) (hc : c < 32768) :
    (x * y + old + c) / 32768 < 32768 ∧ (x * y + old + c) % 32768 < 32768 ∧ (x * y + old + c) % 32768 + 32768 * ((x * y + old + c) / 32768) = x * y + old + c ∧ x * y ≤ 1073676289 := by
  have hb : x * y ≤ 32767 * 32767 := Nat.mul_le_mul (by omega) (by omega)
  generalize x * y = P at *
  omega

theorem rmul_any {w : World} {A1 A2 : Option Addr} {c1 c2 a b : Nat} (h1 : BN w A1 c1 a) (h2 : BN w A2 c2 b) (hs1 : bl a ≤ 2199023255552) (hs2 : bl b ≤ 2199023255552) :
    Calls Tryz.prog 90 #[.slice A1 (digs 2 a).length c1, .slice A2 (digs 2 b).length c2] w (RetB w (a * b)) := by
  have t1 := Lib.hid (words_any h1 (by omega))
  have t2 : Hid (∀ w', Ext w w' → Calls Tryz.prog 115 #[.slice A2 (digs 2 b).length c2] w' (RetW w' ((bl b + 14) / 15) b)) := fun w' hx => words_any (h2.ext hx) (by omega)
  clear h1 h2
  go_enter Tryz.func90, Tryz.ntmps90
  go_wp2_with fail
  refine t1.out.mono ?_
  rintro e w1 ⟨gx, xs, rfl, hgx, hzx, hlx, hvx, hex, hx1⟩
  go_wp2_with fail
  refine (t2.out w1 hx1).mono ?_
  rintro e w2 ⟨gy, ys, rfl, hgy, hzy, hly, hvy, hey, hx2⟩
  have hzx2 := hzx.ext hx2
  have hxx := hx1.trans hx2
  have hLx : xs.length ≤ 146601550371 := by omega
  have hLy : ys.length ≤ 146601550371 := by omega
  rw [← hlx, ← hly]
  clear hzx hlx hly t1 t2 hx1 hx2 hgx hgy
  have HZX := Lib.hid hzx2
  have HZY := Lib.hid hzy
  have HVX := Lib.hid hvx
  have HVY := Lib.hid hvy
  have HEX := Lib.hid hex
  have HEY := Lib.hid hey
  clear hzx2 hzy hvx hvy hex hey
  go_wp2_with (at_make; refine wpList_mkrow rfl _ _ _ rfl _ _ _ Tryz.underlying32 info_int (by omega) _ _ _ (xs.length + ys.length) rfl rfl (by omega) (by omega) ?_)
  intro g w3 hg hrow hx
  have hinv : RMOut w2 w3 g xs ys 0 := ⟨_, hrow, by simp, valid_replicate (by unfold B15; omega) _, by simp [val, val_replicate], by simp, hx⟩
  clear hrow hx
  go_wp2_with fail
  go_loopw [8] (fun i wr => ∃ k : Nat, k ≤ xs.length ∧ i = .int .i64 k ∧ RMOut w2 wr g xs ys k) (fun i _ => xs.length - (intOf i).toNat)
  case atStart => exact ⟨0, Nat.zero_le _, rfl, hinv⟩
  case round =>
    clear hinv
    obtain ⟨i, hi, rfl, hinv⟩ := hrel
    by_cases hlt : i < xs.length
    · obtain ⟨Z, hz, hl, hv, he, hd, hext⟩ := hinv
      have hx : xs[i] < 32768 := valid_get HVX.out i hlt
      have hin : RMIn w2 wr g xs ys Z xs[i] i 0 0 := ⟨Z, hz, hl, hv, rfl, by simp [val], hext⟩
      have HL := Lib.hid hl
      have HE := Lib.hid he
      have HD := Lib.hid hd
      have HCX : Hid (∀ wr, Ext w2 wr → wr.cell? ⟨gx, i, none⟩ = some (.int .i64 (xs[i] : Nat))) := fun wr hx => (HZX.out.ext hx).cell hlt
      clear hz hl hv he hd hext
      generalize hxe : xs[i] = x at *
      have HXE := Lib.hid hxe
      clear hxe
      go_wp2_with fail
      obtain ⟨wo, rfl⟩ : ∃ wo : World, wo = wr := ⟨_, rfl⟩
      go_loopw [9, 10] (fun cv jv wr => ∃ j cc : Nat, j ≤ ys.length ∧ jv = .int .i64 j ∧ cv = .int .i64 cc ∧ cc < 32768 ∧ RMIn w2 wr g xs ys Z x i j cc) (fun _ jv _ => ys.length - (intOf jv).toNat)
      case atStart => exact ⟨0, 0, Nat.zero_le _, rfl, rfl, by omega, hin⟩
      case round =>
        clear hin
        obtain ⟨j, cc, hj, rfl, rfl, hcc, hin⟩ := hrel
        by_cases hjl : j < ys.length
        · obtain ⟨zs, hz, hl, hv, hd, he, hext⟩ := hin
          have hcx := HCX.out wr hext
          have hcy : wr.cell? ⟨gy, j, none⟩ = some (.int .i64 (ys[j] : Nat)) := (HZY.out.ext hext).cell hjl
          have hy : ys[j] < 32768 := valid_get HVY.out j hjl
          have hij : i + j < zs.length := by omega
          have hold : Z[i + j]? = some zs[i + j] := by
            have h3 := congrArg (fun l => l[0]?) hd
            simp only [List.getElem?_drop, Nat.add_zero] at h3
            rw [← h3, List.getElem?_eq_getElem hij]
          have ho : zs[i + j] < 32768 := valid_get hv _ hij
          have hcell : wr.cell? ⟨g, i + j, none⟩ = some (.int .i64 (zs[i + j] : Nat)) := hz.cell hij
          have hfr := hz.frozen (i + j)
          obtain ⟨hq1, hq2, hq3, hq4⟩ := rm_digit hx hy ho hcc
          have HS : Hid (∀ n (e : Int), e = ((x * ys[j] + zs[i + j] + cc) % 32768 : Nat) → RMIn w2 ((wr.drewN n).setCell ⟨g, i + j, none⟩ (.int .i64 e)) g xs ys Z x i (j + 1) ((x * ys[j] + zs[i + j] + cc) / 32768)) :=
            fun n e he0 => by
              subst he0
              exact RMIn.step hjl hlt HL.out (hz.drewN n) hl hv hd he hold hq3 hq2 (by omega) (hext.trans (Qt.ext ⟨n, rfl⟩))
          have hxy : ((x * ys[j] : Nat) : Int) = (x : Int) * (ys[j] : Int) := Int.natCast_mul _ _
          have hijl : i + j < xs.length + ys.length := by omega
          clear hz hl hv hd he hold
          generalize zs[i + j] = old at *
          generalize ys[j] = y at *
          have hi1 : IntKind.i64.wrap ((i : Int) + (j : Int)) = (i : Int) + (j : Int) := IntWalk.i64_in _ (by omega)
          have hi2 : (0 : Int) ≤ (i : Int) + (j : Int) := by omega
          have hi3 : ((i : Int) + (j : Int)).toNat = i + j := by omega
          have hi4 : (i : Int) + (j : Int) < ((xs.length + ys.length : Nat) : Int) := by omega
          go_wp2_with fail
          go_quiet (fail)
          have hS : (old : Int) + (x : Int) * (y : Int) + (cc : Int) = ((x * y + old + cc : Nat) : Int) := by omega
          rw [hS]
          clear hq3 hq4 hxy hS hcx hcy hx hy ho
          generalize x * y + old + cc = S at *
          go_wp2_with fail
          go_roundw
          case rel => exact ⟨j + 1, S / 32768, by omega, by go_num, by go_num, hq1, HS.out _ _ (by go_num)⟩
          case measure => simp [intOf]; omega
        · obtain rfl : j = ys.length := by omega
          obtain ⟨zs, hz, hl, hv, hd, he, hext⟩ := hin
          have hij : i + ys.length < zs.length := by omega
          have hz0 : zs[i + ys.length] = 0 := by
            have h3 := congrArg (fun l => l[0]?) (hd.trans HD.out)
            simp only [List.getElem?_drop, Nat.add_zero] at h3
            rw [List.getElem?_eq_getElem hij, List.getElem?_replicate, if_pos (by omega)] at h3
            injection h3
          have hcell : wr.cell? ⟨g, i + ys.length, none⟩ = some (.int .i64 (zs[i + ys.length] : Nat)) := hz.cell hij
          rw [hz0] at hcell
          have hfr := hz.frozen (i + ys.length)
          have HS : Hid (∀ e : Int, e = (cc : Int) → RMOut w2 (wr.setCell ⟨g, i + ys.length, none⟩ (.int .i64 e)) g xs ys (i + 1)) := by
            rintro e rfl
            exact RMIn.close hlt HXE.out HL.out hz hl hv hd he hcc HE.out HD.out hg hext
          have hijl : i + ys.length < xs.length + ys.length := by omega
          clear hz hl hv hd he hext hij hz0
          go_wp2_with fail
          go_roundw
          case rel => exact ⟨i + 1, by omega, by go_num, HS.out _ (by go_num)⟩
          case measure => simp [intOf]; omega
    · obtain rfl : i = xs.length := by omega
      obtain ⟨Z, hz, hl, hv, he, hd, hext⟩ := hinv
      rw [List.take_length, HEX.out, HEY.out] at he
      have hrd := hz.rd Z.length
      rw [List.take_length] at hrd
      have ht := rbits_any (c := Z.length) hrd hv he (by omega)
      rw [hl] at ht
      have HT := Lib.hid ht
      have hx3 := hxx.trans hext
      clear hz hl hv he hd hext ht hrd
      go_wp2_with fail
      refine HT.out.mono ?_
      rintro e w' ⟨A, c, rfl, hb, hx4⟩
      go_wp2_with fail
      go_ret
      exact ⟨A, c, rfl, hb, hx3.trans hx4⟩
theorem Own.far {w w' : World} {B g c : Nat} {k : IntKind} {T : TypeId} {ds : List Nat} (h : Own w B k T (some ⟨g, 0, none⟩) c ds) (hh : w'.heap[g]? = w.heap[g]?) : Own w' B k T (some ⟨g, 0, none⟩) c ds := by
  refine ⟨h.1, ?_⟩
  rcases h.2 with ⟨hv, _⟩ | ⟨g', cap, cur, hv, hg, hr, r⟩
  · injection hv with h1; cases h1
  · have hv' := hv
    injection hv' with h1
    injection h1 with h1
    injection h1 with h1
    subst h1
    exact .inr ⟨g, cap, cur, hv, hg, hh.trans hr, r⟩

section
variable {P : Program} {w : World} {ops : Array Oper} {rest : List Oper} {o : Oper} {a : Act} {Q : Exit → Act → World → Prop}
/-- 'append(s, v)': one element; where the row lies behind it. -/
theorem wpList_app1_at (hgd : o.guard = none) (s x : Operand) (t : TypeId) (ho : o.op = .call { callee := .builtin .append, args := #[s, x], argTypes := #[t, t] })
    (B : Nat) (e : TypeId) (k : IntKind) (by_ : Nat) (ht : P.underlying t = some (.slice e)) (hi : (P.info? e).map (fun i => (i.zero, i.size, i.bytes)) = some (some (.int k 0), 1, by_)) (hb8 : by_ ≤ 8)
    (g0 c n : Nat) (ds : List Nat) (hn : ds.length = n) (hs : a.eval s = .slice (some ⟨g0, 0, none⟩) n c) (hown : Own w B k e (some ⟨g0, 0, none⟩) c ds)
    (g : Nat) (v : Nat) (hx : a.eval x = .slice (some ⟨g, 0, none⟩) 1 1) (hc : w.cell? ⟨g, 0, none⟩ = some (.int k (v : Int)))
    (hlen : n ≤ 17592186044000) (hB : B ≤ w.heap.size)
    (h : ∀ g' c' w', Own w' B k e (some ⟨g', 0, none⟩) c' (ds ++ [v]) → (g' = g0 ∨ g' = w.heap.size) → (∀ j, j < w.heap.size → j ≠ g0 → w'.heap[j]? = w.heap[j]?) → Below B w w' →
      wpList P ops Q rest (a.put o.dst (.slice (some ⟨g', 0, none⟩) (n + 1) c')) w') : wpList P ops Q (o :: rest) a w := by
  subst hn
  obtain ⟨i, hi1, hz, hsz, hby⟩ := info_parts hi
  refine wpList_append_own_at (w := w) hgd s x t ho B e i (.int k 0) 1 by_ ht hi1 hz hsz hby rfl (by omega) _ ds.length (nums k ds) hs hown ⟨g, 0, none⟩ 1 1 (nums k [v]) hx (by simp [nums]) ?_ (nums_one k _) (by unfold maxLen; omega) ?_ hB ?_
  · intro j u hj
    match j, hj with
    | 0, hj => simp [nums] at hj; subst hj; simpa [Addr.add] using hc
    | j + 1, hj => simp [nums] at hj
  · have : (ds.length + 1) * by_ ≤ (ds.length + 1) * 8 := Nat.mul_le_mul_left _ hb8
    omega
  · intro v' w' how hgr hnil hat
    rw [← nums_append] at how
    have hl : ds.length + 1 = (ds ++ [v]).length := by simp
    rcases how.2 with ⟨hv, hn⟩ | ⟨g', cap, cur, hv, hg', hh, r⟩
    · omega
    · subst hv
      have hb : Below B w w' := (Below.refl B w).grown hgr hB (fun k hk => hown.block_ge k hk)
      have ho : Own w' B k e (some ⟨g', 0, none⟩) cap (ds ++ [v]) := by
        unfold Own
        rw [← hl]
        exact how
      refine h _ _ w' ho ?_ ?_ hb
      · rcases hat with h1 | h1
        · left; injection h1
        · right; injection h1
      · intro j hj hne
        refine hgr.block j hj (fun e => hne ?_)
        injection e
end

/-- The memory of 'DivMod': quotient bits, remainder, divisor. -/
structure DS (w wr : World) (gq gr gd cd : Nat) (qs rs ds : List Nat) : Prop where
  q : Row wr gq .i64 3 qs
  r : Row wr gr .i64 3 rs
  d : Own wr 0 .i64 3 (some ⟨gd, 0, none⟩) cd ds
  ext : Ext w wr
  qr : gq ≠ gr
  qd : gq ≠ gd
  rd : gr ≠ gd
  bq : w.heap.size ≤ gq
  br : w.heap.size ≤ gr
theorem DS.setQ {w wr : World} {gq gr gd cd : Nat} {qs rs ds : List Nat} (h : DS w wr gq gr gd cd qs rs ds) (i v : Nat) :
    DS w (wr.setCell ⟨gq, i, none⟩ (.int .i64 (v : Int))) gq gr gd cd (qs.set i v) rs ds :=
  ⟨h.q.set_ _ _, h.r.far (p := ⟨gq, i, none⟩) (Ne.symm h.qr) _, h.d.far (Below.heap_setCell wr ⟨gq, i, none⟩ _ gd (Ne.symm h.qd)), Below.setCell h.ext (p := ⟨gq, i, none⟩) h.bq _, h.qr, h.qd, h.rd, h.bq, h.br⟩
theorem DS.setR {w wr : World} {gq gr gd cd : Nat} {qs rs ds : List Nat} (h : DS w wr gq gr gd cd qs rs ds) (i v : Nat) :
    DS w (wr.setCell ⟨gr, i, none⟩ (.int .i64 (v : Int))) gq gr gd cd qs (rs.set i v) ds :=
  ⟨h.q.far (p := ⟨gr, i, none⟩) h.qr _, h.r.set_ _ _, h.d.far (Below.heap_setCell wr ⟨gr, i, none⟩ _ gd (Ne.symm h.rd)), Below.setCell h.ext (p := ⟨gr, i, none⟩) h.br _, h.qr, h.qd, h.rd, h.bq, h.br⟩
theorem DS.drewN {w wr : World} {gq gr gd cd : Nat} {qs rs ds : List Nat} (h : DS w wr gq gr gd cd qs rs ds) (n : Nat) : DS w (wr.drewN n) gq gr gd cd qs rs ds :=
  ⟨h.q, h.r, h.d, h.ext.trans (Qt.ext ⟨n, rfl⟩), h.qr, h.qd, h.rd, h.bq, h.br⟩
theorem DS.dcell {w wr : World} {gq gr gd cd : Nat} {qs rs ds : List Nat} (h : DS w wr gq gr gd cd qs rs ds) {i : Nat} (hi : i < ds.length) : wr.cell? ⟨gd, i, none⟩ = some (.int .i64 (ds[i] : Nat)) := by
  obtain ⟨g, hA, _, _, hc, _⟩ := h.d.at_ hi
  injection hA with hA
  injection hA with e
  subst e
  exact hc

theorem Row.cell' {w : World} {g : Nat} {k : IntKind} {T : TypeId} {ds : List Nat} (h : Row w g k T ds) {i x : Nat} (hi : ds[i]? = some x) : w.cell? ⟨g, i, none⟩ = some (.int k (x : Int)) := by
  obtain ⟨hlt, hx⟩ := List.getElem?_eq_some_iff.1 hi
  rw [h.cell hlt, hx]
theorem DS.dcell' {w wr : World} {gq gr gd cd : Nat} {qs rs ds : List Nat} (h : DS w wr gq gr gd cd qs rs ds) {i x : Nat} (hi : ds[i]? = some x) : wr.cell? ⟨gd, i, none⟩ = some (.int .i64 (x : Int)) := by
  obtain ⟨hlt, hx⟩ := List.getElem?_eq_some_iff.1 hi
  rw [h.dcell hlt, hx]

/-- The heads of the rounds of 'DivMod', as numbers. -/
def DOut (a b n k : Nat) (qs rs : List Nat) : Prop :=
  rs.length = n ∧ Valid 2 qs ∧ Valid B15 rs ∧ val B15 rs < b ∧ a / 2 ^ k = val 2 (qs.drop k) * b + val B15 rs ∧ k ≤ qs.length ∧ qs.take k = List.replicate k 0
def DDbl (rs : List Nat) (n bit j c : Nat) (zs : List Nat) : Prop :=
  zs.length = n ∧ Valid B15 zs ∧ c ≤ 1 ∧ zs.drop j = rs.drop j ∧ val B15 (zs.take j) + B15 ^ j * c = 2 * val B15 (rs.take j) + bit
def DSub (zs ds : List Nat) (n j c : Nat) (ys : List Nat) : Prop :=
  ys.length = n ∧ Valid B15 ys ∧ c ≤ 1 ∧ ys.drop j = zs.drop j ∧ val B15 (ys.take j) + val B15 (ds.take j) = val B15 (zs.take j) + B15 ^ j * c

theorem drop_get {xs ys : List Nat} {j : Nat} (h : xs.drop j = ys.drop j) (h1 : j < xs.length) (h2 : j < ys.length) : xs[j] = ys[j] := by
  have h3 := congrArg (fun l => l[0]?) h
  simp only [List.getElem?_drop, Nat.add_zero] at h3
  rw [List.getElem?_eq_getElem h1, List.getElem?_eq_getElem h2] at h3
  injection h3
theorem drop_set_succ {xs ys : List Nat} {j v : Nat} (h : xs.drop j = ys.drop j) : (xs.set j v).drop (j + 1) = ys.drop (j + 1) := by
  rw [List.drop_set_of_lt (by omega)]
  have h1 := congrArg (List.drop 1) h
  rwa [List.drop_drop, List.drop_drop] at h1

theorem dbl_step {P X Z x c bit : Nat} (h : Z + P * c = 2 * X + bit) : Z + P * ((2 * x + c) % 32768) + P * 32768 * ((2 * x + c) / 32768) = 2 * (X + P * x) + bit := by
  have h1 : P * ((2 * x + c) % 32768) + P * 32768 * ((2 * x + c) / 32768) = P * (2 * x + c) := by
    rw [Nat.mul_assoc, ← Nat.mul_add, Nat.mod_add_div]
  rw [Nat.add_assoc, h1, Nat.mul_add, Nat.mul_left_comm P 2 x]
  omega
theorem DDbl.step {rs zs : List Nat} {n bit j c : Nat} (h : DDbl rs n bit j c zs) (hj : j < n) (hr : rs.length = n) :
    ∃ x, zs[j]? = some x ∧ x < 32768 ∧ c ≤ 1 ∧ DDbl rs n bit (j + 1) ((2 * x + c) / 32768) (zs.set j ((2 * x + c) % 32768)) := by
  obtain ⟨hl, hv, hc, hd, he⟩ := h
  have hx := valid_get hv j (by omega)
  have hg := drop_get hd (by omega) (by omega)
  refine ⟨zs[j], by rw [List.getElem?_eq_getElem (by omega)], hx, hc, by simpa using hl, valid_set hv _ _ (by unfold B15; omega), ?_, drop_set_succ hd, ?_⟩
  · have : zs[j] < 32768 := hx
    omega
  · rw [val_set B15 (by omega), val_take_succ B15 rs j (by omega), ← hg, Nat.pow_succ]
    exact dbl_step he
theorem DDbl.close {rs zs : List Nat} {n bit c : Nat} (h : DDbl rs n bit n c zs) (hr : rs.length = n) (hlt : 2 * val B15 rs + bit < B15 ^ n) :
    zs.length = n ∧ Valid B15 zs ∧ val B15 zs = 2 * val B15 rs + bit := by
  obtain ⟨hl, hv, _, _, he⟩ := h
  rw [List.take_of_length_le (by omega), List.take_of_length_le (by omega)] at he
  refine ⟨hl, hv, ?_⟩
  have : c = 0 := by
    rcases Nat.eq_zero_or_pos c with h0 | h0
    · exact h0
    · have : B15 ^ n * 1 ≤ B15 ^ n * c := Nat.mul_le_mul_left _ h0
      omega
  subst this
  omega
theorem sub_step {P X Y Z x y c d b : Nat} (h : Z + Y = X + P * c) (hd : d + y + c = x + 32768 * b) : Z + P * d + (Y + P * y) = X + P * x + P * 32768 * b := borrow_step h hd
theorem DSub.step {zs ds ys : List Nat} {n j c : Nat} (h : DSub zs ds n j c ys) (hj : j < n) (hz : zs.length = n) (hd0 : ds.length = n) (hv0 : Valid B15 ds) :
    ∃ x y, ys[j]? = some x ∧ ds[j]? = some y ∧ x < 32768 ∧ y < 32768 ∧ c ≤ 1 ∧
      (y + c ≤ x → DSub zs ds n (j + 1) 0 (ys.set j (x - y - c))) ∧ (x < y + c → DSub zs ds n (j + 1) 1 (ys.set j (x + 32768 - y - c))) := by
  obtain ⟨hl, hv, hc, hd, he⟩ := h
  have hx : ys[j] < 32768 := valid_get hv j (by omega)
  have hy : ds[j] < 32768 := valid_get hv0 j (by omega)
  have hg := drop_get hd (by omega) (by omega)
  refine ⟨ys[j], ds[j], by rw [List.getElem?_eq_getElem (by omega)], by rw [List.getElem?_eq_getElem (by omega)], hx, hy, hc, ?_, ?_⟩
  · intro hle
    refine ⟨by simpa using hl, valid_set hv _ _ (by unfold B15; omega), by omega, drop_set_succ hd, ?_⟩
    rw [val_set B15 (by omega), val_take_succ B15 zs j (by omega), val_take_succ B15 ds j (by omega), ← hg, Nat.pow_succ]
    exact sub_step he (by omega)
  · intro hlt
    refine ⟨by simpa using hl, valid_set hv _ _ (by unfold B15; omega), by omega, drop_set_succ hd, ?_⟩
    rw [val_set B15 (by omega), val_take_succ B15 zs j (by omega), val_take_succ B15 ds j (by omega), ← hg, Nat.pow_succ]
    exact sub_step he (by omega)
theorem DSub.close {zs ds ys : List Nat} {n c : Nat} (h : DSub zs ds n n c ys) (hz : zs.length = n) (hd0 : ds.length = n) (hge : val B15 ds ≤ val B15 zs) :
    ys.length = n ∧ Valid B15 ys ∧ val B15 ys + val B15 ds = val B15 zs := by
  obtain ⟨hl, hv, _, _, he⟩ := h
  rw [List.take_of_length_le (by omega), List.take_of_length_le (by omega), List.take_of_length_le (by omega)] at he
  refine ⟨hl, hv, ?_⟩
  have h1 := val_lt hv
  rw [hl] at h1
  have : c = 0 := by
    rcases Nat.eq_zero_or_pos c with h0 | h0
    · exact h0
    · have : B15 ^ n * 1 ≤ B15 ^ n * c := Nat.mul_le_mul_left _ h0
      omega
  subst this
  omega

theorem DOut.skip {a b n k : Nat} {qs rs zs : List Nat} (h : DOut a b n (k + 1) qs rs) (hl : zs.length = n) (hv : Valid B15 zs) (he : val B15 zs = 2 * val B15 rs + bitN a k) (hlt : val B15 zs < b) :
    DOut a b n k qs zs := by
  obtain ⟨h1, h2, h3, h4, h5, h6, h7⟩ := h
  have hz : qs[k]'(by omega) = 0 := by
    have := congrArg (fun l => l[k]?) h7
    simp only [List.getElem?_take, if_pos (Nat.lt_succ_self k), List.getElem?_replicate] at this
    rw [List.getElem?_eq_getElem (by omega)] at this
    simpa using this
  refine ⟨hl, h2, hv, hlt, ?_, by omega, ?_⟩
  · rw [div_pow_succ, h5, val_drop 2 qs k (by omega), hz, he, Nat.zero_add, Nat.mul_add, Nat.mul_assoc]
    omega
  · have := congrArg (List.take k) h7
    rw [List.take_take, List.take_replicate, Nat.min_eq_left (by omega)] at this
    exact this
theorem DOut.hit {a b n k : Nat} {qs rs zs ys : List Nat} (h : DOut a b n (k + 1) qs rs) (hl : ys.length = n) (hv : Valid B15 ys) (he : val B15 zs = 2 * val B15 rs + bitN a k) (hs : val B15 ys + b = val B15 zs) :
    DOut a b n k (qs.set k 1) ys := by
  obtain ⟨h1, h2, h3, h4, h5, h6, h7⟩ := h
  have hb := bitN_lt a k
  refine ⟨hl, valid_set h2 _ _ (by omega), hv, by omega, ?_, by simp; omega, ?_⟩
  · rw [div_pow_succ, h5, val_drop 2 (qs.set k 1) k (by simp; omega), List.drop_set_of_lt (by omega)]
    simp only [List.getElem_set_self]
    rw [Nat.mul_add, Nat.add_mul, Nat.mul_assoc]
    omega
  · rw [List.take_set_of_le (Nat.le_refl _)]
    have := congrArg (List.take k) h7
    rw [List.take_take, List.take_replicate, Nat.min_eq_left (by omega)] at this
    exact this

/-- The call returns two numbers as bits, and changes nothing. -/
def RetBB (w : World) (x y : Nat) (e : Ending) (w' : World) : Prop :=
  ∃ A c A' c', e = .returned (.tuple #[.slice A (digs 2 x).length c, .slice A' (digs 2 y).length c']) ∧ BN w' A c x ∧ BN w' A' c' y ∧ Ext w w'

theorem dm_end {a b n : Nat} {qs rs : List Nat} (h : DOut a b n 0 qs rs) : val 2 qs = a / b ∧ val B15 rs = a % b := by
  obtain ⟨_, _, _, h4, h5, _, _⟩ := h
  rw [Nat.pow_zero, Nat.div_one, List.drop_zero, Nat.mul_comm] at h5
  constructor
  · rw [h5, Nat.mul_add_div (by omega), Nat.div_eq_of_lt h4, Nat.add_zero]
  · rw [h5, Nat.mul_add_mod, Nat.mod_eq_of_lt h4]

set_option maxRecDepth 100000 in
set_option maxHeartbeats 2000000 in
theorem rdivMod_any {w : World} {A1 A2 : Option Addr} {c1 c2 a b : Nat} (h1 : BN w A1 c1 a) (h2 : BN w A2 c2 b) (hb0 : 0 < b) (hs1 : bl a ≤ 2199023255552) (hs2 : bl b ≤ 2199023255552) :
    Calls Tryz.prog 118 #[.slice A1 (digs 2 a).length c1, .slice A2 (digs 2 b).length c2] w (RetBB w (a / b) (a % b)) := by
  have HA := Lib.hid h1.rd
  have HG : Hid (∀ i (hi : i < (digs 2 a).length), (digs 2 a)[i] = bitN a i) := fun i hi => digs_get hi
  have HN : Hid (a / 2 ^ (digs 2 a).length = 0) := Nat.div_eq_of_lt (lt_pow_len (by omega) a)
  have HW : Hid (∀ w', Ext w w' → Calls Tryz.prog 115 #[.slice A2 (digs 2 b).length c2] w' (RetW w' ((bl b + 14) / 15) b)) := fun w' hx => words_any (h2.ext hx) (by omega)
  have hb1 : 0 < bl b := by
    rcases Nat.eq_zero_or_pos (bl b) with h | h
    · have := lt_pow_len (B := 2) (by omega) b
      unfold bl at h
      rw [h] at this
      simp at this; omega
    · exact h
  clear h1 h2
  unfold bl at hs1
  generalize digs 2 a = ba at *
  have hL : (bl b + 14) / 15 ≤ 146601550371 := by omega
  have hL0 : 0 < (bl b + 14) / 15 := by omega
  clear hs2 hb1
  generalize (bl b + 14) / 15 = L at *
  go_enter Tryz.func118, Tryz.ntmps118
  go_wp2_with (at_make; refine wpList_mkrow rfl _ _ _ rfl _ _ _ Tryz.underlying32 info_int (by omega) _ _ _ ba.length rfl rfl (by omega) (by omega) ?_)
  intro gq w1 hgq hq hx1
  go_wp2_with fail
  refine (HW.out w1 hx1).mono ?_
  rintro e w2 ⟨gw, ws, rfl, hgw, hw, hlw, hvw, hew, hx2⟩
  clear HW
  have hq2 := hq.ext hx2
  have hqlt := hq.lt
  subst hlw
  clear hq
  go_wp2_with (at_make; refine wpList_mkrow rfl _ _ _ rfl _ _ _ Tryz.underlying32 info_int (by omega) _ _ _ (ws.length + 1) rfl rfl (by omega) (by omega) ?_)
  intro gr w3 hgr hr hx3
  have hq3 := hq2.ext hx3
  have hw3 := hw.ext hx3
  have hwlt := hw.lt
  have hx03 := (hx1.trans hx2).trans hx3
  have hown : Own w3 0 .i64 3 (some ⟨gw, 0, none⟩) ws.length ws := Own.of_row' hw3 (Nat.zero_le _) (by unfold maxLen; omega) rfl List.take_length
  have HOWN := Lib.hid hown
  have HQ := Lib.hid hq3
  have HR := Lib.hid hr
  have HX := Lib.hid hx03
  have HV := Lib.hid hvw
  have HE := Lib.hid hew
  have hgr0 := hr.lt
  clear hown hq3 hr hx03 hvw hew hq2 hw hw3 hx1 hx2 hx3
  go_wp2_with (at_builtin; go_loud (refine wpList_app1_at rfl _ _ _ rfl 0 3 .i64 8 Tryz.underlying32 info_int (by omega) gw ws.length ws.length ws rfl rfl (HOWN.out.below (Ext.alloc _ _)) w3.heap.size 0 rfl ?h2 ?h3 ?h4 ?h5))
  case h2 => simp
  case h3 => omega
  case h4 => omega
  case h5 =>
    intro gd cd w5 hd hat hoth hb5
    have hle := hb5.size
    simp at hle hat
    have hds : DS w w5 gq gr gd cd (List.replicate ba.length 0) (List.replicate (ws.length + 1) 0) (ws ++ [0]) := by
      have e1 : w5.heap[gq]? = (w3.alloc (.cells #[.int .i64 0] 3)).heap[gq]? := hoth gq (by omega) (by omega)
      have e2 : w5.heap[gr]? = (w3.alloc (.cells #[.int .i64 0] 3)).heap[gr]? := hoth gr (by omega) (by omega)
      have hxa : Ext w (w3.alloc (.cells #[.int .i64 0] 3)) := HX.out.trans (Ext.alloc _ _)
      have hx5 : Below w.heap.size (w3.alloc (.cells #[.int .i64 0] 3)) w5 := ⟨hb5.os, hb5.tape, hb5.output, hb5.size, fun j hj => hoth j (by omega) (by omega)⟩
      exact ⟨e1.trans (HQ.out.alloc _), e2.trans (HR.out.alloc _), hd, Below.trans hxa hx5, by omega, by omega, by omega, hgq, by omega⟩
    have HDL : Hid ((ws ++ [0]).length = ws.length + 1) := by show _ = _; simp
    have HDV : Hid (Valid B15 (ws ++ [0])) := valid_append.2 ⟨HV.out, by unfold Valid B15; simp⟩
    have HDE : Hid (val B15 (ws ++ [0]) = b) := by show _ = _; rw [val_snoc, HE.out]; omega
    have HFIT : Hid (2 * b ≤ B15 ^ (ws.length + 1)) := by
      have h1 := val_lt HV.out
      rw [HE.out] at h1
      have h2 : B15 ^ ws.length * 2 ≤ B15 ^ ws.length * B15 := Nat.mul_le_mul_left _ (by unfold B15; omega)
      show _ ≤ _
      rw [Nat.pow_succ]; omega
    have hdo : DOut a b (ws.length + 1) ba.length (List.replicate ba.length 0) (List.replicate (ws.length + 1) 0) := by
      refine ⟨by simp, valid_replicate (by omega) _, valid_replicate (by unfold B15; omega) _, by rw [val_replicate]; exact hb0, ?_, by simp, by simp⟩
      rw [HN.out, val_replicate]; simp [val]
    have HDS := Lib.hid hds
    have HDO := Lib.hid hdo
    clear hds hdo hd hat hoth hb5 hle HX HR HQ HV HE HOWN hgr0 hqlt hwlt hgw hgr HN
    generalize ws ++ [0] = ds at *
    generalize ws.length = m at *
    go_wp2_with fail
    go_loopw [10] (fun i wr => ∃ (k : Nat) (qs rs : List Nat), i = .int .i64 ((k : Int) - 1) ∧ k ≤ ba.length ∧ qs.length = ba.length ∧ DS w wr gq gr gd cd qs rs ds ∧ DOut a b (m + 1) k qs rs) (fun i _ => (intOf i + 1).toNat)
    case atStart => exact ⟨ba.length, _, _, rfl, Nat.le_refl _, by simp, HDS.out, HDO.out⟩
    case round =>
      clear HDS HDO
      obtain ⟨k, qs, rs, rfl, hk, hql, hds, hdo⟩ := hrel
      by_cases hk0 : k = 0
      · subst hk0
        obtain ⟨hv1, hv2⟩ := dm_end hdo
        obtain ⟨hl, hvq, hvr, _⟩ := hdo
        have hmq : qs.length ≤ maxLen := by rw [hql]; unfold maxLen; omega
        obtain ⟨ht, hbn⟩ := trim_own (Own.of_row' (ds := qs) hds.q hds.bq hmq rfl List.take_length) hvq hv1
        have hrd := hds.r.rd rs.length
        rw [List.take_length] at hrd
        have htb := rbits_any (c := rs.length) hrd hvr hv2 (by omega)
        have hx := hds.ext
        rw [hl] at htb
        rw [hql] at ht hbn
        have HT := Lib.hid ht
        have HB := Lib.hid hbn
        have HTB := Lib.hid htb
        clear hds hl hvq hvr hmq ht hbn hrd htb hv1 hv2
        go_wp2_with fail
        refine HT.out.mono ?_
        rintro e w' ⟨rfl, rfl⟩
        go_wp2_with fail
        refine HTB.out.mono ?_
        rintro e w' ⟨A, c, rfl, hb, hx4⟩
        go_wp2_with fail
        go_ret2
        exact ⟨_, _, _, _, rfl, HB.out.ext hx4, hb, hx.trans hx4⟩
      · obtain ⟨k, rfl⟩ : ∃ k', k = k' + 1 := ⟨k - 1, by omega⟩
        clear hk0
        have hki : (((k + 1 : Nat) : Int) - 1) = (k : Int) := by omega
        rw [hki]
        have HKI := Lib.hid hki
        clear hki
        obtain ⟨b1, o1, rfl, hb1, hc1⟩ := (HA.out.below hds.ext).at_ (j := k) (by omega)
        rw [HG.out k (by omega)] at hc1
        have hbt := bitN_lt a k
        have hfit : 2 * val B15 rs + bitN a k < B15 ^ (m + 1) := by have := hdo.2.2.2.1; have := HFIT.out; omega
        have HF := Lib.hid hfit
        have HO := Lib.hid hdo
        have HD := Lib.hid hds
        have hin : Hid (DDbl rs (m + 1) (bitN a k) 0 (bitN a k) rs) := ⟨hdo.1, hdo.2.2.1, by omega, rfl, by simp [val]⟩
        have HRL := Lib.hid hdo.1
        clear hds hdo hfit
        generalize hbe : bitN a k = bt at hc1 hbt HF hin
        have HBE := Lib.hid hbe
        clear hbe
        go_wp2_with fail
        obtain ⟨wo, rfl⟩ : ∃ wo : World, wo = wr := ⟨_, rfl⟩
        go_loopw [11, 12] (fun cv jv wr => ∃ (j cc : Nat) (zs : List Nat), j ≤ m + 1 ∧ jv = .int .i64 j ∧ cv = .int .i64 cc ∧ DS w wr gq gr gd cd qs zs ds ∧ DDbl rs (m + 1) bt j cc zs) (fun _ jv _ => m + 1 - (intOf jv).toNat)
        case atStart => exact ⟨0, bt, rs, Nat.zero_le _, rfl, rfl, HD.out, hin.out⟩
        case round =>
          clear hin HD hc1 hb1
          obtain ⟨j, cc, zs, hj, rfl, rfl, hds, hdb⟩ := hrel
          by_cases hjl : j < m + 1
          · obtain ⟨x, hgx, hx, hcc, hstep⟩ := hdb.step hjl HRL.out
            have hcell := hds.r.cell' hgx
            have hfr := hds.r.frozen j
            have hgl := hds.r.lt
            have HS : Hid (∀ e : Int, e = (((2 * x + cc) % 32768 : Nat) : Int) → ∃ zs', DS w (wr.setCell ⟨gr, j, none⟩ (.int .i64 e)) gq gr gd cd qs zs' ds ∧ DDbl rs (m + 1) bt (j + 1) ((2 * x + cc) / 32768) zs') :=
              fun e he => by subst he; exact ⟨_, hds.setR _ _, hstep⟩
            clear hds hdb hstep hgx
            go_wp2_with fail
            go_roundw
            case rel =>
              obtain ⟨zs', h1, h2⟩ := HS.out _ (by go_num)
              exact ⟨j + 1, (2 * x + cc) / 32768, zs', by omega, by go_num, by go_num, h1, h2⟩
            case measure => simp [intOf]; omega
          · have hje : j = m + 1 := by omega
            have hdb' : DDbl rs (m + 1) bt (m + 1) cc zs := by rw [hje] at hdb; exact hdb
            obtain ⟨hzl, hzv, hze⟩ := hdb'.close HRL.out HF.out
            rw [← HBE.out] at hze
            have HZL := Lib.hid hzl
            have HZV := Lib.hid hzv
            have HZE := Lib.hid hze
            have HD2 : Hid (∀ n, DS w (wr.drewN n) gq gr gd cd qs zs ds) := fun n => hds.drewN n
            have HRC : Hid (∀ i x : Nat, zs[i]? = some x → wr.cell? ⟨gr, i, none⟩ = some (.int .i64 (x : Int))) := fun i x h => hds.r.cell' h
            have HDC : Hid (∀ i x : Nat, ds[i]? = some x → wr.cell? ⟨gd, i, none⟩ = some (.int .i64 (x : Int))) := fun i x h => hds.dcell' h
            have HQ1 : Hid (∀ n, DS w ((wr.drewN n).setCell ⟨gq, k, none⟩ (.int .i64 1)) gq gr gd cd (qs.set k 1) zs ds) := fun n => (hds.drewN n).setQ k 1
            obtain ⟨q0, hqc⟩ := hds.q.some_ (i := k) (by omega)
            have hqf := hds.q.frozen k
            have hqlt := hds.q.lt
            clear hds hdb hdb' hje hzl hzv hze HF HRL HFIT
            go_wp2_with fail
            clear hj hjl
            obtain ⟨wi, rfl⟩ : ∃ wi : World, wi = wr := ⟨_, rfl⟩
            go_loopw [14] (fun kv wr => ∃ (j nq : Nat), kv = .int .i64 j ∧ j ≤ m ∧ zs.drop (j + 1) = ds.drop (j + 1) ∧ wr = wi.drewN nq) (fun kv _ => (intOf kv).toNat)
            case atStart => exact ⟨m, 0, by go_num, Nat.le_refl _, by rw [List.drop_of_length_le (by rw [HZL.out]; omega), List.drop_of_length_le (by rw [HDL.out]; omega)], rfl⟩
            case round =>
              obtain ⟨j, nq, rfl, hjm, hdr, rfl⟩ := hrel
              have hjz : j < zs.length := by rw [HZL.out]; omega
              have hjd : j < ds.length := by rw [HDL.out]; omega
              obtain ⟨x, hxe⟩ : ∃ x, x = zs[j] := ⟨_, rfl⟩
              obtain ⟨y, hye⟩ : ∃ y, y = ds[j] := ⟨_, rfl⟩
              have HLT : Hid (x < y → val B15 zs < val B15 ds) := fun h => val_lt_of_digit HZV.out j hjz hjd (by omega) hdr
              have HGT : Hid (y < x → val B15 ds < val B15 zs) := fun h => val_lt_of_digit HDV.out j hjd hjz (by omega) hdr.symm
              have HEQ : Hid (x = y → zs.drop j = ds.drop j) := fun h => by
                rw [List.drop_eq_getElem_cons hjz, List.drop_eq_getElem_cons hjd, ← hxe, ← hye, h, hdr]
              have hrc := HRC.out j x (by rw [List.getElem?_eq_getElem hjz, hxe])
              have hdc := HDC.out j y (by rw [List.getElem?_eq_getElem hjd, hye])
              have hrb : x < 32768 := by have : zs[j] < 32768 := valid_get HZV.out j hjz; omega
              have hdb : y < 32768 := by have : ds[j] < 32768 := valid_get HDV.out j hjd; omega
              clear hdr HRC HDC hxe hye hjz hjd
              by_cases hj0 : j = 0
              · subst hj0
                by_cases hlt3 : x < y
                · have HO2 : Hid (DOut a b (m + 1) k qs zs) := DOut.skip HO.out HZL.out HZV.out HZE.out (by rw [← HDE.out]; exact HLT.out hlt3)
                  clear HLT HGT HEQ
                  go_wp2_with fail
                  go_quiet (fail)
                  go_wp2_with fail
                  go_quiet (fail)
                  go_wp2_with fail
                  go_roundw
                  case rel => exact ⟨k, qs, zs, by go_num, by omega, hql, HD2.out _, HO2.out⟩
                  case measure => simp [intOf]
                · have HGE : Hid (val B15 ds ≤ val B15 zs) := by
                    show _ ≤ _
                    rcases Nat.lt_or_ge y x with h | h
                    · exact Nat.le_of_lt (HGT.out h)
                    · have := HEQ.out (by omega)
                      simp only [List.drop_zero] at this
                      rw [this]; exact Nat.le_refl _
                  have hq1 := hqc
                  clear HLT HGT HEQ
                  go_wp2_with fail
                  go_quiet (fail)
                  go_wp2_with fail
                  go_quiet (fail)
                  go_wp2_with fail
                  go_loopw [15, 16] (fun bv jv wr => ∃ (j cc : Nat) (ys : List Nat), j ≤ m + 1 ∧ jv = .int .i64 j ∧ bv = .int .i64 cc ∧ DS w wr gq gr gd cd (qs.set k 1) ys ds ∧ DSub zs ds (m + 1) j cc ys) (fun _ jv _ => m + 1 - (intOf jv).toNat)
                  case atStart => exact ⟨0, 0, zs, Nat.zero_le _, rfl, rfl, HQ1.out _, HZL.out, HZV.out, by omega, rfl, by simp [val]⟩
                  case round =>
                    clear HQ1
                    obtain ⟨j2, cc, ys, hj2, rfl, rfl, hds3, hsub⟩ := hrel
                    by_cases hjl : j2 < m + 1
                    · obtain ⟨x2, y2, hgx, hgy, hx2, hy2, hcc, hle2, hgt2⟩ := hsub.step hjl HZL.out HDL.out HDV.out
                      have hcell3 := hds3.r.cell' hgx
                      have hdcell3 := hds3.dcell' hgy
                      have hfr3 := hds3.r.frozen j2
                      have hgr3 := hds3.r.lt
                      by_cases hb : y2 + cc ≤ x2
                      · have HS : Hid (∀ n (e : Int), e = ((x2 - y2 - cc : Nat) : Int) → ∃ ys', DS w ((wr.drewN n).setCell ⟨gr, j2, none⟩ (.int .i64 e)) gq gr gd cd (qs.set k 1) ys' ds ∧ DSub zs ds (m + 1) (j2 + 1) 0 ys') :=
                          fun n e he => by subst he; exact ⟨_, (hds3.drewN n).setR _ _, hle2 hb⟩
                        clear hds3 hsub hle2 hgt2 hgx hgy
                        go_wp2_with fail
                        go_quiet (fail)
                        go_wp2_with fail
                        go_roundw
                        case rel =>
                          obtain ⟨ys', h1, h2⟩ := HS.out _ ((x2 : Int) - (y2 : Int) - (cc : Int)) (by omega)
                          exact ⟨j2 + 1, 0, ys', by omega, by go_num, rfl, h1, h2⟩
                        case measure => simp [intOf]; omega
                      · have hb' : x2 < y2 + cc := by omega
                        have HS : Hid (∀ n (e : Int), e = ((x2 + 32768 - y2 - cc : Nat) : Int) → ∃ ys', DS w ((wr.drewN n).setCell ⟨gr, j2, none⟩ (.int .i64 e)) gq gr gd cd (qs.set k 1) ys' ds ∧ DSub zs ds (m + 1) (j2 + 1) 1 ys') :=
                          fun n e he => by subst he; exact ⟨_, (hds3.drewN n).setR _ _, hgt2 hb'⟩
                        clear hds3 hsub hle2 hgt2 hgx hgy
                        go_wp2_with fail
                        go_quiet (fail)
                        go_wp2_with fail
                        go_roundw
                        case rel =>
                          obtain ⟨ys', h1, h2⟩ := HS.out _ ((x2 : Int) - (y2 : Int) - (cc : Int) + 32768) (by omega)
                          exact ⟨j2 + 1, 1, ys', by omega, by go_num, rfl, h1, h2⟩
                        case measure => simp [intOf]; omega
                    · obtain rfl : j2 = m + 1 := by omega
                      obtain ⟨hyl, hyv, hye⟩ := hsub.close HZL.out HDL.out HGE.out
                      have HO2 : Hid (DOut a b (m + 1) k (qs.set k 1) ys) := DOut.hit HO.out hyl hyv HZE.out (by rw [← HDE.out]; exact hye)
                      have HD3 := Lib.hid hds3
                      clear hds3 hsub hyl hyv hye HGE
                      go_wp2_with fail
                      go_roundw
                      case rel => exact ⟨k, qs.set k 1, ys, by go_num, by omega, by simpa using hql, HD3.out, HO2.out⟩
                      case measure => simp [intOf]
              · have hjp : 0 < j := by omega
                by_cases hxy : x = y
                · have HE2 := Lib.hid (HEQ.out hxy)
                  have hxi : decide ((x : Int) = (y : Int)) = true := by simp [hxy]
                  clear HLT HGT HEQ
                  subst hxy
                  go_wp2_with fail
                  go_quiet (fail)
                  go_wp2_with fail
                  go_roundw
                  case rel => exact ⟨j - 1, _, by go_num, by omega, by rw [show j - 1 + 1 = j from by omega]; exact HE2.out, rfl⟩
                  case measure => simp [intOf]; omega
                · have hxi : ((x : Int) == (y : Int)) = false := by simp; omega
                  by_cases hlt3 : x < y
                  · have HO2 : Hid (DOut a b (m + 1) k qs zs) := DOut.skip HO.out HZL.out HZV.out HZE.out (by rw [← HDE.out]; exact HLT.out hlt3)
                    clear HLT HGT HEQ
                    go_wp2_with fail
                    go_quiet (fail)
                    go_wp2_with fail
                    go_quiet (fail)
                    go_wp2_with fail
                    go_roundw
                    case rel => exact ⟨k, qs, zs, by go_num, by omega, hql, HD2.out _, HO2.out⟩
                    case measure => simp [intOf]
                  · have HGE : Hid (val B15 ds ≤ val B15 zs) := Nat.le_of_lt (HGT.out (by omega))
                    have hq1 := hqc
                    clear HLT HGT HEQ
                    go_wp2_with fail
                    go_quiet (fail)
                    go_wp2_with fail
                    go_quiet (fail)
                    go_wp2_with fail
                    go_loopw [15, 16] (fun bv jv wr => ∃ (j cc : Nat) (ys : List Nat), j ≤ m + 1 ∧ jv = .int .i64 j ∧ bv = .int .i64 cc ∧ DS w wr gq gr gd cd (qs.set k 1) ys ds ∧ DSub zs ds (m + 1) j cc ys) (fun _ jv _ => m + 1 - (intOf jv).toNat)
                    case atStart => exact ⟨0, 0, zs, Nat.zero_le _, rfl, rfl, HQ1.out _, HZL.out, HZV.out, by omega, rfl, by simp [val]⟩
                    case round =>
                      clear HQ1
                      obtain ⟨j2, cc, ys, hj2, rfl, rfl, hds3, hsub⟩ := hrel
                      by_cases hjl : j2 < m + 1
                      · obtain ⟨x2, y2, hgx, hgy, hx2, hy2, hcc, hle2, hgt2⟩ := hsub.step hjl HZL.out HDL.out HDV.out
                        have hcell3 := hds3.r.cell' hgx
                        have hdcell3 := hds3.dcell' hgy
                        have hfr3 := hds3.r.frozen j2
                        have hgr3 := hds3.r.lt
                        by_cases hb : y2 + cc ≤ x2
                        · have HS : Hid (∀ n (e : Int), e = ((x2 - y2 - cc : Nat) : Int) → ∃ ys', DS w ((wr.drewN n).setCell ⟨gr, j2, none⟩ (.int .i64 e)) gq gr gd cd (qs.set k 1) ys' ds ∧ DSub zs ds (m + 1) (j2 + 1) 0 ys') :=
                            fun n e he => by subst he; exact ⟨_, (hds3.drewN n).setR _ _, hle2 hb⟩
                          clear hds3 hsub hle2 hgt2 hgx hgy
                          go_wp2_with fail
                          go_quiet (fail)
                          go_wp2_with fail
                          go_roundw
                          case rel =>
                            obtain ⟨ys', h1, h2⟩ := HS.out _ ((x2 : Int) - (y2 : Int) - (cc : Int)) (by omega)
                            exact ⟨j2 + 1, 0, ys', by omega, by go_num, rfl, h1, h2⟩
                          case measure => simp [intOf]; omega
                        · have hb' : x2 < y2 + cc := by omega
                          have HS : Hid (∀ n (e : Int), e = ((x2 + 32768 - y2 - cc : Nat) : Int) → ∃ ys', DS w ((wr.drewN n).setCell ⟨gr, j2, none⟩ (.int .i64 e)) gq gr gd cd (qs.set k 1) ys' ds ∧ DSub zs ds (m + 1) (j2 + 1) 1 ys') :=
                            fun n e he => by subst he; exact ⟨_, (hds3.drewN n).setR _ _, hgt2 hb'⟩
                          clear hds3 hsub hle2 hgt2 hgx hgy
                          go_wp2_with fail
                          go_quiet (fail)
                          go_wp2_with fail
                          go_roundw
                          case rel =>
                            obtain ⟨ys', h1, h2⟩ := HS.out _ ((x2 : Int) - (y2 : Int) - (cc : Int) + 32768) (by omega)
                            exact ⟨j2 + 1, 1, ys', by omega, by go_num, rfl, h1, h2⟩
                          case measure => simp [intOf]; omega
                      · obtain rfl : j2 = m + 1 := by omega
                        obtain ⟨hyl, hyv, hye⟩ := hsub.close HZL.out HDL.out HGE.out
                        have HO2 : Hid (DOut a b (m + 1) k (qs.set k 1) ys) := DOut.hit HO.out hyl hyv HZE.out (by rw [← HDE.out]; exact hye)
                        have HD3 := Lib.hid hds3
                        clear hds3 hsub hyl hyv hye HGE
                        go_wp2_with fail
                        go_roundw
                        case rel => exact ⟨k, qs.set k 1, ys, by go_num, by omega, by simpa using hql, HD3.out, HO2.out⟩
                        case measure => simp [intOf]
section
variable {P : Program} {w : World} {ops : Array Oper} {rest : List Oper} {o : Oper} {a : Act} {Q : Exit → Act → World → Prop}
/-- 'append(s, x...)': the elements of another slice. -/
theorem wpList_appN (hgd : o.guard = none) (s x : Operand) (t : TypeId) (ho : o.op = .call { callee := .builtin .append, args := #[s, x], argTypes := #[t, t] })
    (B : Nat) (e : TypeId) (k : IntKind) (by_ : Nat) (ht : P.underlying t = some (.slice e)) (hi : (P.info? e).map (fun i => (i.zero, i.size, i.bytes)) = some (some (.int k 0), 1, by_)) (hb8 : by_ ≤ 8)
    (A : Option Addr) (c n : Nat) (ds : List Nat) (hn : ds.length = n) (hs : a.eval s = .slice A n c) (hown : Own w B k e A c ds)
    (X : Option Addr) (m c2 : Nat) (es : List Nat) (hm : es.length = m) (hx : a.eval x = .slice X m c2) (hrd : Rd w k X es) (hnz : X = none → c2 = 0)
    (hlen : n + m ≤ 17592186044000) (hB : B ≤ w.heap.size)
    (h : ∀ A' c' w', Own w' B k e A' c' (ds ++ es) → Below B w w' → wpList P ops Q rest (a.put o.dst (.slice A' (n + m) c')) w') : wpList P ops Q (o :: rest) a w := by
  subst hn
  subst hm
  obtain ⟨i, hi1, hz, hsz, hby⟩ := info_parts hi
  cases X with
  | none =>
    have hes : es = [] := by
      cases es with
      | nil => rfl
      | cons y ys => obtain ⟨_, _, h1, _⟩ := hrd 0 (by simp); cases h1
    subst hes
    rw [hnz rfl] at hx
    refine wpList_append_own_none (w := w) hgd s x t ho B e i 1 ht hi1 _ ds.length (nums k ds) hs hown hx ?_
    have := h A c w (by rw [List.append_nil]; exact hown) (Below.refl _ _)
    exact this
  | some ad =>
    refine wpList_append_own w hgd s x t ho B e i (.int k 0) 1 by_ ht hi1 hz hsz hby rfl (by omega) _ ds.length (nums k ds) hs hown ad es.length c2 (nums k es) hx (by simp [nums]) ?_ (nums_one k _) (by unfold maxLen; omega) ?_ hB ?_
    · intro j u hj
      rw [nums_get] at hj
      obtain ⟨dj, hdj, rfl⟩ := Option.map_eq_some_iff.1 hj
      obtain ⟨hlt, hget⟩ := List.getElem?_eq_some_iff.1 hdj
      obtain ⟨b, off, hA, _, hc⟩ := hrd j hlt
      injection hA with hA
      subst hA
      have : (⟨b, off, none⟩ : Addr).add j = ⟨b, off + j, none⟩ := by unfold Addr.add; split <;> simp_all
      rw [this, hc, hget]
    · have : (ds.length + es.length) * by_ ≤ (ds.length + es.length) * 8 := Nat.mul_le_mul_left _ hb8
      omega
    · intro v' w' how hgr hnil
      rw [← nums_append] at how
      have hb : Below B w w' := (Below.refl B w).grown hgr hB (fun k hk => hown.block_ge k hk)
      have hl : ds.length + es.length = (ds ++ es).length := by simp
      rcases how.2 with ⟨hv, hn⟩ | ⟨g', cap, cur, hv, hg', hh, r⟩
      · subst hv
        have e0 : ds ++ es = [] := List.eq_nil_of_length_eq_zero (by rw [← hl]; exact hn)
        have := h none 0 w' (by rw [e0]; exact Own.none_ _ _ _ _) hb
        rw [hn] at this
        exact this
      · subst hv
        have ho : Own w' B k e (some ⟨g', 0, none⟩) cap (ds ++ es) := by
          unfold Own
          rw [← hl]
          exact how
        exact h _ _ w' ho hb
end

theorem zeros_digs {a : Nat} (m : Nat) (ha : a ≠ 0) : List.replicate m 0 ++ digs 2 a = digs 2 (a * 2 ^ m) := by
  have hv : Valid 2 (List.replicate m 0 ++ digs 2 a) := valid_append.2 ⟨valid_replicate (by omega) _, valid_digs (by omega) a⟩
  have he : val 2 (List.replicate m 0 ++ digs 2 a) = a * 2 ^ m := by
    rw [val_append, val_replicate, val_digs (by omega), List.length_replicate, Nat.zero_add, Nat.mul_comm]
  rw [← he, digs_of_val (by omega) hv]
  have h1 := getLast_digs (B := 2) (by omega) a
  intro h2
  have h3 : digs 2 a ≠ [] := fun h => ha (by have := val_digs (B := 2) (by omega) a; rw [h] at this; exact this.symm)
  obtain ⟨es, e, h4⟩ : ∃ es e, digs 2 a = es ++ [e] := ⟨_, _, (List.dropLast_concat_getLast h3).symm⟩
  rw [h4] at h1 h2
  simp at h1 h2
  exact h1 h2
theorem Own.bn {w : World} {B : Nat} {A : Option Addr} {c n : Nat} (h : Own w B .i64 3 A c (digs 2 n)) : BN w A c n := by
  have hle := Own.le h
  unfold maxLen at hle
  refine ⟨Own.rd h, hle.1, by omega, ?_, Own.ty h⟩
  rintro rfl
  rcases Own.form h with ⟨_, h1, _⟩ | ⟨_, _, h1, _⟩
  · exact h1
  · cases h1

theorem down_digs (a k : Nat) : (digs 2 a).drop k = digs 2 (a / 2 ^ k) := by
  have hv := valid_drop (valid_digs (B := 2) (by omega) a) k
  have h1 := val_drop_div (B := 2) (by omega) (valid_digs (B := 2) (by omega) a) k
  rw [val_digs (by omega)] at h1
  rw [← h1, digs_of_val (by omega) hv]
  intro h2
  have h3 := getLast_digs (B := 2) (by omega) a
  rw [List.getLast?_drop] at h2
  split at h2
  · cases h2
  · exact h3 h2

end Go.Proofs.YtehhkeenjlpikaaGreat
