/- Contracts of package cylinderref01 (numbers as lists of bits), first part. -/
import Derived.Test.YtfnmbhjifdfibaaNatA
namespace Go.Proofs.Ytfnmbhjifdfibaa
open Go.RowKit

theorem info_int : (Try.prog.info? 3).map (fun i => (i.zero, i.size, i.bytes)) = some (some (.int .i64 0), 1, 8) := by kernel_rfl

/-- Trim of the reference: as natural's. -/
theorem rtrim_any (A : Option Addr) (c : Nat) (ds : List Nat) (w : World) (hc : ds.length ≤ c) (hn : c ≤ 9223372036854775807) (hr : Rd w .i64 A ds) :
    Calls Try.prog 109 #[.slice A ds.length c] w fun e w' => e = .returned (.slice A (trimL ds).length c) ∧ w = w' := by
  have H := Lib.hid hr
  clear hr
  go_enter Try.func109, Try.ntmps109
  go_wp2
  go_loop [3] (fun i => ∃ k : Nat, k ≤ ds.length ∧ i = .int .i64 k ∧ trimL ds = trimL (ds.take k)) (fun i => (intOf i).toNat)
  case atStart => exact ⟨_, Nat.le_refl _, rfl, by rw [List.take_length]⟩
  case round =>
    obtain ⟨k, hk, rfl, ht⟩ := hrel
    have HT := Lib.hid ht
    clear ht
    by_cases h0 : k = 0
    · subst h0
      go_wp2
      go_ret
      exact ⟨ret_slice (by rw [HT.out]; rfl), rfl⟩
    · have hk1 : k - 1 < ds.length := by omega
      obtain ⟨b, off, rfl, hb, hcell⟩ := H.out (k - 1) hk1
      have hp : 0 < k := by omega
      have HS := Lib.hid (take_snoc' ds (k - 1) hk1)
      go_wp2
      · have hz : (↑ds[k - 1] == (0 : Int)) = true := by assumption
        have hz' : ds[k - 1] = 0 := by simpa using hz
        go_round
        case rel =>
          refine ⟨k - 1, by omega, by go_num, ?_⟩
          have e : k = k - 1 + 1 := by omega
          rw [HT.out]
          conv => lhs; rw [e, HS.out, hz', trimL_snoc_zero]
        case measure => simp [intOf]; omega
      · have hz : (↑ds[k - 1] == (0 : Int)) = false := by assumption
        have hz' : ds[k - 1] ≠ 0 := by simpa using hz
        go_ret
        refine ⟨ret_slice ?_, rfl⟩
        have e : k = k - 1 + 1 := by omega
        rw [HT.out]
        conv => rhs; rw [e, HS.out, trimL_snoc hz', ← HS.out, ← e]
        rw [List.length_take]; omega


/-- A number as its canonical bits in memory. -/
structure BN (w : World) (A : Option Addr) (c n : Nat) : Prop where
  rd : Rd w .i64 A (digs 2 n)
  le : (digs 2 n).length ≤ c
  cap : c ≤ 9223372036854775807
  nz : A = none → c = 0
  ty : ∀ g o s, A = some ⟨g, o, s⟩ → ∃ cur fr, w.heap[g]? = some (.cells cur 3 fr)
/-- The number of bits. -/
def bl (n : Nat) : Nat := (digs 2 n).length
theorem BN.ext {w w' : World} {A : Option Addr} {c n : Nat} (h : BN w A c n) (hx : Ext w w') : BN w' A c n :=
  ⟨h.rd.below hx, h.le, h.cap, h.nz, fun g o s e => by
    obtain ⟨cur, fr, hh⟩ := h.ty g o s e
    exact ⟨cur, fr, (hx.block g (Array.getElem?_eq_some_iff.1 hh).1).trans hh⟩⟩
theorem Own.ty {w : World} {B c : Nat} {k : IntKind} {T : TypeId} {A : Option Addr} {ds : List Nat} (h : Own w B k T A c ds) (g o : Nat) (s : Option Nat) (e : A = some ⟨g, o, s⟩) : ∃ cur fr, w.heap[g]? = some (.cells cur T fr) := by
  rcases Own.form h with ⟨h1, _⟩ | ⟨g', cur, h1, _, hh, _⟩
  · rw [h1] at e; cases e
  · rw [h1] at e
    injection e with e
    injection e with e1
    subst e1
    exact ⟨cur, _, hh⟩
/-- The call returns the number n as bits, and changes nothing. -/
def RetB (w : World) (n : Nat) (e : Ending) (w' : World) : Prop := ∃ A c, e = .returned (.slice A (digs 2 n).length c) ∧ BN w' A c n ∧ Ext w w'

theorem trim_own {w : World} {B c : Nat} {A : Option Addr} {ds : List Nat} {n : Nat} (h : Own w B .i64 3 A c ds) (hv : Valid 2 ds) (hn : val 2 ds = n) :
    Calls Try.prog 109 #[.slice A ds.length c] w (fun e w' => e = .returned (.slice A (digs 2 n).length c) ∧ w = w') ∧ BN w A c n := by
  have ht : trimL ds = digs 2 n := by rw [trimL_digs (by omega) hv, hn]
  have hle := Own.le h
  unfold maxLen at hle
  have hr := Own.rd h
  have hnz : A = none → c = 0 := by
    rintro rfl
    rcases Own.form h with ⟨_, h1, _⟩ | ⟨_, _, h1, _⟩
    · exact h1
    · cases h1
  refine ⟨by rw [← ht]; exact rtrim_any A c ds w hle.1 (by omega) hr, ?_, ?_, by omega, hnz, Own.ty h⟩
  · rw [← ht, ← trimL_take]; exact hr.take _
  · rw [← ht]; have := trimL_le ds; omega

theorem rof_any {w : World} {A : Option Addr} {c : Nat} {ds : List Nat} (h : NR w A c ds) (hs : ds.length ≤ 274877906944) :
    Calls Try.prog 71 #[.slice A ds.length c] w (RetB w (V ds)) := by
  have HV := Lib.hid h.valid
  have HR := Lib.hid h.rd
  clear h
  have hB : w.heap.size ≤ w.heap.size := Nat.le_refl _
  go_enter Try.func71, Try.ntmps71
  go_wp2_with fail
  go_loopw [3, 4] (fun v i wr => ∃ (k : Nat) (A' : Option Addr) (c' : Nat), k ≤ 32 * ds.length ∧ i = .int .i64 k ∧ v = .slice A' k c' ∧ Own wr w.heap.size .i64 3 A' c' (bitsUpto (V ds) k) ∧ Ext w wr) (fun _ i _ => 32 * ds.length - (intOf i).toNat)
  case atStart => exact ⟨0, none, 0, Nat.zero_le _, rfl, rfl, Own.none_ _ _ _ _, Ext.refl _⟩
  case round =>
    obtain ⟨k, A', c', hk, rfl, rfl, hown, hext⟩ := hrel
    by_cases hlt : k < 32 * ds.length
    · have hq : k / 32 < ds.length := by omega
      obtain ⟨b1, o1, rfl, hb1, hc1⟩ := (HR.out.below hext).at_ (j := k / 32) hq
      have hx : ds[k / 32] < 4294967296 := valid_get HV.out _ hq
      have HB := Lib.hid (bitN_digit HV.out k hq)
      have hbw := hext.size
      have hd0 : (0 : Int) ≤ ((ds[k / 32] : Nat) : Int) / 2 ^ (k % 32) := by
        have e : ((ds[k / 32] / 2 ^ (k % 32) : Nat) : Int) = ((ds[k / 32] : Nat) : Int) / 2 ^ (k % 32) := by simp
        rw [← e]; exact Int.natCast_nonneg _
      have he : ((ds[k / 32] : Nat) : Int) / 2 ^ (k % 32) % 2 = (bitN (V ds) k : Int) := by
        rw [show V ds = val 4294967296 ds from rfl, HB.out]; simp
      have HE := Lib.hid he
      clear he
      go_wp2_with (at_builtin; refine wpList_app1 rfl _ _ _ rfl w.heap.size 3 .i64 8 Try.underlying34 info_int (by omega) A' c' k (bitsUpto (V ds) k) (bitsUpto_length _ _) rfl (hown.below (Ext.alloc _ _)) wr.heap.size (bitN (V ds) k) rfl ?h2 ?h3 ?h4 ?h5)
      case h2 => simp [HE.out]
      case h3 => omega
      case h4 => simp; omega
      case h5 =>
        intro A2 c2 w2 hown2 hb2
        have hx2 : Ext w w2 := Below.trans hext (Below.trans (Below.mono (Ext.alloc wr _) hbw) hb2)
        rw [← bitsUpto_succ] at hown2
        go_wp2_with fail
        go_roundw
        case rel => exact ⟨k + 1, A2, c2, by omega, by go_num, rfl, hown2, hx2⟩
        case measure => simp [intOf]; omega
    · obtain rfl : k = 32 * ds.length := by omega
      have hv : val 2 (bitsUpto (V ds) (32 * ds.length)) = V ds := by
        rw [bitsUpto_val, Nat.pow_mul]
        exact Nat.mod_eq_of_lt (val_lt HV.out)
      obtain ⟨ht, hbn⟩ := trim_own hown (bitsUpto_valid _ _) hv
      rw [bitsUpto_length] at ht
      have HT := Lib.hid ht
      have HN := Lib.hid hbn
      clear hown ht hbn hv
      go_wp2_with fail
      refine HT.out.mono ?_
      rintro e w' ⟨rfl, rfl⟩
      go_wp2_with fail
      go_ret
      exact ⟨_, _, rfl, HN.out, hext⟩

theorem bit_any {w : World} {A : Option Addr} {c n i : Nat} (h : BN w A c n) (_hi : i ≤ 4611686018427387904) :
    Calls Try.prog 113 #[.slice A (digs 2 n).length c, .int .i64 i] w fun e w' => e = .returned (.int .i64 (bitN n i)) ∧ w = w' := by
  have hle := h.le
  have hcap := h.cap
  by_cases hlt : i < (digs 2 n).length
  · obtain ⟨b, o, rfl, hb, hc⟩ := h.rd.at_ hlt
    rw [digs_get hlt] at hc
    clear h
    generalize (digs 2 n).length = L at *
    go_enter Try.func113, Try.ntmps113
    go_wp2_with fail
    go_ret
    exact ⟨rfl, rfl⟩
  · have hz := bitN_zero_of_len (n := n) (i := i) (by omega)
    rw [hz]
    clear h
    generalize (digs 2 n).length = L at *
    go_enter Try.func113, Try.ntmps113
    go_wp2_with fail
    go_ret
    exact ⟨rfl, rfl⟩

theorem few_any {w : World} {g n c : Nat} (lens : List Nat) (hc : ∀ j (h : j < lens.length), ∃ A c, w.cell? ⟨g, j, none⟩ = some (.slice A lens[j] c)) (hl : lens.length ≤ 1000) (hm : ∀ l ∈ lens, l ≤ 9223372036854775807) :
    Calls Try.prog 17 #[.int .i64 n, .slice (some ⟨g, 0, none⟩) lens.length c] w fun e w' => e = .returned (.bool (lens.all fun l => decide (l ≤ n))) ∧ w = w' := by
  have HC := Lib.hid hc
  have HM := Lib.hid hm
  clear hc hm
  have HR : Hid ((∀ l ∈ lens, l ≤ n) → (lens.all fun l => decide (l ≤ n)) = true) := by
    intro h; simpa using h
  have HR2 : Hid (∀ j (h : j < lens.length), n < lens[j] → (lens.all fun l => decide (l ≤ n)) = false) := by
    intro j h hj
    rw [List.all_eq_false]
    exact ⟨_, List.getElem_mem h, by simpa using hj⟩
  generalize (lens.all fun l => decide (l ≤ n)) = R at *
  go_enter Try.func17, Try.ntmps17
  go_wp2_with fail
  go_loop [5] (fun i => ∃ k : Nat, k ≤ lens.length ∧ i = .int .i64 k ∧ ∀ j (h : j < lens.length), j < k → lens[j] ≤ n) (fun i => lens.length - (intOf i).toNat)
  case atStart => exact ⟨0, Nat.zero_le _, rfl, fun j _ h => absurd h (by omega)⟩
  case round =>
    obtain ⟨k, hk, rfl, hd⟩ := hrel
    have HD := Lib.hid hd
    clear hd
    by_cases hlt : k < lens.length
    · obtain ⟨A, c', hcell⟩ := HC.out k hlt
      have hlm := HM.out _ (List.getElem_mem hlt)
      by_cases hx : lens[k] ≤ n
      · have HD2 : Hid (∀ j (h : j < lens.length), j < k + 1 → lens[j] ≤ n) := by
          intro j h hj
          by_cases e : j = k
          · subst e; exact hx
          · exact HD.out j h (by omega)
        generalize lens[k] = l at *
        go_wp2_with fail
        go_round
        case rel => exact ⟨k + 1, by omega, by go_num, HD2.out⟩
        case measure => simp [intOf]; omega
      · have HF := Lib.hid (HR2.out k hlt (by omega))
        have hx' : n < lens[k] := by omega
        clear hx
        generalize lens[k] = l at *
        go_wp2_with fail
        go_ret
        exact ⟨by rw [HF.out]; rfl, rfl⟩
    · have HF : Hid (R = true) := HR.out (by
        intro l hl
        obtain ⟨j, h, rfl⟩ := List.getElem_of_mem hl
        exact HD.out j h (by omega))
      go_wp2_with fail
      go_ret
      exact ⟨by rw [HF.out]; rfl, rfl⟩

theorem Own.set_ {w : World} {B g c : Nat} {k : IntKind} {T : TypeId} {ds : List Nat} (h : Own w B k T (some ⟨g, 0, none⟩) c ds) (i v : Nat) :
    Own (w.setCell ⟨g, i, none⟩ (.int k (v : Int))) B k T (some ⟨g, 0, none⟩) c (ds.set i v) := by
  have h1 := (World.ownsRow.stored h i (.int k (v : Int))).1
  unfold Own
  rw [List.length_set]
  have e : nums k (ds.set i v) = (nums k ds).set i (.int k (v : Int)) := by simp [nums, List.map_set]
  rw [e]
  exact h1
theorem Own.frozen {w : World} {B g c : Nat} {k : IntKind} {T : TypeId} {ds : List Nat} (h : Own w B k T (some ⟨g, 0, none⟩) c ds) (i : Nat) : w.frozen? ⟨g, i, none⟩ = false := by
  rcases h.form with ⟨h0, _⟩ | ⟨g', cur, hA, _, hh, _⟩
  · cases h0
  · injection hA with hA
    injection hA with e
    subst e
    simp [World.frozen?, hh]
theorem Own.at_ {w : World} {B c : Nat} {k : IntKind} {T : TypeId} {A : Option Addr} {ds : List Nat} (h : Own w B k T A c ds) {i : Nat} (hi : i < ds.length) :
    ∃ g, A = some ⟨g, 0, none⟩ ∧ B ≤ g ∧ g < w.heap.size ∧ w.cell? ⟨g, i, none⟩ = some (.int k (ds[i] : Nat)) ∧ w.frozen? ⟨g, i, none⟩ = false := by
  rcases h.form with ⟨_, _, rfl⟩ | ⟨g, cur, rfl, hB, hh, _⟩
  · simp at hi
  · obtain ⟨b, o, hA, hlt, hc⟩ := h.rd i hi
    injection hA with hA
    injection hA with e1 e2
    subst e1 e2
    exact ⟨g, rfl, hB, hlt, by simpa using hc, h.frozen i⟩

/-- What 'To' holds after i bits. -/
def ToInv (w wr : World) (n i : Nat) (A : Option Addr) (c : Nat) (zs : List Nat) : Prop :=
  Own wr w.heap.size .u32 139 A c zs ∧ zs.length = (i + 31) / 32 ∧ Valid B32 zs ∧ val B32 zs = n % 2 ^ i ∧ Ext w wr

theorem to_digit {n i : Nat} {zs : List Nat} (hl : zs.length = i / 32 + 1) (he : val B32 zs = n % 2 ^ i) :
    zs[i / 32] + bitN n i * 2 ^ (i % 32) < 4294967296 ∧ val B32 (zs.set (i / 32) (zs[i / 32] + bitN n i * 2 ^ (i % 32))) = n % 2 ^ (i + 1) := by
  have hB : B32 ^ (i / 32) = 2 ^ (32 * (i / 32)) := by rw [Nat.pow_mul]; rfl
  have hi : 2 ^ i = 2 ^ (32 * (i / 32)) * 2 ^ (i % 32) := by rw [← Nat.pow_add, Nat.div_add_mod]
  have h1 : val B32 zs = val B32 (zs.take (i / 32)) + B32 ^ (i / 32) * zs[i / 32] := by
    rw [← val_take_succ B32 zs (i / 32) (by omega), List.take_of_length_le (by omega)]
  have h2 : val B32 (zs.set (i / 32) (zs[i / 32] + bitN n i * 2 ^ (i % 32))) = val B32 (zs.take (i / 32)) + B32 ^ (i / 32) * (zs[i / 32] + bitN n i * 2 ^ (i % 32)) := by
    have := val_set B32 (zs := zs) (k := i / 32) (v := zs[i / 32] + bitN n i * 2 ^ (i % 32)) (by omega)
    rwa [List.take_of_length_le (by simp; omega)] at this
  have hlt : n % 2 ^ i < 2 ^ i := Nat.mod_lt _ (Nat.two_pow_pos _)
  have hz : zs[i / 32] < 2 ^ (i % 32) := by
    have h3 : 2 ^ (32 * (i / 32)) * zs[i / 32] < 2 ^ (32 * (i / 32)) * 2 ^ (i % 32) := by rw [← hi, ← hB]; omega
    exact Nat.lt_of_mul_lt_mul_left h3
  have hb := bitN_lt n i
  constructor
  · have h4 : 2 ^ (i % 32) ≤ 2 ^ 31 := Nat.pow_le_pow_right (by omega) (by omega)
    have h5 : bitN n i * 2 ^ (i % 32) ≤ 1 * 2 ^ (i % 32) := Nat.mul_le_mul_right _ (by omega)
    omega
  · have e3 : n % 2 ^ (i + 1) = n % 2 ^ i + 2 ^ i * bitN n i := Nat.mod_pow_succ
    have e4 : 2 ^ i * bitN n i = 2 ^ (32 * (i / 32)) * (bitN n i * 2 ^ (i % 32)) := by rw [hi, Nat.mul_assoc, Nat.mul_comm (bitN n i)]
    rw [h2, Nat.mul_add, ← Nat.add_assoc, ← h1, he, e3, e4, hB]

theorem to_close {n : Nat} {zs : List Nat} (hl : zs.length = (bl n + 31) / 32) (hv : Valid B32 zs) (he : val B32 zs = n % 2 ^ bl n) : zs = digs B32 n := by
  have hn : val B32 zs = n := by rw [he]; exact Nat.mod_eq_of_lt (lt_pow_len (by omega) n)
  have h1 := digs_of_val B32_two hv (fun hlast => by
    obtain ⟨es, rfl⟩ : ∃ es, zs = es ++ [0] := List.getLast?_eq_some_iff.1 hlast
    have h2 : val B32 es < B32 ^ es.length := val_lt (valid_append.1 hv).1
    rw [val_snoc, Nat.mul_zero, Nat.add_zero] at hn
    simp at hl
    have h3 : 2 ^ (bl n - 1) ≤ n := pow_le_of_len (by omega) (by unfold bl at *; omega)
    have h4 : B32 ^ es.length ≤ 2 ^ (bl n - 1) := by
      rw [show B32 = 2 ^ 32 from rfl, ← Nat.pow_mul]
      exact Nat.pow_le_pow_right (by omega) (by omega)
    omega)
  rw [← h1, hn]

theorem ToInv.cell {w w2 : World} {n k : Nat} {A : Option Addr} {c : Nat} {zs : List Nat} (hown : Own w2 w.heap.size .u32 139 A c zs) (hl : zs.length = k / 32 + 1) (hv : Valid B32 zs)
    (he : val B32 zs = n % 2 ^ k) (hext : Ext w w2) :
    ∃ g d zs', A = some ⟨g, 0, none⟩ ∧ w.heap.size ≤ g ∧ g < w2.heap.size ∧ w2.cell? ⟨g, k / 32, none⟩ = some (.int .u32 (d : Nat)) ∧ w2.frozen? ⟨g, k / 32, none⟩ = false ∧ d + bitN n k * 2 ^ (k % 32) < 4294967296 ∧
      zs'.length = zs.length ∧ ToInv w (w2.setCell ⟨g, k / 32, none⟩ (.int .u32 ((d + bitN n k * 2 ^ (k % 32) : Nat) : Int))) n (k + 1) (some ⟨g, 0, none⟩) c zs' := by
  obtain ⟨g, rfl, hBg, hglt, hcell, hfr⟩ := hown.at_ (i := k / 32) (by omega)
  obtain ⟨hd1, hd2⟩ := to_digit hl he
  exact ⟨g, _, _, rfl, hBg, hglt, hcell, hfr, hd1, by simp, hown.set_ _ _, by simp; omega, valid_set hv _ _ hd1, hd2, Below.setCell hext (p := ⟨g, k / 32, none⟩) hBg _⟩
theorem ToInv.drew {w w2 : World} {n k : Nat} {A : Option Addr} {c : Nat} {zs : List Nat} (h : ToInv w w2 n k A c zs) : ToInv w w2.drew n k A c zs := ⟨h.1, h.2.1, h.2.2.1, h.2.2.2.1, Below.drew h.2.2.2.2⟩

theorem rtrim_bn {w : World} {A : Option Addr} {c n : Nat} (h : BN w A c n) :
    Calls Try.prog 109 #[.slice A (digs 2 n).length c] w fun e w' => e = .returned (.slice A (digs 2 n).length c) ∧ w = w' := by
  have := rtrim_any A c (digs 2 n) w h.le h.cap h.rd
  rwa [trimL_digs (by omega) (valid_digs (by omega) n), val_digs (by omega)] at this

/-- The call returns the digits of n in new memory. -/
def RetT (w : World) (n : Nat) (e : Ending) (w' : World) : Prop := ∃ A c, e = .returned (.slice A (digs B32 n).length c) ∧ Rd w' .u32 A (digs B32 n) ∧ (digs B32 n).length ≤ c ∧ c ≤ 9223372036854775807 ∧ Ext w w'

theorem to_any {w : World} {A : Option Addr} {c n : Nat} (h : BN w A c n) (hs : bl n ≤ 8796093022208) :
    Calls Try.prog 114 #[.slice A (digs 2 n).length c] w (RetT w n) := by
  have ht := rtrim_bn h
  have hr := h.rd
  unfold bl at hs
  have HG : Hid (∀ i (hi : i < (digs 2 n).length), (digs 2 n)[i] = bitN n i) := fun i hi => digs_get hi
  have HC : Hid (∀ zs : List Nat, zs.length = ((digs 2 n).length + 31) / 32 → Valid B32 zs → val B32 zs = n % 2 ^ (digs 2 n).length → zs = digs B32 n) := fun zs h1 h2 h3 => to_close h1 h2 h3
  clear h
  generalize digs 2 n = bs at *
  have HR := Lib.hid hr
  clear hr
  go_enter Try.func114, Try.ntmps114
  go_wp2_with fail
  refine ht.mono ?_
  rintro e w' ⟨rfl, rfl⟩
  clear ht
  go_wp2_with fail
  go_loopw [3, 4] (fun v i wr => ∃ (k : Nat) (A' : Option Addr) (c' : Nat) (zs : List Nat), k ≤ bs.length ∧ i = .int .i64 k ∧ v = .slice A' zs.length c' ∧ ToInv w wr n k A' c' zs) (fun _ i _ => bs.length - (intOf i).toNat)
  case atStart => exact ⟨0, none, 0, [], Nat.zero_le _, rfl, rfl, Own.none_ _ _ _ _, rfl, valid_nil _, by simp [val, Nat.mod_one], Ext.refl _⟩
  case round =>
    obtain ⟨k, A', c', zs, hk, rfl, rfl, hown, hl, hv, he, hext⟩ := hrel
    by_cases hlt : k < bs.length
    · obtain ⟨b1, o1, rfl, hb1, hc0⟩ := HR.out.at_ (j := k) hlt
      rw [HG.out k hlt] at hc0
      have hc1 := hext.cell hc0
      have hbw := hext.size
      have hbit := bitN_lt n k
      by_cases hm : k % 32 = 0
      · have hm1 : (((k : Int) % 32) == 0) = true := by simp; omega
        have HE := Lib.hid he
        have HV := Lib.hid hv
        have hlz : zs.length ≤ 17592186044000 := by omega
        have hlz2 : zs.length = k / 32 := by omega
        have HLZ := Lib.hid hlz2
        clear hl he hv hm hlz2
        go_wp2_with (at_builtin; refine wpList_app1 rfl _ _ _ rfl w.heap.size 139 .u32 4 Try.underlying22 info_u32 (by omega) A' c' zs.length zs rfl rfl (hown.below (Ext.alloc _ _)) wr.heap.size 0 rfl ?h2 ?h3 ?h4 ?h5)
        case h2 => simp
        case h3 => omega
        case h4 => simp; omega
        case h5 =>
          intro A2 c2 w2 hown2 hb2
          have hx2 : Ext w w2 := Below.trans hext (Below.trans (Below.mono (Ext.alloc wr _) hbw) hb2)
          go_wp2_with fail
          have hlen : zs.length + 1 = (zs ++ [0]).length := by simp
          rw [hlen]
          have hl1 : (zs ++ [0]).length = k / 32 + 1 := by simp [HLZ.out]
          have hv1 : Valid B32 (zs ++ [0]) := valid_append.2 ⟨HV.out, by intro d hd; simp at hd; subst hd; unfold B32; omega⟩
          have he1 : val B32 (zs ++ [0]) = n % 2 ^ k := by rw [val_snoc, HE.out]; simp
          clear hown hc1 hlen
          have hc2 : w2.cell? ⟨b1, o1 + k, none⟩ = some (.int .i64 (bitN n k : Int)) := hx2.cell hc0
          obtain ⟨g, d, zs', rfl, hBg, hglt, hcell, hfr, hd1, hlz', hinv⟩ := ToInv.cell hown2 hl1 hv1 he1 hx2
          have hz1 : (k : Int) / 32 < ((zs ++ [0]).length : Int) := by omega
          have hz2 : (0 : Int) ≤ (k : Int) / 32 := by omega
          have hz3 : IntKind.i64.wrap ((k : Int) / 32) = (k : Int) / 32 := IntWalk.i64_in _ (by omega)
          have hz4 : ((k : Int) / 32).toNat = k / 32 := by omega
          have HI := Lib.hid hinv.drew
          have HL' := Lib.hid hlz'
          clear hc0 hl1 he1 hv1 hown2 hlz' hinv
          generalize zs ++ [0] = zs1 at *
          generalize bitN n k = bt at *
          have hval : ((d : Int) + (bt : Int) * 2 ^ (k % 32)) % 4294967296 = ((d + bt * 2 ^ (k % 32) : Nat) : Int) := by
            rw [← Int.emod_eq_of_lt (a := ((d + bt * 2 ^ (k % 32) : Nat) : Int)) (b := 4294967296) (by omega) (by omega)]
            simp
          have HVAL := Lib.hid hval
          clear hval
          go_region
          rw [HVAL.out]
          clear hd1 hz2 hz3 hz4 hcell hfr
          go_wp2_with fail
          go_roundw
          case rel => exact ⟨k + 1, _, c2, zs', by omega, by go_num, by rw [HL'.out], HI.out⟩
          case measure => simp [intOf]; omega
      · have hm1 : (((k : Int) % 32) == 0) = false := by simp; omega
        have hl1 : zs.length = k / 32 + 1 := by omega
        have hv1 := hv
        have he1 := he
        have HL1 := Lib.hid hl1
        have HE := Lib.hid he
        clear hl he hv hm hl1 he1
        go_wp2_with fail
        obtain ⟨w2, rfl⟩ : ∃ w2 : World, w2 = wr := ⟨_, rfl⟩
        obtain ⟨c2, rfl⟩ : ∃ c2 : Nat, c2 = c' := ⟨_, rfl⟩
        have hx2 := hext
        have hl1 := HL1.out
        have he1 := HE.out
        clear hc1
        have hc2 : w2.cell? ⟨b1, o1 + k, none⟩ = some (.int .i64 (bitN n k : Int)) := hx2.cell hc0
        obtain ⟨g, d, zs', rfl, hBg, hglt, hcell, hfr, hd1, hlz', hinv⟩ := ToInv.cell hown hl1 hv1 he1 hx2
        have hz1 : (k : Int) / 32 < ((zs).length : Int) := by omega
        have hz2 : (0 : Int) ≤ (k : Int) / 32 := by omega
        have hz3 : IntKind.i64.wrap ((k : Int) / 32) = (k : Int) / 32 := IntWalk.i64_in _ (by omega)
        have hz4 : ((k : Int) / 32).toNat = k / 32 := by omega
        have HI := Lib.hid hinv.drew
        have HL' := Lib.hid hlz'
        clear hc0 hl1 he1 hv1 hown hlz' hinv
        generalize zs = zs1 at *
        generalize bitN n k = bt at *
        have hval : ((d : Int) + (bt : Int) * 2 ^ (k % 32)) % 4294967296 = ((d + bt * 2 ^ (k % 32) : Nat) : Int) := by
          rw [← Int.emod_eq_of_lt (a := ((d + bt * 2 ^ (k % 32) : Nat) : Int)) (b := 4294967296) (by omega) (by omega)]
          simp
        have HVAL := Lib.hid hval
        clear hval
        go_region
        rw [HVAL.out]
        clear hd1 hz2 hz3 hz4 hcell hfr
        go_wp2_with fail
        go_roundw
        case rel => exact ⟨k + 1, _, c2, zs', by omega, by go_num, by rw [HL'.out], HI.out⟩
        case measure => simp [intOf]; omega
    · obtain rfl : k = bs.length := by omega
      have hz := HC.out zs hl hv he
      have HZ := Lib.hid hz
      have hr := Own.rd hown
      have hle := Own.le hown
      unfold maxLen at hle
      rw [hz] at hr hle
      clear hown hl hv he hz
      go_wp2_with fail
      go_ret
      exact ⟨_, _, by rw [← HZ.out]; rfl, hr, hle.1, by omega, hext⟩

theorem is_any {w : World} {A1 A2 : Option Addr} {c1 c2 n : Nat} {ds : List Nat} (h1 : NR w A1 c1 ds) (h2 : BN w A2 c2 n) (hs : bl n ≤ 8796093022208) :
    Calls Try.prog 80 #[.slice A1 ds.length c1, .slice A2 (digs 2 n).length c2] w fun e w' => e = .returned (.bool (decide (ds = digs B32 n))) ∧ Ext w w' := by
  have ht := to_any h2 hs
  clear h2
  have HR1 := Lib.hid h1.rd
  have l1 := h1.le
  have l2 := h1.cap
  clear h1
  unfold RetT at ht
  generalize digs B32 n = dd at *
  have HR : Hid (ds.length = dd.length → (∀ j (h : j < ds.length) (h' : j < dd.length), ds[j] = dd[j]) → decide (ds = dd) = true) := by
    intro hl h
    simp only [decide_eq_true_eq]
    exact List.ext_getElem hl h
  have HR2 : Hid (∀ j (h : j < ds.length) (h' : j < dd.length), ds[j] ≠ dd[j] → decide (ds = dd) = false) := by
    intro j h h' hne
    simp only [decide_eq_false_iff_not]
    intro e; subst e; exact hne rfl
  have HR3 : Hid (ds.length ≠ dd.length → decide (ds = dd) = false) := by
    intro hne
    simp only [decide_eq_false_iff_not]
    intro e; subst e; exact hne rfl
  generalize decide (ds = dd) = R at *
  by_cases hll : ds.length = dd.length
  · have hb : (((ds.length : Nat) : Int) != ((dd.length : Nat) : Int)) = false := by simp [hll]
    have HLL := Lib.hid hll
    clear hll
    go_enter Try.func80, Try.ntmps80
    go_wp2_with fail
    refine ht.mono ?_
    rintro e w1 ⟨A, c, rfl, hr, hle, hcap, hx⟩
    clear ht
    have HR4 := Lib.hid hr
    clear hr
    go_wp2_with fail
    go_loopw [6] (fun i wr => ∃ k : Nat, k ≤ ds.length ∧ i = .int .i64 k ∧ (∀ j (h : j < ds.length) (h' : j < dd.length), j < k → ds[j] = dd[j]) ∧ Ext w1 wr) (fun i _ => ds.length - (intOf i).toNat)
    case atStart => exact ⟨0, Nat.zero_le _, rfl, fun j _ _ h => absurd h (by omega), Ext.refl _⟩
    case round =>
      obtain ⟨k, hk, rfl, hd, hext⟩ := hrel
      have HD := Lib.hid hd
      clear hd
      by_cases hlt : k < ds.length
      · have hlt2 : k < dd.length := by have := HLL.out; omega
        obtain ⟨b1, o1, rfl, hb1, hc1⟩ := ((HR1.out.below hx).below hext).at_ hlt
        obtain ⟨b2, o2, rfl, hb2, hc2⟩ := (HR4.out.below hext).at_ hlt2
        by_cases he : ds[k] = dd[k]
        · have HD2 : Hid (∀ j (h : j < ds.length) (h' : j < dd.length), j < k + 1 → ds[j] = dd[j]) := by
            intro j h h' hj
            by_cases e : j = k
            · subst e; exact he
            · exact HD.out j h h' (by omega)
          have hne : (((ds[k] : Nat) : Int) != ((dd[k] : Nat) : Int)) = false := by simp [he]
          clear he
          generalize ds[k] = x at *
          generalize dd[k] = y at *
          go_wp2_with fail
          go_quiet (fail)
          go_wp2_with fail
          go_roundw
          case rel => exact ⟨k + 1, by omega, by go_num, HD2.out, hext.trans (Qt.ext ⟨_, rfl⟩)⟩
          case measure => simp [intOf]; omega
        · have HF := Lib.hid (HR2.out k hlt hlt2 he)
          have hne : (((ds[k] : Nat) : Int) != ((dd[k] : Nat) : Int)) = true := by simp; omega
          clear he
          generalize ds[k] = x at *
          generalize dd[k] = y at *
          go_wp2_with fail
          go_quiet (fail)
          go_wp2_with fail
          go_ret
          exact ⟨by rw [HF.out]; rfl, (hx.trans hext).trans (Qt.ext ⟨_, rfl⟩)⟩
      · have HF : Hid (R = true) := HR.out HLL.out (fun j h h' => HD.out j h h' (by omega))
        go_wp2_with fail
        go_ret
        exact ⟨by rw [HF.out]; rfl, hx.trans hext⟩
  · have hb : (((ds.length : Nat) : Int) != ((dd.length : Nat) : Int)) = true := by simp; omega
    have HF := Lib.hid (HR3.out hll)
    clear hll
    go_enter Try.func80, Try.ntmps80
    go_wp2_with fail
    refine ht.mono ?_
    rintro e w1 ⟨A, c, rfl, hr, hle, hcap, hx⟩
    go_wp2_with fail
    go_ret
    exact ⟨by rw [HF.out]; rfl, hx⟩
end Go.Proofs.Ytfnmbhjifdfibaa
