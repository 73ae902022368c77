/- Contracts of package cylinderref01 (numbers as lists of bits), second part: comparison, sum, difference, shifts. -/
import Derived.Test.YtfnmbhjifdfibaaRefA
namespace Go.Proofs.Ytfnmbhjifdfibaa
open Go.RowKit

theorem div_pow_succ (a k : Nat) : a / 2 ^ k = 2 * (a / 2 ^ (k + 1)) + bitN a k := by
  unfold bitN
  rw [Nat.pow_succ, ← Nat.div_div_eq_div_mul]
  omega
theorem cmp_bits {a b k : Nat} (h : a / 2 ^ (k + 1) = b / 2 ^ (k + 1)) (hne : bitN a k ≠ bitN b k) : (bitN a k : Int) - (bitN b k : Int) = cmpN a b := by
  have h1 := div_pow_succ a k
  have h2 := div_pow_succ b k
  have h3 := bitN_lt a k
  have h4 := bitN_lt b k
  rcases Nat.lt_or_ge (bitN a k) (bitN b k) with hl | hl
  · have : a < b := by
      rcases Nat.lt_or_ge a b with h5 | h5
      · exact h5
      · have := Nat.div_le_div_right (c := 2 ^ k) h5; omega
    rw [cmpN_lt this]; omega
  · have : b < a := by
      rcases Nat.lt_or_ge b a with h5 | h5
      · exact h5
      · have := Nat.div_le_div_right (c := 2 ^ k) h5; omega
    rw [cmpN_gt this]; omega

theorem rcmp_any {w : World} {A1 A2 : Option Addr} {c1 c2 a b : Nat} (h1 : BN w A1 c1 a) (h2 : BN w A2 c2 b) (hs1 : bl a ≤ 8796093022208) (hs2 : bl b ≤ 8796093022208) :
    Calls Try.prog 79 #[.slice A1 (digs 2 a).length c1, .slice A2 (digs 2 b).length c2] w fun e w' => e = .returned (.int .i64 (cmpN a b)) ∧ w = w' := by
  have hb1 : ∀ i : Nat, i ≤ 4611686018427387904 → _ := fun i hi => bit_any h1 (i := i) hi
  have hb2 : ∀ i : Nat, i ≤ 4611686018427387904 → _ := fun i hi => bit_any h2 (i := i) hi
  have HB1 := Lib.hid hb1
  have HB2 := Lib.hid hb2
  unfold bl at hs1 hs2
  have l1 := lt_pow_len (B := 2) (by omega) a
  have l2 := lt_pow_len (B := 2) (by omega) b
  clear h1 h2 hb1 hb2
  generalize (digs 2 a).length = la at *
  generalize (digs 2 b).length = lb at *
  rcases Nat.lt_or_ge la lb with hl | hl
  · have HA : Hid (a / 2 ^ lb = b / 2 ^ lb) := by
      show _ = _
      have p1 : 2 ^ la ≤ 2 ^ lb := Nat.pow_le_pow_right (by omega) (by omega)
      have p2 : 2 ^ lb ≤ 2 ^ lb := Nat.pow_le_pow_right (by omega) (by omega)
      rw [Nat.div_eq_of_lt (by omega), Nat.div_eq_of_lt (by omega)]
    clear l1 l2
    have hl' : la < lb := hl
    go_enter Try.func79, Try.ntmps79
    go_wp2_with fail
    go_loop [5] (fun i => ∃ k : Nat, k ≤ lb ∧ i = .int .i64 ((k : Int) - 1) ∧ a / 2 ^ k = b / 2 ^ k) (fun i => (intOf i + 1).toNat)
    case atStart => exact ⟨lb, Nat.le_refl _, rfl, HA.out⟩
    case round =>
      clear HA
      obtain ⟨k, hk, rfl, hd⟩ := hrel
      have HD := Lib.hid hd
      clear hd
      by_cases h0 : k = 0
      · subst h0
        have hab : a = b := by simpa using HD.out
        have HC : Hid (cmpN a b = 0) := by show _ = _; rw [hab, cmpN_eq]
        clear hab
        go_wp2_with fail
        go_ret
        exact ⟨by rw [HC.out]; rfl, rfl⟩
      · have hk1 : ((k : Int) - 1) = ((k - 1 : Nat) : Int) := by omega
        rw [hk1]
        have hk2 : k - 1 + 1 = k := by omega
        have t1 := HB1.out (k - 1) (by omega)
        have t2 := HB2.out (k - 1) (by omega)
        have HT1 := Lib.hid t1
        have HT2 := Lib.hid t2
        have HD1 : Hid (bitN a (k - 1) ≠ bitN b (k - 1) → (bitN a (k - 1) : Int) - (bitN b (k - 1) : Int) = cmpN a b) := fun hne => cmp_bits (by rw [hk2]; exact HD.out) hne
        have HD2 : Hid (bitN a (k - 1) = bitN b (k - 1) → a / 2 ^ (k - 1) = b / 2 ^ (k - 1)) := fun he => by
          rw [div_pow_succ a (k - 1), div_pow_succ b (k - 1), hk2, HD.out, he]
        have bx := bitN_lt a (k - 1)
        have by_ := bitN_lt b (k - 1)
        have HK1 := Lib.hid hk1
        clear hk1 hk2 t1 t2 HB1 HB2 HD
        have hk3 : k - 1 < k := by omega
        have hk4 : k - 1 ≤ lb := by omega
        generalize k - 1 = j at *
        generalize bitN a j = x at *
        generalize bitN b j = y at *
        by_cases he : x = y
        · have HE := Lib.hid (HD2.out he)
          have hne : ((x : Int) != (y : Int)) = false := by simp [he]
          clear he HD1 HD2
          go_wp2_with fail
          refine HT1.out.mono ?_
          rintro e w' ⟨rfl, rfl⟩
          go_wp2_with fail
          refine HT2.out.mono ?_
          rintro e w' ⟨rfl, rfl⟩
          go_wp2_with fail
          go_round
          case rel => exact ⟨j, by omega, rfl, HE.out⟩
          case measure => simp [intOf]
        · have HE := Lib.hid (HD1.out he)
          have hne : ((x : Int) != (y : Int)) = true := by simp; omega
          clear he HD1 HD2
          go_wp2_with fail
          refine HT1.out.mono ?_
          rintro e w' ⟨rfl, rfl⟩
          go_wp2_with fail
          refine HT2.out.mono ?_
          rintro e w' ⟨rfl, rfl⟩
          go_wp2_with fail
          refine HT1.out.mono ?_
          rintro e w' ⟨rfl, rfl⟩
          go_wp2_with fail
          refine HT2.out.mono ?_
          rintro e w' ⟨rfl, rfl⟩
          go_wp2_with fail
          go_ret
          exact ⟨by rw [← HE.out]; rfl, rfl⟩
  · have HA : Hid (a / 2 ^ la = b / 2 ^ la) := by
      show _ = _
      have p1 : 2 ^ la ≤ 2 ^ la := Nat.pow_le_pow_right (by omega) (by omega)
      have p2 : 2 ^ lb ≤ 2 ^ la := Nat.pow_le_pow_right (by omega) (by omega)
      rw [Nat.div_eq_of_lt (by omega), Nat.div_eq_of_lt (by omega)]
    clear l1 l2
    have hl' : ¬ la < lb := by omega
    go_enter Try.func79, Try.ntmps79
    go_wp2_with fail
    go_loop [5] (fun i => ∃ k : Nat, k ≤ la ∧ i = .int .i64 ((k : Int) - 1) ∧ a / 2 ^ k = b / 2 ^ k) (fun i => (intOf i + 1).toNat)
    case atStart => exact ⟨la, Nat.le_refl _, rfl, HA.out⟩
    case round =>
      clear HA
      obtain ⟨k, hk, rfl, hd⟩ := hrel
      have HD := Lib.hid hd
      clear hd
      by_cases h0 : k = 0
      · subst h0
        have hab : a = b := by simpa using HD.out
        have HC : Hid (cmpN a b = 0) := by show _ = _; rw [hab, cmpN_eq]
        clear hab
        go_wp2_with fail
        go_ret
        exact ⟨by rw [HC.out]; rfl, rfl⟩
      · have hk1 : ((k : Int) - 1) = ((k - 1 : Nat) : Int) := by omega
        rw [hk1]
        have hk2 : k - 1 + 1 = k := by omega
        have t1 := HB1.out (k - 1) (by omega)
        have t2 := HB2.out (k - 1) (by omega)
        have HT1 := Lib.hid t1
        have HT2 := Lib.hid t2
        have HD1 : Hid (bitN a (k - 1) ≠ bitN b (k - 1) → (bitN a (k - 1) : Int) - (bitN b (k - 1) : Int) = cmpN a b) := fun hne => cmp_bits (by rw [hk2]; exact HD.out) hne
        have HD2 : Hid (bitN a (k - 1) = bitN b (k - 1) → a / 2 ^ (k - 1) = b / 2 ^ (k - 1)) := fun he => by
          rw [div_pow_succ a (k - 1), div_pow_succ b (k - 1), hk2, HD.out, he]
        have bx := bitN_lt a (k - 1)
        have by_ := bitN_lt b (k - 1)
        have HK1 := Lib.hid hk1
        clear hk1 hk2 t1 t2 HB1 HB2 HD
        have hk3 : k - 1 < k := by omega
        have hk4 : k - 1 ≤ la := by omega
        generalize k - 1 = j at *
        generalize bitN a j = x at *
        generalize bitN b j = y at *
        by_cases he : x = y
        · have HE := Lib.hid (HD2.out he)
          have hne : ((x : Int) != (y : Int)) = false := by simp [he]
          clear he HD1 HD2
          go_wp2_with fail
          refine HT1.out.mono ?_
          rintro e w' ⟨rfl, rfl⟩
          go_wp2_with fail
          refine HT2.out.mono ?_
          rintro e w' ⟨rfl, rfl⟩
          go_wp2_with fail
          go_round
          case rel => exact ⟨j, by omega, rfl, HE.out⟩
          case measure => simp [intOf]
        · have HE := Lib.hid (HD1.out he)
          have hne : ((x : Int) != (y : Int)) = true := by simp; omega
          clear he HD1 HD2
          go_wp2_with fail
          refine HT1.out.mono ?_
          rintro e w' ⟨rfl, rfl⟩
          go_wp2_with fail
          refine HT2.out.mono ?_
          rintro e w' ⟨rfl, rfl⟩
          go_wp2_with fail
          refine HT1.out.mono ?_
          rintro e w' ⟨rfl, rfl⟩
          go_wp2_with fail
          refine HT2.out.mono ?_
          rintro e w' ⟨rfl, rfl⟩
          go_wp2_with fail
          go_ret
          exact ⟨by rw [← HE.out]; rfl, rfl⟩

theorem mod_pow_succ' (a k : Nat) : a % 2 ^ (k + 1) = a % 2 ^ k + 2 ^ k * bitN a k := Nat.mod_pow_succ

/-- What the reference's sum holds after i bits. -/
def RAInv (w wr : World) (a b i cy : Nat) (A : Option Addr) (c : Nat) (zs : List Nat) : Prop :=
  Own wr w.heap.size .i64 3 A c zs ∧ zs.length = i ∧ Valid 2 zs ∧ val 2 zs + 2 ^ i * cy = a % 2 ^ i + b % 2 ^ i ∧ Ext w wr

theorem RAInv.step {w w2 : World} {a b i cy s : Nat} {A : Option Addr} {c : Nat} {zs : List Nat} (hown : Own w2 w.heap.size .i64 3 A c (zs ++ [s % 2])) (hl : zs.length = i) (hv : Valid 2 zs)
    (he : val 2 zs + 2 ^ i * cy = a % 2 ^ i + b % 2 ^ i) (hs : s = bitN a i + bitN b i + cy) (hext : Ext w w2) : RAInv w w2 a b (i + 1) (s / 2) A c (zs ++ [s % 2]) := by
  refine ⟨hown, by simp [hl], valid_append.2 ⟨hv, by intro d hd; simp at hd; omega⟩, ?_, hext⟩
  rw [val_snoc, hl, mod_pow_succ', mod_pow_succ', Nat.pow_succ]
  have h := carry_step (B := 2) (P := 2 ^ i) (x := bitN a i) (y := bitN b i) he
  rw [← hs] at h
  exact h

theorem radd_any {w : World} {A1 A2 : Option Addr} {c1 c2 a b : Nat} (h1 : BN w A1 c1 a) (h2 : BN w A2 c2 b) (hs1 : bl a ≤ 8796093022208) (hs2 : bl b ≤ 8796093022208) :
    Calls Try.prog 116 #[.slice A1 (digs 2 a).length c1, .slice A2 (digs 2 b).length c2] w (RetB w (a + b)) := by
  unfold bl at hs1 hs2
  have HB1 : Hid (∀ (wr : World) (i : Nat), Ext w wr → i ≤ 4611686018427387904 → Calls Try.prog 113 #[.slice A1 (digs 2 a).length c1, .int .i64 i] wr fun e w' => e = .returned (.int .i64 (bitN a i)) ∧ wr = w') :=
    fun wr i hx hi => bit_any (h1.ext hx) hi
  have HB2 : Hid (∀ (wr : World) (i : Nat), Ext w wr → i ≤ 4611686018427387904 → Calls Try.prog 113 #[.slice A2 (digs 2 b).length c2, .int .i64 i] wr fun e w' => e = .returned (.int .i64 (bitN b i)) ∧ wr = w') :=
    fun wr i hx hi => bit_any (h2.ext hx) hi
  have HEnd : Hid (∀ i : Nat, (digs 2 a).length ≤ i → (digs 2 b).length ≤ i → a < 2 ^ i ∧ b < 2 ^ i) := by
    intro i ha hb
    have l1 := lt_pow_len (B := 2) (by omega) a
    have l2 := lt_pow_len (B := 2) (by omega) b
    have p1 : 2 ^ (digs 2 a).length ≤ 2 ^ i := Nat.pow_le_pow_right (by omega) ha
    have p2 : 2 ^ (digs 2 b).length ≤ 2 ^ i := Nat.pow_le_pow_right (by omega) hb
    exact ⟨by omega, by omega⟩
  clear h1 h2
  generalize (digs 2 a).length = la at *
  generalize (digs 2 b).length = lb at *
  go_enter Try.func116, Try.ntmps116
  go_wp2_with fail
  go_loopw [5, 6, 7] (fun v cv i wr => ∃ (k cy : Nat) (A' : Option Addr) (c' : Nat) (zs : List Nat), k ≤ max la lb + 1 ∧ i = .int .i64 k ∧ cv = .int .i64 cy ∧ cy ≤ 1 ∧ v = .slice A' k c' ∧ RAInv w wr a b k cy A' c' zs) (fun _ _ i _ => max la lb + 2 - (intOf i).toNat)
  case atStart => exact ⟨0, 0, none, 0, [], Nat.zero_le _, rfl, rfl, by omega, rfl, Own.none_ _ _ _ _, rfl, valid_nil _, by simp [val, Nat.mod_one], Ext.refl _⟩
  case round =>
    obtain ⟨k, cy, A', c', zs, hk, rfl, rfl, hcy, rfl, hown, hl, hv, he, hext⟩ := hrel
    have hcase : (k < la) ∨ (¬ k < la ∧ k < lb) ∨ (¬ k < la ∧ ¬ k < lb ∧ 0 < cy) ∨ (¬ k < la ∧ ¬ k < lb ∧ ¬ 0 < cy) := by omega
    have hkm : (k < la ∨ k < lb ∨ 0 < cy) → k ≤ max la lb := by
      intro h
      rcases Nat.lt_or_ge k (max la lb + 1) with h1 | h1
      · omega
      · have hke : k = max la lb + 1 := by omega
        obtain ⟨e1, e2⟩ := HEnd.out (max la lb) (by omega) (by omega)
        have e3 : 2 ^ k = 2 * 2 ^ max la lb := by rw [hke, Nat.pow_succ, Nat.mul_comm]
        rw [Nat.mod_eq_of_lt (show a < 2 ^ k by omega), Nat.mod_eq_of_lt (show b < 2 ^ k by omega)] at he
        have hcy1 : cy = 0 := by
          rcases Nat.eq_zero_or_pos cy with h2 | h2
          · exact h2
          · have : 2 ^ k * 1 ≤ 2 ^ k * cy := Nat.mul_le_mul_left _ h2
            omega
        omega
    have HKM := Lib.hid hkm
    clear hkm
    have t1 := Lib.hid (HB1.out wr k hext (by omega))
    have t2 := Lib.hid (HB2.out wr k hext (by omega))
    have bx := bitN_lt a k
    have by_ := bitN_lt b k
    have hbw := hext.size
    have HL := Lib.hid hl
    have HV := Lib.hid hv
    have HE := Lib.hid he
    clear hl hv he
    rcases hcase with h | ⟨h, h'⟩ | ⟨h, h', h''⟩ | ⟨h, h', h''⟩
    · have hkm := HKM.out (by omega)
      go_wp2_with fail
      refine t1.out.mono ?_
      rintro e w' ⟨rfl, rfl⟩
      go_wp2_with fail
      refine t2.out.mono ?_
      rintro e w' ⟨rfl, rfl⟩
      go_wp2_with (at_builtin; refine wpList_app1 rfl _ _ _ rfl w.heap.size 3 .i64 8 Try.underlying34 info_int (by omega) A' c' k zs HL.out rfl (hown.below (Ext.alloc _ _)) wr.heap.size ((bitN a k + bitN b k + cy) % 2) rfl ?h2 ?h3 ?h4 ?h5)
      case h2 => simp
      case h3 => omega
      case h4 => simp; omega
      case h5 =>
        intro A2 c2 w2 hown2 hb2
        have hx2 : Ext w w2 := Below.trans hext (Below.trans (Below.mono (Ext.alloc wr _) hbw) hb2)
        have HS := Lib.hid (RAInv.step hown2 HL.out HV.out HE.out rfl hx2)
        clear hown2
        go_wp2_with fail
        go_roundw
        case rel => exact ⟨k + 1, _, A2, c2, _, by omega, by go_num, by go_num, by omega, rfl, HS.out⟩
        case measure => simp [intOf]; omega
    · have hkm := HKM.out (by omega)
      go_wp2_with fail
      refine t1.out.mono ?_
      rintro e w' ⟨rfl, rfl⟩
      go_wp2_with fail
      refine t2.out.mono ?_
      rintro e w' ⟨rfl, rfl⟩
      go_wp2_with (at_builtin; refine wpList_app1 rfl _ _ _ rfl w.heap.size 3 .i64 8 Try.underlying34 info_int (by omega) A' c' k zs HL.out rfl (hown.below (Ext.alloc _ _)) wr.heap.size ((bitN a k + bitN b k + cy) % 2) rfl ?h2 ?h3 ?h4 ?h5)
      case h2 => simp
      case h3 => omega
      case h4 => simp; omega
      case h5 =>
        intro A2 c2 w2 hown2 hb2
        have hx2 : Ext w w2 := Below.trans hext (Below.trans (Below.mono (Ext.alloc wr _) hbw) hb2)
        have HS := Lib.hid (RAInv.step hown2 HL.out HV.out HE.out rfl hx2)
        clear hown2
        go_wp2_with fail
        go_roundw
        case rel => exact ⟨k + 1, _, A2, c2, _, by omega, by go_num, by go_num, by omega, rfl, HS.out⟩
        case measure => simp [intOf]; omega
    · have hkm := HKM.out (by omega)
      go_wp2_with fail
      refine t1.out.mono ?_
      rintro e w' ⟨rfl, rfl⟩
      go_wp2_with fail
      refine t2.out.mono ?_
      rintro e w' ⟨rfl, rfl⟩
      go_wp2_with (at_builtin; refine wpList_app1 rfl _ _ _ rfl w.heap.size 3 .i64 8 Try.underlying34 info_int (by omega) A' c' k zs HL.out rfl (hown.below (Ext.alloc _ _)) wr.heap.size ((bitN a k + bitN b k + cy) % 2) rfl ?h2 ?h3 ?h4 ?h5)
      case h2 => simp
      case h3 => omega
      case h4 => simp; omega
      case h5 =>
        intro A2 c2 w2 hown2 hb2
        have hx2 : Ext w w2 := Below.trans hext (Below.trans (Below.mono (Ext.alloc wr _) hbw) hb2)
        have HS := Lib.hid (RAInv.step hown2 HL.out HV.out HE.out rfl hx2)
        clear hown2
        go_wp2_with fail
        go_roundw
        case rel => exact ⟨k + 1, _, A2, c2, _, by omega, by go_num, by go_num, by omega, rfl, HS.out⟩
        case measure => simp [intOf]; omega
    · obtain rfl : cy = 0 := by omega
      have hv := HE.out
      obtain ⟨e1, e2⟩ := HEnd.out k (by omega) (by omega)
      rw [Nat.mod_eq_of_lt e1, Nat.mod_eq_of_lt e2, Nat.mul_zero, Nat.add_zero] at hv
      obtain ⟨ht, hbn⟩ := trim_own hown HV.out hv
      rw [HL.out] at ht
      have HT := Lib.hid ht
      have HN := Lib.hid hbn
      clear hown ht hbn hv HKM e1 e2
      go_wp2_with fail
      refine HT.out.mono ?_
      rintro e w' ⟨rfl, rfl⟩
      go_wp2_with fail
      go_ret
      exact ⟨_, _, rfl, HN.out, hext⟩

/-- What the reference's difference holds after i bits. -/
def RSInv (w wr : World) (a b i cy : Nat) (A : Option Addr) (c : Nat) (zs : List Nat) : Prop :=
  Own wr w.heap.size .i64 3 A c zs ∧ zs.length = i ∧ Valid 2 zs ∧ val 2 zs + b % 2 ^ i = a % 2 ^ i + 2 ^ i * cy ∧ Ext w wr

theorem RSInv.step {w w2 : World} {a b i cy d bo : Nat} {A : Option Addr} {c : Nat} {zs : List Nat} (hown : Own w2 w.heap.size .i64 3 A c (zs ++ [d])) (hl : zs.length = i) (hv : Valid 2 zs)
    (he : val 2 zs + b % 2 ^ i = a % 2 ^ i + 2 ^ i * cy) (hd : d < 2) (hs : d + bitN b i + cy = bitN a i + 2 * bo) (hext : Ext w w2) : RSInv w w2 a b (i + 1) bo A c (zs ++ [d]) := by
  refine ⟨hown, by simp [hl], valid_append.2 ⟨hv, by intro x hx; simp at hx; omega⟩, ?_, hext⟩
  rw [val_snoc, hl, mod_pow_succ', mod_pow_succ', Nat.pow_succ]
  exact borrow_step he hs

theorem rsub_any {w : World} {A1 A2 : Option Addr} {c1 c2 a b : Nat} (h1 : BN w A1 c1 a) (h2 : BN w A2 c2 b) (hba : b ≤ a) (hs1 : bl a ≤ 8796093022208) :
    Calls Try.prog 117 #[.slice A1 (digs 2 a).length c1, .slice A2 (digs 2 b).length c2] w (RetB w (a - b)) := by
  unfold bl at hs1
  have HB1 : Hid (∀ (wr : World) (i : Nat), Ext w wr → i ≤ 4611686018427387904 → Calls Try.prog 113 #[.slice A1 (digs 2 a).length c1, .int .i64 i] wr fun e w' => e = .returned (.int .i64 (bitN a i)) ∧ wr = w') :=
    fun wr i hx hi => bit_any (h1.ext hx) hi
  have HB2 : Hid (∀ (wr : World) (i : Nat), Ext w wr → i ≤ 4611686018427387904 → Calls Try.prog 113 #[.slice A2 (digs 2 b).length c2, .int .i64 i] wr fun e w' => e = .returned (.int .i64 (bitN b i)) ∧ wr = w') :=
    fun wr i hx hi => bit_any (h2.ext hx) hi
  have HA : Hid (a < 2 ^ (digs 2 a).length) := lt_pow_len (by omega) a
  have HBA := Lib.hid hba
  clear h1 h2 hba
  generalize (digs 2 a).length = la at *
  generalize (digs 2 b).length = lb at *
  go_enter Try.func117, Try.ntmps117
  go_wp2_with fail
  go_loopw [5, 6, 7] (fun v cv i wr => ∃ (k cy : Nat) (A' : Option Addr) (c' : Nat) (zs : List Nat), k ≤ la ∧ i = .int .i64 k ∧ cv = .int .i64 cy ∧ cy ≤ 1 ∧ v = .slice A' k c' ∧ RSInv w wr a b k cy A' c' zs) (fun _ _ i _ => la - (intOf i).toNat)
  case atStart => exact ⟨0, 0, none, 0, [], Nat.zero_le _, rfl, rfl, by omega, rfl, Own.none_ _ _ _ _, rfl, valid_nil _, by simp [val, Nat.mod_one], Ext.refl _⟩
  case round =>
    obtain ⟨k, cy, A', c', zs, hk, rfl, rfl, hcy, rfl, hown, hl, hv, he, hext⟩ := hrel
    have HL := Lib.hid hl
    have HV := Lib.hid hv
    have HE := Lib.hid he
    clear hl hv he
    by_cases hlt : k < la
    · have t1 := Lib.hid (HB1.out wr k hext (by omega))
      have t2 := Lib.hid (HB2.out wr k hext (by omega))
      have bx := bitN_lt a k
      have by_ := bitN_lt b k
      have hbw := hext.size
      have HSt : Hid (∀ (w2 : World) (A2 : Option Addr) (c2 d bo : Nat), Own w2 w.heap.size .i64 3 A2 c2 (zs ++ [d]) → d < 2 → d + bitN b k + cy = bitN a k + 2 * bo → Ext w w2 → RSInv w w2 a b (k + 1) bo A2 c2 (zs ++ [d])) :=
        fun w2 A2 c2 d bo h1 h2 h3 h4 => RSInv.step h1 HL.out HV.out HE.out h2 h3 h4
      generalize bitN a k = x at *
      generalize bitN b k = y at *
      by_cases hs : x < y + cy
      · have hneg : (x : Int) - (y : Int) - (cy : Int) < 0 := by omega
        go_wp2_with fail
        refine t1.out.mono ?_
        rintro e w' ⟨rfl, rfl⟩
        go_wp2_with fail
        refine t2.out.mono ?_
        rintro e w' ⟨rfl, rfl⟩
        go_wp2_with (at_builtin; refine wpList_app1 rfl _ _ _ rfl w.heap.size 3 .i64 8 Try.underlying34 info_int (by omega) A' c' k zs HL.out rfl (hown.below (Ext.alloc _ _)) wr.heap.size (x + 2 - y - cy) rfl ?h2 ?h3 ?h4 ?h5)
        case h2 => simp; omega
        case h3 => omega
        case h4 => simp; omega
        case h5 =>
          intro A2 c2 w2 hown2 hb2
          have hx2 : Ext w w2 := Below.trans hext (Below.trans (Below.mono (Ext.alloc wr _) hbw) hb2)
          have HS := Lib.hid (HSt.out w2 A2 c2 (x + 2 - y - cy) 1 hown2 (by omega) (by omega) hx2)
          clear hown2
          go_wp2_with fail
          go_roundw
          case rel => exact ⟨k + 1, 1, A2, c2, _, by omega, by go_num, by go_num, by omega, rfl, HS.out⟩
          case measure => simp [intOf]; omega
      · have hneg : ¬ (x : Int) - (y : Int) - (cy : Int) < 0 := by omega
        go_wp2_with fail
        refine t1.out.mono ?_
        rintro e w' ⟨rfl, rfl⟩
        go_wp2_with fail
        refine t2.out.mono ?_
        rintro e w' ⟨rfl, rfl⟩
        go_wp2_with (at_builtin; refine wpList_app1 rfl _ _ _ rfl w.heap.size 3 .i64 8 Try.underlying34 info_int (by omega) A' c' k zs HL.out rfl (hown.below (Ext.alloc _ _)) wr.heap.size (x - y - cy) rfl ?h2 ?h3 ?h4 ?h5)
        case h2 => simp; omega
        case h3 => omega
        case h4 => simp; omega
        case h5 =>
          intro A2 c2 w2 hown2 hb2
          have hx2 : Ext w w2 := Below.trans hext (Below.trans (Below.mono (Ext.alloc wr _) hbw) hb2)
          have HS := Lib.hid (HSt.out w2 A2 c2 (x - y - cy) 0 hown2 (by omega) (by omega) hx2)
          clear hown2
          go_wp2_with fail
          go_roundw
          case rel => exact ⟨k + 1, 0, A2, c2, _, by omega, by go_num, by go_num, by omega, rfl, HS.out⟩
          case measure => simp [intOf]; omega
    · obtain rfl : k = la := by omega
      have hz := val_lt HV.out
      rw [HL.out] at hz
      have he := HE.out
      have ha := HA.out
      have hbb := HBA.out
      rw [Nat.mod_eq_of_lt ha, Nat.mod_eq_of_lt (Nat.lt_of_le_of_lt hbb ha)] at he
      have hv : val 2 zs = a - b := by
        rcases Nat.le_one_iff_eq_zero_or_eq_one.1 hcy with rfl | rfl <;> omega
      obtain ⟨ht, hbn⟩ := trim_own hown HV.out hv
      rw [HL.out] at ht
      have HT := Lib.hid ht
      have HN := Lib.hid hbn
      clear hown ht hbn hv hz he ha hbb
      go_wp2_with fail
      refine HT.out.mono ?_
      rintro e w' ⟨rfl, rfl⟩
      go_wp2_with fail
      go_ret
      exact ⟨_, _, rfl, HN.out, hext⟩
end Go.Proofs.Ytfnmbhjifdfibaa
