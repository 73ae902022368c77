/- Contracts of natural.Shl, BitLen, Bit. -/
import Derived.Test.YtfnmbhjifdfibaaNatD
namespace Go.Proofs.Ytfnmbhjifdfibaa
open Go.RowKit

/-- The head of a round of 'Shl': q whole digits, s bits; the digits so far. -/
def ShlInv (w wr : World) (g i q s : Nat) (da : List Nat) : Prop :=
  ∃ zs, Row wr g .u32 139 zs ∧ zs.length = q + da.length + 1 ∧ Valid B32 zs ∧ val B32 (zs.take (q + i + 1)) = B32 ^ q * (val B32 (da.take i) * 2 ^ s) ∧
    (∃ old, zs[q + i]? = some old ∧ old < 2 ^ s) ∧ zs.drop (q + i + 1) = List.replicate (da.length - i) 0 ∧ Ext w wr

theorem ShlInv.old_ {w wr : World} {g i q s : Nat} {da : List Nat} (h : ShlInv w wr g i q s da) (hi : i < da.length) :
    ∃ old z : Nat, wr.cell? ⟨g, q + i, none⟩ = some (.int .u32 (old : Nat)) ∧ wr.frozen? ⟨g, q + i, none⟩ = false ∧ old < 2 ^ s ∧
      wr.cell? ⟨g, q + (i + 1), none⟩ = some (.int .u32 (z : Nat)) ∧ wr.frozen? ⟨g, q + (i + 1), none⟩ = false ∧ g < wr.heap.size ∧
      ∀ x low hi' : Nat, s < 32 → x = da[i] → x < 4294967296 → w.heap.size ≤ g → low = x * 2 ^ s % 4294967296 → hi' = x * 2 ^ s / 4294967296 →
        ShlInv w ((wr.setCell ⟨g, q + i, none⟩ (.int .u32 ((old + low : Nat) : Int))).setCell ⟨g, q + (i + 1), none⟩ (.int .u32 (hi' : Int))) g (i + 1) q s da := by
  obtain ⟨zs, hz, hl, hv, he, ⟨old, ho, hos⟩, hd, hext⟩ := h
  have hk : q + i < zs.length := by omega
  have hk1 : q + i + 1 < zs.length := by omega
  rw [show q + (i + 1) = q + i + 1 from by omega]
  have hoe : zs[q + i] = old := by rw [List.getElem?_eq_getElem hk] at ho; injection ho
  refine ⟨old, zs[q + i + 1], by rw [← hoe]; exact hz.cell hk, hz.frozen _, hos, hz.cell hk1, hz.frozen _, hz.lt, ?_⟩
  intro x low hi' hs hxe hx hg hlow hhi
  obtain ⟨_, hlt, hhs, _⟩ := shl_digit hs hx hos
  have hB : B32 = 4294967296 := rfl
  have hdm : low + B32 * hi' = x * 2 ^ s := by rw [hlow, hhi, hB]; exact Nat.mod_add_div _ _
  have h31 : 2 ^ s ≤ 2 ^ 31 := Nat.pow_le_pow_right (by omega) (by omega)
  refine ⟨(zs.set (q + i) (old + low)).set (q + i + 1) hi', (hz.set_ _ _).set_ _ _, by simpa using hl, valid_set (valid_set hv _ _ (by rw [hlow, hB]; exact hlt)) _ _ (by rw [hhi, hB]; omega), ?_, ⟨hi', ?_, by rw [hhi]; exact hhs⟩, ?_, Below.setCell (Below.setCell hext (p := ⟨g, q + i, none⟩) hg _) (p := ⟨g, q + i + 1, none⟩) hg _⟩
  · rw [show q + (i + 1) + 1 = q + i + 1 + 1 from by omega, val_set B32 (by simpa using hk1), val_set B32 hk, val_take_succ B32 da i hi, ← hxe, Nat.pow_succ]
    have h0 : val B32 (zs.take (q + i)) + B32 ^ (q + i) * old = B32 ^ q * (val B32 (da.take i) * 2 ^ s) := by
      rw [← he, val_take_succ B32 zs (q + i) hk, hoe]
    have h1 := shl_math (B := B32) (P := B32 ^ (q + i)) (x := x) (t := 2 ^ s) h0 hdm
    rw [h1, Nat.add_mul, Nat.mul_add, Nat.pow_add, Nat.mul_assoc (B32 ^ q), Nat.mul_assoc (B32 ^ i)]
  · rw [show q + (i + 1) = q + i + 1 from by omega, List.getElem?_set_self (by simpa using hk1)]
  · rw [show q + (i + 1) + 1 = q + i + 1 + 1 from by omega, List.drop_set_of_lt (by omega), List.drop_set_of_lt (by omega)]
    have h1 := congrArg (List.drop 1) hd
    rw [List.drop_drop, List.drop_replicate] at h1
    rw [h1]
    congr 1
theorem shl_zero (L k q s : Nat) (da : List Nat) : val B32 ((List.replicate L 0).take k) = B32 ^ q * (val B32 (da.take 0) * 2 ^ s) := by
  rw [List.take_replicate, val_replicate, List.take_zero, val_nil, Nat.zero_mul, Nat.mul_zero]
theorem shl_pow (q s m a : Nat) (h : 32 * q + s = m) : B32 ^ q * (a * 2 ^ s) = a * 2 ^ m := by
  have e1 : B32 ^ q = 2 ^ (32 * q) := by rw [Nat.pow_mul]; rfl
  rw [e1, Nat.mul_left_comm, ← Nat.pow_add, h]

theorem shl_nat {w : World} {A : Option Addr} {c1 m : Nat} {ds : List Nat} (h : NR w A c1 ds) (hs : dl (V ds) ≤ 17592186044416) (hm : m ≤ 16777216) :
    Calls Try.prog 95 #[.slice A ds.length c1, .int .i64 m] w (RetN w (V ds * 2 ^ m)) := by
  have ht := trim_nr h
  have hn' := h.trim
  clear h
  unfold dl at hs
  have HF := Lib.hid (len_zero (V ds))
  have HV := Lib.hid hn'.valid
  have HR := Lib.hid hn'.rd
  have HA : Hid (val B32 (digs B32 (V ds)) = V ds) := val_digs B32_two _
  generalize V ds = a at *
  clear hn'
  by_cases h0 : a = 0
  · subst h0
    go_enter Try.func95, Try.ntmps95
    go_wp2_with fail
    refine ht.mono ?_
    rintro e w' ⟨rfl, rfl⟩
    go_wp2_with fail
    go_ret
    exact ⟨none, 0, by simp [digs_zero], by simpa [NO, digs_zero] using Own.none_ _ _ _ _, Ext.refl _⟩
  · have hz : (((digs B32 a).length : Int) == 0) = false := by rw [HF.out]; simpa using h0
    have HP : Hid (B32 ^ (m / 32) * (a * 2 ^ (m % 32)) = a * 2 ^ m) := shl_pow (m / 32) (m % 32) m a (by omega)
    clear HF h0
    generalize digs B32 a = da at *
    have hcut : ¬ ((m / 32) + da.length + 1 = m / 32) := by omega
    go_enter Try.func95, Try.ntmps95
    go_wp2_with fail
    refine ht.mono ?_
    rintro e w' ⟨rfl, rfl⟩
    clear ht
    go_wp2_with (at_make; refine wpList_mkrow rfl _ _ _ rfl _ _ _ Try.underlying23 info_u32 (by omega) _ _ _ ((m / 32) + da.length + 1) rfl rfl (by omega) (by omega) ?_)
    intro g w1 hg hrow hx
    have hinv : ShlInv w w1 g 0 (m / 32) (m % 32) da := by
      refine ⟨_, hrow, by simp, valid_replicate (by unfold B32; omega) _, shl_zero _ _ (m / 32) (m % 32) da, ⟨0, ?_, Nat.two_pow_pos _⟩, by simp, hx⟩
      rw [List.getElem?_replicate, if_pos (by omega)]
    clear hrow hx
    go_wp2_with fail
    go_loopw [36] (fun i wr => ∃ k : Nat, k ≤ da.length ∧ i = .int .i64 k ∧ ShlInv w wr g k (m / 32) (m % 32) da) (fun i _ => da.length - (intOf i).toNat)
    case atStart => exact ⟨0, Nat.zero_le _, rfl, hinv⟩
    case round =>
      clear hinv
      obtain ⟨k, hk, rfl, hinv⟩ := hrel
      by_cases hlt : k < da.length
      · have hext : Ext w wr := by obtain ⟨_, _, _, _, _, _, _, h⟩ := hinv; exact h
        obtain ⟨b1, o1, rfl, hb1, hcx⟩ := (HR.out.below hext).at_ (j := k) hlt
        have hx : da[k] < 4294967296 := valid_get HV.out _ hlt
        obtain ⟨old, z, hcell, hfr, hos, hcell2, hfr2, hgl, hstep⟩ := hinv.old_ hlt
        have hs32 : m % 32 < 32 := by omega
        have hstep2 := hstep da[k] _ _ hs32 rfl hx hg rfl rfl
        obtain ⟨hor, hd1, hd2, hd3⟩ := shl_digit hs32 hx hos
        have hold : old < 4294967296 := by omega
        have HS : Hid (∀ e1 e2 : Int, e1 = ((old + da[k] * 2 ^ (m % 32) % 4294967296 : Nat) : Int) → e2 = ((da[k] * 2 ^ (m % 32) / 4294967296 : Nat) : Int) →
            ShlInv w ((wr.setCell ⟨g, m / 32 + k, none⟩ (.int .u32 e1)).setCell ⟨g, m / 32 + (k + 1), none⟩ (.int .u32 e2)) g (k + 1) (m / 32) (m % 32) da) := fun e1 e2 h1 h2 => by subst h1 h2; exact hstep2
        have HOR := Lib.hid hor
        clear hinv hstep hstep2 hor
        generalize da[k] = x at *
        have hxs : ((x * 2 ^ (m % 32) : Nat) : Int) = (x : Int) * 2 ^ (m % 32) := by simp
        go_wp2_with fail
        go_roundw
        case rel =>
          refine ⟨k + 1, by omega, by go_num, HS.out _ _ ?_ ?_⟩
          · rw [← hxs, ← HOR.out]
            exact u32_or_nat old (x * 2 ^ (m % 32) % 4294967296) hold (Nat.mod_lt _ (by omega))
          · rw [← hxs]; rfl
        case measure => simp [intOf]; omega
      · obtain rfl : k = da.length := by omega
        obtain ⟨zs, hz, hl, hv, he, _, _, hext⟩ := hinv
        rw [List.take_of_length_le (by omega), List.take_length, HA.out, HP.out] at he
        have HE : Hid (V zs = a * 2 ^ m) := he
        have hnr : NR wr (some ⟨g, 0, none⟩) zs.length zs :=
          ⟨by have := hz.rd zs.length; rwa [List.take_length] at this, hv, Nat.le_refl _, by omega⟩
        have htr := trim_nr hnr
        have hown := (Own.of_row' (B := w.heap.size) (n := zs.length) (ds := digs B32 (a * 2 ^ m)) hz hg (by unfold maxLen; omega) rfl
          (by rw [← HE.out, ← trim_V hv]; exact trimL_take _))
        rw [HE.out] at htr
        rw [hl] at htr hown
        have HT := Lib.hid htr
        have HO := Lib.hid hown
        clear hz hl hv he hnr htr hown
        go_wp2_with fail
        refine HT.out.mono ?_
        rintro e w' ⟨rfl, rfl⟩
        go_wp2_with fail
        go_ret
        exact ⟨_, _, rfl, HO.out, hext⟩

theorem shl_neg {w : World} {A : Option Addr} {c1 m : Nat} {n : Int} {ds : List Nat} (h : NR w A c1 ds) (hs : dl (V ds) ≤ 17592186044416) (hm : m = 0) (hn : n < 0) :
    Calls Try.prog 95 #[.slice A ds.length c1, .int .i64 n] w (RetN w (V ds * 2 ^ m)) := by
  have ht := trim_nr h
  have hn' := h.trim
  clear h
  unfold dl at hs
  have HF := Lib.hid (len_zero (V ds))
  have HV := Lib.hid hn'.valid
  have HR := Lib.hid hn'.rd
  have HA : Hid (val B32 (digs B32 (V ds)) = V ds) := val_digs B32_two _
  generalize V ds = a at *
  clear hn'
  by_cases h0 : a = 0
  · subst h0
    clear hm
    go_enter Try.func95, Try.ntmps95
    go_wp2_with fail
    refine ht.mono ?_
    rintro e w' ⟨rfl, rfl⟩
    go_wp2_with fail
    go_ret
    exact ⟨none, 0, by simp [digs_zero], by simpa [NO, digs_zero] using Own.none_ _ _ _ _, Ext.refl _⟩
  · have hz : (((digs B32 a).length : Int) == 0) = false := by rw [HF.out]; simpa using h0
    have HP : Hid (B32 ^ (0) * (a * 2 ^ (0)) = a * 2 ^ m) := shl_pow (0) (0) m a (by omega)
    clear HF h0 hm
    generalize digs B32 a = da at *
    have hcut : ¬ ((0) + da.length + 1 = 0) := by omega
    go_enter Try.func95, Try.ntmps95
    go_wp2_with fail
    refine ht.mono ?_
    rintro e w' ⟨rfl, rfl⟩
    clear ht
    go_wp2_with (at_make; refine wpList_mkrow rfl _ _ _ rfl _ _ _ Try.underlying23 info_u32 (by omega) _ _ _ ((0) + da.length + 1) rfl rfl (by omega) (by omega) ?_)
    intro g w1 hg hrow hx
    have hinv : ShlInv w w1 g 0 (0) (0) da := by
      refine ⟨_, hrow, by simp, valid_replicate (by unfold B32; omega) _, shl_zero _ _ (0) (0) da, ⟨0, ?_, Nat.two_pow_pos _⟩, by simp, hx⟩
      rw [List.getElem?_replicate, if_pos (by omega)]
    clear hrow hx
    go_wp2_with fail
    go_loopw [36] (fun i wr => ∃ k : Nat, k ≤ da.length ∧ i = .int .i64 k ∧ ShlInv w wr g k (0) (0) da) (fun i _ => da.length - (intOf i).toNat)
    case atStart => exact ⟨0, Nat.zero_le _, rfl, hinv⟩
    case round =>
      clear hinv
      obtain ⟨k, hk, rfl, hinv⟩ := hrel
      by_cases hlt : k < da.length
      · have hext : Ext w wr := by obtain ⟨_, _, _, _, _, _, _, h⟩ := hinv; exact h
        obtain ⟨b1, o1, rfl, hb1, hcx⟩ := (HR.out.below hext).at_ (j := k) hlt
        have hx : da[k] < 4294967296 := valid_get HV.out _ hlt
        obtain ⟨old, z, hcell, hfr, hos, hcell2, hfr2, hgl, hstep⟩ := hinv.old_ hlt
        simp only [Nat.zero_add] at hcell hfr hcell2 hfr2 hstep
        have hs32 : 0 < 32 := by omega
        have hstep2 := hstep da[k] _ _ hs32 rfl hx hg rfl rfl
        obtain ⟨hor, hd1, hd2, hd3⟩ := shl_digit hs32 hx hos
        have hold : old < 4294967296 := by omega
        have HS : Hid (∀ e1 e2 : Int, e1 = ((old + da[k] * 2 ^ (0) % 4294967296 : Nat) : Int) → e2 = ((da[k] * 2 ^ (0) / 4294967296 : Nat) : Int) →
            ShlInv w ((wr.setCell ⟨g, k, none⟩ (.int .u32 e1)).setCell ⟨g, k + 1, none⟩ (.int .u32 e2)) g (k + 1) (0) (0) da) := fun e1 e2 h1 h2 => by subst h1 h2; exact hstep2
        have HOR := Lib.hid hor
        clear hinv hstep hstep2 hor
        generalize da[k] = x at *
        clear hd3
        go_wp2_with fail
        go_roundw
        case rel =>
          refine ⟨k + 1, by omega, by go_num, HS.out _ _ ?_ ?_⟩
          · have e0 : x * 2 ^ 0 % 4294967296 = x := by rw [Nat.pow_zero, Nat.mul_one]; exact Nat.mod_eq_of_lt hx
            have hO := HOR.out
            rw [e0] at hO
            rw [e0, ← hO]
            exact u32_or_nat old x hold hx
          · rw [Nat.pow_zero, Nat.mul_one]; omega
        case measure => simp [intOf]; omega
      · obtain rfl : k = da.length := by omega
        obtain ⟨zs, hz, hl, hv, he, _, _, hext⟩ := hinv
        rw [List.take_of_length_le (by omega), List.take_length, HA.out, HP.out] at he
        have HE : Hid (V zs = a * 2 ^ m) := he
        have hnr : NR wr (some ⟨g, 0, none⟩) zs.length zs :=
          ⟨by have := hz.rd zs.length; rwa [List.take_length] at this, hv, Nat.le_refl _, by omega⟩
        have htr := trim_nr hnr
        have hown := (Own.of_row' (B := w.heap.size) (n := zs.length) (ds := digs B32 (a * 2 ^ m)) hz hg (by unfold maxLen; omega) rfl
          (by rw [← HE.out, ← trim_V hv]; exact trimL_take _))
        rw [HE.out] at htr
        simp only [Nat.zero_add] at hl
        rw [hl] at htr hown
        have HT := Lib.hid htr
        have HO := Lib.hid hown
        clear hz hl hv he hnr htr hown
        go_wp2_with fail
        refine HT.out.mono ?_
        rintro e w' ⟨rfl, rfl⟩
        go_wp2_with fail
        go_ret
        exact ⟨_, _, rfl, HO.out, hext⟩

theorem shl_big {w : World} {A : Option Addr} {c1 m : Nat} {n : Int} {ds : List Nat} (h : NR w A c1 ds) (hs : dl (V ds) ≤ 17592186044416) (hm : m = 16777216) (hn : 16777216 < n) :
    Calls Try.prog 95 #[.slice A ds.length c1, .int .i64 n] w (RetN w (V ds * 2 ^ m)) := by
  have ht := trim_nr h
  have hn' := h.trim
  clear h
  unfold dl at hs
  have HF := Lib.hid (len_zero (V ds))
  have HV := Lib.hid hn'.valid
  have HR := Lib.hid hn'.rd
  have HA : Hid (val B32 (digs B32 (V ds)) = V ds) := val_digs B32_two _
  generalize V ds = a at *
  clear hn'
  by_cases h0 : a = 0
  · subst h0
    clear hm
    go_enter Try.func95, Try.ntmps95
    go_wp2_with fail
    refine ht.mono ?_
    rintro e w' ⟨rfl, rfl⟩
    go_wp2_with fail
    go_ret
    exact ⟨none, 0, by simp [digs_zero], by simpa [NO, digs_zero] using Own.none_ _ _ _ _, Ext.refl _⟩
  · have hz : (((digs B32 a).length : Int) == 0) = false := by rw [HF.out]; simpa using h0
    have HP : Hid (B32 ^ (524288) * (a * 2 ^ (0)) = a * 2 ^ m) := shl_pow (524288) (0) m a (by omega)
    clear HF h0 hm
    generalize digs B32 a = da at *
    have hcut : ¬ ((524288) + da.length + 1 = 524288) := by omega
    go_enter Try.func95, Try.ntmps95
    go_wp2_with fail
    refine ht.mono ?_
    rintro e w' ⟨rfl, rfl⟩
    clear ht
    go_wp2_with (at_make; refine wpList_mkrow rfl _ _ _ rfl _ _ _ Try.underlying23 info_u32 (by omega) _ _ _ ((524288) + da.length + 1) rfl rfl (by omega) (by omega) ?_)
    intro g w1 hg hrow hx
    have hinv : ShlInv w w1 g 0 (524288) (0) da := by
      refine ⟨_, hrow, by simp, valid_replicate (by unfold B32; omega) _, shl_zero _ _ (524288) (0) da, ⟨0, ?_, Nat.two_pow_pos _⟩, by simp, hx⟩
      rw [List.getElem?_replicate, if_pos (by omega)]
    clear hrow hx
    go_wp2_with fail
    go_loopw [36] (fun i wr => ∃ k : Nat, k ≤ da.length ∧ i = .int .i64 k ∧ ShlInv w wr g k (524288) (0) da) (fun i _ => da.length - (intOf i).toNat)
    case atStart => exact ⟨0, Nat.zero_le _, rfl, hinv⟩
    case round =>
      clear hinv
      obtain ⟨k, hk, rfl, hinv⟩ := hrel
      by_cases hlt : k < da.length
      · have hext : Ext w wr := by obtain ⟨_, _, _, _, _, _, _, h⟩ := hinv; exact h
        obtain ⟨b1, o1, rfl, hb1, hcx⟩ := (HR.out.below hext).at_ (j := k) hlt
        have hx : da[k] < 4294967296 := valid_get HV.out _ hlt
        obtain ⟨old, z, hcell, hfr, hos, hcell2, hfr2, hgl, hstep⟩ := hinv.old_ hlt
        have hs32 : 0 < 32 := by omega
        have hstep2 := hstep da[k] _ _ hs32 rfl hx hg rfl rfl
        obtain ⟨hor, hd1, hd2, hd3⟩ := shl_digit hs32 hx hos
        have hold : old < 4294967296 := by omega
        have HS : Hid (∀ e1 e2 : Int, e1 = ((old + da[k] * 2 ^ (0) % 4294967296 : Nat) : Int) → e2 = ((da[k] * 2 ^ (0) / 4294967296 : Nat) : Int) →
            ShlInv w ((wr.setCell ⟨g, 524288 + k, none⟩ (.int .u32 e1)).setCell ⟨g, 524288 + (k + 1), none⟩ (.int .u32 e2)) g (k + 1) (524288) (0) da) := fun e1 e2 h1 h2 => by subst h1 h2; exact hstep2
        have HOR := Lib.hid hor
        clear hinv hstep hstep2 hor
        generalize da[k] = x at *
        clear hd3
        go_wp2_with fail
        go_roundw
        case rel =>
          refine ⟨k + 1, by omega, by go_num, HS.out _ _ ?_ ?_⟩
          · have e0 : x * 2 ^ 0 % 4294967296 = x := by rw [Nat.pow_zero, Nat.mul_one]; exact Nat.mod_eq_of_lt hx
            have hO := HOR.out
            rw [e0] at hO
            rw [e0, ← hO]
            exact u32_or_nat old x hold hx
          · rw [Nat.pow_zero, Nat.mul_one]; omega
        case measure => simp [intOf]; omega
      · obtain rfl : k = da.length := by omega
        obtain ⟨zs, hz, hl, hv, he, _, _, hext⟩ := hinv
        rw [List.take_of_length_le (by omega), List.take_length, HA.out, HP.out] at he
        have HE : Hid (V zs = a * 2 ^ m) := he
        have hnr : NR wr (some ⟨g, 0, none⟩) zs.length zs :=
          ⟨by have := hz.rd zs.length; rwa [List.take_length] at this, hv, Nat.le_refl _, by omega⟩
        have htr := trim_nr hnr
        have hown := (Own.of_row' (B := w.heap.size) (n := zs.length) (ds := digs B32 (a * 2 ^ m)) hz hg (by unfold maxLen; omega) rfl
          (by rw [← HE.out, ← trim_V hv]; exact trimL_take _))
        rw [HE.out] at htr
        rw [hl] at htr hown
        have HT := Lib.hid htr
        have HO := Lib.hid hown
        clear hz hl hv he hnr htr hown
        go_wp2_with fail
        refine HT.out.mono ?_
        rintro e w' ⟨rfl, rfl⟩
        go_wp2_with fail
        go_ret
        exact ⟨_, _, rfl, HO.out, hext⟩
theorem shr_neg {w : World} {A : Option Addr} {c1 : Nat} {n : Int} {ds : List Nat} (h : NR w A c1 ds) (hs : dl (V ds) ≤ 17592186044416) (hn : n < 0) (hlt : 0 < dl (V ds)) :
    Calls Try.prog 147 #[.slice A ds.length c1, .int .i64 n] w (RetN w (V ds)) := by
  have ht := trim_nr h
  have hn' := h.trim
  clear h
  unfold dl at hs hlt
  generalize V ds = a at *
  have HV := Lib.hid hn'.valid
  have HR := Lib.hid hn'.rd
  have hle := hn'.le
  have hcap := hn'.cap
  have hval : val B32 (shrD 0 (digs B32 a)) = a := by
    have h1 := shrD_val (s := 0) (by omega) HV.out
    rw [Nat.pow_zero, Nat.div_one] at h1
    exact h1.trans (val_digs B32_two a)
  have HVAL := Lib.hid hval
  clear hn' hval
  generalize digs B32 a = da at *
  have hcut : ¬ (c1 = 0) := by omega
  obtain ⟨b1, o1, rfl, hb1, _⟩ := HR.out.at_ (j := 0) hlt
  have HC : Hid (∀ k (hk : k < da.length), w.cell? ⟨b1, o1 + k, none⟩ = some (.int .u32 (da[k] : Nat))) := by
    intro k hk
    obtain ⟨b, o, hA, _, hc⟩ := HR.out k (by omega)
    injection hA with hA
    injection hA with e1 e2
    subst e1 e2
    exact hc
  have HVd := Lib.hid (valid_drop HV.out (0))
  have hne : ¬ da = [] := by intro h; rw [h] at hlt; simp at hlt
  go_enter Try.func147, Try.ntmps147
  go_wp2_with fail
  refine ht.mono ?_
  rintro e w' ⟨rfl, rfl⟩
  clear ht
  go_wp2_with (at_make; refine wpList_mkrow rfl _ _ _ rfl _ _ _ Try.underlying23 info_u32 (by omega) _ _ _ (da.length) rfl rfl (by omega) (by omega) ?_)
  intro g w1 hg hrow hx
  have hinv : ShrInv w w1 g 0 (0) da := ⟨_, hrow, by simp, by simp, hx⟩
  clear hrow hx
  go_wp2_with fail
  go_loopw [33] (fun i wr => ∃ k : Nat, k ≤ da.length ∧ i = .int .i64 k ∧ ShrInv w wr g k (0) da) (fun i _ => (da.length) - (intOf i).toNat)
  case atStart => exact ⟨0, Nat.zero_le _, rfl, hinv⟩
  case round =>
    clear hinv
    obtain ⟨k, hk, rfl, hinv⟩ := hrel
    by_cases hlt2 : k < da.length
    · have hinv0 := hinv
      obtain ⟨zs, hz, hl, he, hext⟩ := hinv
      have hcx : wr.cell? ⟨b1, o1 + k, none⟩ = some (.int .u32 (da[k] : Nat)) := hext.cell (HC.out k hlt2)
      have hx : da[k] < 4294967296 := valid_get HV.out _ (by omega)
      obtain ⟨z0, hcell⟩ := hz.some_ (i := k) (by rw [hl]; exact hlt2)
      have hfr := hz.frozen k
      have HI := Lib.hid hinv0
      have hkd : k < da.length := by exact hlt2
      have HX : Hid (da[k] = da[k]) := Lib.hid rfl
      clear hz hl he hinv0
      by_cases hlast : k + 1 < da.length
      · have hcy : wr.cell? ⟨b1, o1 + (k + 1), none⟩ = some (.int .u32 (da[k + 1] : Nat)) := hext.cell (HC.out (k + 1) hlast)
        have hy : da[k + 1] < 4294967296 := valid_get HV.out _ (by omega)
        have HY : Hid (da[k + 1]?.getD 0 = da[k + 1]) := by
          show _ = _
          have hkd2 : k + 1 < da.length := by exact hlast
          rw [List.getElem?_eq_getElem hkd2]; rfl
        generalize hxe : da[k] = x at *
        have HXE := Lib.hid hxe
        clear hxe
        generalize da[k + 1] = y at *
        go_wp2_with fail
        go_roundw
        case rel =>
          refine ⟨k + 1, by omega, by go_num, HI.out.step hkd hg ?_⟩
          rw [HXE.out, HY.out, or_digits hx hy]
          simp
        case measure => simp [intOf]; omega
      · have HY : Hid (da[k + 1]?.getD 0 = 0) := by
          show _ = _
          rw [List.getElem?_eq_none (by omega)]; rfl
        generalize hxe : da[k] = x at *
        have HXE := Lib.hid hxe
        clear hxe
        go_wp2_with fail
        go_roundw
        case rel =>
          refine ⟨k + 1, by omega, by go_num, HI.out.step hkd hg ?_⟩
          rw [HXE.out, HY.out]
          simp
          omega
        case measure => simp [intOf]; omega
    · obtain rfl : k = da.length := by omega
      obtain ⟨zs, hz, hl, he, hext⟩ := hinv
      rw [← hl, List.take_length, hl, List.take_of_length_le (by rw [shrD_length]; exact Nat.le_refl _)] at he
      have hv : Valid B32 zs := by rw [he]; exact shrD_valid _ _
      have HE : Hid (V zs = a) := by show val B32 zs = _; rw [he]; exact HVAL.out
      have hnr : NR wr (some ⟨g, 0, none⟩) zs.length zs :=
        ⟨by have := hz.rd zs.length; rwa [List.take_length] at this, hv, Nat.le_refl _, by rw [hl]; omega⟩
      have ht := trim_nr hnr
      have hown := (Own.of_row' (B := w.heap.size) (n := zs.length) (ds := digs B32 (a)) hz (by omega) (by rw [hl]; unfold maxLen; omega) rfl
        (by rw [← HE.out, ← trim_V hv]; exact trimL_take _))
      rw [HE.out] at ht
      rw [hl] at ht hown
      have HTR := Lib.hid ht
      clear hz he hl hv hnr ht
      go_wp2_with fail
      refine HTR.out.mono ?_
      rintro e w' ⟨rfl, rfl⟩
      go_wp2_with fail
      go_ret
      exact ⟨_, _, rfl, hown, hext⟩


theorem shr_neg0 {w : World} {A : Option Addr} {c1 : Nat} {n : Int} {ds : List Nat} (h : NR w A c1 ds) (hn : n < 0) (h0 : V ds = 0) :
    Calls Try.prog 147 #[.slice A ds.length c1, .int .i64 n] w fun e w' => e = .returned (.slice none 0 0) ∧ w = w' := by
  have ht := trim_nr h
  clear h
  rw [h0, digs_zero] at ht
  go_enter Try.func147, Try.ntmps147
  go_wp2_with fail
  refine ht.mono ?_
  rintro e w' ⟨rfl, rfl⟩
  go_wp2_with fail
  go_ret
  exact ⟨rfl, rfl⟩
end Go.Proofs.Ytfnmbhjifdfibaa
