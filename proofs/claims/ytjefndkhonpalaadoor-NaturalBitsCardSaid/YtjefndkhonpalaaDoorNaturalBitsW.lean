/- The walk of NaturalBits. -/
import Derived.Test.YtjefndkhonpalaaDoorNatZ
import Derived.Test.YtjefndkhonpalaaDoorRefs
namespace Go.Proofs.YtjefndkhonpalaaDoor
open Go.RowKit
set_option maxHeartbeats 4000000 in
set_option maxRecDepth 100000 in
theorem naturalBits_walk {w : World} {A1 : Option Addr} {c1 : Nat} {da : List Nat} {n : Int} (hT : TabAt 0 Lib.deBruijn32tab w) (h1 : NR w A1 c1 da) (hn : -9223372036854775808 ≤ n ∧ n ≤ 9223372036854775807) :
    Calls Tryd.prog 3 #[.slice A1 da.length c1, .int .i64 n] w fun e w' => e = .returned (.bool true) ∧ Ext w w' := by
  have l1 := h1.le
  have p1 := h1.cap
  have hx := Ext.refl w
  obtain ⟨hn1, hn2⟩ := hn
  by_cases hf : decide (da.length ≤ 20) = true
  · have k1 : da.length ≤ 20 := by simpa using hf
    have d1 := h1.nv.dl
    have b1 := h1.nv.bl
    have HF := Lib.hid hf
    have HTR : Hid (∀ w', Ext w w' → Calls Tryd.prog 9 #[.slice A1 da.length c1] w' fun e w'' => (∃ z : Nat, e = .returned (.int .i64 z) ∧ TZ (V da) z) ∧ Ext w' w'') := fun w' hx => (trailing_any (h1.ext hx) (by omega) (fun j hj => hx.cell (hT j hj))).mono fun e w'' h => ⟨h.1, by rw [h.2]; exact Ext.refl _⟩
    have HBL : Hid (∀ w', Ext w w' → Calls Tryd.prog 7 #[.slice A1 da.length c1] w' fun e w'' => e = .returned (.int .i64 (bl (V da))) ∧ Ext w' w'') := fun w' hx => (bitLen_v (h1.ext hx).nv (by omega)).mono fun e w'' h => ⟨h.1, by rw [h.2]; exact Ext.refl _⟩
    clear hf hT
    go_enter Tryd.func3, Tryd.ntmps3
    go_wp2_with fail
    refine (awake1 _).mono ?_
    rintro e w1 ⟨rfl, x1⟩
    have hx := hx.trans x1
    go_wp2_with fail
    refine (few1 (by omega)).mono ?_
    rintro e w2 ⟨rfl, x2⟩
    have hx := hx.trans x2
    rw [HF.out]
    go_wp2_with fail
    refine (rof_v (h1.ext hx).nv (by omega)).mono ?_
    rintro e w3 ⟨Ag1, cg1, rfl, g1, x3⟩
    have hx := hx.trans x3
    have hcap := g1.cap
    have hle := g1.le
    have HCE : Hid (∀ j, j < (digs 2 (V da)).length → ∃ b off, Ag1 = some ⟨b, off, none⟩ ∧ b < w3.heap.size ∧ w3.cell? ⟨b, off + j, none⟩ = some (.int .i64 (bitN (V da) j : Nat))) := fun j hj => by
      obtain ⟨b, off, e, hb, hc⟩ := g1.rd.at_ hj
      rw [digs_get hj] at hc
      exact ⟨b, off, e, hb, hc⟩
    obtain ⟨L, hL⟩ : ∃ L, L = bl (V da) := ⟨_, rfl⟩
    rw [← hL] at HBL b1
    rw [show (digs 2 (V da)).length = L from hL.symm] at HCE hle ⊢
    have HL : Hid ((digs 2 (V da)).length = L) := hL.symm
    have HLB : Hid (L = bl (V da)) := hL
    clear hL g1 x1 x2 x3
    go_wp2_with fail
    go_loop [6] (fun iv => ∃ k : Nat, k ≤ L ∧ iv = .int .i64 k ∧ Hid (∀ j, j < k → bitN (V da) j = 0)) (fun iv => L - (intOf iv).toNat)
    case atStart => exact ⟨0, Nat.zero_le _, rfl, fun j hj => by omega⟩
    case round =>
      obtain ⟨k, hk, rfl, HZ⟩ := hrel
      by_cases hlt : k < L
      · obtain ⟨b, o, hA, hb, hc⟩ := HCE.out k hlt
        by_cases h0 : bitN (V da) k = 0
        · have HN : Hid (∀ j, j < k + 1 → bitN (V da) j = 0) := fun j hjk => by
            by_cases e : j = k
            · subst e; exact h0
            · exact HZ.out j (by omega)
          rw [h0] at hc
          cases hA
          clear HZ h0
          go_wp2_with fail
          go_round
          case rel => exact ⟨k + 1, by omega, by go_num, HN⟩
          case measure => simp [intOf]; omega
        · have h1b : bitN (V da) k = 1 := by have := bitN_lt (V da) k; omega
          have HTZ : Hid (TZ (V da) k) := tz_end HZ.out (.inr h1b) (by rw [← HLB.out]; exact hk)
          rw [h1b] at hc
          clear HZ h0 h1b
          cases hA
          rcases Int.lt_or_le n 0 with hn0 | hn0
          · have HBI : Hid (∀ w', Ext w w' → Calls Tryd.prog 8 #[.slice A1 da.length c1, .int .i64 n] w' fun e w'' => e = .returned (.int .i64 0) ∧ Ext w' w'') := fun w' hx => (bit_neg hn0).mono fun e w'' h => ⟨h.1, by rw [h.2]; exact Ext.refl _⟩
            have HN9 := True.intro
            clear HN9
            go_wp2_with fail
            refine (HBL.out _ hx).mono ?_
            rintro e w5 ⟨rfl, x5⟩
            go_wp2_with fail
            refine (HBI.out _ (hx.trans x5)).mono ?_
            rintro e w6 ⟨rfl, x6⟩
            go_wp2_with fail
            refine (HTR.out _ ((hx.trans x5).trans x6)).mono ?_
            rintro e w7 ⟨⟨z, rfl, hz⟩, x7⟩
            obtain rfl := TZ.unique hz HTZ.out
            clear hz HTZ
            go_wp2_with fail
            go_ret
            exact ⟨rfl, ((hx.trans x5).trans x6).trans x7⟩
          · obtain ⟨i, rfl⟩ : ∃ i : Nat, n = i := ⟨n.toNat, by omega⟩
            have hi9 : i ≤ 9223372036854775807 := by omega
            by_cases hil : i < L
            · have HBI : Hid (∀ w', Ext w w' → Calls Tryd.prog 8 #[.slice A1 da.length c1, .int .i64 (i : Int)] w' fun e w'' => e = .returned (.int .i64 (bitN (V da) i : Nat)) ∧ Ext w' w'') := fun w' hx => (bit_v (h1.ext hx).nv hi9).mono fun e w'' h => ⟨h.1, by rw [h.2]; exact Ext.refl _⟩
              obtain ⟨b8, o8, hA8, hb8, hc8⟩ := HCE.out i hil
              have HN9 := True.intro
              cases hA8
              clear HN9
              go_wp2_with fail
              refine (HBL.out _ hx).mono ?_
              rintro e w5 ⟨rfl, x5⟩
              go_wp2_with fail
              refine (HBI.out _ (hx.trans x5)).mono ?_
              rintro e w6 ⟨rfl, x6⟩
              go_wp2_with fail
              refine (HTR.out _ ((hx.trans x5).trans x6)).mono ?_
              rintro e w7 ⟨⟨z, rfl, hz⟩, x7⟩
              obtain rfl := TZ.unique hz HTZ.out
              clear hz HTZ
              go_wp2_with fail
              go_ret
              exact ⟨rfl, ((hx.trans x5).trans x6).trans x7⟩
            · have HBI : Hid (∀ w', Ext w w' → Calls Tryd.prog 8 #[.slice A1 da.length c1, .int .i64 (i : Int)] w' fun e w'' => e = .returned (.int .i64 0) ∧ Ext w' w'') := fun w' hx => by
                have h5 := bit_v (h1.ext hx).nv hi9
                rw [bitN_zero_of_len (show (digs 2 (V da)).length ≤ i by have := HL.out; omega)] at h5
                exact h5.mono fun e w'' h => ⟨h.1, by rw [h.2]; exact Ext.refl _⟩
              have HN9 := True.intro
              clear HN9
              go_wp2_with fail
              refine (HBL.out _ hx).mono ?_
              rintro e w5 ⟨rfl, x5⟩
              go_wp2_with fail
              refine (HBI.out _ (hx.trans x5)).mono ?_
              rintro e w6 ⟨rfl, x6⟩
              go_wp2_with fail
              refine (HTR.out _ ((hx.trans x5).trans x6)).mono ?_
              rintro e w7 ⟨⟨z, rfl, hz⟩, x7⟩
              obtain rfl := TZ.unique hz HTZ.out
              clear hz HTZ
              go_wp2_with fail
              go_ret
              exact ⟨rfl, ((hx.trans x5).trans x6).trans x7⟩
      · obtain rfl : k = L := by omega
        have HTZ : Hid (TZ (V da) k) := tz_end HZ.out (.inl HLB.out) (by rw [← HLB.out]; exact hk)
        clear HZ
        rcases Int.lt_or_le n 0 with hn0 | hn0
        · have HBI : Hid (∀ w', Ext w w' → Calls Tryd.prog 8 #[.slice A1 da.length c1, .int .i64 n] w' fun e w'' => e = .returned (.int .i64 0) ∧ Ext w' w'') := fun w' hx => (bit_neg hn0).mono fun e w'' h => ⟨h.1, by rw [h.2]; exact Ext.refl _⟩
          have HN9 := True.intro
          clear HN9
          go_wp2_with fail
          refine (HBL.out _ hx).mono ?_
          rintro e w5 ⟨rfl, x5⟩
          go_wp2_with fail
          refine (HBI.out _ (hx.trans x5)).mono ?_
          rintro e w6 ⟨rfl, x6⟩
          go_wp2_with fail
          refine (HTR.out _ ((hx.trans x5).trans x6)).mono ?_
          rintro e w7 ⟨⟨z, rfl, hz⟩, x7⟩
          obtain rfl := TZ.unique hz HTZ.out
          clear hz HTZ
          go_wp2_with fail
          go_ret
          exact ⟨rfl, ((hx.trans x5).trans x6).trans x7⟩
        · obtain ⟨i, rfl⟩ : ∃ i : Nat, n = i := ⟨n.toNat, by omega⟩
          have hi9 : i ≤ 9223372036854775807 := by omega
          by_cases hil : i < k
          · have HBI : Hid (∀ w', Ext w w' → Calls Tryd.prog 8 #[.slice A1 da.length c1, .int .i64 (i : Int)] w' fun e w'' => e = .returned (.int .i64 (bitN (V da) i : Nat)) ∧ Ext w' w'') := fun w' hx => (bit_v (h1.ext hx).nv hi9).mono fun e w'' h => ⟨h.1, by rw [h.2]; exact Ext.refl _⟩
            obtain ⟨b8, o8, hA8, hb8, hc8⟩ := HCE.out i hil
            have HN9 := True.intro
            cases hA8
            clear HN9
            go_wp2_with fail
            refine (HBL.out _ hx).mono ?_
            rintro e w5 ⟨rfl, x5⟩
            go_wp2_with fail
            refine (HBI.out _ (hx.trans x5)).mono ?_
            rintro e w6 ⟨rfl, x6⟩
            go_wp2_with fail
            refine (HTR.out _ ((hx.trans x5).trans x6)).mono ?_
            rintro e w7 ⟨⟨z, rfl, hz⟩, x7⟩
            obtain rfl := TZ.unique hz HTZ.out
            clear hz HTZ
            go_wp2_with fail
            go_ret
            exact ⟨rfl, ((hx.trans x5).trans x6).trans x7⟩
          · have HBI : Hid (∀ w', Ext w w' → Calls Tryd.prog 8 #[.slice A1 da.length c1, .int .i64 (i : Int)] w' fun e w'' => e = .returned (.int .i64 0) ∧ Ext w' w'') := fun w' hx => by
              have h5 := bit_v (h1.ext hx).nv hi9
              rw [bitN_zero_of_len (show (digs 2 (V da)).length ≤ i by have := HL.out; omega)] at h5
              exact h5.mono fun e w'' h => ⟨h.1, by rw [h.2]; exact Ext.refl _⟩
            have HN9 := True.intro
            clear HN9
            go_wp2_with fail
            refine (HBL.out _ hx).mono ?_
            rintro e w5 ⟨rfl, x5⟩
            go_wp2_with fail
            refine (HBI.out _ (hx.trans x5)).mono ?_
            rintro e w6 ⟨rfl, x6⟩
            go_wp2_with fail
            refine (HTR.out _ ((hx.trans x5).trans x6)).mono ?_
            rintro e w7 ⟨⟨z, rfl, hz⟩, x7⟩
            obtain rfl := TZ.unique hz HTZ.out
            clear hz HTZ
            go_wp2_with fail
            go_ret
            exact ⟨rfl, ((hx.trans x5).trans x6).trans x7⟩
  · have hf' : decide (da.length ≤ 20) = false := by simpa using hf
    have HF := Lib.hid hf'
    clear hf hf'
    go_enter Tryd.func3, Tryd.ntmps3
    go_wp2_with fail
    refine (awake1 _).mono ?_
    rintro e w1 ⟨rfl, x1⟩
    have hx := hx.trans x1
    go_wp2_with fail
    refine (few1 (by omega)).mono ?_
    rintro e w2 ⟨rfl, x2⟩
    have hx := hx.trans x2
    rw [HF.out]
    go_wp2_with fail
    refine (awake1 _).mono ?_
    rintro e w3 ⟨rfl, x3⟩
    go_wp2_with fail
    go_ret
    exact ⟨rfl, hx.trans x3⟩
end Go.Proofs.YtjefndkhonpalaaDoor
