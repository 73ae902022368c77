/- The zero bits at a number's lower end: natural.TrailingZeros. -/
import Derived.Test.YtjefndkhonpalaaDoorNatY
import Derived.Test.YtjefndkhonpalaaDoorShelfTz
namespace Go.Proofs.YtjefndkhonpalaaDoor
open Go.RowKit
/-- z is the number of zero bits below the lowest bit that is 1; 0 for 0. -/
def TZ (n z : Nat) : Prop := (n = 0 ∧ z = 0) ∨ ((∀ j, j < z → bitN n j = 0) ∧ bitN n z = 1)
theorem bitN_zero (j : Nat) : bitN 0 j = 0 := by unfold bitN; rw [Nat.zero_div]
theorem TZ.unique {n y z : Nat} (h1 : TZ n y) (h2 : TZ n z) : y = z := by
  rcases h1 with ⟨a, b⟩ | ⟨a, b⟩ <;> rcases h2 with ⟨c, d⟩ | ⟨c, d⟩
  · omega
  · rw [a, bitN_zero] at d; omega
  · rw [c, bitN_zero] at b; omega
  · rcases Nat.lt_trichotomy y z with h | h | h
    · have := c y h; omega
    · exact h
    · have := a z h; omega
theorem mod_of_bits {n : Nat} : ∀ k, (∀ j, j < k → bitN n j = 0) → n % 2 ^ k = 0
  | 0, _ => by rw [Nat.pow_zero, Nat.mod_one]
  | k + 1, h => by
    have h1 := mod_of_bits k (fun j hj => h j (by omega))
    have h2 := h k (by omega)
    unfold bitN at h2
    rw [Nat.mod_pow_succ, h1, show n / 2 ^ k % 2 = 0 from h2, Nat.mul_zero]
theorem tz_end {n z : Nat} (h : ∀ j, j < z → bitN n j = 0) (hz : z = bl n ∨ bitN n z = 1) (hl : z ≤ bl n) : TZ n z := by
  rcases hz with hz | hz
  · have h1 := mod_of_bits z h
    rw [hz, show n % 2 ^ bl n = n from Nat.mod_eq_of_lt (lt_pow_len (B := 2) (by omega) n)] at h1
    subst h1
    exact .inl ⟨rfl, by rw [hz]; rfl⟩
  · exact .inr ⟨h, hz⟩
theorem tz_digit {x c m : Nat} (hx : x = 2 ^ c * (2 * m + 1)) : (∀ j, j < c → x / 2 ^ j % 2 = 0) ∧ x / 2 ^ c % 2 = 1 := by
  constructor
  · intro j hj
    obtain ⟨k, rfl⟩ : ∃ k, c = j + (k + 1) := ⟨c - j - 1, by omega⟩
    rw [hx, Nat.pow_add, Nat.mul_assoc, Nat.mul_div_cancel_left _ (Nat.two_pow_pos j), Nat.pow_succ, Nat.mul_assoc, Nat.mul_comm (2 ^ k), Nat.mul_assoc, Nat.mul_mod_right]
  · rw [hx, Nat.mul_div_cancel_left _ (Nat.two_pow_pos c)]; omega
theorem tz_at {ds : List Nat} (hv : Valid B32 ds) {i c m : Nat} (hi : i < ds.length) (h0 : ∀ j, (hj : j < ds.length) → j < i → ds[j] = 0) (hc : c < 32) (hx : ds[i] = 2 ^ c * (2 * m + 1)) : TZ (V ds) (32 * i + c) := by
  obtain ⟨h1, h2⟩ := tz_digit hx
  refine .inr ⟨fun j hj => ?_, ?_⟩
  · have hl : j / 32 < ds.length := by omega
    rw [show bitN (V ds) j = _ from bitN_digit hv j hl]
    by_cases h : j / 32 < i
    · rw [h0 _ hl h, Nat.zero_div]
    · have e : j / 32 = i := by omega
      have : ds[j / 32] = ds[i] := by congr 1
      rw [this]
      exact h1 _ (by omega)
  · have e : (32 * i + c) / 32 = i := by omega
    have hl : (32 * i + c) / 32 < ds.length := by omega
    rw [show bitN (V ds) (32 * i + c) = _ from bitN_digit hv _ hl]
    have : ds[(32 * i + c) / 32] = ds[i] := by congr 1
    rw [this, show (32 * i + c) % 32 = c by omega]
    exact h2
theorem tz_none {ds : List Nat} (h0 : ∀ j, (hj : j < ds.length) → ds[j] = 0) : V ds = 0 := by
  induction ds with
  | nil => rfl
  | cons d ds ih =>
    have h1 : d = 0 := h0 0 (by simp)
    have h2 := ih (fun j hj => by have := h0 (j + 1) (by simpa using hj); simpa using this)
    show d + B32 * V ds = 0
    rw [h1, h2]; rfl
theorem ctz_odd {x : Nat} (h0 : x ≠ 0) (hx : x < 4294967296) : ∃ m, x = 2 ^ Lib.ctz 32 x * (2 * m + 1) ∧ Lib.ctz 32 x < 32 := by
  unfold Lib.ctz
  rw [if_neg h0]
  exact Lib.ctzFrom_spec 32 x (by omega) hx
set_option maxHeartbeats 4000000 in
set_option maxRecDepth 100000 in
theorem trailing_any {w : World} {A : Option Addr} {c : Nat} {ds : List Nat} (h : NR w A c ds) (hs : ds.length ≤ 274877906944) (hT : TabAt 0 Lib.deBruijn32tab w) :
    Calls Tryd.prog 9 #[.slice A ds.length c] w fun e w' => (∃ z : Nat, e = .returned (.int .i64 z) ∧ TZ (V ds) z) ∧ w' = w := by
  have HV := Lib.hid h.valid
  have HR := Lib.hid h.rd
  have HC : Hid (∀ x : Nat, x < 4294967296 → Calls Tryd.prog 15 #[.int .u32 x] w fun e w' => e = .returned (.int .i64 (Lib.ctz 32 x)) ∧ w' = w) := fun x hx => Tryd.bits_TrailingZeros32 x hx w (fun _ => hT)
  clear h hT
  go_enter Tryd.func9, Tryd.ntmps9
  go_wp2_with fail
  go_loop [7] (fun i => ∃ k : Nat, k ≤ ds.length ∧ i = .int .i64 k ∧ Hid (∀ j, (hj : j < ds.length) → j < k → ds[j] = 0)) (fun i => ds.length - (intOf i).toNat)
  case atStart => exact ⟨0, Nat.zero_le _, rfl, fun j _ hj => by omega⟩
  case round =>
    obtain ⟨k, hk, rfl, HZ⟩ := hrel
    by_cases hlt : k < ds.length
    · obtain ⟨b, o, rfl, hb, hc⟩ := HR.out.at_ (j := k) hlt
      have hx : ds[k] < 4294967296 := valid_get HV.out k hlt
      by_cases h0 : ds[k] = 0
      · have HN : Hid (∀ j, (hj : j < ds.length) → j < k + 1 → ds[j] = 0) := fun j hj hjk => by
          by_cases e : j = k
          · subst e; exact h0
          · exact HZ.out j hj (by omega)
        rw [h0] at hc
        clear HZ h0 hx
        go_wp2_with fail
        go_round
        case rel => exact ⟨k + 1, by omega, by go_num, HN⟩
        case measure => simp [intOf]; omega
      · obtain ⟨m, hm, hc32⟩ := ctz_odd h0 hx
        have HTZ := Lib.hid (tz_at HV.out hlt HZ.out hc32 hm)
        have HCC := Lib.hid (HC.out _ hx)
        clear hm HZ HV HR HC
        generalize Lib.ctz 32 ds[k] = z at *
        generalize ds[k] = x at *
        have h0b : ((x : Int) == 0) = false := by simpa using h0
        go_wp2_with fail
        refine HCC.out.mono ?_
        rintro e w' ⟨rfl, hw⟩
        rw [hw]
        go_wp2_with fail
        go_ret
        exact ⟨⟨32 * k + z, ret_int (by go_num), HTZ.out⟩, rfl⟩
    · obtain rfl : k = ds.length := by omega
      have HTZ : Hid (TZ (V ds) 0) := .inl ⟨tz_none (fun j hj => HZ.out j hj hj), rfl⟩
      clear HZ HV HR HC
      go_wp2_with fail
      go_ret
      exact ⟨⟨0, rfl, HTZ.out⟩, rfl⟩
end Go.Proofs.YtjefndkhonpalaaDoor
