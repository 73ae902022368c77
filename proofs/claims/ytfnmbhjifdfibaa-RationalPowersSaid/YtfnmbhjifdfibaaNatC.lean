/- Contracts of natural.MulAdd, DivSmall, Mul. -/
import Derived.Test.YtfnmbhjifdfibaaNatB
namespace Go.Proofs.Ytfnmbhjifdfibaa
open Go.RowKit

theorem mul32_ex {x y : Nat} {w : World} (hx : x < 4294967296) (hy : y < 4294967296) :
    Calls Try.prog 132 #[.int .u32 x, .int .u32 y] w fun e w' => ∃ hi lo : Nat, e = .returned (.tuple #[.int .u32 hi, .int .u32 lo]) ∧ hi * 4294967296 + lo = x * y ∧ hi < 4294967296 ∧ lo < 4294967296 ∧ w = w' := by
  refine (mul32_any x y w hx hy).mono ?_
  rintro e w' ⟨rfl, rfl⟩
  have hb := mul_bound hx hy
  generalize x * y = P at *
  exact ⟨P / 4294967296, P % 4294967296, rfl, by omega, by omega, by omega, rfl⟩
theorem add32_ex {x y c : Nat} {w : World} (hx : x < 4294967296) (hy : y < 4294967296) (hc : c ≤ 1) :
    Calls Try.prog 126 #[.int .u32 x, .int .u32 y, .int .u32 c] w fun e w' => ∃ s k : Nat, e = .returned (.tuple #[.int .u32 s, .int .u32 k]) ∧ s + 4294967296 * k = x + y + c ∧ s < 4294967296 ∧ k ≤ 1 ∧ w = w' := by
  refine (add32_any x y c w hx hy hc).mono ?_
  rintro e w' ⟨rfl, rfl⟩
  exact ⟨_, _, rfl, by omega, by omega, by omega, rfl⟩

/-- What holds at the head of a round of 'MulAdd'. -/
def MAInv (w wr : World) (g : Nat) (da : List Nat) (m c0 k c : Nat) : Prop :=
  ∃ zs, Row wr g .u32 139 zs ∧ zs.length = da.length + 1 ∧ Valid B32 zs ∧
    val B32 (zs.take k) + B32 ^ k * c = val B32 (da.take k) * m + c0 ∧ Ext w wr

theorem ma_bound {x m c hi lo : Nat} (hx : x < 4294967296) (hm : m < 4294967296) (hc : c < 4294967296) (h : hi * 4294967296 + lo = x * m) {s k : Nat} (hs : s + 4294967296 * k = lo + c) :
    s + 4294967296 * (hi + k) = x * m + c ∧ (hi + k < 4294967296) := by
  have hb := mul_bound hx hm
  generalize x * m = P at *
  omega
theorem ma_step {B P Z X m c0 c x s c' : Nat} (h : Z + P * c = X * m + c0) (hs : s + B * c' = x * m + c) : Z + P * s + P * B * c' = (X + P * x) * m + c0 := by
  have h1 : P * (s + B * c') = P * (x * m + c) := by rw [hs]
  rw [Nat.mul_add, Nat.mul_add] at h1
  rw [Nat.add_mul, Nat.mul_assoc P B, Nat.mul_assoc P x]
  omega
theorem MAInv.step {w w2 : World} {g : Nat} {da : List Nat} {m c0 k c x s c' : Nat} {zs : List Nat}
    (hz2 : Row w2 g .u32 139 zs) (hl : zs.length = da.length + 1) (hv : Valid B32 zs) (hk : k < zs.length)
    (he : val B32 (zs.take k) + B32 ^ k * c = val B32 (da.take k) * m + c0)
    (ha : val B32 (da.take (k + 1)) = val B32 (da.take k) + B32 ^ k * x) (hs : s + 4294967296 * c' = x * m + c) (hsb : s < 4294967296) (hg : w.heap.size ≤ g) (hext : Ext w w2) :
    MAInv w (w2.setCell ⟨g, k, none⟩ (.int .u32 (s : Int))) g da m c0 (k + 1) c' := by
  refine ⟨zs.set k s, hz2.set_ k _, by simpa using hl, valid_set hv _ _ hsb, ?_, ?_⟩
  · rw [val_set B32 hk, ha, Nat.pow_succ]
    exact ma_step he hs
  · exact Below.setCell hext (p := ⟨g, k, none⟩) hg _

theorem mulAdd_any {w : World} {A : Option Addr} {c1 m c : Nat} {ds : List Nat} (h : NR w A c1 ds) (hm : m < 4294967296) (hc : c < 4294967296) (hs : dl (V ds) ≤ 17592186044416) :
    Calls Try.prog 142 #[.slice A ds.length c1, .int .u32 m, .int .u32 c] w (RetN w (V ds * m + c)) := by
  have ht := trim_nr h
  have hn := h.trim
  clear h
  unfold dl at hs
  generalize V ds = a at *
  have HV := Lib.hid hn.valid
  have HR := Lib.hid hn.rd
  have HA := Lib.hid (val_digs B32_two a)
  clear hn
  have HD : Hid (val B32 (digs B32 (a * m + c)) = a * m + c) := val_digs B32_two _
  go_enter Try.func142, Try.ntmps142
  go_wp2_with fail
  refine ht.mono ?_
  rintro e w' ⟨rfl, rfl⟩
  clear ht
  go_wp2_with (at_make; refine wpList_mkrow rfl _ _ _ rfl _ _ _ Try.underlying23 info_u32 (by omega) _ _ _ ((digs B32 a).length + 1) rfl rfl (by omega) (by omega) ?_)
  intro g w1 hg hrow hx
  have hinv : MAInv w w1 g (digs B32 a) m c 0 c :=
    ⟨_, hrow, by simp, valid_replicate (by unfold B32; omega) _, by simp [val], hx⟩
  clear hrow hx
  generalize digs B32 a = da at *
  go_wp2_with fail
  go_loopw [2, 21] (fun cv i wr => ∃ k cc : Nat, k ≤ da.length ∧ i = .int .i64 k ∧ cv = .int .u32 cc ∧ cc < 4294967296 ∧ MAInv w wr g da m c k cc) (fun _ i _ => da.length - (intOf i).toNat)
  case atStart => exact ⟨0, c, Nat.zero_le _, rfl, rfl, hc, hinv⟩
  case round =>
    clear hinv
    obtain ⟨k, cc, hk, rfl, rfl, hcc, hinv⟩ := hrel
    by_cases hlt : k < da.length
    · obtain ⟨zs, hz, hl, hv, he, hext⟩ := hinv
      obtain ⟨b1, o1, rfl, hb1, hc1⟩ := (HR.out.below hext).at_ (j := k) hlt
      have hx : da[k] < 4294967296 := valid_get HV.out k hlt
      obtain ⟨z0, hcell⟩ := hz.some_ (i := k) (by omega)
      have hfr := hz.frozen k
      have HL := Lib.hid hl
      have HE := Lib.hid he
      have HW := Lib.hid hv
      clear hl he hv
      go_wp2_with fail
      refine (mul32_ex hx hm).mono ?_
      rintro e w' ⟨hi, lo, rfl, hp, hhi, hlo, rfl⟩
      have HP := Lib.hid hp
      clear hp
      go_wp2_with fail
      refine (add32_ex (c := 0) hlo hcc (by omega)).mono ?_
      rintro e w' ⟨s, k1, rfl, hq, hsb, hk1, rfl⟩
      obtain ⟨hf, hcb⟩ := ma_bound hx hm hcc HP.out (s := s) (k := k1) (by omega)
      have HS := Lib.hid (MAInv.step hz HL.out HW.out (by rw [HL.out]; omega) HE.out (val_take_succ B32 da k hlt) hf hsb hg hext)
      clear hq hf hz hext hx hc1
      go_wp2_with fail
      go_roundw
      case rel => exact ⟨k + 1, hi + k1, by omega, by go_num, by go_num, by omega, HS.out⟩
      case measure => simp [intOf]; omega
    · obtain rfl : k = da.length := by omega
      obtain ⟨zs, hz, hl, hv, he, hext⟩ := hinv
      obtain ⟨z0, hcell⟩ := hz.some_ (i := da.length) (by omega)
      have hfr := hz.frozen da.length
      have HZ := Lib.hid (hz.set_ da.length cc)
      have HX : Hid (Ext w (wr.setCell ⟨g, da.length, none⟩ (.int .u32 (cc : Int)))) := Below.setCell hext (p := ⟨g, da.length, none⟩) hg _
      have HW : Hid (Valid B32 (zs.set da.length cc)) := valid_set hv _ _ hcc
      have HE : Hid (V (zs.set da.length cc) = a * m + c) := by
        show val B32 _ = _
        have h1 := val_set B32 (zs := zs) (k := da.length) (v := cc) (by omega)
        rw [List.take_of_length_le (by simp; omega)] at h1
        rw [h1, he, List.take_of_length_le (Nat.le_refl _), HA.out]
      have HL : Hid (da.length + 1 = (zs.set da.length cc).length) := by show _ = _; simp [hl]
      clear hz he hl hv hext
      go_wp2_with fail
      rw [HL.out]
      have hnr : NR (wr.setCell ⟨g, da.length, none⟩ (.int .u32 (cc : Int))) (some ⟨g, 0, none⟩) (zs.set da.length cc).length (zs.set da.length cc) :=
        ⟨by have := HZ.out.rd (zs.set da.length cc).length; rwa [List.take_length] at this, HW.out, Nat.le_refl _, by rw [← HL.out]; omega⟩
      refine (trim_nr hnr).mono ?_
      rintro e w' ⟨rfl, rfl⟩
      have hown := (Own.of_row' (B := w.heap.size) (n := zs.length) (ds := digs B32 (a * m + c)) HZ.out hg (by rw [← HL.out]; unfold maxLen; omega) (by simp)
        (by rw [← HE.out, ← trim_V HW.out]; exact trimL_take _))
      have hX := HX.out
      rw [HE.out]
      clear hnr
      go_wp2_with fail
      go_ret
      exact ⟨_, _, rfl, hown, hX⟩

/-- The call returns the number q in new memory, the number r, and true. -/
def RetDS (w : World) (q r : Nat) (e : Ending) (w' : World) : Prop := ∃ A c, e = .returned (.tuple #[.slice A (digs B32 q).length c, .int .u32 r, .bool true]) ∧ NO w' w.heap.size A c q ∧ Ext w w'

/-- What holds at the head of a round of 'DivSmall'. -/
def DSInv (w wr : World) (g : Nat) (da : List Nat) (d k r : Nat) : Prop :=
  ∃ zs, Row wr g .u32 139 zs ∧ zs.length = da.length ∧ Valid B32 zs ∧
    val B32 (da.drop k) = val B32 (zs.drop k) * d + r ∧ Ext w wr

theorem drop_set {zs : List Nat} {k v : Nat} (h : k < zs.length) : (zs.set k v).drop k = v :: zs.drop (k + 1) := by
  rw [List.drop_eq_getElem_cons (by simpa using h), List.drop_set_of_lt (by omega)]
  simp
theorem DSInv.step {w w2 : World} {g : Nat} {da : List Nat} {d k r : Nat} {zs : List Nat} (hk : k < da.length)
    (hz2 : Row w2 g .u32 139 zs) (hl : zs.length = da.length) (hv : Valid B32 zs)
    (he : val B32 (da.drop (k + 1)) = val B32 (zs.drop (k + 1)) * d + r) (hd : r < d) (hx : da[k] < 4294967296) (hg : w.heap.size ≤ g) (hext : Ext w w2) :
    DSInv w (w2.setCell ⟨g, k, none⟩ (.int .u32 ((r * 4294967296 + da[k]) / d : Nat))) g da d k ((r * 4294967296 + da[k]) % d) := by
  refine ⟨zs.set k ((r * 4294967296 + da[k]) / d), hz2.set_ k _, by simpa using hl, valid_set hv _ _ (div_small hd hx), ?_, Below.setCell hext (p := ⟨g, k, none⟩) hg _⟩
  rw [drop_set (by omega), val_drop B32 da k hk, val_cons, he]
  have h1 := Nat.div_add_mod (r * 4294967296 + da[k]) d
  have hB : B32 = 4294967296 := rfl
  rw [hB, Nat.add_mul, Nat.mul_comm ((r * 4294967296 + da[k]) / d) d, Nat.mul_add, Nat.mul_assoc 4294967296]
  omega

theorem divSmall_any {w : World} {A : Option Addr} {c1 d : Nat} {ds : List Nat} (h : NR w A c1 ds) (hd0 : 0 < d) (hd : d < 4294967296) (hs : dl (V ds) ≤ 17592186044416) :
    Calls Try.prog 130 #[.slice A ds.length c1, .int .u32 d] w (RetDS w (V ds / d) (V ds % d)) := by
  have ht := trim_nr h
  have hn := h.trim
  clear h
  unfold dl at hs
  generalize V ds = a at *
  have HV := Lib.hid hn.valid
  have HR := Lib.hid hn.rd
  have HA := Lib.hid (val_digs B32_two a)
  clear hn
  have hdz : ((d : Int) == 0) = false := by simp; omega
  go_enter Try.func130, Try.ntmps130
  go_wp2_with fail
  refine ht.mono ?_
  rintro e w' ⟨rfl, rfl⟩
  clear ht
  go_wp2_with (at_make; refine wpList_mkrow rfl _ _ _ rfl _ _ _ Try.underlying23 info_u32 (by omega) _ _ _ (digs B32 a).length rfl rfl (by omega) (by omega) ?_)
  intro g w1 hg hrow hx
  have hinv : DSInv w w1 g (digs B32 a) d (digs B32 a).length 0 :=
    ⟨_, hrow, by simp, valid_replicate (by unfold B32; omega) _, by simp [val], hx⟩
  clear hrow hx
  generalize digs B32 a = da at *
  go_wp2_with fail
  go_loopw [8, 9] (fun rv i wr => ∃ k r : Nat, k ≤ da.length ∧ i = .int .i64 ((k : Int) - 1) ∧ rv = .int .u32 r ∧ r < d ∧ DSInv w wr g da d k r) (fun _ i _ => (intOf i + 1).toNat)
  case atStart => exact ⟨da.length, 0, Nat.le_refl _, rfl, rfl, hd0, hinv⟩
  case round =>
    clear hinv
    obtain ⟨k, r, hk, rfl, rfl, hr, hinv⟩ := hrel
    by_cases h0 : k = 0
    · subst h0
      obtain ⟨zs, hz, hl, hv, he, hext⟩ := hinv
      simp only [List.drop_zero] at he
      rw [HA.out] at he
      have hq : val B32 zs = a / d := by
        rw [he, Nat.mul_comm, Nat.mul_add_div hd0, Nat.div_eq_of_lt hr, Nat.add_zero]
      have hr' : r = a % d := by
        rw [he, Nat.mul_comm, Nat.mul_add_mod, Nat.mod_eq_of_lt hr]
      have HE : Hid (V zs = a / d) := hq
      have HM := Lib.hid hr'
      have hnr : NR wr (some ⟨g, 0, none⟩) zs.length zs :=
        ⟨by have := hz.rd zs.length; rwa [List.take_length] at this, hv, Nat.le_refl _, by omega⟩
      have ht := trim_nr hnr
      have hown := (Own.of_row' (B := w.heap.size) (n := zs.length) (ds := digs B32 (a / d)) hz (by omega) (by unfold maxLen; omega) rfl
        (by rw [← HE.out, ← trim_V hv]; exact trimL_take _))
      rw [HE.out] at ht
      rw [hl] at ht hown
      have HT := Lib.hid ht
      clear hz he hl hv hnr ht hq hr'
      go_wp2_with fail
      refine HT.out.mono ?_
      rintro e w' ⟨rfl, rfl⟩
      go_wp2_with fail
      go_ret3
      exact ⟨_, _, by rw [← HM.out]; rfl, hown, hext⟩
    · have hk1 : k - 1 < da.length := by omega
      obtain ⟨zs, hz, hl, hv, he, hext⟩ := hinv
      obtain ⟨b1, o1, rfl, hb1, hc1⟩ := (HR.out.below hext).at_ (j := k - 1) hk1
      have hx : da[k - 1] < 4294967296 := valid_get HV.out _ hk1
      obtain ⟨z0, hcell⟩ := hz.some_ (i := k - 1) (by omega)
      have hfr := hz.frozen (k - 1)
      have hrm : (r * 4294967296 + da[k - 1]) % d < d := Nat.mod_lt _ hd0
      have HS : Hid (∀ n, DSInv w ((wr.drewN n).setCell ⟨g, k - 1, none⟩ (.int .u32 ((r * 4294967296 + da[k - 1]) / d : Nat))) g da d (k - 1) ((r * 4294967296 + da[k - 1]) % d)) :=
        fun n => DSInv.step hk1 (hz.drewN n) hl hv (by rw [show k - 1 + 1 = k from by omega]; exact he) hr hx hg (hext.trans (Qt.ext ⟨n, rfl⟩))
      clear hl he hv
      have hp : 0 < k := by omega
      go_wp2_with fail
      refine (div32_any r _ d _ hr hx hd).mono ?_
      rintro e w' ⟨rfl, n, rfl⟩
      generalize hxx : da[k - 1] = x at *
      clear hxx
      go_wp2_with fail
      go_roundw
      case rel => exact ⟨k - 1, _, by omega, by go_num, rfl, hrm, HS.out n⟩
      case measure => simp [intOf]; omega

/-- The call returns a new row of L digits of value n. -/
def RetRow (w : World) (L n : Nat) (e : Ending) (w' : World) : Prop :=
  ∃ g zs, e = .returned (.slice (some ⟨g, 0, none⟩) L L) ∧ w.heap.size ≤ g ∧ Row w' g .u32 139 zs ∧ zs.length = L ∧ Valid B32 zs ∧ val B32 zs = n ∧ Ext w w'

/-- The head of a round of the outer loop of 'schoolbook'. -/
def SBOut (w wr : World) (g : Nat) (da db : List Nat) (i : Nat) : Prop :=
  ∃ zs, Row wr g .u32 139 zs ∧ zs.length = da.length + db.length ∧ Valid B32 zs ∧ val B32 zs = val B32 (da.take i) * val B32 db ∧
    zs.drop (i + db.length) = List.replicate (da.length - i) 0 ∧ Ext w wr
/-- The head of a round of its inner loop: Z the row at its start. -/
def SBIn (w wr : World) (g : Nat) (da db Z : List Nat) (x i j c : Nat) : Prop :=
  ∃ zs, Row wr g .u32 139 zs ∧ zs.length = da.length + db.length ∧ Valid B32 zs ∧ zs.drop (i + j) = Z.drop (i + j) ∧
    val B32 (zs.take (i + j)) + B32 ^ (i + j) * c = val B32 (Z.take (i + j)) + B32 ^ i * (x * val B32 (db.take j)) ∧ Ext w wr

theorem sb_digit {x y old c hi lo s1 k1 s2 k2 : Nat} (hx : x < 4294967296) (hy : y < 4294967296) (ho : old < 4294967296) (hc : c < 4294967296)
    (h1 : hi * 4294967296 + lo = x * y) (h2 : s1 + 4294967296 * k1 = lo + old) (h3 : s2 + 4294967296 * k2 = s1 + c) :
    hi + k1 < 4294967296 ∧ hi + k1 + k2 < 4294967296 ∧ s2 + 4294967296 * (hi + k1 + k2) = x * y + old + c := by
  have hb := mul_bound hx hy
  generalize x * y = P at *
  omega
theorem SBIn.step {w w2 : World} {g : Nat} {da db Z zs : List Nat} {x i j c s c' old : Nat} (hj : j < db.length) (hi : i < da.length) (hZ : Z.length = da.length + db.length)
    (hz : Row w2 g .u32 139 zs) (hl : zs.length = da.length + db.length) (hv : Valid B32 zs) (hd : zs.drop (i + j) = Z.drop (i + j))
    (he : val B32 (zs.take (i + j)) + B32 ^ (i + j) * c = val B32 (Z.take (i + j)) + B32 ^ i * (x * val B32 (db.take j)))
    (hold : Z[i + j]? = some old) (hs : s + 4294967296 * c' = x * db[j] + old + c) (hsb : s < 4294967296) (hg : w.heap.size ≤ g) (hext : Ext w w2) :
    SBIn w (w2.setCell ⟨g, i + j, none⟩ (.int .u32 (s : Int))) g da db Z x i (j + 1) c' := by
  refine ⟨zs.set (i + j) s, hz.set_ _ _, by simpa using hl, valid_set hv _ _ hsb, ?_, ?_, Below.setCell hext (p := ⟨g, i + j, none⟩) hg _⟩
  · rw [← Nat.add_assoc, List.drop_set_of_lt (by omega)]
    have h1 := congrArg (List.drop 1) hd
    rwa [List.drop_drop, List.drop_drop] at h1
  · rw [← Nat.add_assoc, val_set B32 (by omega), val_take_succ B32 Z (i + j) (by omega), val_take_succ B32 db j hj]
    have ho : Z[i + j]'(by omega) = old := by
      rw [List.getElem?_eq_getElem (by omega)] at hold
      injection hold
    rw [ho, Nat.pow_succ, Nat.pow_add]
    rw [Nat.pow_add] at he
    have := sb_math (B := B32) (s := s) (c' := c') (y := db[j]) (old := old) he hs
    rw [← Nat.mul_assoc (B32 ^ i)] at this
    exact this

theorem SBIn.close {w w2 : World} {g : Nat} {da db Z zs : List Nat} {x i c : Nat} (hi : i < da.length) (hx : da[i] = x) (hZ : Z.length = da.length + db.length)
    (hz : Row w2 g .u32 139 zs) (hl : zs.length = da.length + db.length) (hv : Valid B32 zs) (hd : zs.drop (i + db.length) = Z.drop (i + db.length))
    (he : val B32 (zs.take (i + db.length)) + B32 ^ (i + db.length) * c = val B32 (Z.take (i + db.length)) + B32 ^ i * (x * val B32 (db.take db.length)))
    (hc : c < 4294967296) (hZv : val B32 Z = val B32 (da.take i) * val B32 db) (hZd : Z.drop (i + db.length) = List.replicate (da.length - i) 0) (hg : w.heap.size ≤ g) (hext : Ext w w2) :
    SBOut w (w2.setCell ⟨g, i + db.length, none⟩ (.int .u32 (c : Int))) g da db (i + 1) := by
  have hk : i + db.length < zs.length := by omega
  have hdz : (zs.set (i + db.length) c).drop (i + 1 + db.length) = List.replicate (da.length - (i + 1)) 0 := by
    rw [show i + 1 + db.length = i + db.length + 1 from by omega, List.drop_set_of_lt (by omega)]
    have h1 := congrArg (List.drop 1) (hd.trans hZd)
    rw [List.drop_drop, List.drop_replicate] at h1
    rw [h1]
    congr 1
  refine ⟨zs.set (i + db.length) c, hz.set_ _ _, by simpa using hl, valid_set hv _ _ hc, ?_, hdz, Below.setCell hext (p := ⟨g, i + db.length, none⟩) hg _⟩
  rw [val_split B32 _ (i + 1 + db.length), hdz, val_replicate, Nat.mul_zero, Nat.add_zero, show i + 1 + db.length = i + db.length + 1 from by omega, val_set B32 hk, he, List.take_length,
    val_take_succ B32 da i hi, hx, Nat.add_mul, ← hZv]
  have h2 : val B32 Z = val B32 (Z.take (i + db.length)) := by
    conv => lhs; rw [val_split B32 Z (i + db.length), hZd, val_replicate, Nat.mul_zero, Nat.add_zero]
  rw [h2, Nat.mul_assoc]

theorem schoolbook_any {w : World} {A1 A2 : Option Addr} {c1 c2 : Nat} {da db : List Nat} (h1 : NR w A1 c1 da) (h2 : NR w A2 c2 db) (hs : da.length + db.length ≤ 17592186044416) :
    Calls Try.prog 149 #[.slice A1 da.length c1, .slice A2 db.length c2] w (RetRow w (da.length + db.length) (val B32 da * val B32 db)) := by
  have HV1 := Lib.hid h1.valid
  have HV2 := Lib.hid h2.valid
  have HR1 := Lib.hid h1.rd
  have HR2 := Lib.hid h2.rd
  clear h1 h2
  go_enter Try.func149, Try.ntmps149
  go_wp2_with (at_make; refine wpList_mkrow rfl _ _ _ rfl _ _ _ Try.underlying23 info_u32 (by omega) _ _ _ (da.length + db.length) rfl rfl (by omega) (by omega) ?_)
  intro g w1 hg hrow hx
  have hinv : SBOut w w1 g da db 0 := ⟨_, hrow, by simp, valid_replicate (by unfold B32; omega) _, by simp [val, val_replicate], by simp, hx⟩
  clear hrow hx
  go_wp2_with fail
  go_loopw [23] (fun i wr => ∃ k : Nat, k ≤ da.length ∧ i = .int .i64 k ∧ SBOut w wr g da db k) (fun i _ => da.length - (intOf i).toNat)
  case atStart => exact ⟨0, Nat.zero_le _, rfl, hinv⟩
  case round =>
    clear hinv
    obtain ⟨i, hi, rfl, hinv⟩ := hrel
    by_cases hlt : i < da.length
    · obtain ⟨Z, hz, hl, hv, he, hd, hext⟩ := hinv
      obtain ⟨b1, o1, rfl, hb1, hc1⟩ := (HR1.out.below hext).at_ (j := i) hlt
      by_cases h0 : da[i] = 0
      · have hS : SBOut w wr g da db (i + 1) := by
          refine ⟨Z, hz, hl, hv, ?_, ?_, hext⟩
          · rw [val_take_succ B32 da i hlt, h0, Nat.mul_zero, Nat.add_zero]; exact he
          · have h3 := congrArg (List.drop 1) hd
            rw [List.drop_drop, List.drop_replicate] at h3
            rw [show i + 1 + db.length = i + db.length + 1 from by omega, h3]
            congr 1
        have HS := Lib.hid hS
        have hz0 : ((da[i] : Nat) : Int) = 0 := by omega
        rw [hz0] at hc1
        clear hz hl hv he hd hext h0 hS hz0
        go_wp2_with fail
        go_roundw
        case rel => exact ⟨i + 1, by omega, by go_num, HS.out⟩
        case measure => simp [intOf]; omega
      · have hx : da[i] < 4294967296 := valid_get HV1.out i hlt
        have hin : SBIn w wr g da db Z da[i] i 0 0 := ⟨Z, hz, hl, hv, rfl, by simp [val], hext⟩
        have HL := Lib.hid hl
        have HW := Lib.hid hv
        have HE := Lib.hid he
        have HD := Lib.hid hd
        have HX := Lib.hid (rfl : da[i] = da[i])
        clear hz hl hv he hd hext
        generalize hxe : da[i] = x at hx hin hc1 h0
        have HXE := Lib.hid hxe
        clear hxe HX
        have hx0 : ((x : Int) == 0) = false := by simp; omega
        have hcut : ¬ (da.length + db.length = i) := by omega
        go_wp2_with fail
        obtain ⟨wo, rfl⟩ : ∃ wo : World, wo = wr := ⟨_, rfl⟩
        go_loopw [9, 35] (fun cv jv wr => ∃ j cc : Nat, j ≤ db.length ∧ jv = .int .i64 j ∧ cv = .int .u32 cc ∧ cc < 4294967296 ∧ SBIn w wr g da db Z x i j cc) (fun _ jv _ => db.length - (intOf jv).toNat)
        case atStart => exact ⟨0, 0, Nat.zero_le _, rfl, rfl, by omega, hin⟩
        case round =>
          clear hin hc1 hb1
          obtain ⟨j, cc, hj, rfl, rfl, hcc, hin⟩ := hrel
          by_cases hjl : j < db.length
          · obtain ⟨zs, hz, hl, hv, hd, he, hext⟩ := hin
            obtain ⟨b2, o2, rfl, hb2, hc2⟩ := (HR2.out.below hext).at_ (j := j) hjl
            have hy : db[j] < 4294967296 := valid_get HV2.out j hjl
            have hij : i + j < zs.length := by omega
            have hold : Z[i + j]? = some zs[i + j] := by
              have h3 := congrArg (fun l => l[0]?) hd
              simp only [List.getElem?_drop, Nat.add_zero] at h3
              rw [← h3, List.getElem?_eq_getElem hij]
            have ho : zs[i + j] < 4294967296 := valid_get hv _ hij
            have hcell : wr.cell? ⟨g, i + j, none⟩ = some (.int .u32 (zs[i + j] : Nat)) := hz.cell hij
            have hfr := hz.frozen (i + j)
            have HL2 := Lib.hid hl
            have HE2 := Lib.hid he
            have HD2 := Lib.hid hd
            have HO := Lib.hid hold
            generalize zs[i + j] = old at ho hcell HO
            clear hl he hd hold hij
            have hjr : j < da.length + db.length - i := by omega
            go_wp2_with fail
            refine (mul32_ex hx hy).mono ?_
            rintro e w' ⟨hi', lo, rfl, hp, hhi, hlo, rfl⟩
            have HP := Lib.hid hp
            clear hp
            go_wp2_with fail
            refine (add32_ex (c := 0) hlo ho (by omega)).mono ?_
            rintro e w' ⟨s1, k1, rfl, hq, hs1, hk1, rfl⟩
            have HQ := Lib.hid hq
            clear hq
            have hbd : hi' + k1 < 4294967296 := (sb_digit (c := 0) (s2 := s1) (k2 := 0) hx hy ho (by omega) HP.out (by have := HQ.out; omega) (by omega)).1
            go_wp2_with fail
            refine (add32_ex (c := 0) hs1 hcc (by omega)).mono ?_
            rintro e w' ⟨s2, k2, rfl, hq, hs2, hk2, rfl⟩
            obtain ⟨_, hbd2, hf⟩ := sb_digit hx hy ho hcc HP.out (s1 := s1) (k1 := k1) (by have := HQ.out; omega) (s2 := s2) (k2 := k2) (by omega)
            have HS := Lib.hid (SBIn.step hjl hlt HL.out hz HL2.out hv HD2.out HE2.out HO.out hf hs2 hg hext)
            clear hq hf hz hext hc2 hv
            go_wp2_with fail
            go_roundw
            case rel => exact ⟨j + 1, hi' + k1 + k2, by omega, by go_num, by go_num, by omega, HS.out⟩
            case measure => simp [intOf]; omega
          · obtain rfl : j = db.length := by omega
            obtain ⟨zs, hz, hl, hv, hd, he, hext⟩ := hin
            obtain ⟨z0, hcell⟩ := hz.some_ (i := i + db.length) (by omega)
            have hfr := hz.frozen (i + db.length)
            have HS := Lib.hid (SBIn.close hlt HXE.out HL.out hz hl hv hd he hcc HE.out HD.out hg hext)
            have hjr : db.length < da.length + db.length - i := by omega
            clear hz hl hv hd he hext
            go_wp2_with fail
            go_roundw
            case rel => exact ⟨i + 1, by omega, by go_num, HS.out⟩
            case measure => simp [intOf]; omega
    · obtain rfl : i = da.length := by omega
      obtain ⟨Z, hz, hl, hv, he, hd, hext⟩ := hinv
      go_wp2_with fail
      go_ret
      exact ⟨g, Z, rfl, hg, hz, hl, hv, by rw [he, List.take_length], hext⟩

theorem divSmall_zero {w : World} {A : Option Addr} {n c : Nat} :
    Calls Try.prog 130 #[.slice A n c, .int .u32 0] w fun e w' => e = .returned (.tuple #[.slice none 0 0, .int .u32 0, .bool false]) ∧ w = w' := by
  go_enter Try.func130, Try.ntmps130
  go_wp2_with fail
  go_ret3
  exact ⟨rfl, rfl⟩

theorem product_small {w : World} {A1 A2 : Option Addr} {c1 c2 : Nat} {da db : List Nat} (h1 : NR w A1 c1 da) (h2 : NR w A2 c2 db) (hs : da.length + db.length ≤ 17592186044416) (hm : min da.length db.length < 48) :
    Calls Try.prog 124 #[.slice A1 da.length c1, .slice A2 db.length c2] w (RetRow w (da.length + db.length) (val B32 da * val B32 db)) := by
  have t1 := schoolbook_any h1 h2 hs
  have t2 := schoolbook_any h2 h1 (by omega)
  rw [Nat.add_comm db.length, Nat.mul_comm (val B32 db)] at t2
  clear h1 h2
  by_cases hl : da.length < db.length
  · have h48 : da.length < 48 := by omega
    clear hm
    go_enter Try.func124, Try.ntmps124
    go_wp2_with fail
    refine t1.mono ?_
    rintro e w' ⟨g, zs, rfl, hr⟩
    go_wp2_with fail
    go_ret
    exact ⟨g, zs, rfl, hr⟩
  · have h48 : db.length < 48 := by omega
    clear hm
    go_enter Try.func124, Try.ntmps124
    go_wp2_with fail
    refine t2.mono ?_
    rintro e w' ⟨g, zs, rfl, hr⟩
    go_wp2_with fail
    go_ret
    exact ⟨g, zs, rfl, hr⟩

theorem mul_any {w : World} {A1 A2 : Option Addr} {c1 c2 : Nat} {d1 d2 : List Nat} (h1 : NR w A1 c1 d1) (h2 : NR w A2 c2 d2) (hs : dl (V d1) + dl (V d2) ≤ 17592186044416) (hm : min (dl (V d1)) (dl (V d2)) < 48) :
    Calls Try.prog 96 #[.slice A1 d1.length c1, .slice A2 d2.length c2] w (RetN w (V d1 * V d2)) := by
  have t1 := trim_nr h1
  have t2 := trim_nr h2
  have tp := product_small h1.trim h2.trim hs hm
  clear h1 h2
  rw [val_digs B32_two, val_digs B32_two] at tp
  unfold dl at hs
  generalize V d1 = a at *
  generalize V d2 = b at *
  go_enter Try.func96, Try.ntmps96
  go_wp2_with fail
  refine t1.mono ?_
  rintro e w' ⟨rfl, rfl⟩
  go_wp2_with fail
  refine t2.mono ?_
  rintro e w' ⟨rfl, rfl⟩
  go_wp2_with fail
  refine tp.mono ?_
  rintro e w1 ⟨g, zs, rfl, hg, hz, hl, hv, he, hext⟩
  have HE : Hid (V zs = a * b) := he
  have hnr : NR w1 (some ⟨g, 0, none⟩) zs.length zs :=
    ⟨by have := hz.rd zs.length; rwa [List.take_length] at this, hv, Nat.le_refl _, by omega⟩
  have ht := trim_nr hnr
  have hown := (Own.of_row' (B := w.heap.size) (n := zs.length) (ds := digs B32 (a * b)) hz (by omega) (by unfold maxLen; omega) rfl
    (by rw [← HE.out, ← trim_V hv]; exact trimL_take _))
  rw [HE.out] at ht
  rw [hl] at ht hown
  have HT := Lib.hid ht
  clear hz he hl hv hnr ht t1 t2 tp
  go_wp2_with fail
  refine HT.out.mono ?_
  rintro e w' ⟨rfl, rfl⟩
  go_wp2_with fail
  go_ret
  exact ⟨_, _, rfl, hown, hext⟩
end Go.Proofs.Ytfnmbhjifdfibaa
