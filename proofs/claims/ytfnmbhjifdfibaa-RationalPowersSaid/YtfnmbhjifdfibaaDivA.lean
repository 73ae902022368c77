/- Contracts of package division: the digits of a quotient. -/
import Derived.Test.YtfnmbhjifdfibaaNatC
import Derived.Test.YtfnmbhjifdfibaaKnuth
namespace Go.Proofs.Ytfnmbhjifdfibaa
open Go.RowKit
set_option maxRecDepth 100000 in
theorem estimate_any {w : World} {u2 u1 u0 v1 v2 : Nat} (h2 : u2 ≤ v1) (h1 : u1 < 4294967296) (h0 : u0 < 4294967296) (hv1 : v1 < 4294967296) (hv2 : v2 < 4294967296) :
    Calls Try.prog 144 #[.int .u32 u2, .int .u32 u1, .int .u32 u0, .int .u32 v1, .int .u32 v2] w fun e w' => ∃ D, e = .returned (.int .u32 (D : Nat)) ∧ Est 4294967296 ((u2 * 4294967296 + u1) * 4294967296 + u0) (v1 * 4294967296 + v2) D ∧ Qt w w' := by
  have HLOOP : Hid True := trivial
  by_cases hlt : u2 < v1
  · have hge : ¬ v1 ≤ u2 := by omega
    have HI := Lib.hid (est_start_lt (u0 := u0) (v2 := v2) hlt h1 h0 hv1)
    have HD := Lib.hid (div32_any u2 u1 v1 w hlt h1 hv1)
    generalize (u2 * 4294967296 + u1) / v1 = D0 at *
    generalize (u2 * 4294967296 + u1) % v1 = R0 at *
    go_enter Try.func144, Try.ntmps144
    go_wp2_with fail
    refine HD.out.mono ?_
    rintro e w1 ⟨rfl, hq⟩
    have HQ1 : Hid (Qt w w1) := hq
    clear hq HD
    go_wp2_with fail
    go_loop [11, 12, 13] (fun dv rv ov => ∃ D r o : Nat, dv = .int .u32 D ∧ rv = .int .u32 r ∧ ov = .int .u32 o ∧ D < 4294967296 ∧ r < 4294967296 ∧ o ≤ 1 ∧ Hid (EstInv 4294967296 u2 u1 u0 v1 v2 D r o)) (fun dv _ _ => (intOf dv).toNat)
    case atStart => exact ⟨D0, R0, 0, rfl, rfl, rfl, HI.out.lt, HI.out.rlt, HI.out.olt, HI.out⟩
    case round =>
      clear HI
      obtain ⟨D, r, o, rfl, rfl, rfl, hD, hr, ho, HI⟩ := hrel
      by_cases ho1 : o = 0
      · subst ho1
        go_wp2_with fail
        refine (mul32_ex hD hv2).mono ?_
        rintro e w' ⟨hi, lo, rfl, hp, hhi, hlo, rfl⟩
        have HP := Lib.hid hp
        by_cases hs : D * v2 ≤ r * 4294967296 + u0
        · have HE := Lib.hid (est_stop HI.out hs)
          by_cases hc1 : hi < r
          · clear hp hs
            go_wp2_with fail
            go_ret
            exact ⟨D, rfl, HE.out, HQ1.out⟩
          · have hc2 : ((hi : Int) == (r : Int)) = true := by simp; omega
            have hc3 : lo ≤ u0 := by omega
            clear hp hs
            go_wp2_with fail
            go_ret
            exact ⟨D, rfl, HE.out, HQ1.out⟩
        · have HST : Hid (∀ r' o', r' + 4294967296 * o' = r + v1 → r' < 4294967296 → o' ≤ 1 → 0 < D ∧ EstInv 4294967296 u2 u1 u0 v1 v2 (D - 1) r' o') := fun r' o' a b c => est_next HI.out (by omega) a b c
          have hD0 : 0 < D := by
            rcases Nat.eq_zero_or_pos D with h5 | h5
            · subst h5; simp at hs
            · exact h5
          have hc1 : ¬ hi < r := by omega
          by_cases hc4 : hi = r
          · have hc2 : ((hi : Int) == (r : Int)) = true := by simp; omega
            have hc3 : ¬ lo ≤ u0 := by omega
            clear hp hs hc4
            go_wp2_with fail
            refine (add32_ex (c := 0) hr hv1 (by omega)).mono ?_
            rintro e w' ⟨r', o', rfl, hq, hr', ho', rfl⟩
            have HN := Lib.hid (HST.out r' o' (by omega) hr' ho').2
            clear hq
            go_wp2_with fail
            go_round
            case rel => exact ⟨D - 1, r', o', by go_num, rfl, rfl, by omega, hr', ho', HN.out⟩
            case measure => simp [intOf]; omega
          · have hc2 : ((hi : Int) == (r : Int)) = false := by simp; omega
            clear hp hs hc4
            go_wp2_with fail
            refine (add32_ex (c := 0) hr hv1 (by omega)).mono ?_
            rintro e w' ⟨r', o', rfl, hq, hr', ho', rfl⟩
            have HN := Lib.hid (HST.out r' o' (by omega) hr' ho').2
            clear hq
            go_wp2_with fail
            go_round
            case rel => exact ⟨D - 1, r', o', by go_num, rfl, rfl, by omega, hr', ho', HN.out⟩
            case measure => simp [intOf]; omega
      · obtain rfl : o = 1 := by omega
        have HE := Lib.hid (est_over HI.out hv2)
        go_wp2_with fail
        go_ret
        exact ⟨D, rfl, HE.out, HQ1.out⟩
  · have hge : v1 ≤ u2 := by omega
    have heq : u2 = v1 := by omega
    go_enter Try.func144, Try.ntmps144
    go_wp2_with fail
    refine (add32_ex (c := 0) h1 hv1 (by omega)).mono ?_
    rintro e w1 ⟨R0, o0, rfl, hq, hr, ho, rfl⟩
    have HI : Hid (EstInv 4294967296 u2 u1 u0 v1 v2 4294967295 R0 o0) := est_start_eq (by omega) heq (by omega) hr ho
    have HQ1 : Hid (Qt w w) := Qt.refl w
    clear hq heq
    go_wp2_with fail
    go_loop [11, 12, 13] (fun dv rv ov => ∃ D r o : Nat, dv = .int .u32 D ∧ rv = .int .u32 r ∧ ov = .int .u32 o ∧ D < 4294967296 ∧ r < 4294967296 ∧ o ≤ 1 ∧ Hid (EstInv 4294967296 u2 u1 u0 v1 v2 D r o)) (fun dv _ _ => (intOf dv).toNat)
    case atStart => exact ⟨4294967295, R0, o0, rfl, rfl, rfl, HI.out.lt, HI.out.rlt, HI.out.olt, HI.out⟩
    case round =>
      clear HI
      obtain ⟨D, r, o, rfl, rfl, rfl, hD, hr, ho, HI⟩ := hrel
      by_cases ho1 : o = 0
      · subst ho1
        go_wp2_with fail
        refine (mul32_ex hD hv2).mono ?_
        rintro e w' ⟨hi, lo, rfl, hp, hhi, hlo, rfl⟩
        have HP := Lib.hid hp
        by_cases hs : D * v2 ≤ r * 4294967296 + u0
        · have HE := Lib.hid (est_stop HI.out hs)
          by_cases hc1 : hi < r
          · clear hp hs
            go_wp2_with fail
            go_ret
            exact ⟨D, rfl, HE.out, HQ1.out⟩
          · have hc2 : ((hi : Int) == (r : Int)) = true := by simp; omega
            have hc3 : lo ≤ u0 := by omega
            clear hp hs
            go_wp2_with fail
            go_ret
            exact ⟨D, rfl, HE.out, HQ1.out⟩
        · have HST : Hid (∀ r' o', r' + 4294967296 * o' = r + v1 → r' < 4294967296 → o' ≤ 1 → 0 < D ∧ EstInv 4294967296 u2 u1 u0 v1 v2 (D - 1) r' o') := fun r' o' a b c => est_next HI.out (by omega) a b c
          have hD0 : 0 < D := by
            rcases Nat.eq_zero_or_pos D with h5 | h5
            · subst h5; simp at hs
            · exact h5
          have hc1 : ¬ hi < r := by omega
          by_cases hc4 : hi = r
          · have hc2 : ((hi : Int) == (r : Int)) = true := by simp; omega
            have hc3 : ¬ lo ≤ u0 := by omega
            clear hp hs hc4
            go_wp2_with fail
            refine (add32_ex (c := 0) hr hv1 (by omega)).mono ?_
            rintro e w' ⟨r', o', rfl, hq, hr', ho', rfl⟩
            have HN := Lib.hid (HST.out r' o' (by omega) hr' ho').2
            clear hq
            go_wp2_with fail
            go_round
            case rel => exact ⟨D - 1, r', o', by go_num, rfl, rfl, by omega, hr', ho', HN.out⟩
            case measure => simp [intOf]; omega
          · have hc2 : ((hi : Int) == (r : Int)) = false := by simp; omega
            clear hp hs hc4
            go_wp2_with fail
            refine (add32_ex (c := 0) hr hv1 (by omega)).mono ?_
            rintro e w' ⟨r', o', rfl, hq, hr', ho', rfl⟩
            have HN := Lib.hid (HST.out r' o' (by omega) hr' ho').2
            clear hq
            go_wp2_with fail
            go_round
            case rel => exact ⟨D - 1, r', o', by go_num, rfl, rfl, by omega, hr', ho', HN.out⟩
            case measure => simp [intOf]; omega
      · obtain rfl : o = 1 := by omega
        have HE := Lib.hid (est_over HI.out hv2)
        go_wp2_with fail
        go_ret
        exact ⟨D, rfl, HE.out, HQ1.out⟩
theorem sub32_ex {w : World} {x y c : Nat} (hx : x < 4294967296) (hy : y < 4294967296) (hc : c ≤ 1) :
    Calls Try.prog 128 #[.int .u32 x, .int .u32 y, .int .u32 c] w fun e w' => ∃ d k : Nat, e = .returned (.tuple #[.int .u32 d, .int .u32 k]) ∧ d + y + c = x + 4294967296 * k ∧ d < 4294967296 ∧ k ≤ 1 ∧ w = w' := by
  refine (sub32_any x y c w hx hy hc).mono ?_
  rintro e w' ⟨rfl, rfl⟩
  refine ⟨_, _, rfl, ?_, Nat.mod_lt _ (by omega), ?_, rfl⟩
  · unfold bor
    split <;> omega
  · unfold bor; split <;> omega
theorem Only.refl (w : World) (g : Nat) : Only w w g := ⟨rfl, rfl, rfl, rfl, fun _ _ => rfl⟩
theorem Only.set' {w w1 : World} {g i : Nat} (h : Only w w1 g) (v : Value) : Only w (w1.setCell ⟨g, i, none⟩ v) g :=
  ⟨h.os, h.tape, h.output, by simpa using h.size, fun k hk => (Below.heap_setCell w1 ⟨g, i, none⟩ v k hk).trans (h.block k hk)⟩
theorem Rd.only {w w' : World} {g : Nat} {k : IntKind} {A : Option Addr} {ds : List Nat} (h : Rd w k A ds) (ho : Only w w' g) (hA : ∀ b o s, A = some ⟨b, o, s⟩ → b ≠ g) : Rd w' k A ds := by
  intro j hj
  obtain ⟨b, off, e, hb, hc⟩ := h j hj
  refine ⟨b, off, e, by rw [ho.size]; exact hb, ?_⟩
  rw [← hc]
  exact World.cell?_of_block (ho.block b (hA b off none e))
theorem drop_set_off (zs : List Nat) (j k s : Nat) : (zs.set (j + k) s).drop j = (zs.drop j).set k s := by
  rw [List.drop_set, if_neg (by omega), Nat.add_sub_cancel_left]
theorem get_drop {us : List Nat} {j k : Nat} (h : j + k < us.length) : (us.drop j)[k]'(by rw [List.length_drop]; omega) = us[j + k] := by rw [List.getElem_drop]
/-- The head of a round of a loop that changes a part of a row: what lies outside is as it was, and from k on. -/
structure PartInv (w wr : World) (g : Nat) (us zs : List Nat) (j k : Nat) : Prop where
  row : Row wr g .u32 139 zs
  len : zs.length = us.length
  valid : Valid B32 zs
  low : zs.take j = us.take j
  high : zs.drop (j + k) = us.drop (j + k)
  only : Only w wr g
theorem PartInv.set_ {w wr : World} {g j k s : Nat} {us zs : List Nat} (h : PartInv w wr g us zs j k) (hs : s < 4294967296) : PartInv w (wr.setCell ⟨g, j + k, none⟩ (.int .u32 (s : Int))) g us (zs.set (j + k) s) j (k + 1) := by
  refine ⟨h.row.set_ _ _, by simpa using h.len, valid_set h.valid _ _ hs, ?_, ?_, h.only.set' _⟩
  · rw [List.take_set_of_le (by omega)]; exact h.low
  · rw [← Nat.add_assoc, List.drop_set_of_lt (by omega)]
    have h1 := congrArg (List.drop 1) h.high
    rwa [List.drop_drop, List.drop_drop] at h1
theorem PartInv.get {w wr : World} {g j k : Nat} {us zs : List Nat} (h : PartInv w wr g us zs j k) (hk : j + k < us.length) : zs[j + k]? = some us[j + k] := by
  have h1 := congrArg (fun l => l[0]?) h.high
  simp only [List.getElem?_drop, Nat.add_zero] at h1
  rw [h1, List.getElem?_eq_getElem hk]
theorem PartInv.cell {w wr : World} {g j k : Nat} {us zs : List Nat} (h : PartInv w wr g us zs j k) (hk : j + k < us.length) : wr.cell? ⟨g, j + k, none⟩ = some (.int .u32 (us[j + k] : Nat)) := by
  have h1 := h.get hk
  have h2 : j + k < zs.length := by rw [h.len]; exact hk
  have h3 := h.row.cell h2
  rw [List.getElem?_eq_getElem h2] at h1
  injection h1 with h1
  rw [h3, h1]
theorem part_val {zs : List Nat} {j k s : Nat} (h : j + k < zs.length) : val B32 (((zs.set (j + k) s).drop j).take (k + 1)) = val B32 ((zs.drop j).take k) + B32 ^ k * s := by
  rw [drop_set_off, val_set B32 (by rw [List.length_drop]; omega)]
theorem part_old {us : List Nat} {j k : Nat} (h : j + k < us.length) : val B32 ((us.drop j).take (k + 1)) = val B32 ((us.drop j).take k) + B32 ^ k * us[j + k] := by
  rw [val_take_succ B32 _ k (by rw [List.length_drop]; omega), get_drop h]

set_option maxRecDepth 100000 in
theorem subMul_any {w : World} {g j c c2 n D : Nat} {A : Option Addr} {us vs : List Nat} (hrow : Row w g .u32 139 us) (hv : Valid B32 us) (hR : Rd w .u32 A vs) (hvs : Valid B32 vs) (hn : vs.length = n)
    (hA : ∀ b o s, A = some ⟨b, o, s⟩ → b ≠ g) (hj : j + n + 1 ≤ us.length) (hD : D < 4294967296) (hlen : us.length ≤ 17592186044416) :
    Calls Try.prog 145 #[.slice (some ⟨g, j, none⟩) (n + 1) c, .slice A n c2, .int .u32 D] w fun e w' => ∃ zs bo, e = .returned (.bool (decide (bo = 1))) ∧ bo ≤ 1 ∧ PartInv w w' g us zs j (n + 1) ∧
      val B32 ((zs.drop j).take (n + 1)) + val B32 vs * D = val B32 ((us.drop j).take (n + 1)) + B32 ^ (n + 1) * bo := by
  have HR := Lib.hid hR
  have HVS := Lib.hid hvs
  have HVU := Lib.hid hv
  have HN := Lib.hid hn
  have HAA := Lib.hid hA
  have hinv : PartInv w w g us us j 0 := ⟨hrow, rfl, hv, rfl, rfl, Only.refl _ _⟩
  clear hR hvs hv hn hA hrow
  go_enter Try.func145, Try.ntmps145
  go_wp2_with fail
  go_loopw [7, 8, 17] (fun cv bv iv wr => ∃ (k cc bb : Nat) (zs : List Nat), k ≤ n ∧ iv = .int .i64 k ∧ cv = .int .u32 cc ∧ bv = .int .u32 bb ∧ cc < 4294967296 ∧ bb ≤ 1 ∧ PartInv w wr g us zs j k ∧ Hid (val B32 ((zs.drop j).take k) + val B32 (vs.take k) * D = val B32 ((us.drop j).take k) + B32 ^ k * (cc + bb))) (fun _ _ iv _ => n - (intOf iv).toNat)
  case atStart => exact ⟨0, 0, 0, us, Nat.zero_le _, rfl, rfl, rfl, by omega, by omega, hinv, by show _ = _; simp [val]⟩
  case round =>
    clear hinv
    obtain ⟨k, cc, bb, zs, hk, rfl, rfl, rfl, hcc, hbb, hinv, HE⟩ := hrel
    by_cases hlt : k < n
    · have hkv : k < vs.length := by rw [HN.out]; exact hlt
      obtain ⟨b1, o1, rfl, hb1, hc1⟩ := (HR.out.only hinv.only HAA.out).at_ (j := k) hkv
      have hy : vs[k] < 4294967296 := valid_get HVS.out k hkv
      have hju : j + k < us.length := by omega
      have hcp := hinv.cell hju
      have hp : us[j + k] < 4294967296 := valid_get HVU.out _ hju
      have hfr := hinv.row.frozen (j + k)
      have HI := Lib.hid hinv
      have HLZ : Hid (j + k < zs.length) := by show _ < _; rw [hinv.len]; exact hju
      have HVT := Lib.hid (val_take_succ B32 vs k hkv)
      have HUT := Lib.hid (part_old hju)
      clear hinv
      generalize us[j + k] = p at *
      generalize vs[k] = y at *
      go_wp2_with fail
      refine (mul32_ex hy hD).mono ?_
      rintro e w' ⟨hi, lo, rfl, hp1, hhi, hlo, rfl⟩
      have HP := Lib.hid hp1
      clear hp1
      go_wp2_with fail
      refine (add32_ex (c := 0) hlo hcc (by omega)).mono ?_
      rintro e w' ⟨s, k1, rfl, hq, hsb, hk1, rfl⟩
      obtain ⟨hf, hcb⟩ := ma_bound hy hD hcc HP.out (s := s) (k := k1) (by omega)
      have HF := Lib.hid hf
      clear hf hq
      go_wp2_with fail
      refine (sub32_ex hp hsb hbb).mono ?_
      rintro e w' ⟨d, k2, rfl, hq, hdb, hk2, rfl⟩
      have HS : Hid (PartInv w (wr.setCell ⟨g, j + k, none⟩ (.int .u32 (d : Int))) g us (zs.set (j + k) d) j (k + 1) ∧ val B32 (((zs.set (j + k) d).drop j).take (k + 1)) + val B32 (vs.take (k + 1)) * D = val B32 ((us.drop j).take (k + 1)) + B32 ^ (k + 1) * (hi + k1 + k2)) := by
        refine ⟨HI.out.set_ hdb, ?_⟩
        rw [part_val HLZ.out, HVT.out, HUT.out, Nat.pow_succ]
        exact submul_step HE.out HF.out hq
      clear hq
      go_wp2_with fail
      go_roundw
      case rel => exact ⟨k + 1, hi + k1, k2, _, by omega, by go_num, by go_num, by go_num, hcb, hk2, HS.out.1, HS.out.2⟩
      case measure => simp [intOf]; omega
    · obtain rfl : k = n := by omega
      have hju : j + k < us.length := by omega
      have hcp := hinv.cell hju
      have hp : us[j + k] < 4294967296 := valid_get HVU.out _ hju
      have hfr := hinv.row.frozen (j + k)
      have HI := Lib.hid hinv
      have HLZ : Hid (j + k < zs.length) := by show _ < _; rw [hinv.len]; exact hju
      have HUT := Lib.hid (part_old hju)
      clear hinv
      generalize us[j + k] = p at *
      go_wp2_with fail
      refine (sub32_ex hp hcc hbb).mono ?_
      rintro e w' ⟨d, k2, rfl, hq, hdb, hk2, rfl⟩
      have HS : Hid (PartInv w (wr.setCell ⟨g, j + k, none⟩ (.int .u32 (d : Int))) g us (zs.set (j + k) d) j (k + 1) ∧ val B32 (((zs.set (j + k) d).drop j).take (k + 1)) + val B32 vs * D = val B32 ((us.drop j).take (k + 1)) + B32 ^ (k + 1) * k2) := by
        refine ⟨HI.out.set_ hdb, ?_⟩
        have h5 := HE.out
        have hvt : vs.take k = vs := List.take_of_length_le (by rw [HN.out]; exact Nat.le_refl _)
        rw [hvt] at h5
        rw [part_val HLZ.out, HUT.out, Nat.pow_succ]
        exact submul_top h5 hq
      clear hq
      go_wp2_with fail
      go_ret
      refine ⟨_, k2, ?_, hk2, HS.out.1, HS.out.2⟩
      have h01 : k2 = 0 ∨ k2 = 1 := by omega
      rcases h01 with rfl | rfl <;> rfl
set_option maxRecDepth 100000 in
theorem addBack_any {w : World} {g j c c2 n : Nat} {A : Option Addr} {us vs : List Nat} (hrow : Row w g .u32 139 us) (hv : Valid B32 us) (hR : Rd w .u32 A vs) (hvs : Valid B32 vs) (hn : vs.length = n)
    (hA : ∀ b o s, A = some ⟨b, o, s⟩ → b ≠ g) (hj : j + n + 1 ≤ us.length) (hlen : us.length ≤ 17592186044416) :
    Calls Try.prog 146 #[.slice (some ⟨g, j, none⟩) (n + 1) c, .slice A n c2] w fun e w' => ∃ zs k, e = .returned (.tuple #[]) ∧ k ≤ 1 ∧ PartInv w w' g us zs j (n + 1) ∧
      val B32 ((zs.drop j).take (n + 1)) + B32 ^ (n + 1) * k = val B32 ((us.drop j).take (n + 1)) + val B32 vs := by
  have HR := Lib.hid hR
  have HVS := Lib.hid hvs
  have HVU := Lib.hid hv
  have HN := Lib.hid hn
  have HAA := Lib.hid hA
  have hinv : PartInv w w g us us j 0 := ⟨hrow, rfl, hv, rfl, rfl, Only.refl _ _⟩
  clear hR hvs hv hn hA hrow
  go_enter Try.func146, Try.ntmps146
  go_wp2_with fail
  go_loopw [4, 9] (fun cv iv wr => ∃ (k cc : Nat) (zs : List Nat), k ≤ n ∧ iv = .int .i64 k ∧ cv = .int .u32 cc ∧ cc ≤ 1 ∧ PartInv w wr g us zs j k ∧ Hid (val B32 ((zs.drop j).take k) + B32 ^ k * cc = val B32 ((us.drop j).take k) + val B32 (vs.take k))) (fun _ iv _ => n - (intOf iv).toNat)
  case atStart => exact ⟨0, 0, us, Nat.zero_le _, rfl, rfl, by omega, hinv, by show _ = _; simp [val]⟩
  case round =>
    clear hinv
    obtain ⟨k, cc, zs, hk, rfl, rfl, hcc, hinv, HE⟩ := hrel
    by_cases hlt : k < n
    · have hkv : k < vs.length := by rw [HN.out]; exact hlt
      obtain ⟨b1, o1, rfl, hb1, hc1⟩ := (HR.out.only hinv.only HAA.out).at_ (j := k) hkv
      have hy : vs[k] < 4294967296 := valid_get HVS.out k hkv
      have hju : j + k < us.length := by omega
      have hcp := hinv.cell hju
      have hp : us[j + k] < 4294967296 := valid_get HVU.out _ hju
      have hfr := hinv.row.frozen (j + k)
      have HI := Lib.hid hinv
      have HLZ : Hid (j + k < zs.length) := by show _ < _; rw [hinv.len]; exact hju
      have HVT := Lib.hid (val_take_succ B32 vs k hkv)
      have HUT := Lib.hid (part_old hju)
      clear hinv
      generalize us[j + k] = p at *
      generalize vs[k] = y at *
      go_wp2_with fail
      refine (add32_ex hp hy hcc).mono ?_
      rintro e w' ⟨d, k2, rfl, hq, hdb, hk2, rfl⟩
      have HS : Hid (PartInv w (wr.setCell ⟨g, j + k, none⟩ (.int .u32 (d : Int))) g us (zs.set (j + k) d) j (k + 1) ∧ val B32 (((zs.set (j + k) d).drop j).take (k + 1)) + B32 ^ (k + 1) * k2 = val B32 ((us.drop j).take (k + 1)) + val B32 (vs.take (k + 1))) := by
        refine ⟨HI.out.set_ hdb, ?_⟩
        rw [part_val HLZ.out, HVT.out, HUT.out, Nat.pow_succ]
        exact addback_step HE.out hq
      clear hq
      go_wp2_with fail
      go_roundw
      case rel => exact ⟨k + 1, k2, _, by omega, by go_num, by go_num, hk2, HS.out.1, HS.out.2⟩
      case measure => simp [intOf]; omega
    · obtain rfl : k = n := by omega
      have hju : j + k < us.length := by omega
      have hcp := hinv.cell hju
      have hp : us[j + k] < 4294967296 := valid_get HVU.out _ hju
      have hfr := hinv.row.frozen (j + k)
      have HI := Lib.hid hinv
      have HLZ : Hid (j + k < zs.length) := by show _ < _; rw [hinv.len]; exact hju
      have HUT := Lib.hid (part_old hju)
      clear hinv
      generalize us[j + k] = p at *
      have HS : Hid (∀ e : Int, e = ((p + cc) % 4294967296 : Nat) → ∃ zs' k', k' ≤ 1 ∧ PartInv w (wr.setCell ⟨g, j + k, none⟩ (.int .u32 e)) g us zs' j (k + 1) ∧ val B32 ((zs'.drop j).take (k + 1)) + B32 ^ (k + 1) * k' = val B32 ((us.drop j).take (k + 1)) + val B32 vs) := by
        rintro e rfl
        refine ⟨zs.set (j + k) ((p + cc) % 4294967296), (p + cc) / 4294967296, by omega, HI.out.set_ (Nat.mod_lt _ (by omega)), ?_⟩
        have h5 := HE.out
        have hvt : vs.take k = vs := List.take_of_length_le (by rw [HN.out]; exact Nat.le_refl _)
        rw [hvt] at h5
        rw [part_val HLZ.out, HUT.out, Nat.pow_succ]
        exact addback_top h5 (Nat.mod_add_div _ _)
      go_wp2_with fail
      go_end0
      obtain ⟨zs', k', h5, h6, h7⟩ := HS.out _ (by go_num)
      exact ⟨zs', k', rfl, h5, h6, h7⟩
end Go.Proofs.Ytfnmbhjifdfibaa
