/- Contracts of package cylinderref04, second part: Format. -/
import Derived.Test.YtfnmbhjifdfibaaRefH
import Derived.Test.YtfnmbhjifdfibaaNatX
namespace Go.Proofs.Ytfnmbhjifdfibaa
open Go.RowKit
theorem half_step (n k : Nat) (hk : 0 < k) : n / 2 ^ (k - 1) = 2 * (n / 2 ^ k) + bitN n (k - 1) := by
  obtain ⟨i, rfl⟩ : ∃ i, k = i + 1 := ⟨k - 1, by omega⟩
  unfold bitN
  rw [Nat.add_sub_cancel, Nat.pow_succ, ← Nat.div_div_eq_div_mul]
  omega
theorem dbl_end {b m c cy : Nat} {l l' : List Nat} (hb : 2 ≤ b) (hl : l = digs1 b m) (hv : Valid b l') (hlen : l'.length = l.length) (he : val b l' + b ^ l.length * cy = 2 * m + c) (hc : c ≤ 1) :
    (cy = 0 → digs1 b (2 * m + c) = l') ∧ (cy = 1 → digs1 b (2 * m + c) = l' ++ [1]) := by
  constructor
  · rintro rfl
    rw [Nat.mul_zero, Nat.add_zero] at he
    rw [← he]
    refine digs1_of_val hb hv ?_
    by_cases hm : m = 0
    · subst hm
      have h1 : l.length = 1 := by rw [hl]; rfl
      rw [h1] at hlen
      obtain ⟨d, rfl⟩ : ∃ d, l' = [d] := by
        match l', hlen with
        | [d], _ => exact ⟨d, rfl⟩
      by_cases hd : d = 0
      · exact .inr (by rw [hd])
      · exact .inl ⟨by simpa using hd, by simp⟩
    · left
      have h1 : l = digs b m := by rw [hl]; unfold digs1; rw [if_neg hm]
      have h2 : l ≠ [] := fun e => hm ((digs_eq_nil hb).1 (by rw [← h1, e]))
      have h3 : 0 < l.length := List.length_pos_iff.2 h2
      refine ⟨fun h4 => ?_, fun h4 => by rw [h4] at hlen; simp at hlen; omega⟩
      have h5 : l' ≠ [] := fun h4 => by rw [h4] at hlen; simp at hlen; omega
      have h6 := (List.dropLast_concat_getLast h5).symm
      rw [List.getLast?_eq_some_getLast h5] at h4
      injection h4 with h4
      rw [h4] at h6
      have h7 : val b l' = val b l'.dropLast := by
        conv => lhs; rw [h6]
        rw [val_append]; simp [val]
      have h8 : Valid b l'.dropLast := fun d hd => hv d (List.dropLast_subset _ hd)
      have h9 := val_lt h8
      rw [List.length_dropLast, ← h7, he] at h9
      have h10 : (digs b m).length ≤ l'.length - 1 := digs_len_le hb (by omega)
      rw [← h1] at h10
      omega
  · rintro rfl
    have h1 : val b (l' ++ [1]) = 2 * m + c := by rw [val_append, hlen, ← he]; simp [val]
    rw [← h1]
    refine digs1_of_val hb (valid_append.2 ⟨hv, by intro d hd; simp at hd; omega⟩) (.inl ⟨by simp, by simp⟩)
/-- What holds at the head of an inner round of the reference's Format. -/
def DbInv (B g c : Nat) (w0 wr : World) (b : Nat) (l : List Nat) (c0 k cy : Nat) : Prop :=
  ∃ zs, Own wr B .i64 3 (some ⟨g, 0, none⟩) c zs ∧ zs.length = l.length ∧ Valid b zs ∧ zs.drop k = l.drop k ∧ val b (zs.take k) + b ^ k * cy = val b (l.take k) * 2 + c0 ∧ Below B w0 wr
theorem DbInv.step {B g c : Nat} {w0 wr : World} {b : Nat} {l zs : List Nat} {c0 k cy : Nat} (hb : 2 ≤ b) (ho : Own wr B .i64 3 (some ⟨g, 0, none⟩) c zs) (hl : zs.length = l.length) (hv : Valid b zs) (hd : zs.drop k = l.drop k)
    (he : val b (zs.take k) + b ^ k * cy = val b (l.take k) * 2 + c0) (hx : Below B w0 wr) (hk : k < l.length) (hg : B ≤ g) :
    DbInv B g c w0 (wr.setCell ⟨g, k, none⟩ (.int .i64 ((2 * l[k] + cy) % b : Nat))) b l c0 (k + 1) ((2 * l[k] + cy) / b) := by
  refine ⟨zs.set k ((2 * l[k] + cy) % b), ho.set_ k _, by simpa using hl, valid_set hv _ _ (Nat.mod_lt _ (by omega)), ?_, ?_, Below.setCell hx (p := ⟨g, k, none⟩) hg _⟩
  · rw [List.drop_set_of_lt (by omega)]
    have := congrArg (List.drop 1) hd
    rwa [List.drop_drop, List.drop_drop] at this
  · rw [val_set b (by omega), val_take_succ b l k hk, Nat.pow_succ]
    refine ma_step he ?_
    rw [Nat.mul_comm l[k] 2]
    exact Nat.mod_add_div _ _
theorem bs_digit {d : Nat} (h : d < 36) : bs ((ByteArray.mk #[48, 49, 50, 51, 52, 53, 54, 55, 56, 57, 97, 98, 99, 100, 101, 102, 103, 104, 105, 106, 107, 108, 109, 110, 111, 112, 113, 114, 115, 116, 117, 118, 119, 120, 121, 122]).extract d (d + 1)) = [sym d] := by
  rw [bs_extract]
  have := sym_get ⟨d, h⟩
  have hb : bs (ByteArray.mk #[48, 49, 50, 51, 52, 53, 54, 55, 56, 57, 97, 98, 99, 100, 101, 102, 103, 104, 105, 106, 107, 108, 109, 110, 111, 112, 113, 114, 115, 116, 117, 118, 119, 120, 121, 122]) = [48, 49, 50, 51, 52, 53, 54, 55, 56, 57, 97, 98, 99, 100, 101, 102, 103, 104, 105, 106, 107, 108, 109, 110, 111, 112, 113, 114, 115, 116, 117, 118, 119, 120, 121, 122] := by decide
  rw [hb, show d + 1 - d = 1 from by omega]
  have h36 : d < ([48, 49, 50, 51, 52, 53, 54, 55, 56, 57, 97, 98, 99, 100, 101, 102, 103, 104, 105, 106, 107, 108, 109, 110, 111, 112, 113, 114, 115, 116, 117, 118, 119, 120, 121, 122] : List Nat).length := h
  rw [List.drop_eq_getElem_cons h36, List.take_succ_cons, List.take_zero]
  rw [List.getElem?_eq_getElem h36] at this
  injection this with this
  rw [this]
theorem cast_div (d c b : Nat) : (2 * (d : Int) + c) / (b : Int) = (((2 * d + c) / b : Nat) : Int) := by
  rw [Int.natCast_ediv, Int.natCast_add, Int.natCast_mul]; rfl
theorem cast_mod (d c b : Nat) : (2 * (d : Int) + c) % (b : Int) = (((2 * d + c) % b : Nat) : Int) := by
  rw [Int.natCast_emod, Int.natCast_add, Int.natCast_mul]; rfl
theorem div_one {d c b : Nat} (hd : d < b) (hc : c ≤ 1) : (2 * d + c) / b ≤ 1 := by
  have : (2 * d + c) / b < 2 := Nat.div_lt_of_lt_mul (by omega)
  omega
theorem rFormat_rz {w : World} {sg : Int} {A : Option Addr} {L c b : Nat} {x : Int} (h : RZ w sg A c L x) (h1 : 2 ≤ b) (h2 : b ≤ 36) (hs : L ≤ 32000000) :
    Calls Try.prog 68 #[.agg #[.int .i64 sg, .slice A L c], .int .i64 b] w (RetS w (fmtL b x)) := by
  obtain ⟨n, hn⟩ : ∃ n, n = x.natAbs := ⟨_, rfl⟩
  obtain ⟨w0, hw0⟩ : ∃ z : World, z = w.alloc (.cells #[.int .i64 sg, .slice A L c] 36) := ⟨_, rfl⟩
  obtain ⟨w1, hw1⟩ : ∃ z : World, z = w0.alloc (.cells #[.int .i64 0] 3) := ⟨_, rfl⟩
  have hx0 : Ext w w0 := by rw [hw0]; exact Ext.alloc _ _
  have hx1 : Ext w0 w1 := by rw [hw1]; exact Ext.alloc _ _
  have hb := box_new w (.int .i64 sg) (.slice A L c) 36
  rw [← hw0] at hb
  have e1 := hb.1
  have e2 := hb.2.1
  have hsz0 : w0.heap.size = w.heap.size + 1 := by rw [hw0]; simp
  have hrow := Row.new w0 .i64 3 [0]
  have hrow' : Row w1 w0.heap.size .i64 3 [0] := by rw [hw1]; exact hrow
  have ho : Own w1 w0.heap.size .i64 3 (some ⟨w0.heap.size, 0, none⟩) 1 [0] := Own.of_row' hrow' (Nat.le_refl _) (by simp [maxLen]) rfl rfl
  have hsz1 : w0.heap.size ≤ w1.heap.size := by rw [hw1]; simp
  have HO := Lib.hid ho
  have HS : Hid (sg = x.sign) := h.sign
  have hLn : L = (digs 2 n).length := by rw [hn]; exact h.len
  have HLN := Lib.hid hLn
  have HB : Hid (BN w0 A c n) := by rw [hn]; exact h.bn.ext hx0
  have HX := Lib.hid hn
  have HW0 := Lib.hid hw0
  have HW1 := Lib.hid hw1
  have hxx := hx0.trans hx1
  have HLB : Hid (∀ k l, k ≤ L → l = digs1 b (n / 2 ^ k) → l.length ≤ L + 1) := fun k l hk hl => by
    rw [hl]
    unfold digs1
    split
    · simp
    · refine Nat.le_trans (digs_len_le (k := L) h1 ?_) (by omega)
      have h5 := lt_pow_len (B := 2) (by omega) n
      rw [← hLn] at h5
      have h6 : n / 2 ^ k ≤ n := Nat.div_le_self _ _
      have h8 : 2 ^ L ≤ b ^ L := Nat.pow_le_pow_left h1 _
      exact Nat.lt_of_le_of_lt h6 (Nat.lt_of_lt_of_le h5 h8)
  have HD0 : Hid ([0] = digs1 b (n / 2 ^ L)) := by
    show _ = _
    have h5 := lt_pow_len (B := 2) (by omega) n
    rw [← hLn] at h5
    rw [Nat.div_eq_of_lt h5]
    rfl
  clear hw0 hw1 hLn hb hrow hrow' ho h hn
  go_enter Try.func68, Try.ntmps68
  go_wp2_with fail
  rw [← HW0.out, ← HW1.out]
  rw [← hsz0]
  have HSZ0 := Lib.hid hsz0
  clear HW0 HW1 hsz0
  go_loopw [5, 6] (fun lv iv wr => ∃ (l : List Nat) (g5 c5 k : Nat), lv = .slice (some ⟨g5, 0, none⟩) l.length c5 ∧ iv = .int .i64 ((k : Int) - 1) ∧ k ≤ L ∧ Own wr w0.heap.size .i64 3 (some ⟨g5, 0, none⟩) c5 l ∧ Hid (l = digs1 b (n / 2 ^ k)) ∧ Ext w0 wr) (fun _ iv _ => (intOf iv + 1).toNat)
  case atStart => exact ⟨[0], w0.heap.size, 1, L, rfl, by go_num, Nat.le_refl _, HO.out, HD0.out, hx1⟩
  case round =>
    obtain ⟨l, g5, c5, k, rfl, rfl, hk, ho, HD, hx⟩ := hrel
    have hll : l.length ≤ L + 1 := HLB.out k l hk HD.out
    have hg5 : w0.heap.size ≤ g5 := by
      rcases ho.form with ⟨h5, _⟩ | ⟨g', cur, h5, h6, _⟩
      · cases h5
      · injection h5 with h5
        injection h5 with h5
        omega
    have HO := Lib.hid ho
    have hsz := hx.size
    by_cases hk0 : k = 0
    · subst hk0
      have hln : l = digs1 b n := by rw [HD.out, Nat.pow_zero, Nat.div_one]
      have HLN2 := Lib.hid hln
      have HV : Hid (Valid b l) := by show Valid b l; rw [hln]; exact digs1_valid h1 _
      have d1 := hx.cell e1
      have HF : Hid (fmtL b x = (if x < 0 then [45] else []) ++ (l.map sym).reverse) := by show _ = _; rw [fmtL_eq, ← HX.out, ← hln]
      have HSG : Hid (x < 0 ↔ sg < 0) := by show _ ↔ _; rw [HS.out]; rcases sign_cases x with ⟨a, b⟩ | ⟨a, b⟩ | ⟨a, b⟩ <;> omega
      clear hln HD
      obtain ⟨wo, rfl⟩ : ∃ wo : World, wo = wr := ⟨_, rfl⟩
      by_cases hneg : sg < 0
      · skip
        have HSS : Hid (fmtL b x = [45] ++ (l.map sym).reverse) := by show _ = _; rw [HF.out, if_pos (HSG.out.2 hneg)]
        have hxw := hx0.trans hx
        have HNN : Hid (l.drop l.length = []) := List.drop_length
        clear HF HSG
        go_wp2_with fail
        go_loopw [10, 11] (fun sv jv wr => ∃ (s : ByteArray) (j : Nat), sv = .string s ∧ jv = .int .i64 ((j : Int) - 1) ∧ j ≤ l.length ∧ s.size ≤ 40000001 - j ∧ Hid (bs s = [45] ++ ((l.drop j).map sym).reverse) ∧ Own wr w0.heap.size .i64 3 (some ⟨g5, 0, none⟩) c5 l ∧ Ext w wr) (fun _ jv _ => (intOf jv + 1).toNat)
        case atStart => exact ⟨_, l.length, rfl, rfl, Nat.le_refl _, by first | omega | (show 1 ≤ _; omega), by show _ = _; rw [HNN.out]; rfl, HO.out, hxw⟩
        case round =>
          clear hxw
          obtain ⟨s, j, rfl, rfl, hj, hss, HBS, ho, hxw⟩ := hrel
          by_cases hj0 : j = 0
          · subst hj0
            have HR : Hid (RetS w (fmtL b x) (.returned (.string s)) wr) := ⟨s, rfl, by rw [HSS.out, HBS.out, List.drop_zero], hxw⟩
            go_wp2_with fail
            go_ret
            exact HR.out
          · have hj1 : j - 1 < l.length := by omega
            have hdj : l[j - 1] < b := valid_get HV.out (j - 1) hj1
            have hcj := ho.cell (i := j - 1) hj1
            have HDR : Hid (l.drop (j - 1) = l[j - 1] :: l.drop j) := by
              show _ = _
              rw [List.drop_eq_getElem_cons hj1, show j - 1 + 1 = j from by omega]
            have HO2 : Hid (∀ q, Own (wr.drewN q) w0.heap.size .i64 3 (some ⟨g5, 0, none⟩) c5 l) := fun q => ho
            have HX2 : Hid (∀ q, Ext w (wr.drewN q)) := fun q => hxw.trans (Qt.ext ⟨q, rfl⟩)
            have HBD : Hid (bs ((ByteArray.mk #[48, 49, 50, 51, 52, 53, 54, 55, 56, 57, 97, 98, 99, 100, 101, 102, 103, 104, 105, 106, 107, 108, 109, 110, 111, 112, 113, 114, 115, 116, 117, 118, 119, 120, 121, 122]).extract l[j - 1] (l[j - 1] + 1)) = [sym l[j - 1]]) := bs_digit (by omega)
            have hjp : 0 < j := by omega
            clear ho
            generalize l[j - 1] = d at *
            go_wp2_with fail
            go_quiet (fail)
            go_wp2_with fail
            go_roundw
            case rel =>
              have hrel : ∃ (s' : ByteArray) (j' : Nat), Value.string (s ++ (ByteArray.mk #[48, 49, 50, 51, 52, 53, 54, 55, 56, 57, 97, 98, 99, 100, 101, 102, 103, 104, 105, 106, 107, 108, 109, 110, 111, 112, 113, 114, 115, 116, 117, 118, 119, 120, 121, 122]).extract d (d + 1)) = .string s' ∧ Value.int .i64 ((j : Int) - 1 - 1) = .int .i64 ((j' : Int) - 1) ∧ j' ≤ l.length ∧ s'.size ≤ 40000001 - j' ∧ Hid (bs s' = [45] ++ ((l.drop j').map sym).reverse) ∧ Own (wr.drewN nq) w0.heap.size .i64 3 (some ⟨g5, 0, none⟩) c5 l ∧ Ext w (wr.drewN nq) := by
                refine ⟨_, j - 1, rfl, by go_num, by omega, ?_, ?_, HO2.out _, HX2.out _⟩
                · have h6 := congrArg List.length HBD.out
                  rw [bs_length] at h6
                  rw [ByteArray.size_append, h6]
                  simp
                  omega
                · show _ = _
                  rw [bs_append, HBD.out, HBS.out, HDR.out, List.map_cons, List.reverse_cons]
                  simp only [List.append_assoc]
              first | exact hrel | ((repeat apply Exists.intro); exact ⟨hrel, rfl⟩)
            case measure => simp [intOf]; omega
      · skip
        have HSS : Hid (fmtL b x = (l.map sym).reverse) := by show _ = _; rw [HF.out, if_neg (by rw [HSG.out]; exact hneg)]; rfl
        have hxw := hx0.trans hx
        have HNN : Hid (l.drop l.length = []) := List.drop_length
        clear HF HSG
        go_wp2_with fail
        go_loopw [10, 11] (fun sv jv wr => ∃ (s : ByteArray) (j : Nat), sv = .string s ∧ jv = .int .i64 ((j : Int) - 1) ∧ j ≤ l.length ∧ s.size ≤ 40000001 - j ∧ Hid (bs s = ((l.drop j).map sym).reverse) ∧ Own wr w0.heap.size .i64 3 (some ⟨g5, 0, none⟩) c5 l ∧ Ext w wr) (fun _ jv _ => (intOf jv + 1).toNat)
        case atStart => exact ⟨_, l.length, rfl, rfl, Nat.le_refl _, by first | omega | (show 0 ≤ _; omega), by show _ = _; rw [HNN.out]; rfl, HO.out, hxw⟩
        case round =>
          clear hxw
          obtain ⟨s, j, rfl, rfl, hj, hss, HBS, ho, hxw⟩ := hrel
          by_cases hj0 : j = 0
          · subst hj0
            have HR : Hid (RetS w (fmtL b x) (.returned (.string s)) wr) := ⟨s, rfl, by rw [HSS.out, HBS.out, List.drop_zero], hxw⟩
            go_wp2_with fail
            go_ret
            exact HR.out
          · have hj1 : j - 1 < l.length := by omega
            have hdj : l[j - 1] < b := valid_get HV.out (j - 1) hj1
            have hcj := ho.cell (i := j - 1) hj1
            have HDR : Hid (l.drop (j - 1) = l[j - 1] :: l.drop j) := by
              show _ = _
              rw [List.drop_eq_getElem_cons hj1, show j - 1 + 1 = j from by omega]
            have HO2 : Hid (∀ q, Own (wr.drewN q) w0.heap.size .i64 3 (some ⟨g5, 0, none⟩) c5 l) := fun q => ho
            have HX2 : Hid (∀ q, Ext w (wr.drewN q)) := fun q => hxw.trans (Qt.ext ⟨q, rfl⟩)
            have HBD : Hid (bs ((ByteArray.mk #[48, 49, 50, 51, 52, 53, 54, 55, 56, 57, 97, 98, 99, 100, 101, 102, 103, 104, 105, 106, 107, 108, 109, 110, 111, 112, 113, 114, 115, 116, 117, 118, 119, 120, 121, 122]).extract l[j - 1] (l[j - 1] + 1)) = [sym l[j - 1]]) := bs_digit (by omega)
            have hjp : 0 < j := by omega
            clear ho
            generalize l[j - 1] = d at *
            go_wp2_with fail
            go_quiet (fail)
            go_wp2_with fail
            go_roundw
            case rel =>
              have hrel : ∃ (s' : ByteArray) (j' : Nat), Value.string (s ++ (ByteArray.mk #[48, 49, 50, 51, 52, 53, 54, 55, 56, 57, 97, 98, 99, 100, 101, 102, 103, 104, 105, 106, 107, 108, 109, 110, 111, 112, 113, 114, 115, 116, 117, 118, 119, 120, 121, 122]).extract d (d + 1)) = .string s' ∧ Value.int .i64 ((j : Int) - 1 - 1) = .int .i64 ((j' : Int) - 1) ∧ j' ≤ l.length ∧ s'.size ≤ 40000001 - j' ∧ Hid (bs s' = ((l.drop j').map sym).reverse) ∧ Own (wr.drewN nq) w0.heap.size .i64 3 (some ⟨g5, 0, none⟩) c5 l ∧ Ext w (wr.drewN nq) := by
                refine ⟨_, j - 1, rfl, by go_num, by omega, ?_, ?_, HO2.out _, HX2.out _⟩
                · have h6 := congrArg List.length HBD.out
                  rw [bs_length] at h6
                  rw [ByteArray.size_append, h6]
                  simp
                  omega
                · show _ = _
                  rw [bs_append, HBD.out, HBS.out, HDR.out, List.map_cons, List.reverse_cons]
              first | exact hrel | ((repeat apply Exists.intro); exact ⟨hrel, rfl⟩)
            case measure => simp [intOf]; omega
    · have hk1 : k - 1 < L := by omega
      have hkp : 0 < k := by omega
      have hlt : k - 1 < (digs 2 n).length := by rw [← HLN.out]; exact hk1
      obtain ⟨bb, oo, hA, _, hc⟩ := HB.out.rd (k - 1) hlt
      subst hA
      rw [digs_get hlt] at hc
      have hc2 := hx.cell hc
      have d2 := hx.cell e2
      have hbit : bitN n (k - 1) ≤ 1 := by have := bitN_lt n (k - 1); omega
      have HH := Lib.hid (half_step n k hkp)
      clear hc
      generalize bitN n (k - 1) = c0 at *
      have HV : Hid (Valid b l) := by show Valid b l; rw [HD.out]; exact digs1_valid h1 _
      have hin : DbInv w0.heap.size g5 c5 w0 wr b l c0 0 c0 := ⟨l, HO.out, rfl, HV.out, rfl, by simp [val], hx⟩
      go_wp2_with fail
      obtain ⟨wo, rfl⟩ : ∃ wo : World, wo = wr := ⟨_, rfl⟩
      go_loopw [7, 8] (fun cv jv wr => ∃ j cy : Nat, j ≤ l.length ∧ jv = .int .i64 j ∧ cv = .int .i64 cy ∧ cy ≤ 1 ∧ DbInv w0.heap.size g5 c5 w0 wr b l c0 j cy) (fun _ jv _ => l.length - (intOf jv).toNat)
      case atStart => exact ⟨0, c0, Nat.zero_le _, rfl, rfl, hbit, hin⟩
      case round =>
        clear hin
        obtain ⟨j, cy, hj, rfl, rfl, hcy, zs, hz, hzl, hzv, hzd, hze, hzx⟩ := hrel
        by_cases hjl : j < l.length
        · have hdj : l[j] < b := valid_get HV.out j hjl
          have hzj : zs[j]? = some l[j] := by
            have h3 := congrArg (fun l => l[0]?) hzd
            simp only [List.getElem?_drop, Nat.add_zero] at h3
            rw [h3, List.getElem?_eq_getElem hjl]
          have hcj := hz.cell (i := j) (by omega)
          have hzj' : zs[j]'(by omega) = l[j] := by
            rw [List.getElem?_eq_getElem (by omega)] at hzj
            injection hzj
          rw [hzj'] at hcj
          have hfj := hz.frozen j
          have HS2 : Hid (∀ e : Int, e = ((2 * l[j] + cy) % b : Nat) → DbInv w0.heap.size g5 c5 w0 (wr.setCell ⟨g5, j, none⟩ (.int .i64 e)) b l c0 (j + 1) ((2 * l[j] + cy) / b)) := by
            rintro e rfl
            exact DbInv.step h1 hz hzl hzv hzd hze hzx hjl hg5
          clear hzj hzj' hz hzl hzv hzd hze
          generalize l[j] = d at *
          have hb0 : 0 < b := by omega
          go_wp2_with fail
          go_roundw
          case rel => exact ⟨j + 1, (2 * d + cy) / b, by omega, by go_num, congrArg (Value.int .i64) (cast_div d cy b), div_one hdj hcy, HS2.out _ (cast_mod d cy b)⟩
          case measure => simp [intOf]; omega
        · obtain rfl : j = l.length := by omega
          rw [List.take_of_length_le (by omega), List.take_of_length_le (Nat.le_refl _)] at hze
          have hvl : val b l = n / 2 ^ k := by rw [HD.out]; exact val_digs1 h1 _
          rw [hvl, Nat.mul_comm (n / 2 ^ k) 2] at hze
          have hend := dbl_end h1 HD.out hzv hzl hze hbit
          rw [← HH.out] at hend
          have HE0 := Lib.hid hend.1
          have HE1 := Lib.hid hend.2
          have HZ := Lib.hid hz
          have hkk : (k : Int) - 1 - 1 = ((k - 1 : Nat) : Int) - 1 := by omega
          have HKK := Lib.hid hkk
          have hzx2 := hzx.size
          clear hend hvl hze hzv hzd hz hkk
          by_cases hc0 : cy = 0
          · subst hc0
            go_wp2_with fail
            rw [← hzl]
            go_roundw
            case rel => exact ⟨zs, g5, c5, k - 1, rfl, congrArg (Value.int .i64) HKK.out, by omega, HZ.out, (HE0.out rfl).symm, hzx⟩
            case measure => simp [intOf]; omega
          · obtain rfl : cy = 1 := by omega
            go_wp2_with (at_builtin; refine wpList_app1 rfl _ _ _ rfl w0.heap.size 3 .i64 8 Try.underlying34 info_int (by omega) (some ⟨g5, 0, none⟩) c5 l.length zs hzl rfl (HZ.out.below (Ext.alloc _ _)) wr.heap.size 1 rfl ?h2 ?h3 ?h4 ?h5)
            case h3 => omega
            case h4 => first | omega | (simp; omega)
            case h5 =>
              intro A10 c10 w4 hown hb4
              have hx5 : Ext w0 w4 := Below.trans hzx (Below.trans (Below.mono (Ext.alloc wr _) hzx2) hb4)
              obtain ⟨g10, rfl, _⟩ := hown.addr (by simp)
              have HOW := Lib.hid hown
              clear hown
              go_wp2_with fail
              rw [← hzl]
              go_roundw
              case rel => exact ⟨zs ++ [1], g10, c10, k - 1, by rw [List.length_append]; rfl, congrArg (Value.int .i64) HKK.out, by omega, HOW.out, (HE1.out (by trivial)).symm, hx5⟩
              case measure => simp [intOf]; omega
end Go.Proofs.Ytfnmbhjifdfibaa
