/- Contracts of package cylinderref04, third part: Parse. -/
import Derived.Test.YtjhknnioefipmaaDecG
import Derived.Test.YtjhknnioefipmaaRefI
namespace Go.Proofs.Ytjhknnioefipmaa
open Go.RowKit
theorem bl_rd {b : Nat} (hb : b ≤ 36) {T : List Nat} (h : ∀ c ∈ T, dg c < b) : bl (rd b T) ≤ 6 * T.length := by
  refine digs_len_le (by omega) ?_
  have h1 := rd_lt h
  have h2 : b ^ T.length ≤ 64 ^ T.length := Nat.pow_le_pow_left (by omega) _
  have h3 : (64 : Nat) ^ T.length = 2 ^ (6 * T.length) := by rw [Nat.pow_mul]
  omega
theorem fmt_ne (b : Nat) (hb : 2 ≤ b) (x : Int) : fmtL b x ≠ [] := by
  obtain ⟨es, _, hl, _, _, hf⟩ := fmtL_form hb x
  rw [hf]
  intro h
  rw [List.append_eq_nil_iff, List.map_eq_nil_iff] at h
  exact hl.1 h.2
theorem field_Z1 (g : Int) (A : Option Addr) (L c : Nat) (w : World) : (Instr.field 30 (.agg #[.int .i64 g, .slice A L c]) 1).run Try.prog w = .ok (.slice A L c) w := by kernel_rfl
theorem bn_zero (w : World) : BN w none 0 0 := Own.bn (n := 0) (Own.none_ w 0 .i64 3)
set_option maxHeartbeats 4000000 in
set_option maxRecDepth 100000 in
theorem rParse_walk {w : World} {s : ByteArray} {b : Nat} (h1 : 2 ≤ b) (h2 : b ≤ 36) (hs : s.size ≤ 1000000) (Q : Ending → World → Prop)
    (HY : ∀ x sg A c L w', bs s = fmtL b x → RZ w' sg A c L x → Ext w w' → Q (.returned (.tuple #[.agg #[.int .i64 sg, .slice A L c], .bool true])) w')
    (HN : ∀ w', (∀ x, bs s ≠ fmtL b x) → Ext w w' → Q (.returned (.tuple #[.agg #[.int .i64 0, .slice none 0 0], .bool false])) w') :
    Calls Try.prog 19 #[.string s, .int .i64 b] w Q := by
  have HY := Lib.hid HY
  have HN := Lib.hid HN
  obtain ⟨w0, hw0⟩ : ∃ z : World, z = w.alloc (.cells #[.int .i64 0, .slice none 0 0] 30) := ⟨_, rfl⟩
  have hx0 : Ext w w0 := by rw [hw0]; exact Ext.alloc _ _
  have hb := box_new w (.int .i64 0) (.slice none 0 0) 30
  rw [← hw0] at hb
  have q1 := hb.1
  have q2 := hb.2.1
  have f1 := hb.2.2 0
  have f2 := hb.2.2 1
  have HW0 := Lib.hid hw0
  have hB := World.block_lt_of_cell? w0 _ q1
  clear hb hw0
  by_cases h0 : 0 < s.size
  · have HHD : Hid ((bs s).head? = some s[0].toNat) := by show _ = _; rw [List.head?_eq_getElem?]; exact bs_get? h0
    by_cases hm : s[0].toNat = 45
    · have hz : ((s[0].toNat : Int) == 45) = true := by rw [hm]; rfl
      have HNG : Hid (true = false → ((bs s).drop 1).head? ≠ some 45) := fun e => by cases e
      have HST : Hid (bs s = (if true = true then [45] else []) ++ (bs s).drop 1) := by
        show _ = _
        cases hl : bs s with
        | nil => have h5 := HHD.out; rw [hl] at h5; cases h5
        | cons x l => have h5 := HHD.out; rw [hl, hm] at h5; injection h5 with h5; rw [h5]; rfl
      clear HHD hm
      by_cases hsz1 : s.size = 1
      · have hsb : ((s.size : Int) == 1) = true := by rw [hsz1]; rfl
        have HBD : Hid (∀ x, bs s ≠ fmtL b x) := fun x e => by
          have h5 := (good_of h1 h2 (e.symm.trans HST.out) HNG.out).1.ne
          exact h5 (List.drop_of_length_le (by rw [bs_length]; omega))
        clear hsz1
        go_enter Try.func19, Try.ntmps19
        go_wp2_with fail
        rw [← HW0.out]
        refine bodyPost_ret (v := .tuple #[.agg #[.int .i64 0, .slice none 0 0], .bool false]) (by simp [results, Try.results19, go_sem, q1, q2]) rfl ?_
        exact HN.out _ HBD.out (by repeat' (first | with_reducible exact Ext.refl _ | with_reducible assumption | with_reducible apply Ext.alloc_r | with_reducible apply Ext.drew_r | with_reducible apply Ext.drewN_r | with_reducible apply Ext.set_r | with_reducible exact Nat.le_refl _ | with_reducible refine Ext.trans ?_ ‹Ext _ _›))
      · have hsb : ((s.size : Int) == 1) = false := by rw [beq_eq_false_iff_ne]; omega
        have hl1 : 1 ≤ s.size := h0
        go_enter Try.func19, Try.ntmps19
        go_wp2_with fail
        rw [← HW0.out]
        clear HW0
        refine (small_rz (by omega)).mono ?_
        rintro e w1 ⟨g, A, c, L, rfl, hzt, x1⟩
        obtain ⟨w2, hw2⟩ : ∃ z : World, z = w1.alloc (.cells #[.int .i64 g, .slice A L c] 30) := ⟨_, rfl⟩
        have x2 : Ext w1 w2 := by rw [hw2]; exact Ext.alloc _ _
        have hbt := box_new w1 (.int .i64 g) (.slice A L c) 30
        rw [← hw2] at hbt
        have b1 := hbt.1
        have b2 := hbt.2.1
        have HW2 := Lib.hid hw2
        have x02 := x1.trans x2
        replace f1 := x02.frozen q1 f1
        replace f2 := x02.frozen q2 f2
        replace q1 := x02.cell q1
        replace q2 := x02.cell q2
        clear hbt hw2
        have HMUL : Hid (∀ w' A7 c7 m, BN w' A7 c7 m → bl m ≤ 6000000 → Ext w2 w' → Calls Try.prog 37 #[.slice A7 (digs 2 m).length c7, .slice A L c] w' (RetB w' (m * b))) := fun w' A7 c7 m hbn hbl hx => by
          have h5 := hzt.len
          rw [h5]
          have h6 := hzt.bn.ext (x2.trans hx)
          rw [Int.natAbs_natCast] at h6 ⊢
          exact rmul_any hbn h6 (by omega) (by have : bl b ≤ 6 := digs_len_le (k := 6) (by omega) (by omega); omega)
        clear hzt
        have hxw : Ext w w2 := (hx0.trans x1).trans x2
        go_wp2_with fail
        rw [← HW2.out]
        clear HW2
        have HLN : Hid (((bs s).drop 1).length = s.size - 1) := by show _ = _; rw [List.length_drop, bs_length]
        have HSY : Hid (∀ k (h : 1 + k < s.size), ((bs s).drop 1)[k]? = some (s[1 + k]'h).toNat) := fun k h => by rw [List.getElem?_drop]; first | exact bs_get? h | (rw [Nat.zero_add]; exact bs_get? h)
        obtain ⟨T, hT⟩ : ∃ T, T = (bs s).drop 1 := ⟨_, rfl⟩
        rw [← hT] at HLN HSY HST HNG
        clear hT
        go_loopw [7, 9] (fun bv iv wr => ∃ (k m : Nat) (A7 : Option Addr) (c7 : Nat), 1 + k ≤ s.size ∧ iv = .int .i64 (1 + (k : Int)) ∧ bv = .slice A7 (digs 2 m).length c7 ∧ BN wr A7 c7 m ∧ Hid (m = rd b (T.take k)) ∧ Hid (∀ j c, j < k → T[j]? = some c → dg c < b) ∧ Ext w2 wr) (fun _ iv _ => s.size - (intOf iv).toNat)
        case atStart => exact ⟨0, 0, none, 0, by omega, rfl, rfl, bn_zero _, rfl, fun j c h => by omega, Ext.refl _⟩
        case round =>
          obtain ⟨k, m, A7, c7, hk, rfl, rfl, hbn, HM, HK, hx⟩ := hrel
          have HBN := Lib.hid hbn
          clear hbn
          have HGK : Hid (∀ c ∈ T.take k, dg c < b) := fun c hc => by
            obtain ⟨j, hj, hjc⟩ := List.getElem_of_mem hc
            rw [List.length_take] at hj
            refine HK.out j c (by omega) ?_
            rw [List.getElem_take] at hjc
            rw [List.getElem?_eq_getElem (by omega), hjc]
          have hbl : bl m ≤ 6000000 := by
            rw [HM.out]
            have h5 := bl_rd h2 HGK.out
            have h6 : (T.take k).length ≤ k := by rw [List.length_take]; omega
            omega
          by_cases hlt : 1 + k < s.size
          · have HC := Lib.hid (HSY.out k hlt)
            have c1 := hx.cell b1
            have c2 := hx.cell b2
            go_wp2_with fail
            refine (value_any h2).mono ?_
            rintro e w' ⟨rfl, rfl⟩
            by_cases hd : dg s[1 + k].toNat < b
            · have hv : vl b s[1 + k].toNat = (dg s[1 + k].toNat : Int) := by unfold vl; rw [if_pos hd]
              have HRD : Hid (m * b + dg s[1 + k].toNat = rd b (T.take (k + 1))) := by
                show _ = _
                rw [List.take_add_one, HC.out, Option.toList_some, rd_snoc, ← HM.out]
              have HKK : Hid (∀ j c, j < k + 1 → T[j]? = some c → dg c < b) := fun j c' hj hc' => by
                rcases Nat.lt_or_ge j k with h5 | h5
                · exact HK.out j c' h5 hc'
                · have h6 : j = k := by omega
                  subst h6
                  rw [HC.out] at hc'
                  injection hc' with hc'
                  rw [← hc']; exact hd
              rw [hv]
              clear hv HC
              generalize dg s[1 + k].toNat = d at *
              have hd0 : (0 : Int) ≤ (d : Int) := by omega
              go_wp2_with fail
              have hM := HMUL.out _ A7 c7 m HBN.out hbl hx
              have hmb : bl (m * b) ≤ 7000000 := by
                have h5 := bl_mul m b
                have h6 : bl b ≤ 6 := digs_len_le (k := 6) (by omega) (by omega)
                omega
              generalize m * b = mb at *
              refine hM.mono ?_
              clear hM
              rintro e w3 ⟨A8, c8, rfl, hb8, x3⟩
              go_wp2_with fail
              refine (small_rz (n := (d : Int)) (by omega)).mono ?_
              rintro e w4 ⟨g9, A9, c9, L9, rfl, hz9, x4⟩
              have HADD : Hid (Calls Try.prog 36 #[.slice A8 (digs 2 mb).length c8, .slice A9 L9 c9] w4 (RetB w4 (mb + d))) := by
                have h5 := hz9.len
                have h6 := hz9.bn
                rw [Int.natAbs_natCast] at h5 h6
                rw [h5]
                exact radd_any (hb8.ext x4) h6 (by omega) (by have : bl d ≤ 6 := digs_len_le (k := 6) (by omega) (by omega); omega)
              clear hmb hz9 hb8
              have hfd := field_Z1 g9 A9 L9 c9
              go_wp2_with fail
              refine HADD.out.mono ?_
              rintro e w5 ⟨A10, c10, rfl, hb10, x5⟩
              have hx5 := ((hx.trans x3).trans x4).trans x5
              have HB10 := Lib.hid hb10
              clear hb10
              go_wp2_with fail
              go_roundw
              case rel => exact ⟨k + 1, mb + d, A10, c10, by omega, by go_num, rfl, HB10.out, HRD.out, HKK.out, hx5⟩
              case measure => simp [intOf]; omega
            · have hv : vl b s[1 + k].toNat = -1 := by unfold vl; rw [if_neg hd]
              have HBD : Hid (∀ x, bs s ≠ fmtL b x) := fun x e => hd ((good_of h1 h2 (e.symm.trans HST.out) (fun e => HNG.out (by first | trivial | exact e))).1.dig _ (List.mem_of_getElem? HC.out))
              rw [hv]
              have t1 := hx.cell q1
              have t2 := hx.cell q2
              have p1 := hx.frozen q1 f1
              have p2 := hx.frozen q2 f2
              clear hv hd HC
              go_wp2_with fail
              refine bodyPost_ret (v := .tuple #[.agg #[.int .i64 0, .slice none 0 0], .bool false]) (by simp [results, Try.results19, go_sem, t1, t2]) rfl ?_
              exact HN.out _ HBD.out (by repeat' (first | with_reducible exact Ext.refl _ | with_reducible assumption | with_reducible apply Ext.alloc_r | with_reducible apply Ext.drew_r | with_reducible apply Ext.drewN_r | with_reducible apply Ext.set_r | with_reducible exact Nat.le_refl _ | with_reducible refine Ext.trans ?_ ‹Ext _ _›))
          · have hk2 : 1 + k = s.size := by omega
            have HT : Hid (T.take k = T) := List.take_of_length_le (by rw [HLN.out]; omega)
            have hg : (T ≠ []) → (T.head? = some 48 → true = false ∧ T.length = 1) → Good b true T := fun a b => ⟨fun c hc => HGK.out c (by rw [HT.out]; exact hc), a, b⟩
            have HG := Lib.hid hg
            clear hg
            have t1 := hx.cell q1
            have t2 := hx.cell q2
            have p1 := hx.frozen q1 f1
            have p2 := hx.frozen q2 f2
            have HMK : Hid (∀ w', Ext wr w' → Calls Try.prog 38 #[.bool true, .slice A7 (digs 2 m).length c7] w' (RetRZ w' (rdZ b true T))) := fun w' hx' => by
              refine make_rz (HBN.out.ext hx') (by rw [natAbs_rdZ, HM.out, HT.out]) (fun e => ?_) (fun e => ?_)
              · unfold rdZ; first | (rw [if_pos e]; omega) | cases e
              · unfold rdZ; first | (cases e; done) | (rw [if_neg (by simp)]; omega)
            have hbl2 : bl (rdZ b true T).natAbs ≤ 6000000 := by rw [natAbs_rdZ, ← HT.out, ← HM.out]; exact hbl
            have hxwr := hxw.trans hx
            go_wp2_with fail
            refine (HMK.out _ (Ext.refl _)).mono ?_
            rintro e w4 ⟨sg4, A4, c4, L4, rfl, hz4, x4⟩
            obtain ⟨w5, hw5⟩ : ∃ z : World, z = w4.alloc (.cells #[.int .i64 sg4, .slice A4 L4 c4] 30) := ⟨_, rfl⟩
            have x5 : Ext w4 w5 := by rw [hw5]; exact Ext.alloc _ _
            have hb5 := box_new w4 (.int .i64 sg4) (.slice A4 L4 c4) 30
            rw [← hw5] at hb5
            have d1 := hb5.1
            have d2 := hb5.2.1
            have HW5 := Lib.hid hw5
            clear hb5 hw5
            have x45 := x4.trans x5
            replace p1 := x45.frozen t1 p1
            replace p2 := x45.frozen t2 p2
            replace t1 := x45.cell t1
            replace t2 := x45.cell t2
            have HL4 : Hid (L4 ≤ 32000000) := by show L4 ≤ _; rw [hz4.len]; exact Nat.le_trans hbl2 (by omega)
            have HFM := Lib.hid (rFormat_rz (hz4.ext x5) h1 h2 HL4.out)
            have HZ5 := Lib.hid (hz4.ext x5)
            clear hz4
            go_wp2_with fail
            rw [← HW5.out]
            refine HFM.out.mono ?_
            rintro e w6 ⟨f, rfl, hf, x6⟩
            replace p1 := x6.frozen t1 p1
            replace p2 := x6.frozen t2 p2
            replace t1 := x6.cell t1
            replace t2 := x6.cell t2
            replace d1 := x6.cell d1
            replace d2 := x6.cell d2
            have hx6 := (hxwr.trans x45).trans x6
            have HFF := Lib.hid hf
            clear hf HW5
            by_cases hfs : f = s
            · have hfe : (f.toList == s.toList) = true := by rw [hfs]; simp
              obtain ⟨r5, r6, hz', hxx⟩ := fin_rz (Nat.le_refl _) hx6 (HZ5.out.ext x6) t1 t2
              have HQ := Lib.hid (HY.out _ _ _ _ _ _ (by rw [← HFF.out, hfs]) hz' hxx)
              clear hz' hxx hfs
              go_wp2_with fail
              refine bodyPost_ret (v := .tuple #[.agg #[.int .i64 sg4, .slice A4 L4 c4], .bool true]) (by simp [results, Try.results19, go_sem, r5, r6]) rfl ?_
              exact HQ.out
            · have hfe : (f.toList == s.toList) = false := by
                rw [bs_eq]
                exact decide_eq_false (fun h => hfs (bs_inj h))
              have HBD : Hid (∀ x, bs s ≠ fmtL b x) := fun x e => by
                have h5 := (good_of h1 h2 (e.symm.trans HST.out) (fun e => HNG.out (by first | trivial | exact e))).2
                exact hfs (bs_inj (by rw [HFF.out, ← h5, e]))
              clear hfs
              go_wp2_with fail
              refine bodyPost_ret (v := .tuple #[.agg #[.int .i64 0, .slice none 0 0], .bool false]) (by simp [results, Try.results19, go_sem, t1, t2]) rfl ?_
              exact HN.out _ HBD.out (by repeat' (first | with_reducible exact Ext.refl _ | with_reducible assumption | with_reducible apply Ext.alloc_r | with_reducible apply Ext.drew_r | with_reducible apply Ext.drewN_r | with_reducible apply Ext.set_r | with_reducible exact Nat.le_refl _ | with_reducible refine Ext.trans ?_ ‹Ext _ _›))
    · have hz : ((s[0].toNat : Int) == 45) = false := by simp; omega
      have HNG : Hid (false = false → ((bs s).drop 0).head? ≠ some 45) := fun _ e => by
        rw [List.drop_zero, HHD.out] at e
        injection e with e
        exact hm e
      have HST : Hid (bs s = (if false = true then [45] else []) ++ (bs s).drop 0) := rfl
      have hsb : ((s.size : Int) == 0) = false := by rw [beq_eq_false_iff_ne]; omega
      have hl1 : 0 ≤ s.size := by omega
      clear HHD hm
      go_enter Try.func19, Try.ntmps19
      go_wp2_with fail
      rw [← HW0.out]
      clear HW0
      refine (small_rz (by omega)).mono ?_
      rintro e w1 ⟨g, A, c, L, rfl, hzt, x1⟩
      obtain ⟨w2, hw2⟩ : ∃ z : World, z = w1.alloc (.cells #[.int .i64 g, .slice A L c] 30) := ⟨_, rfl⟩
      have x2 : Ext w1 w2 := by rw [hw2]; exact Ext.alloc _ _
      have hbt := box_new w1 (.int .i64 g) (.slice A L c) 30
      rw [← hw2] at hbt
      have b1 := hbt.1
      have b2 := hbt.2.1
      have HW2 := Lib.hid hw2
      have x02 := x1.trans x2
      replace f1 := x02.frozen q1 f1
      replace f2 := x02.frozen q2 f2
      replace q1 := x02.cell q1
      replace q2 := x02.cell q2
      clear hbt hw2
      have HMUL : Hid (∀ w' A7 c7 m, BN w' A7 c7 m → bl m ≤ 6000000 → Ext w2 w' → Calls Try.prog 37 #[.slice A7 (digs 2 m).length c7, .slice A L c] w' (RetB w' (m * b))) := fun w' A7 c7 m hbn hbl hx => by
        have h5 := hzt.len
        rw [h5]
        have h6 := hzt.bn.ext (x2.trans hx)
        rw [Int.natAbs_natCast] at h6 ⊢
        exact rmul_any hbn h6 (by omega) (by have : bl b ≤ 6 := digs_len_le (k := 6) (by omega) (by omega); omega)
      clear hzt
      have hxw : Ext w w2 := (hx0.trans x1).trans x2
      go_wp2_with fail
      rw [← HW2.out]
      clear HW2
      have HLN : Hid (((bs s).drop 0).length = s.size - 0) := by show _ = _; rw [List.length_drop, bs_length]
      have HSY : Hid (∀ k (h : k < s.size), ((bs s).drop 0)[k]? = some (s[k]'h).toNat) := fun k h => by rw [List.getElem?_drop]; first | exact bs_get? h | (rw [Nat.zero_add]; exact bs_get? h)
      obtain ⟨T, hT⟩ : ∃ T, T = (bs s).drop 0 := ⟨_, rfl⟩
      rw [← hT] at HLN HSY HST HNG
      clear hT
      go_loopw [7, 9] (fun bv iv wr => ∃ (k m : Nat) (A7 : Option Addr) (c7 : Nat), k ≤ s.size ∧ iv = .int .i64 ((k : Int)) ∧ bv = .slice A7 (digs 2 m).length c7 ∧ BN wr A7 c7 m ∧ Hid (m = rd b (T.take k)) ∧ Hid (∀ j c, j < k → T[j]? = some c → dg c < b) ∧ Ext w2 wr) (fun _ iv _ => s.size - (intOf iv).toNat)
      case atStart => exact ⟨0, 0, none, 0, by omega, rfl, rfl, bn_zero _, rfl, fun j c h => by omega, Ext.refl _⟩
      case round =>
        obtain ⟨k, m, A7, c7, hk, rfl, rfl, hbn, HM, HK, hx⟩ := hrel
        have HBN := Lib.hid hbn
        clear hbn
        have HGK : Hid (∀ c ∈ T.take k, dg c < b) := fun c hc => by
          obtain ⟨j, hj, hjc⟩ := List.getElem_of_mem hc
          rw [List.length_take] at hj
          refine HK.out j c (by omega) ?_
          rw [List.getElem_take] at hjc
          rw [List.getElem?_eq_getElem (by omega), hjc]
        have hbl : bl m ≤ 6000000 := by
          rw [HM.out]
          have h5 := bl_rd h2 HGK.out
          have h6 : (T.take k).length ≤ k := by rw [List.length_take]; omega
          omega
        by_cases hlt : k < s.size
        · have HC := Lib.hid (HSY.out k hlt)
          have c1 := hx.cell b1
          have c2 := hx.cell b2
          go_wp2_with fail
          refine (value_any h2).mono ?_
          rintro e w' ⟨rfl, rfl⟩
          by_cases hd : dg s[k].toNat < b
          · have hv : vl b s[k].toNat = (dg s[k].toNat : Int) := by unfold vl; rw [if_pos hd]
            have HRD : Hid (m * b + dg s[k].toNat = rd b (T.take (k + 1))) := by
              show _ = _
              rw [List.take_add_one, HC.out, Option.toList_some, rd_snoc, ← HM.out]
            have HKK : Hid (∀ j c, j < k + 1 → T[j]? = some c → dg c < b) := fun j c' hj hc' => by
              rcases Nat.lt_or_ge j k with h5 | h5
              · exact HK.out j c' h5 hc'
              · have h6 : j = k := by omega
                subst h6
                rw [HC.out] at hc'
                injection hc' with hc'
                rw [← hc']; exact hd
            rw [hv]
            clear hv HC
            generalize dg s[k].toNat = d at *
            have hd0 : (0 : Int) ≤ (d : Int) := by omega
            go_wp2_with fail
            have hM := HMUL.out _ A7 c7 m HBN.out hbl hx
            have hmb : bl (m * b) ≤ 7000000 := by
              have h5 := bl_mul m b
              have h6 : bl b ≤ 6 := digs_len_le (k := 6) (by omega) (by omega)
              omega
            generalize m * b = mb at *
            refine hM.mono ?_
            clear hM
            rintro e w3 ⟨A8, c8, rfl, hb8, x3⟩
            go_wp2_with fail
            refine (small_rz (n := (d : Int)) (by omega)).mono ?_
            rintro e w4 ⟨g9, A9, c9, L9, rfl, hz9, x4⟩
            have HADD : Hid (Calls Try.prog 36 #[.slice A8 (digs 2 mb).length c8, .slice A9 L9 c9] w4 (RetB w4 (mb + d))) := by
              have h5 := hz9.len
              have h6 := hz9.bn
              rw [Int.natAbs_natCast] at h5 h6
              rw [h5]
              exact radd_any (hb8.ext x4) h6 (by omega) (by have : bl d ≤ 6 := digs_len_le (k := 6) (by omega) (by omega); omega)
            clear hmb hz9 hb8
            have hfd := field_Z1 g9 A9 L9 c9
            go_wp2_with fail
            refine HADD.out.mono ?_
            rintro e w5 ⟨A10, c10, rfl, hb10, x5⟩
            have hx5 := ((hx.trans x3).trans x4).trans x5
            have HB10 := Lib.hid hb10
            clear hb10
            go_wp2_with fail
            go_roundw
            case rel => exact ⟨k + 1, mb + d, A10, c10, by omega, by go_num, rfl, HB10.out, HRD.out, HKK.out, hx5⟩
            case measure => simp [intOf]; omega
          · have hv : vl b s[k].toNat = -1 := by unfold vl; rw [if_neg hd]
            have HBD : Hid (∀ x, bs s ≠ fmtL b x) := fun x e => hd ((good_of h1 h2 (e.symm.trans HST.out) (fun e => HNG.out (by first | trivial | exact e))).1.dig _ (List.mem_of_getElem? HC.out))
            rw [hv]
            have t1 := hx.cell q1
            have t2 := hx.cell q2
            have p1 := hx.frozen q1 f1
            have p2 := hx.frozen q2 f2
            clear hv hd HC
            go_wp2_with fail
            refine bodyPost_ret (v := .tuple #[.agg #[.int .i64 0, .slice none 0 0], .bool false]) (by simp [results, Try.results19, go_sem, t1, t2]) rfl ?_
            exact HN.out _ HBD.out (by repeat' (first | with_reducible exact Ext.refl _ | with_reducible assumption | with_reducible apply Ext.alloc_r | with_reducible apply Ext.drew_r | with_reducible apply Ext.drewN_r | with_reducible apply Ext.set_r | with_reducible exact Nat.le_refl _ | with_reducible refine Ext.trans ?_ ‹Ext _ _›))
        · have hk2 : k = s.size := by omega
          have HT : Hid (T.take k = T) := List.take_of_length_le (by rw [HLN.out]; omega)
          have hg : (T ≠ []) → (T.head? = some 48 → false = false ∧ T.length = 1) → Good b false T := fun a b => ⟨fun c hc => HGK.out c (by rw [HT.out]; exact hc), a, b⟩
          have HG := Lib.hid hg
          clear hg
          have t1 := hx.cell q1
          have t2 := hx.cell q2
          have p1 := hx.frozen q1 f1
          have p2 := hx.frozen q2 f2
          have HMK : Hid (∀ w', Ext wr w' → Calls Try.prog 38 #[.bool false, .slice A7 (digs 2 m).length c7] w' (RetRZ w' (rdZ b false T))) := fun w' hx' => by
            refine make_rz (HBN.out.ext hx') (by rw [natAbs_rdZ, HM.out, HT.out]) (fun e => ?_) (fun e => ?_)
            · unfold rdZ; first | (rw [if_pos e]; omega) | cases e
            · unfold rdZ; first | (cases e; done) | (rw [if_neg (by simp)]; omega)
          have hbl2 : bl (rdZ b false T).natAbs ≤ 6000000 := by rw [natAbs_rdZ, ← HT.out, ← HM.out]; exact hbl
          have hxwr := hxw.trans hx
          go_wp2_with fail
          refine (HMK.out _ (Ext.refl _)).mono ?_
          rintro e w4 ⟨sg4, A4, c4, L4, rfl, hz4, x4⟩
          obtain ⟨w5, hw5⟩ : ∃ z : World, z = w4.alloc (.cells #[.int .i64 sg4, .slice A4 L4 c4] 30) := ⟨_, rfl⟩
          have x5 : Ext w4 w5 := by rw [hw5]; exact Ext.alloc _ _
          have hb5 := box_new w4 (.int .i64 sg4) (.slice A4 L4 c4) 30
          rw [← hw5] at hb5
          have d1 := hb5.1
          have d2 := hb5.2.1
          have HW5 := Lib.hid hw5
          clear hb5 hw5
          have x45 := x4.trans x5
          replace p1 := x45.frozen t1 p1
          replace p2 := x45.frozen t2 p2
          replace t1 := x45.cell t1
          replace t2 := x45.cell t2
          have HL4 : Hid (L4 ≤ 32000000) := by show L4 ≤ _; rw [hz4.len]; exact Nat.le_trans hbl2 (by omega)
          have HFM := Lib.hid (rFormat_rz (hz4.ext x5) h1 h2 HL4.out)
          have HZ5 := Lib.hid (hz4.ext x5)
          clear hz4
          go_wp2_with fail
          rw [← HW5.out]
          refine HFM.out.mono ?_
          rintro e w6 ⟨f, rfl, hf, x6⟩
          replace p1 := x6.frozen t1 p1
          replace p2 := x6.frozen t2 p2
          replace t1 := x6.cell t1
          replace t2 := x6.cell t2
          replace d1 := x6.cell d1
          replace d2 := x6.cell d2
          have hx6 := (hxwr.trans x45).trans x6
          have HFF := Lib.hid hf
          clear hf HW5
          by_cases hfs : f = s
          · have hfe : (f.toList == s.toList) = true := by rw [hfs]; simp
            obtain ⟨r5, r6, hz', hxx⟩ := fin_rz (Nat.le_refl _) hx6 (HZ5.out.ext x6) t1 t2
            have HQ := Lib.hid (HY.out _ _ _ _ _ _ (by rw [← HFF.out, hfs]) hz' hxx)
            clear hz' hxx hfs
            go_wp2_with fail
            refine bodyPost_ret (v := .tuple #[.agg #[.int .i64 sg4, .slice A4 L4 c4], .bool true]) (by simp [results, Try.results19, go_sem, r5, r6]) rfl ?_
            exact HQ.out
          · have hfe : (f.toList == s.toList) = false := by
              rw [bs_eq]
              exact decide_eq_false (fun h => hfs (bs_inj h))
            have HBD : Hid (∀ x, bs s ≠ fmtL b x) := fun x e => by
              have h5 := (good_of h1 h2 (e.symm.trans HST.out) (fun e => HNG.out (by first | trivial | exact e))).2
              exact hfs (bs_inj (by rw [HFF.out, ← h5, e]))
            clear hfs
            go_wp2_with fail
            refine bodyPost_ret (v := .tuple #[.agg #[.int .i64 0, .slice none 0 0], .bool false]) (by simp [results, Try.results19, go_sem, t1, t2]) rfl ?_
            exact HN.out _ HBD.out (by repeat' (first | with_reducible exact Ext.refl _ | with_reducible assumption | with_reducible apply Ext.alloc_r | with_reducible apply Ext.drew_r | with_reducible apply Ext.drewN_r | with_reducible apply Ext.set_r | with_reducible exact Nat.le_refl _ | with_reducible refine Ext.trans ?_ ‹Ext _ _›))
  · have hsz0 : s.size = 0 := by omega
    have hsb : ((s.size : Int) == 0) = true := by rw [hsz0]; rfl
    have HBD : Hid (∀ x, bs s ≠ fmtL b x) := fun x e => by
      have h5 : bs s = [] := List.eq_nil_of_length_eq_zero (by rw [bs_length]; exact hsz0)
      have h6 := fmt_ne b h1 x
      rw [← e] at h6
      exact h6 h5
    clear hsz0
    go_enter Try.func19, Try.ntmps19
    go_wp2_with fail
    rw [← HW0.out]
    refine bodyPost_ret (v := .tuple #[.agg #[.int .i64 0, .slice none 0 0], .bool false]) (by simp [results, Try.results19, go_sem, q1, q2]) rfl ?_
    exact HN.out _ HBD.out (by repeat' (first | with_reducible exact Ext.refl _ | with_reducible assumption | with_reducible apply Ext.alloc_r | with_reducible apply Ext.drew_r | with_reducible apply Ext.drewN_r | with_reducible apply Ext.set_r | with_reducible exact Nat.le_refl _ | with_reducible refine Ext.trans ?_ ‹Ext _ _›))
/-- The call returns the integer x of the reference and true. -/
def RetRZT (w : World) (x : Int) (e : Ending) (w' : World) : Prop := ∃ sg A c L, e = .returned (.tuple #[.agg #[.int .i64 sg, .slice A L c], .bool true]) ∧ RZ w' sg A c L x ∧ Ext w w'
theorem rParse_yes {w : World} {s : ByteArray} {b : Nat} {x : Int} (h1 : 2 ≤ b) (h2 : b ≤ 36) (hs : s.size ≤ 1000000) (h : bs s = fmtL b x) : Calls Try.prog 19 #[.string s, .int .i64 b] w (RetRZT w x) := by
  refine rParse_walk h1 h2 hs _ ?_ ?_
  · intro y sg A c L w' hy hz hx
    have h4 := fmtL_inj h1 h2 (h.symm.trans hy)
    subst h4
    exact ⟨sg, A, c, L, rfl, hz, hx⟩
  · intro w' hn
    exact absurd h (hn x)
theorem rParse_no {w : World} {s : ByteArray} {b : Nat} (h1 : 2 ≤ b) (h2 : b ≤ 36) (hs : s.size ≤ 1000000) (h : ∀ x, bs s ≠ fmtL b x) :
    Calls Try.prog 19 #[.string s, .int .i64 b] w fun e w' => e = .returned (.tuple #[.agg #[.int .i64 0, .slice none 0 0], .bool false]) ∧ Ext w w' := by
  refine rParse_walk h1 h2 hs _ ?_ ?_
  · intro y sg A c L w' hy
    exact absurd hy (h y)
  · intro w' _ hx
    exact ⟨rfl, hx⟩
end Go.Proofs.Ytjhknnioefipmaa
