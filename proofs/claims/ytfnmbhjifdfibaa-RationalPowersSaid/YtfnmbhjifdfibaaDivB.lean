/- Contracts of package division: divide (long division). -/
import Derived.Test.YtfnmbhjifdfibaaDivA
import Derived.Test.YtfnmbhjifdfibaaNatG
import Derived.Test.YtfnmbhjifdfibaaIntA
import Derived.WalkMore
import Derived.Deep.RegionHeld3
namespace Go.Proofs.Ytfnmbhjifdfibaa
open Go.RowKit
theorem Only.qt {w w1 w2 : World} {g : Nat} (h : Only w w1 g) (hq : Qt w1 w2) : Only w w2 g := by
  obtain ⟨n, rfl⟩ := hq
  exact ⟨h.os, h.tape, h.output, h.size, h.block⟩
theorem cell_far {w : World} {p q : Addr} {u v : Value} (hne : p.block ≠ q.block) (h : w.cell? q = some v) : (w.setCell p u).cell? q = some v :=
  (World.cell?_setCell_other _ _ _ _ (fun e => hne (by rw [e]))).trans h
theorem frozen_set {w : World} {p q : Addr} {u : Value} (h : w.frozen? q = false) : (w.setCell p u).frozen? q = false := by
  rw [World.frozen?_setCell]; exact h
/-- The call returns the numbers q and r in new memory. -/
def RetNN (w : World) (q r : Nat) (e : Ending) (w' : World) : Prop := ∃ A1 c1 A2 c2, e = .returned (.tuple #[.slice A1 (digs B32 q).length c1, .slice A2 (digs B32 r).length c2]) ∧ NO w' w.heap.size A1 c1 q ∧ NO w' w.heap.size A2 c2 r ∧ Ext w w'
theorem lz_any {w : World} {x : Nat} (hx : x < 4294967296) : Calls Try.prog 143 #[.int .u32 x] w fun e w' => e = .returned (.int .i64 ((32 - bl x : Nat) : Int)) ∧ w = w' := by
  have hb : bl x ≤ 32 := digs_len_le (by omega) (by omega)
  have HL : Hid (∀ w, Calls Try.prog 118 #[.int .u32 x] w fun e w' => e = .returned (.int .i64 (bl x)) ∧ w' = w) := fun w => by
    have := Try.bits_Len32 (x : Int) w (by omega) (by omega)
    rwa [show (x : Int).toNat = x from by omega, bitLen_bl hx] at this
  generalize bl x = k at *
  go_enter Try.func143, Try.ntmps143
  go_wp2_with fail
  refine (HL.out w).mono ?_
  rintro e w' ⟨rfl, rfl⟩
  go_wp2_with fail
  go_ret
  exact ⟨ret_int (by omega), rfl⟩
set_option maxHeartbeats 4000000 in
set_option maxRecDepth 100000 in
theorem divide_v {w : World} {A1 A2 : Option Addr} {c1 c2 L1 L2 n m : Nat} (h1 : NV w A1 c1 L1 n) (h2 : NV w A2 c2 L2 m) (hm : m ≠ 0) (hs1 : dl n ≤ 1000000000) (hs2 : dl m ≤ 1000000000) :
    Calls Try.prog 121 #[.slice A1 L1 c1, .slice A2 L2 c2] w (RetNN w (n / m) (n % m)) := by
  have HNB := Lib.hid (normal_v h2 (by omega))
  have H1 := Lib.hid h1
  have hmp : 0 < (digs B32 m).length := by
    rcases Nat.eq_zero_or_pos (digs B32 m).length with h | h
    · exact absurd ((digs_eq_nil B32_two).1 (List.eq_nil_of_length_eq_zero h)) hm
    · exact h
  clear h1 h2
  go_enter Try.func121, Try.ntmps121
  go_wp2_with fail
  go_step3
  go_wp2_with fail
  refine HNB.out.mono ?_
  rintro e w1 ⟨Ab, cb, rfl, hb, x1⟩
  have HB := Lib.hid hb
  have HCMP := Lib.hid (cmp_v (H1.out.ext x1) hb.nv)
  clear hb HNB
  go_wp2_with fail
  refine HCMP.out.mono ?_
  rintro e w2 ⟨rfl, hq⟩
  have x2 := hq.ext
  clear hq HCMP
  by_cases hlt : n < m
  · have hc : cmpN n m = -1 := cmpN_lt hlt
    rw [hc]
    have HNA := Lib.hid (normal_v ((H1.out.ext x1).ext x2) (by omega))
    have HD0 : Hid (n / m = 0) := Nat.div_eq_of_lt hlt
    have HD1 : Hid (n % m = n) := Nat.mod_eq_of_lt hlt
    clear hc
    go_wp2_with fail
    refine HNA.out.mono ?_
    rintro e w3 ⟨Ar, cr, rfl, hr, x3⟩
    have hx := (x1.trans x2).trans x3
    have HR := Lib.hid (Own.mono hr ((x1.trans x2).size) : NO w3 w.heap.size Ar cr n)
    clear hr
    go_wp2_with fail
    rw [Exit.noGoto_ret]
    go_ret2
    show RetNN w (n / m) (n % m) _ _
    rw [HD0.out, HD1.out]
    exact ⟨none, 0, _, _, rfl, Own.none_ _ _ _ _, HR.out, hx⟩
  · have hc : 0 ≤ cmpN n m := by unfold cmpN; split <;> (try split) <;> omega
    generalize cmpN n m = K at *
    have hc' : ¬ K < 0 := by omega
    by_cases hl1 : (digs B32 m).length = 1
    · have hd : digs B32 m = [m] := by
        have h5 := val_digs B32_two m
        match hdl : digs B32 m, hl1 with
        | [x], _ => rw [hdl] at h5; simp [val] at h5; rw [h5]
      have hmb : m < 4294967296 := valid_digs B32_two m m (by rw [hd]; simp)
      have hb2 := HB.out.ext x2
      obtain ⟨gb, rfl, _, hgb, hcb, _⟩ := Own.at_ hb2 (i := 0) (by rw [hd]; simp)
      simp only [hd, List.getElem_cons_zero] at hcb
      have HDS := Lib.hid (divSmall_v ((H1.out.ext x1).ext x2) (show 0 < m by omega) hmb (by omega))
      clear hb2 hd hc
      generalize (digs B32 m).length = lb at *
      subst hl1
      go_wp2_with fail
      refine HDS.out.mono ?_
      rintro e w3 ⟨Aq, cq, rfl, hq, x3⟩
      have hrm : n % m < 18446744073709551616 := by have := Nat.mod_lt n (show m > 0 by omega); omega
      have HOF := Lib.hid (of_any (w := w3) (n % m) hrm)
      have HQ := Lib.hid hq
      have hrb : n % m < 4294967296 := by have := Nat.mod_lt n (show m > 0 by omega); omega
      clear hq HDS hrm
      have hrI : ((n : Int) % (m : Int)) = ((n % m : Nat) : Int) := (Int.natCast_emod n m).symm
      obtain ⟨r, hr⟩ : ∃ r, r = n % m := ⟨_, rfl⟩
      rw [← hr] at hrI HOF hrb
      have HRR := Lib.hid hr
      clear hr
      go_wp2_with fail
      refine HOF.out.mono ?_
      rintro e w4 ⟨A5, c5, rfl, h5, x5⟩
      have hx := ((x1.trans x2).trans x3).trans x5
      have s1 := ((x1.trans x2)).size
      have s2 := (((x1.trans x2)).trans x3).size
      have HA : Hid (NO w4 w.heap.size Aq cq (n / m)) := Own.mono (NO.ext HQ.out x5) s1
      have HBB : Hid (NO w4 w.heap.size A5 c5 r) := Own.mono h5 s2
      clear h5 s1 s2
      go_wp2_with fail
      rw [Exit.noGoto_ret]
      go_ret2
      show RetNN w (n / m) (n % m) _ _
      rw [← HRR.out]
      exact ⟨_, _, _, _, rfl, HA.out, HBB.out, hx⟩
    · have hl2 : 2 ≤ (digs B32 m).length := by omega
      have hl1' : (((digs B32 m).length : Int) == 1) = false := by rw [beq_eq_false_iff_ne]; omega
      -- the highest digit
      obtain ⟨top, htop, htb, hblm⟩ := bl_top (a := m) (L := (digs B32 m).length - 1) (by omega)
      have hb2 := HB.out.ext x2
      obtain ⟨gb, rfl, _, hgb, hcb, _⟩ := Own.at_ hb2 (i := (digs B32 m).length - 1) (by omega)
      rw [List.getElem?_eq_getElem (by omega)] at htop
      injection htop with htop
      rw [htop] at hcb
      have hbt : bl top ≤ 32 := digs_len_le (by omega) (by omega)
      obtain ⟨sh, hsh⟩ : ∃ sh, sh = 32 - bl top := ⟨_, rfl⟩
      have HLZ := Lib.hid (lz_any (w := w2) htb)
      rw [← hsh] at HLZ
      have HLB := Lib.hid hblm
      have HNVB : Hid (NV w2 (some ⟨gb, 0, none⟩) cb (digs B32 m).length m) := (hb2 : NO w2 w.heap.size _ cb m).nv
      have HSH := Lib.hid hsh
      have HDLM : Hid (dl m = (digs B32 m).length) := rfl
      have hlbb : (digs B32 m).length ≤ 1000000000 := hs2
      clear hb2 hblm htop
      generalize (digs B32 m).length = lb at *
      have hlb : lb - 1 < lb := by omega
      have hdlm : dl m = lb := HDLM.out
      have hsh31 : sh ≤ 32 := by omega
      clear hsh
      -- M, the divisor shifted
      obtain ⟨M, hM⟩ : ∃ M, M = m * 2 ^ sh := ⟨_, rfl⟩
      have hMlt : M < B32 ^ lb := by
        rw [hM]
        have h5 := lt_pow_len (B := 2) (by omega) m
        have h6 : B32 ^ lb = 2 ^ bl m * 2 ^ sh := by
          rw [← Nat.pow_add, HLB.out, show 32 * (lb - 1) + bl top + sh = 32 * lb from by have := HSH.out; omega, Nat.pow_mul]; rfl
        rw [h6]
        exact Nat.mul_lt_mul_of_pos_right h5 (Nat.two_pow_pos _)
      have hMge : m ≤ M := by rw [hM]; exact Nat.le_mul_of_pos_right m (Nat.two_pow_pos _)
      have hMl : (digs B32 M).length = lb := by
        have h5 : dl M ≤ lb := dl_le hMlt
        have h6 := dl_mono hMge
        rw [hdlm] at h6
        exact Nat.le_antisymm h5 h6
      have HSHL : Hid (Calls Try.prog 95 #[.slice (some ⟨gb, 0, none⟩) lb cb, .int .i64 (sh : Int)] w2 (RetN w2 M)) := by
        rw [hM]
        exact shl_v HNVB.out (by omega) (by omega) (by omega)
      have HM := Lib.hid hM
      have HMLT := Lib.hid hMlt
      clear hM hMlt hMge hdlm
      go_wp2_with fail
      refine HLZ.out.mono ?_
      rintro e w' ⟨rfl, rfl⟩
      go_wp2_with fail
      refine HSHL.out.mono ?_
      rintro e w3 ⟨Av, cv, rfl, hv, x3⟩
      have HV := Lib.hid hv
      clear hv HSHL HLZ
      rw [hMl]
      go_wp2_with fail
      have hA3 := ((H1.out.ext x1).ext x2).ext x3
      have HLA : Hid (dl n = (digs B32 n).length) := rfl
      have hla : (digs B32 n).length ≤ 1000000000 := hs1
      have hlaL : lb ≤ (digs B32 n).length := by
        have h5 := dl_mono (show m ≤ n by omega)
        rw [HDLM.out] at h5
        exact h5
      have HNA := Lib.hid (normal_v hA3 (by omega))
      have HSA := Lib.hid (fun w' (hx : Ext w3 w') => shl_v (n := (sh : Int)) (m := sh) (hA3.ext hx) (by omega) (by omega) (by omega))
      obtain ⟨A, hA⟩ : ∃ A, A = n * 2 ^ sh := ⟨_, rfl⟩
      rw [← hA] at HSA
      have hAlt : A < B32 ^ (digs B32 n).length * 2 ^ sh := by
        rw [hA]
        exact Nat.mul_lt_mul_of_pos_right (lt_pow_len B32_two n) (Nat.two_pow_pos _)
      have hAl : (digs B32 A).length ≤ (digs B32 n).length + 1 := by
        refine digs_len_le B32_two ?_
        rw [Nat.pow_succ]
        have h5 : 2 ^ sh ≤ B32 := by
          have : (2 : Nat) ^ sh ≤ 2 ^ 32 := Nat.pow_le_pow_right (by omega) hsh31
          unfold B32; omega
        have := Nat.mul_le_mul_left (B32 ^ (digs B32 n).length) h5
        omega
      have HA := Lib.hid hA
      have HALT := Lib.hid hAlt
      clear hA hAlt hA3
      refine HNA.out.mono ?_
      rintro e w4 ⟨An, cn, rfl, _, x4⟩
      generalize (digs B32 n).length = la at *
      obtain ⟨k, hk⟩ : ∃ k, lb = k + 2 := ⟨lb - 2, by omega⟩
      subst hk
      obtain ⟨nq, hnq⟩ : ∃ nq, la = nq + k + 1 := ⟨la - k - 1, by omega⟩
      subst hnq
      have hnq1 : 1 ≤ nq := by omega
      have HMGE : Hid (B32 ^ (k + 1) * 2 ^ sh ≤ M) := by
        show _ ≤ _
        rw [HM.out]
        refine Nat.mul_le_mul_right _ ?_
        rcases Nat.lt_or_ge m (B32 ^ (k + 1)) with h5 | h5
        · have h6 := dl_le h5
          rw [HDLM.out] at h6
          omega
        · exact h5
      clear HNA
      go_wp2_with (at_make; refine wpList_mkrow rfl _ _ _ rfl _ _ _ Try.underlying23 info_u32 (by omega) _ _ _ (nq + k + 1 + 1) rfl rfl (by omega) (by omega) ?_)
      intro gu w5 hgu hrow x5
      go_wp2_with fail
      refine (HSA.out w5 (x4.trans x5)).mono ?_
      rintro e w6 ⟨As, cs, rfl, hs, x6⟩
      have hrow6 := hrow.ext x6
      have hrd6 := (hs : NO w6 w5.heap.size As cs A).nr.rd
      clear hrow hs HSA
      go_wp2_with (with_reducible refine wpList_copyrow rfl (.tmp 56) (.tmp 59) 23 23 rfl 139 Try.underlying23 size_u32 gu _ _ _ As .u32 _ _ _ rfl rfl hrow6 hrd6 hAl (by simp) ?_)
      intro w7 hrow7 hb7
      obtain ⟨us0, hus0⟩ : ∃ us0, us0 = digs B32 A ++ List.replicate (nq + k + 1 + 1 - (digs B32 A).length) 0 := ⟨_, rfl⟩
      rw [← hus0] at hrow7
      have hul : us0.length = nq + k + 2 := by rw [hus0, List.length_append, List.length_replicate]; omega
      have huv : Valid B32 us0 := by
        rw [hus0, valid_append]
        exact ⟨valid_digs B32_two A, valid_replicate (by unfold B32; omega) _⟩
      have hua : val B32 us0 = A := by rw [hus0, val_append, val_digs B32_two, val_replicate, Nat.mul_zero, Nat.add_zero]
      have x37 : Ext w3 w7 := ((x4.trans x5).trans x6).step hb7 (by have := x4.size; omega)
      clear hrow6 hrd6 hus0 hAl x6 x5 hb7
      go_wp2_with (at_make; refine wpList_mkrow rfl _ _ _ rfl _ _ _ Try.underlying23 info_u32 (by omega) _ _ _ nq rfl rfl (by omega) (by omega) ?_)
      intro gq w8 hgq hrowq x8
      have hguq : gu < gq := by have := hrow7.lt; omega
      have hrowu := hrow7.ext x8
      have x38 := x37.trans x8
      clear hrow7 x37 x8
      have hvt : val B32 (us0.drop nq) < M := by
        rw [val_drop_div B32_two huv, hua]
        refine Nat.div_lt_of_lt_mul ?_
        have h5 := HALT.out
        have h6 : B32 ^ (nq + k + 1) * 2 ^ sh = B32 ^ nq * (B32 ^ (k + 1) * 2 ^ sh) := by rw [Nat.add_assoc, Nat.pow_add, Nat.mul_assoc]
        have h7 := Nat.mul_le_mul_left (B32 ^ nq) HMGE.out
        omega
      obtain ⟨qs0, hqs0⟩ : ∃ qs0, qs0 = List.replicate nq 0 := ⟨_, rfl⟩
      have hql : qs0.length = nq := by rw [hqs0]; simp
      have hqv : Valid B32 qs0 := by rw [hqs0]; exact valid_replicate (by unfold B32; omega) _
      have HST : Hid (val B32 us0 + M * (B32 ^ nq * val B32 (qs0.drop nq)) = A) := by
        show _ = _
        rw [hua, List.drop_of_length_le (by omega)]
        simp [val]
      have HVT := Lib.hid hvt
      have hvl : (digs B32 M).length = k + 2 := hMl
      have hvv := valid_digs B32_two M
      have hvd := val_digs B32_two M
      have hvn := getLast_digs B32_two M
      have hv3 : Own w3 w2.heap.size .u32 139 Av cv (digs B32 M) := HV.out
      generalize digs B32 M = vs at *
      obtain ⟨gv, hAv, z1, hgv, z2, z3⟩ := Own.at_ hv3 (i := k + 1) (by omega)
      clear z1 z2 z3
      subst hAv
      have HVR : Hid (Rd w3 .u32 (some ⟨gv, 0, none⟩) vs) := Own.rd hv3
      have hgvu : gv < gu := by have := x4.size; omega
      rw [← hqs0] at hrowq
      have HRU := Lib.hid hrowu
      have HRQ := Lib.hid hrowq
      have HVV := Lib.hid hvv
      have HVD := Lib.hid hvd
      have HVN := Lib.hid hvn
      have HVL := Lib.hid hvl
      have HUL := Lib.hid hul
      have HQL := Lib.hid hql
      have HUV := Lib.hid huv
      have HQV := Lib.hid hqv
      clear hua hvt hqs0 hv3 hrowu hrowq hvv hvd hvn hvl hul hql huv hqv hcb hMl
      go_wp2_with fail
      go_step3
      go_wp2_with fail
      go_loopw [13] (fun jv wr => ∃ (t : Nat) (us qs : List Nat), t ≤ nq ∧ jv = .int .i64 ((t : Int) - 1) ∧ Row wr gu .u32 139 us ∧ Row wr gq .u32 139 qs ∧ Hid (us.length = nq + k + 2) ∧ Hid (qs.length = nq) ∧ Hid (Valid B32 us) ∧ Hid (Valid B32 qs) ∧ Hid (val B32 us + M * (B32 ^ t * val B32 (qs.drop t)) = A) ∧ Hid (val B32 (us.drop t) < M) ∧ Ext w3 wr) (fun jv _ => (intOf jv + 1).toNat)
      case atStart => exact ⟨nq, us0, qs0, Nat.le_refl _, rfl, HRU.out, HRQ.out, HUL.out, HQL.out, HUV.out, HQV.out, HST.out, HVT.out, x38⟩
      case round =>
        clear HRU HRQ HUL HQL HUV HQV HST HVT
        obtain ⟨t, us, qs, ht, rfl, hru, hrq, HUL, HQL, HUV, HQV, HST, HLT, hx⟩ := hrel
        by_cases ht0 : t = 0
        · subst ht0
          have hqn : val B32 qs = n / m ∧ val B32 us = (n % m) * 2 ^ sh := by
            have h5 := HST.out
            have h6 := HLT.out
            rw [Nat.pow_zero, Nat.one_mul, List.drop_zero, HM.out, HA.out] at h5
            rw [List.drop_zero, HM.out] at h6
            have hmp2 : 0 < m * 2 ^ sh := by omega
            have h7 : n * 2 ^ sh / (m * 2 ^ sh) = val B32 qs := by
              rw [← h5, Nat.add_mul_div_left _ _ hmp2, Nat.div_eq_of_lt h6, Nat.zero_add]
            have h8 : n * 2 ^ sh % (m * 2 ^ sh) = val B32 us := by
              rw [← h5, Nat.add_mul_mod_self_left, Nat.mod_eq_of_lt h6]
            rw [Nat.mul_div_mul_right _ _ (Nat.two_pow_pos sh)] at h7
            rw [Nat.mul_mod_mul_right] at h8
            exact ⟨h7.symm, h8.symm⟩
          have hnrq : NR wr (some ⟨gq, 0, none⟩) nq qs := ⟨by have := hrq.rd qs.length; rwa [List.take_length] at this, HQV.out, by rw [HQL.out]; exact Nat.le_refl _, by omega⟩
          have hnru : NR wr (some ⟨gu, 0, none⟩) (nq + k + 1 + 1) us := ⟨by have := hru.rd us.length; rwa [List.take_length] at this, HUV.out, by rw [HUL.out]; omega, by omega⟩
          have hdq : dl (V qs) ≤ 35184372088832 := by
            have h5 := len_V HQV.out
            rw [HQL.out] at h5
            exact Nat.le_trans h5 (by omega)
          have HNQ := Lib.hid (normal_any hnrq hdq)
          rw [HQL.out] at HNQ
          have HNU := Lib.hid hnru
          have HQN := Lib.hid hqn
          clear hqn hnrq hnru hdq
          have HBG : Hid (w.heap.size ≤ wr.heap.size ∧ Ext w wr) := by
            have h5 := ((x1.trans x2).trans x3).trans hx
            exact ⟨h5.size, h5⟩
          have HSR : Hid (∀ w', Ext wr w' → Calls Try.prog 147 #[.slice (some ⟨gu, 0, none⟩) (nq + k + 1 + 1) (nq + k + 1 + 1), .int .i64 (sh : Int)] w' (RetN w' (n % m))) := fun w' hx' => by
            have h5 : NV w' (some ⟨gu, 0, none⟩) (nq + k + 1 + 1) (nq + k + 1 + 1) ((n % m) * 2 ^ sh) := ⟨us, HUL.out, HQN.out.2, HNU.out.ext hx'⟩
            have h6 : dl ((n % m) * 2 ^ sh) ≤ nq + k + 1 + 1 := h5.dl
            have h7 := shr_v (n := (sh : Int)) (m := sh) h5 (by omega) (by omega) (by omega)
            rwa [Nat.mul_div_cancel _ (Nat.two_pow_pos sh)] at h7
          go_wp2_with fail
          refine HNQ.out.mono ?_
          rintro e w20 ⟨A5, c5, rfl, h5, x5⟩
          have HA5 := Lib.hid h5
          clear h5
          go_wp2_with fail
          refine (HSR.out _ x5).mono ?_
          rintro e w21 ⟨A6, c6, rfl, h6, x6⟩
          have hB20 : w.heap.size ≤ w20.heap.size := by have := HBG.out.1; have := x5.size; omega
          have HR1 : Hid (NO w21 w.heap.size A5 c5 (n / m)) := by
            have h7 : NO w21 wr.heap.size A5 c5 (V qs) := NO.ext HA5.out x6
            rw [show V qs = n / m from HQN.out.1] at h7
            exact Own.mono h7 HBG.out.1
          have HR2 : Hid (NO w21 w.heap.size A6 c6 (n % m)) := Own.mono h6 hB20
          have HEQ : Hid (V qs = n / m) := HQN.out.1
          have hxf := (HBG.out.2.trans x5).trans x6
          clear h6
          rw [HEQ.out]
          go_wp2_with fail
          rw [Exit.noGoto_ret]
          go_ret2
          exact ⟨_, _, _, _, rfl, HR1.out, HR2.out, hxf⟩
        · obtain ⟨j, hj⟩ : ∃ j, t = j + 1 := ⟨t - 1, by omega⟩
          subst hj
          have hu2l : j + k + 2 < us.length := by rw [HUL.out]; omega
          have hvl1 : k + 1 < vs.length := by rw [HVL.out]; omega
          have cu2 := hru.cell (i := j + k + 2) hu2l
          have cu1 := hru.cell (i := j + k + 1) (by omega)
          have cu0 := hru.cell (i := j + k) (by omega)
          obtain ⟨_, _, hA1, _, cv1⟩ := HVR.out (k + 1) hvl1
          obtain ⟨_, _, hA2, _, cv2⟩ := HVR.out k (by omega)
          injection hA1 with hA1
          injection hA1 with e1 e2
          injection hA2 with hA2
          injection hA2 with e3 e4
          subst e1 e2 e3 e4
          replace cv1 := hx.cell cv1
          replace cv2 := hx.cell cv2
          rw [Nat.zero_add] at cv1 cv2
          have hqj : j < qs.length := by rw [HQL.out]; omega
          have cq := hrq.cell (i := j) hqj
          have fq := hrq.frozen j
          have hv1p : 0 < vs[k + 1] := by
            rcases Nat.eq_zero_or_pos vs[k + 1] with h5 | h5
            · exfalso
              apply HVN.out
              rw [List.getLast?_eq_getElem?, HVL.out, show k + 2 - 1 = k + 1 from by omega, List.getElem?_eq_getElem hvl1, h5]
            · exact h5
          have HKR := Lib.hid (fun D => knuth_round (D := D) B32_two HUV.out HVV.out (n := k) (j := j) HVL.out (by rw [HVD.out]; exact HLT.out) (by rw [HUL.out]; omega) (List.getElem?_eq_getElem hu2l) (List.getElem?_eq_getElem (by omega)) (List.getElem?_eq_getElem (by omega)) (List.getElem?_eq_getElem hvl1) (List.getElem?_eq_getElem (by omega)) hv1p)
          have bu2 := valid_get HUV.out (j + k + 2) hu2l
          have bu1 := valid_get HUV.out (j + k + 1) (by omega)
          have bu0 := valid_get HUV.out (j + k) (by omega)
          have bv1 := valid_get HVV.out (k + 1) hvl1
          have bv2 := valid_get HVV.out k (by omega)
          generalize us[j + k + 2] = u2 at *
          generalize us[j + k + 1] = u1 at *
          generalize us[j + k] = u0 at *
          generalize vs[k + 1] = v1 at *
          generalize vs[k] = v2 at *
          obtain ⟨n2, hn2⟩ : ∃ n2 : Nat, (k : Int) + 2 = (n2 : Int) := ⟨k + 2, by omega⟩
          obtain ⟨n3, hpl⟩ : ∃ n3 : Nat, j + n2 + 1 - j = n3 := ⟨_, rfl⟩
          have HN2 : Hid (n2 = k + 2) := by show _ = _; omega
          have HN3 : Hid (n3 = k + 3) := by show _ = _; omega
          clear hu2l hvl1 hv1p
          have cu2' : wr.cell? ⟨gu, j + n2, none⟩ = some (.int .u32 (u2 : Int)) := by rw [HN2.out]; exact cu2
          have cu1' : wr.cell? ⟨gu, j + (k + 1), none⟩ = some (.int .u32 (u1 : Int)) := cu1
          clear cu2 cu1
          have HEST : Hid (∀ w', Calls Try.prog 144 #[.int .u32 u2, .int .u32 u1, .int .u32 u0, .int .u32 v1, .int .u32 v2] w' fun e w'' => ∃ D, e = .returned (.int .u32 (D : Nat)) ∧ Est 4294967296 ((u2 * 4294967296 + u1) * 4294967296 + u0) (v1 * 4294967296 + v2) D ∧ Qt w' w'') := fun w' => estimate_any (HKR.out 0).1 bu1 bu0 bv1 bv2
          have hi1 : IntKind.i64.wrap ((n2 : Int) - 1) = (k : Int) + 1 := by rw [IntWalk.i64_in _ (by omega)]; omega
          have hi2 : IntKind.i64.wrap ((n2 : Int) - 2) = (k : Int) := by rw [IntWalk.i64_in _ (by omega)]; omega
          have ht1 : ((k : Int) + 1).toNat = k + 1 := by omega
          have hb0 : (0 : Int) ≤ (k : Int) := by omega
          have hb2 : (0 : Int) ≤ (k : Int) + 1 := by omega
          have hb1 : (0 : Int) ≤ (n2 : Int) := by omega
          have hb3 : (n2 : Int) < (n3 : Int) := by omega
          have hb4 : (k : Int) + 1 < (n3 : Int) := by omega
          have hb5 : (k : Int) < (n3 : Int) := by omega
          have hb6 : (k : Int) + 1 < (n2 : Int) := by omega
          have hb7 : (k : Int) < (n2 : Int) := by omega
          have hb8 : (j : Int) < (nq : Int) := by omega
          have hOO : Only wr wr gq := Only.refl _ _
          generalize qs[j] = q0 at *
          have hOd : Only wr wr.drew gq := Only.qt hOO ⟨1, rfl⟩
          have hxd : Ext wr wr.drew := Ext.drew wr
          have hqu : gq ≠ gu := by omega
          have hqv' : gq ≠ gv := by omega
          go_wp2_with fail
          go_region_held3 (fun w' => Only wr w' gq ∧ w'.cell? ⟨gu, j + n2, none⟩ = some (.int .u32 (u2 : Int)) ∧ w'.cell? ⟨gu, j + (k + 1), none⟩ = some (.int .u32 (u1 : Int)) ∧ w'.cell? ⟨gu, j + k, none⟩ = some (.int .u32 (u0 : Int)) ∧ w'.cell? ⟨gv, k + 1, none⟩ = some (.int .u32 (v1 : Int)) ∧ w'.cell? ⟨gv, k, none⟩ = some (.int .u32 (v2 : Int)) ∧ (∃ z : Nat, w'.cell? ⟨gq, j, none⟩ = some (.int .u32 (z : Int))) ∧ w'.frozen? ⟨gq, j, none⟩ = false)
            (first | exact ⟨hOd, cu2', cu1', cu0, cv1, cv2, ⟨q0, cq⟩, fq⟩ | exact ⟨hO9, d2, d1, d0, b1', b2', ⟨q0, cq9⟩, fq9⟩ | exact ⟨hO9.set' _, cell_far hqu d2, cell_far hqu d1, cell_far hqu d0, cell_far hqv' b1', cell_far hqv' b2', ⟨D, World.cell?_setCell_same _ _ _ cq9⟩, frozen_set fq9⟩)
            (first
              | (go_at_call 144; refine (HEST.out _).mono ?_; rintro e w9 ⟨D, rfl, hest, hq9⟩; have hx9 := Ext.trans hxd (Qt.ext hq9); have hO9 := Only.qt hOd hq9; have d2 := Ext.cell hx9 cu2'; have d1 := Ext.cell hx9 cu1'; have d0 := Ext.cell hx9 cu0; have b1' := Ext.cell hx9 cv1; have b2' := Ext.cell hx9 cv2; have cq9 := Ext.cell hx9 cq; have fq9 := Ext.frozen hx9 cq fq))
          have hru9 := hru.ext hx9
          have hrq9 := hrq.ext hx9
          have hx39 := hx.trans hx9
          have HGQ : Hid (w3.heap.size ≤ gq) := by show _ ≤ _; have := x4.size; omega
          have HGU : Hid (w3.heap.size ≤ gu) := by show _ ≤ _; have := x4.size; omega
          obtain ⟨w10, hw10⟩ : ∃ z : World, z = w9.setCell ⟨gq, j, none⟩ (.int .u32 (D : Int)) := ⟨_, rfl⟩
          rw [← hw10]
          have hru10 : Row w10 gu .u32 139 us := by rw [hw10]; exact hru9.far (by show gu ≠ gq; omega) _
          have hrq10 : Row w10 gq .u32 139 (qs.set j D) := by rw [hw10]; exact hrq9.set_ j D
          have hx310 : Ext w3 w10 := by rw [hw10]; exact Below.setCell hx39 (p := ⟨gq, j, none⟩) HGQ.out _
          have hqj' : j < (qs.set j D).length := by rw [List.length_set]; exact hqj
          have cq10 := hrq10.cell hqj'
          have fq10 := hrq10.frozen j
          rw [List.getElem_set_self] at cq10
          have HQ := Lib.hid ((HKR.out D).2 hest)
          have HSM : Hid (Calls Try.prog 145 #[.slice (some ⟨gu, j, none⟩) n3 (nq + k + 1 + 1 - j), .slice (some ⟨gv, 0, none⟩) (k + 2) cv, .int .u32 (D : Int)] w10 fun e w' => ∃ zs bo, e = .returned (.bool (decide (bo = 1))) ∧ bo ≤ 1 ∧ PartInv w10 w' gu us zs j (k + 2 + 1) ∧
              val B32 ((zs.drop j).take (k + 2 + 1)) + val B32 vs * D = val B32 ((us.drop j).take (k + 2 + 1)) + B32 ^ (k + 2 + 1) * bo) := by
            rw [show n3 = k + 2 + 1 from by rw [HN3.out]]
            exact subMul_any hru10 HUV.out (HVR.out.below hx310) HVV.out HVL.out (fun b o s e => by injection e with e; injection e with e; omega) (by rw [HUL.out]; omega) hest.lt (by rw [HUL.out]; omega)
          have HDL : Hid (D < 4294967296) := hest.lt
          have hDl : D < 4294967296 := HDL.out
          have hVRR := Lib.hid (HVR.out.below hx310)
          have HRQ10 := Lib.hid hrq10
          clear hru9 hrq9 hx39 hw10 hx9 hO9 d2 d1 d0 b1' b2' cq9 fq9 hest hq9 hOd hxd hOO cu2' cu1' cu0 cv1 cv2 cq fq HEST hru hrq hrq10 hqj' HKR
          go_wp2_with fail
          refine HSM.out.mono ?_
          rintro e w11 ⟨zs, bo, rfl, hbo, hP, hval⟩
          have HPP := Lib.hid hP
          have HVAL := Lib.hid hval
          clear hval HSM
          have HGN : Hid (gq ≠ gu) := hqu
          have HPA : Hid (val B32 ((us.drop j).take (k + 2 + 1)) = val B32 (us.drop j)) := (part_all HUV.out HMLT.out HLT.out (by rw [HUL.out]; omega)).1
          have HMP : Hid (0 < M) := by show 0 < M; have := HLT.out; omega
          have HVALM : Hid (val B32 ((zs.drop j).take (k + 2 + 1)) + M * D = val B32 (us.drop j) + B32 ^ (k + 2 + 1) * bo) := by
            show _ = _
            rw [← HPA.out, ← HVD.out, Nat.mul_comm (val B32 vs) D, Nat.mul_comm D (val B32 vs)]
            exact HVAL.out
          have HQM : Hid (val B32 (us.drop j) / M ≤ D ∧ D ≤ val B32 (us.drop j) / M + 1) := by
            have h5 := HQ.out
            rw [HVD.out] at h5
            exact h5
          by_cases hb0 : bo = 0
          · subst hb0
            have hd01 : decide ((0 : Nat) = 1) = false := rfl
            have h7 := sub_zero_case HMP.out HVALM.out rfl HQM.out.1
            have h8 := div_finish (q := D) HPP.out.low HPP.out.high HPA.out rfl h7.2 (by rw [h7.1]; exact (Nat.div_add_mod _ _).symm) (Nat.mod_lt _ HMP.out) HST.out hqj
            have HREL : Hid (∃ (t : Nat) (us qs : List Nat), t ≤ nq ∧ Value.int .i64 ((j : Int) - 1) = .int .i64 ((t : Int) - 1) ∧ Row w11 gu .u32 139 us ∧ Row w11 gq .u32 139 qs ∧ Hid (us.length = nq + k + 2) ∧ Hid (qs.length = nq) ∧ Hid (Valid B32 us) ∧ Hid (Valid B32 qs) ∧ Hid (val B32 us + M * (B32 ^ t * val B32 (qs.drop t)) = A) ∧ Hid (val B32 (us.drop t) < M) ∧ Ext w3 w11) :=
              ⟨j, zs, qs.set j D, by omega, rfl, HPP.out.row, HRQ10.out.only HPP.out.only HGN.out, by show _ = _; rw [HPP.out.len]; exact HUL.out, by show _ = _; rw [List.length_set]; exact HQL.out, HPP.out.valid, valid_set HQV.out _ _ HDL.out, h8.1, h8.2, Below.trans hx310 (HPP.out.only.below HGU.out)⟩
            rw [hd01]
            clear h7 h8
            go_wp2_with fail
            rw [← hn2]
            go_roundw
            case rel =>
              have hrel := HREL.out
              first | exact hrel | ((repeat apply Exists.intro); exact ⟨hrel, rfl⟩)
            case measure => first | (simp [intOf]; done) | (simp [intOf]; omega)
          · obtain rfl : bo = 1 := by omega
            have hd11 : decide ((1 : Nat) = 1) = true := rfl
            have hD1 : 1 ≤ D := by
              rcases Nat.eq_zero_or_pos D with h5 | h5
              · exfalso
                have h6 := HVALM.out
                rw [h5] at h6
                have h7 := val_lt (valid_take (valid_drop HPP.out.valid j) (k + 2 + 1))
                have h8 : B32 ^ ((zs.drop j).take (k + 2 + 1)).length ≤ B32 ^ (k + 2 + 1) := Nat.pow_le_pow_right (by unfold B32; omega) (by rw [List.length_take]; omega)
                omega
              · exact h5
            have hrq11 := HRQ10.out.only HPP.out.only HGN.out
            have hqj11 : j < (qs.set j D).length := by rw [List.length_set]; exact hqj
            have cq11 := hrq11.cell hqj11
            have fq11 := hrq11.frozen j
            rw [List.getElem_set_self] at cq11
            have HRQ11 := Lib.hid hrq11
            clear hrq11 cq10 fq10
            rw [hd11]
            go_wp2_with fail
            have hDI : (D : Int) - 1 = ((D - 1 : Nat) : Int) := by omega
            rw [hDI]
            obtain ⟨w12, hw12⟩ : ∃ z : World, z = w11.setCell ⟨gq, j, none⟩ (.int .u32 ((D - 1 : Nat) : Int)) := ⟨_, rfl⟩
            rw [← hw12]
            have HR12 : Hid (Row w12 gu .u32 139 zs) := by show Row _ _ _ _ _; rw [hw12]; exact HPP.out.row.far (by show gu ≠ gq; omega) _
            have HRQ12 : Hid (Row w12 gq .u32 139 (qs.set j (D - 1))) := by
              show Row _ _ _ _ _
              rw [hw12]
              have h5 := HRQ11.out.set_ j (D - 1)
              rwa [List.set_set] at h5
            have HX12 : Hid (Ext w3 w12) := by
              show Ext _ _
              rw [hw12]
              exact Below.setCell (Below.trans hx310 (HPP.out.only.below HGU.out)) (p := ⟨gq, j, none⟩) HGQ.out _
            have HZL : Hid (zs.length = nq + k + 2) := by show _ = _; rw [HPP.out.len]; exact HUL.out
            have HAB : Hid (Calls Try.prog 146 #[.slice (some ⟨gu, j, none⟩) n3 (nq + k + 1 + 1 - j), .slice (some ⟨gv, 0, none⟩) (k + 2) cv] w12 fun e w' => ∃ zs2 kk, e = .returned (.tuple #[]) ∧ kk ≤ 1 ∧ PartInv w12 w' gu zs zs2 j (k + 2 + 1) ∧
                val B32 ((zs2.drop j).take (k + 2 + 1)) + B32 ^ (k + 2 + 1) * kk = val B32 ((zs.drop j).take (k + 2 + 1)) + val B32 vs) := by
              show Calls _ _ _ _ _
              rw [show n3 = k + 2 + 1 from by rw [HN3.out]]
              exact addBack_any HR12.out HPP.out.valid (HVR.out.below HX12.out) HVV.out HVL.out (fun b o s e => by injection e with e; injection e with e; omega) (by rw [HZL.out]; omega) (by rw [HZL.out]; omega)
            clear hw12 cq11 fq11
            refine HAB.out.mono ?_
            rintro e w13 ⟨zs2, kk, rfl, hkk, hP2, hval2⟩
            have hX := val_lt (valid_take (valid_drop HPP.out.valid j) (k + 2 + 1))
            have hY := val_lt (valid_take (valid_drop hP2.valid j) (k + 2 + 1))
            rw [List.length_take, List.length_drop, HZL.out, Nat.min_eq_left (by omega)] at hX
            rw [List.length_take, List.length_drop, hP2.len, HZL.out, Nat.min_eq_left (by omega)] at hY
            rw [HVD.out] at hval2
            have h7 := sub_one_case HMP.out HVALM.out hX rfl HQM.out.2 hval2 hY hkk
            have h8 := div_finish (q := D - 1) (hP2.low.trans HPP.out.low) (hP2.high.trans HPP.out.high) HPA.out rfl h7.2 (by rw [show D - 1 = val B32 (us.drop j) / M from by omega]; exact (Nat.div_add_mod _ _).symm) (Nat.mod_lt _ HMP.out) HST.out hqj
            have HREL : Hid (∃ (t : Nat) (us qs : List Nat), t ≤ nq ∧ Value.int .i64 ((j : Int) - 1) = .int .i64 ((t : Int) - 1) ∧ Row w13 gu .u32 139 us ∧ Row w13 gq .u32 139 qs ∧ Hid (us.length = nq + k + 2) ∧ Hid (qs.length = nq) ∧ Hid (Valid B32 us) ∧ Hid (Valid B32 qs) ∧ Hid (val B32 us + M * (B32 ^ t * val B32 (qs.drop t)) = A) ∧ Hid (val B32 (us.drop t) < M) ∧ Ext w3 w13) :=
              ⟨j, zs2, qs.set j (D - 1), by omega, rfl, hP2.row, HRQ12.out.only hP2.only HGN.out, by show _ = _; rw [hP2.len]; exact HZL.out, by show _ = _; rw [List.length_set]; exact HQL.out, hP2.valid, valid_set HQV.out _ _ (Nat.lt_of_le_of_lt (Nat.sub_le D 1) HDL.out), h8.1, h8.2, Below.trans HX12.out (hP2.only.below HGU.out)⟩
            clear h7 h8 hX hY hval2 hP2 HAB
            go_wp2_with fail
            rw [← hn2]
            go_roundw
            case rel =>
              have hrel := HREL.out
              first | exact hrel | ((repeat apply Exists.intro); exact ⟨hrel, rfl⟩)
            case measure => first | (simp [intOf]; done) | (simp [intOf]; omega)
end Go.Proofs.Ytfnmbhjifdfibaa
