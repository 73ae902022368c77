/- Contracts of package decimal, fourth part: parse. -/
import Derived.Test.YtfnmbhjifdfibaaDecE
import Derived.Test.YtfnmbhjifdfibaaIntX
import Derived.Test.YtfnmbhjifdfibaaNatY
import Derived.Test.YtfnmbhjifdfibaaRefY
namespace Go.Proofs.Ytfnmbhjifdfibaa
open Go.RowKit
/-- The size of a string, 0 for other values. -/
def strSize : Value → Nat
  | .string s => s.size
  | _ => 0
theorem nv_zero (w : World) : NV w none 0 0 0 := by
  have h : NO w 0 none 0 0 := Own.none_ w 0 .u32 139
  exact NO.nv h
theorem natAbs_rdZ (b : Nat) (neg : Bool) (T : List Nat) : (rdZ b neg T).natAbs = rd b T := by unfold rdZ; split <;> omega
theorem zv_rd {w : World} {b c L : Nat} {neg : Bool} {A : Option Addr} {T : List Nat} (h : NV w A c L (rd b T)) : ZV w neg A c L (rdZ b neg T) := by
  refine ⟨by rw [natAbs_rdZ]; exact h, fun e => ?_, fun e => ?_⟩
  · unfold rdZ; rw [if_pos e]; omega
  · unfold rdZ; rw [if_neg (by rw [e]; simp)]; omega
set_option maxHeartbeats 4000000 in
theorem parse_walk {w : World} {s : ByteArray} {b : Nat} (h1 : 2 ≤ b) (h2 : b ≤ 36) (hs : s.size ≤ 1000000) (Q : Ending → World → Prop)
    (HY : ∀ neg T x sb A c L w', bs s = (if neg then [45] else []) ++ T → Good b neg T → x = rdZ b neg T → ZO w' w.heap.size sb A c L x → Ext w w' → Q (.returned (.tuple #[.agg #[.bool sb, .slice A L c], .int .i64 0])) w')
    (HN : ∀ neg T w', bs s = (if neg then [45] else []) ++ T → (neg = false → T.head? ≠ some 45) → ¬ Good b neg T → Ext w w' → Q (.returned (.tuple #[.agg #[.bool false, .slice none 0 0], .int .i64 6])) w') :
    Calls Try.prog 120 #[.string s, .int .i64 b] w Q := by
  have HY := Lib.hid HY
  have HN := Lib.hid HN
  obtain ⟨w0, hw0⟩ : ∃ z : World, z = w.alloc (.cells #[.bool false, .slice none 0 0] 25) := ⟨_, rfl⟩
  have hx0 : Ext w w0 := by rw [hw0]; exact Ext.alloc _ _
  have hb := box_new w (.bool false) (.slice none 0 0) 25
  rw [← hw0] at hb
  have q1 := hb.1
  have q2 := hb.2.1
  have f1 := hb.2.2 0
  have f2 := hb.2.2 1
  have HW0 := Lib.hid hw0
  clear hb hw0
  go_enter Try.func120, Try.ntmps120
  go_wp2_with fail
  rw [← HW0.out]
  clear HW0
  refine split_any.mono ?_
  rintro e w1 ⟨⟨neg, t, rfl, hst, hn⟩, q, rfl⟩
  have hx1' : Ext w0 (w0.drewN q) := Qt.ext ⟨q, rfl⟩
  replace q1 := hx1'.cell q1
  replace q2 := hx1'.cell q2
  replace f1 : (w0.drewN q).frozen? ⟨w.heap.size, 0, none⟩ = false := f1
  replace f2 : (w0.drewN q).frozen? ⟨w.heap.size, 1, none⟩ = false := f2
  have hx1 := hx0.trans hx1'
  generalize w0.drewN q = w1 at *
  clear hx0 hx1'
  have hts : t.size ≤ 1000000 := by
    have h5 := congrArg List.length hst
    rw [bs_length, List.length_append, bs_length] at h5
    omega
  have HST := Lib.hid hst
  have HNG : Hid (neg = false → (bs t).head? ≠ some 45) := fun e => by
    have h5 := hn e
    rw [hst, e] at h5
    exact h5
  clear hst hn
  have HBAD : Hid (∀ w', ¬ Good b neg (bs t) → Ext w w' → Q (.returned (.tuple #[.agg #[.bool false, .slice none 0 0], .int .i64 6])) w') := fun w' hg hx => HN.out neg (bs t) w' HST.out HNG.out hg hx
  by_cases hte : t.size = 0
  · have hem : t.toList.isEmpty = true := by rw [Lib.toList_data]; have : bs t = [] := List.eq_nil_of_length_eq_zero (by rw [bs_length]; exact hte); unfold bs at this; rw [List.map_eq_nil_iff.1 this]; rfl
    have hbt : bs t = [] := List.eq_nil_of_length_eq_zero (by rw [bs_length]; exact hte)
    have HB2 := HBAD.out
    clear HBAD
    have HB3 := Lib.hid HB2
    clear HB2
    go_wp2_with fail
    refine bodyPost_ret (v := .tuple #[.agg #[.bool false, .slice none 0 0], .int .i64 6]) (by simp [results, Try.results120, go_sem, q1, q2]) rfl ?_
    exact HB3.out _ (fun g => g.ne hbt) (by repeat' (first | with_reducible exact Ext.refl _ | with_reducible assumption | with_reducible apply Ext.alloc_r | with_reducible apply Ext.drew_r | with_reducible apply Ext.drewN_r | with_reducible apply Ext.set_r | with_reducible exact Nat.le_refl _ | with_reducible refine Ext.trans ?_ ‹Ext _ _›))
  · have h0 : 0 < t.size := by omega
    have hem : t.toList.isEmpty = false := by
      rw [Lib.toList_data]
      cases hl : t.data.toList with
      | nil => exact absurd (by rw [Lib.size_eq, hl]; rfl) hte
      | cons _ _ => rfl
    have hg0 : (bs t)[0]? = some t[0].toNat := bs_get? h0
    have HHD : Hid ((bs t).head? = some t[0].toNat) := by show _ = _; rw [List.head?_eq_getElem?]; exact hg0
    have HLN : Hid ((bs t).length = t.size) := bs_length t
    clear hg0 hte
    by_cases hzz : t[0].toNat = 48
    · have hz : ((t[0].toNat : Int) == 48) = true := by rw [hzz]; rfl
      cases neg with
      | true =>
        go_wp2_with fail
        refine bodyPost_ret (v := .tuple #[.agg #[.bool false, .slice none 0 0], .int .i64 6]) (by simp [results, Try.results120, go_sem, q1, q2]) rfl ?_
        exact HBAD.out _ (fun g => by have := (g.zero (by rw [HHD.out, hzz])).1; cases this) (by repeat' (first | with_reducible exact Ext.refl _ | with_reducible assumption | with_reducible apply Ext.alloc_r | with_reducible apply Ext.drew_r | with_reducible apply Ext.drewN_r | with_reducible apply Ext.set_r | with_reducible exact Nat.le_refl _ | with_reducible refine Ext.trans ?_ ‹Ext _ _›))
      | false =>
        by_cases h1t : 1 < t.size
        · go_wp2_with fail
          refine bodyPost_ret (v := .tuple #[.agg #[.bool false, .slice none 0 0], .int .i64 6]) (by simp [results, Try.results120, go_sem, q1, q2]) rfl ?_
          exact HBAD.out _ (fun g => by have := (g.zero (by rw [HHD.out, hzz])).2; rw [HLN.out] at this; omega) (by repeat' (first | with_reducible exact Ext.refl _ | with_reducible assumption | with_reducible apply Ext.alloc_r | with_reducible apply Ext.drew_r | with_reducible apply Ext.drewN_r | with_reducible apply Ext.set_r | with_reducible exact Nat.le_refl _ | with_reducible refine Ext.trans ?_ ‹Ext _ _›))
        · have HZ : Hid ((bs t).head? = some 48 → (false : Bool) = false ∧ (bs t).length = 1) := fun _ => ⟨rfl, by rw [HLN.out]; omega⟩
          clear hzz
          have HSYM : Hid (∀ k (h : k < t.size), (bs t)[k]? = some (t[k]'h).toNat) := fun k h => bs_get? h
          go_wp2_with fail
          go_loop [8] (fun i => ∃ k : Nat, k ≤ t.size ∧ i = .int .i64 k ∧ Hid (∀ j c, j < k → (bs t)[j]? = some c → dg c < b)) (fun i => t.size - (intOf i).toNat)
          case atStart => exact ⟨0, Nat.zero_le _, rfl, fun j c h => by omega⟩
          case round =>
            obtain ⟨k, hk, rfl, HK⟩ := hrel
            by_cases hlt : k < t.size
            · have HC := Lib.hid (HSYM.out k hlt)
              go_wp2_with fail
              refine (digit_any (t[k].toNat_lt)).mono ?_
              rintro e w' ⟨rfl, rfl⟩
              have hdl := dg_le t[k].toNat
              generalize t[k].toNat = c at *
              by_cases hcb : dg c < b
              · have hcc : ¬ b ≤ dg c := by omega
                generalize hdc : dg c = d at *
                have HDC := Lib.hid hdc
                clear hdc
                go_wp2_with fail
                go_round
                case rel =>
                  refine ⟨k + 1, by omega, by go_num, fun j c' hj hc' => ?_⟩
                  rcases Nat.lt_or_ge j k with h5 | h5
                  · exact HK.out j c' h5 hc'
                  · have h6 : j = k := by omega
                    subst h6
                    rw [HC.out] at hc'
                    injection hc' with hc'
                    rw [← hc', HDC.out]; exact hcb
                case measure => simp [intOf]; omega
              · have hcc : b ≤ dg c := by omega
                have HBB : Hid (¬ Good b false (bs t)) := fun g => hcb (g.dig c (List.mem_of_getElem? HC.out))
                clear hcb
                generalize hdc : dg c = d at *
                clear hdc
                go_wp2_with fail
                refine bodyPost_ret (v := .tuple #[.agg #[.bool false, .slice none 0 0], .int .i64 6]) (by simp [results, Try.results120, go_sem, q1, q2]) rfl ?_
                exact HBAD.out _ HBB.out (by repeat' (first | with_reducible exact Ext.refl _ | with_reducible assumption | with_reducible apply Ext.alloc_r | with_reducible apply Ext.drew_r | with_reducible apply Ext.drewN_r | with_reducible apply Ext.set_r | with_reducible exact Nat.le_refl _ | with_reducible refine Ext.trans ?_ ‹Ext _ _›))
            · obtain rfl : k = t.size := by omega
              have HG : Hid (Good b false (bs t)) := ⟨fun c hc => by
                  obtain ⟨j, hj, hjc⟩ := List.getElem_of_mem hc
                  exact HK.out j c (by rw [← HLN.out]; exact hj) (by rw [List.getElem?_eq_getElem hj, hjc]), fun e => by have h5 := HLN.out; rw [e] at h5; simp at h5; omega, fun h => ⟨by have := (HZ.out h).1; first | rfl | exact this, (HZ.out h).2⟩⟩
              clear HBAD HHD HSYM
              go_wp2_with fail
              refine (chunk_any h1 h2).mono ?_
              rintro e w' ⟨⟨p, cnt, rfl, hp, hp2, hc1, hc2⟩, rfl⟩
              have HP := Lib.hid hp
              clear hp
              go_wp2_with fail
              go_loopw [7, 11] (fun dv vv wr => ∃ (t' : ByteArray) (k : Nat) (A : Option Addr) (c L : Nat), dv = .string t' ∧ vv = .slice A L c ∧ Hid (bs t' = (bs t).drop k) ∧ t'.size + k = t.size ∧ NV wr A c L (rd b ((bs t).take k)) ∧ Ext w1 wr) (fun dv _ _ => strSize dv)
              case atStart => exact ⟨t, 0, none, 0, 0, rfl, rfl, rfl, rfl, nv_zero _, Ext.refl _⟩
              case round =>
                obtain ⟨t', k, A, c, L, rfl, rfl, HT, hk, hnv, hx⟩ := hrel
                obtain ⟨wo, rfl⟩ : ∃ wo : World, wo = wr := ⟨_, rfl⟩
                have HV := Lib.hid hnv
                clear hnv
                by_cases ht0 : 0 < t'.size
                · have HSY : Hid (∀ i (h : i < t'.size), (bs t')[i]? = some (t'[i]'h).toNat) := fun i h => bs_get? h
                  have HDG : Hid (∀ c ∈ bs t', dg c < b) := fun c hc => HG.out.dig c (by rw [HT.out] at hc; exact List.mem_of_mem_drop hc)
                  by_cases hle : cnt ≤ t'.size
                  · skip
                    go_wp2_with fail
                    obtain ⟨wi, hwi⟩ : ∃ wi : World, wi = wo := ⟨_, rfl⟩
                    go_loop [13, 14, 15] (fun fv pv iv => ∃ i f m : Nat, i ≤ cnt ∧ fv = .int .u32 f ∧ pv = .int .u32 m ∧ iv = .int .i64 i ∧ Hid (f = b ^ i) ∧ Hid (m = rd b ((bs t').take i)) ∧ f < 4294967296 ∧ m < f) (fun _ _ iv => cnt - (intOf iv).toNat)
                    case atStart => exact ⟨0, 1, 0, Nat.zero_le _, rfl, rfl, rfl, rfl, rfl, by omega, by omega⟩
                    case round =>
                      obtain ⟨i, f, m, hi, rfl, rfl, rfl, HF, HM, hf, hm⟩ := hrel
                      by_cases hil : i < cnt
                      · have hit : i < t'.size := by omega
                        have HC := Lib.hid (HSY.out i hit)
                        have HDC := Lib.hid (HDG.out _ (List.mem_of_getElem? HC.out))
                        have hpw : f * b ≤ p := by rw [HF.out, HP.out, ← Nat.pow_succ]; exact Nat.pow_le_pow_right (by omega) (by omega)
                        have hmb : m * b + b ≤ f * b := by have := Nat.mul_le_mul_right b (Nat.succ_le_of_lt hm); rw [Nat.succ_mul] at this; exact this
                        have HQ1 : Hid ((f : Int) * (b : Int) = ((f * b : Nat) : Int)) := (Int.natCast_mul f b).symm
                        have HQ2 : Hid ((m : Int) * (b : Int) = ((m * b : Nat) : Int)) := (Int.natCast_mul m b).symm
                        have hq1 : 0 ≤ (f : Int) * (b : Int) := by rw [HQ1.out]; omega
                        have hq2 : (f : Int) * (b : Int) ≤ 4294967295 := by rw [HQ1.out]; omega
                        have hq3 : 0 ≤ (m : Int) * (b : Int) := by rw [HQ2.out]; omega
                        have hq4 : (m : Int) * (b : Int) ≤ 4294967295 := by rw [HQ2.out]; omega
                        have HFF : Hid (f * b = b ^ (i + 1)) := by show _ = _; rw [HF.out, Nat.pow_succ]
                        have HMM : Hid (m * b + dg t'[i].toNat = rd b ((bs t').take (i + 1))) := by
                          show _ = _
                          rw [List.take_add_one, HC.out, Option.toList_some, rd_snoc, ← HM.out]
                        go_wp2_with fail
                        refine (digit_any (t'[i].toNat_lt)).mono ?_
                        rintro e w' ⟨rfl, rfl⟩
                        have hdb := HDC.out
                        generalize dg t'[i].toNat = d at *
                        have hq5 : (m : Int) * (b : Int) + (d : Int) ≤ 4294967295 := by rw [HQ2.out]; omega
                        go_wp2_with fail
                        go_round
                        case rel => exact ⟨i + 1, f * b, m * b + d, by omega, congrArg (Value.int .u32) HQ1.out, by rw [Int.natCast_add, ← HQ2.out], by go_num, HFF.out, HMM.out, by omega, by omega⟩
                        case measure => simp [intOf]; omega
                      · have hin : cnt = i := by omega
                        subst hin
                        have hdlv : dl (rd b ((bs t).take k)) ≤ 17592186044416 := by
                          have h5 := dl_rd (b := b) (T := (bs t).take k) h2 (fun c hc => HG.out.dig c (List.mem_of_mem_take hc))
                          have h6 : ((bs t).take k).length ≤ k := by rw [List.length_take]; omega
                          omega
                        have HRA : Hid (rd b ((bs t).take k) * f + m = rd b ((bs t).take (k + cnt))) := by
                          show _ = _
                          rw [List.take_add, rd_append, ← HT.out, HM.out, HF.out]
                          congr 2
                          rw [List.length_take, bs_length]
                          congr 1
                          omega
                        have HMA := Lib.hid (mulAdd_v HV.out hf (Nat.lt_trans hm hf) hdlv)
                        have hsz : cnt ≤ t'.size := by omega
                        clear hdlv HM HF
                        go_wp2_with fail
                        refine HMA.out.mono ?_
                        rintro e w3 ⟨A3, c3, rfl, hno, hx3⟩
                        have HNV : Hid (NV w3 A3 c3 (digs B32 (rd b ((bs t).take k) * f + m)).length (rd b ((bs t).take (k + cnt)))) := by
                          show NV _ _ _ _ _
                          rw [← HRA.out]
                          exact hno.nv
                        have hxx := hx.trans hx3
                        clear hno
                        have HE : Hid (bs (t'.extract cnt t'.size) = (bs t).drop (k + cnt)) := by show _ = _; rw [bs_drop, HT.out, List.drop_drop]
                        have HSE : Hid ((t'.extract cnt t'.size).size = t'.size - cnt) := by show _ = _; rw [ByteArray.size_extract]; omega
                        go_wp2_with fail
                        go_roundw
                        case rel => first | exact ⟨_, k + cnt, A3, c3, _, rfl, rfl, HE.out, by rw [HSE.out]; omega, HNV.out, hxx⟩ | (rw [show (min (cnt : Int) (t'.size : Int)).toNat = cnt by omega]; exact ⟨_, k + cnt, A3, c3, _, rfl, rfl, HE.out, by rw [HSE.out]; omega, HNV.out, hxx⟩)
                        case measure => first | (show (t'.extract cnt t'.size).size < t'.size; rw [HSE.out]; omega) | (rw [show (min (cnt : Int) (t'.size : Int)).toNat = cnt by omega]; show (t'.extract cnt t'.size).size < t'.size; rw [HSE.out]; omega)
                  · have hle' : t'.size ≤ cnt := by omega
                    have hle2 : ¬ cnt ≤ t'.size := hle
                    go_wp2_with fail
                    obtain ⟨wi, hwi⟩ : ∃ wi : World, wi = wo := ⟨_, rfl⟩
                    go_loop [13, 14, 15] (fun fv pv iv => ∃ i f m : Nat, i ≤ t'.size ∧ fv = .int .u32 f ∧ pv = .int .u32 m ∧ iv = .int .i64 i ∧ Hid (f = b ^ i) ∧ Hid (m = rd b ((bs t').take i)) ∧ f < 4294967296 ∧ m < f) (fun _ _ iv => t'.size - (intOf iv).toNat)
                    case atStart => exact ⟨0, 1, 0, Nat.zero_le _, rfl, rfl, rfl, rfl, rfl, by omega, by omega⟩
                    case round =>
                      obtain ⟨i, f, m, hi, rfl, rfl, rfl, HF, HM, hf, hm⟩ := hrel
                      by_cases hil : i < t'.size
                      · have hit : i < t'.size := by omega
                        have HC := Lib.hid (HSY.out i hit)
                        have HDC := Lib.hid (HDG.out _ (List.mem_of_getElem? HC.out))
                        have hpw : f * b ≤ p := by rw [HF.out, HP.out, ← Nat.pow_succ]; exact Nat.pow_le_pow_right (by omega) (by omega)
                        have hmb : m * b + b ≤ f * b := by have := Nat.mul_le_mul_right b (Nat.succ_le_of_lt hm); rw [Nat.succ_mul] at this; exact this
                        have HQ1 : Hid ((f : Int) * (b : Int) = ((f * b : Nat) : Int)) := (Int.natCast_mul f b).symm
                        have HQ2 : Hid ((m : Int) * (b : Int) = ((m * b : Nat) : Int)) := (Int.natCast_mul m b).symm
                        have hq1 : 0 ≤ (f : Int) * (b : Int) := by rw [HQ1.out]; omega
                        have hq2 : (f : Int) * (b : Int) ≤ 4294967295 := by rw [HQ1.out]; omega
                        have hq3 : 0 ≤ (m : Int) * (b : Int) := by rw [HQ2.out]; omega
                        have hq4 : (m : Int) * (b : Int) ≤ 4294967295 := by rw [HQ2.out]; omega
                        have HFF : Hid (f * b = b ^ (i + 1)) := by show _ = _; rw [HF.out, Nat.pow_succ]
                        have HMM : Hid (m * b + dg t'[i].toNat = rd b ((bs t').take (i + 1))) := by
                          show _ = _
                          rw [List.take_add_one, HC.out, Option.toList_some, rd_snoc, ← HM.out]
                        go_wp2_with fail
                        refine (digit_any (t'[i].toNat_lt)).mono ?_
                        rintro e w' ⟨rfl, rfl⟩
                        have hdb := HDC.out
                        generalize dg t'[i].toNat = d at *
                        have hq5 : (m : Int) * (b : Int) + (d : Int) ≤ 4294967295 := by rw [HQ2.out]; omega
                        go_wp2_with fail
                        go_round
                        case rel => exact ⟨i + 1, f * b, m * b + d, by omega, congrArg (Value.int .u32) HQ1.out, by rw [Int.natCast_add, ← HQ2.out], by go_num, HFF.out, HMM.out, by omega, by omega⟩
                        case measure => simp [intOf]; omega
                      · have hin : t'.size = i := by omega
                        subst hin
                        have hdlv : dl (rd b ((bs t).take k)) ≤ 17592186044416 := by
                          have h5 := dl_rd (b := b) (T := (bs t).take k) h2 (fun c hc => HG.out.dig c (List.mem_of_mem_take hc))
                          have h6 : ((bs t).take k).length ≤ k := by rw [List.length_take]; omega
                          omega
                        have HRA : Hid (rd b ((bs t).take k) * f + m = rd b ((bs t).take (k + t'.size))) := by
                          show _ = _
                          rw [List.take_add, rd_append, ← HT.out, HM.out, HF.out]
                          congr 2
                          rw [List.length_take, bs_length]
                          congr 1
                          omega
                        have HMA := Lib.hid (mulAdd_v HV.out hf (Nat.lt_trans hm hf) hdlv)
                        have hsz : t'.size ≤ t'.size := by omega
                        clear hdlv HM HF
                        go_wp2_with fail
                        refine HMA.out.mono ?_
                        rintro e w3 ⟨A3, c3, rfl, hno, hx3⟩
                        have HNV : Hid (NV w3 A3 c3 (digs B32 (rd b ((bs t).take k) * f + m)).length (rd b ((bs t).take (k + t'.size)))) := by
                          show NV _ _ _ _ _
                          rw [← HRA.out]
                          exact hno.nv
                        have hxx := hx.trans hx3
                        clear hno
                        have HE : Hid (([] : List Nat) = (bs t).drop (k + t'.size)) := by show _ = _; rw [List.drop_of_length_le (by rw [bs_length]; omega)]
                        go_wp2_with fail
                        go_roundw
                        case rel => first | exact ⟨_, k + t'.size, A3, c3, _, rfl, rfl, HE.out, by simp; omega, HNV.out, hxx⟩ | (rw [show (min (cnt : Int) (t'.size : Int)).toNat = t'.size by omega]; exact ⟨_, k + t'.size, A3, c3, _, rfl, rfl, (by show bs _ = _; rw [bs_drop, List.drop_eq_nil_of_le (by rw [bs_length]; exact Nat.le_refl _)]; exact HE.out), (by rw [ByteArray.size_extract]; omega), HNV.out, hxx⟩)
                        case measure => first | (show 0 < t'.size; exact ht0) | (rw [show (min (cnt : Int) (t'.size : Int)).toNat = t'.size by omega]; show (t'.extract t'.size t'.size).size < t'.size; rw [ByteArray.size_extract]; omega)
                · have hk2 : k = t.size := by omega
                  have HVV : Hid (NV wo A c L (rd b (bs t))) := by
                    have h5 := HV.out
                    rw [List.take_of_length_le (by rw [bs_length]; omega)] at h5
                    exact h5
                  have HZV : Hid (ZV wo false A c L (rdZ b false (bs t))) := zv_rd HVV.out
                  have hdl : dl (rdZ b false (bs t)).natAbs ≤ 17592186044416 := by
                    rw [natAbs_rdZ]
                    have h5 := dl_rd (b := b) (T := bs t) h2 HG.out.dig
                    rw [bs_length] at h5
                    omega
                  have HFR := Lib.hid (from_z HZV.out hdl)
                  have t1 := hx.cell q1
                  have t2 := hx.cell q2
                  have p1 := hx.frozen q1 f1
                  have p2 := hx.frozen q2 f2
                  have hxx := hx1.trans hx
                  clear hk2 hdl
                  have hB := World.block_lt_of_cell? wo _ t1
                  go_wp2_with fail
                  refine HFR.out.mono ?_
                  rintro e w4 ⟨sb, A4, c4, L4, rfl, hz, hx4⟩
                  replace t1 := hx4.cell t1
                  replace t2 := hx4.cell t2
                  replace p1 := hx4.frozen (hx.cell q1) p1
                  replace p2 := hx4.frozen (hx.cell q2) p2
                  obtain ⟨r5, r6, hz', hxx'⟩ := fin_z (Nat.le_refl _) hB (hxx.trans hx4) hz t1 t2
                  have HQ := Lib.hid (HY.out false (bs t) _ sb A4 c4 L4 _ HST.out HG.out rfl hz' hxx')
                  clear hz hz' hxx'
                  go_wp2_with fail
                  refine bodyPost_ret (v := .tuple #[.agg #[.bool sb, .slice A4 L4 c4], .int .i64 0]) (by simp [results, Try.results120, go_sem, r5, r6]) rfl ?_
                  exact HQ.out

    · have hz : ((t[0].toNat : Int) == 48) = false := by simp; omega
      have HZ : Hid ((bs t).head? = some 48 → neg = false ∧ (bs t).length = 1) := fun h => by rw [HHD.out] at h; injection h with h; exact absurd h hzz
      clear hzz
      have HSYM : Hid (∀ k (h : k < t.size), (bs t)[k]? = some (t[k]'h).toNat) := fun k h => bs_get? h
      go_wp2_with fail
      go_loop [8] (fun i => ∃ k : Nat, k ≤ t.size ∧ i = .int .i64 k ∧ Hid (∀ j c, j < k → (bs t)[j]? = some c → dg c < b)) (fun i => t.size - (intOf i).toNat)
      case atStart => exact ⟨0, Nat.zero_le _, rfl, fun j c h => by omega⟩
      case round =>
        obtain ⟨k, hk, rfl, HK⟩ := hrel
        by_cases hlt : k < t.size
        · have HC := Lib.hid (HSYM.out k hlt)
          go_wp2_with fail
          refine (digit_any (t[k].toNat_lt)).mono ?_
          rintro e w' ⟨rfl, rfl⟩
          have hdl := dg_le t[k].toNat
          generalize t[k].toNat = c at *
          by_cases hcb : dg c < b
          · have hcc : ¬ b ≤ dg c := by omega
            generalize hdc : dg c = d at *
            have HDC := Lib.hid hdc
            clear hdc
            go_wp2_with fail
            go_round
            case rel =>
              refine ⟨k + 1, by omega, by go_num, fun j c' hj hc' => ?_⟩
              rcases Nat.lt_or_ge j k with h5 | h5
              · exact HK.out j c' h5 hc'
              · have h6 : j = k := by omega
                subst h6
                rw [HC.out] at hc'
                injection hc' with hc'
                rw [← hc', HDC.out]; exact hcb
            case measure => simp [intOf]; omega
          · have hcc : b ≤ dg c := by omega
            have HBB : Hid (¬ Good b neg (bs t)) := fun g => hcb (g.dig c (List.mem_of_getElem? HC.out))
            clear hcb
            generalize hdc : dg c = d at *
            clear hdc
            go_wp2_with fail
            refine bodyPost_ret (v := .tuple #[.agg #[.bool false, .slice none 0 0], .int .i64 6]) (by simp [results, Try.results120, go_sem, q1, q2]) rfl ?_
            exact HBAD.out _ HBB.out (by repeat' (first | with_reducible exact Ext.refl _ | with_reducible assumption | with_reducible apply Ext.alloc_r | with_reducible apply Ext.drew_r | with_reducible apply Ext.drewN_r | with_reducible apply Ext.set_r | with_reducible exact Nat.le_refl _ | with_reducible refine Ext.trans ?_ ‹Ext _ _›))
        · obtain rfl : k = t.size := by omega
          have HG : Hid (Good b neg (bs t)) := ⟨fun c hc => by
              obtain ⟨j, hj, hjc⟩ := List.getElem_of_mem hc
              exact HK.out j c (by rw [← HLN.out]; exact hj) (by rw [List.getElem?_eq_getElem hj, hjc]), fun e => by have h5 := HLN.out; rw [e] at h5; simp at h5; omega, fun h => ⟨by have := (HZ.out h).1; first | rfl | exact this, (HZ.out h).2⟩⟩
          clear HBAD HHD HSYM
          go_wp2_with fail
          refine (chunk_any h1 h2).mono ?_
          rintro e w' ⟨⟨p, cnt, rfl, hp, hp2, hc1, hc2⟩, rfl⟩
          have HP := Lib.hid hp
          clear hp
          go_wp2_with fail
          go_loopw [7, 11] (fun dv vv wr => ∃ (t' : ByteArray) (k : Nat) (A : Option Addr) (c L : Nat), dv = .string t' ∧ vv = .slice A L c ∧ Hid (bs t' = (bs t).drop k) ∧ t'.size + k = t.size ∧ NV wr A c L (rd b ((bs t).take k)) ∧ Ext w1 wr) (fun dv _ _ => strSize dv)
          case atStart => exact ⟨t, 0, none, 0, 0, rfl, rfl, rfl, rfl, nv_zero _, Ext.refl _⟩
          case round =>
            obtain ⟨t', k, A, c, L, rfl, rfl, HT, hk, hnv, hx⟩ := hrel
            obtain ⟨wo, rfl⟩ : ∃ wo : World, wo = wr := ⟨_, rfl⟩
            have HV := Lib.hid hnv
            clear hnv
            by_cases ht0 : 0 < t'.size
            · have HSY : Hid (∀ i (h : i < t'.size), (bs t')[i]? = some (t'[i]'h).toNat) := fun i h => bs_get? h
              have HDG : Hid (∀ c ∈ bs t', dg c < b) := fun c hc => HG.out.dig c (by rw [HT.out] at hc; exact List.mem_of_mem_drop hc)
              by_cases hle : cnt ≤ t'.size
              · skip
                go_wp2_with fail
                obtain ⟨wi, hwi⟩ : ∃ wi : World, wi = wo := ⟨_, rfl⟩
                go_loop [13, 14, 15] (fun fv pv iv => ∃ i f m : Nat, i ≤ cnt ∧ fv = .int .u32 f ∧ pv = .int .u32 m ∧ iv = .int .i64 i ∧ Hid (f = b ^ i) ∧ Hid (m = rd b ((bs t').take i)) ∧ f < 4294967296 ∧ m < f) (fun _ _ iv => cnt - (intOf iv).toNat)
                case atStart => exact ⟨0, 1, 0, Nat.zero_le _, rfl, rfl, rfl, rfl, rfl, by omega, by omega⟩
                case round =>
                  obtain ⟨i, f, m, hi, rfl, rfl, rfl, HF, HM, hf, hm⟩ := hrel
                  by_cases hil : i < cnt
                  · have hit : i < t'.size := by omega
                    have HC := Lib.hid (HSY.out i hit)
                    have HDC := Lib.hid (HDG.out _ (List.mem_of_getElem? HC.out))
                    have hpw : f * b ≤ p := by rw [HF.out, HP.out, ← Nat.pow_succ]; exact Nat.pow_le_pow_right (by omega) (by omega)
                    have hmb : m * b + b ≤ f * b := by have := Nat.mul_le_mul_right b (Nat.succ_le_of_lt hm); rw [Nat.succ_mul] at this; exact this
                    have HQ1 : Hid ((f : Int) * (b : Int) = ((f * b : Nat) : Int)) := (Int.natCast_mul f b).symm
                    have HQ2 : Hid ((m : Int) * (b : Int) = ((m * b : Nat) : Int)) := (Int.natCast_mul m b).symm
                    have hq1 : 0 ≤ (f : Int) * (b : Int) := by rw [HQ1.out]; omega
                    have hq2 : (f : Int) * (b : Int) ≤ 4294967295 := by rw [HQ1.out]; omega
                    have hq3 : 0 ≤ (m : Int) * (b : Int) := by rw [HQ2.out]; omega
                    have hq4 : (m : Int) * (b : Int) ≤ 4294967295 := by rw [HQ2.out]; omega
                    have HFF : Hid (f * b = b ^ (i + 1)) := by show _ = _; rw [HF.out, Nat.pow_succ]
                    have HMM : Hid (m * b + dg t'[i].toNat = rd b ((bs t').take (i + 1))) := by
                      show _ = _
                      rw [List.take_add_one, HC.out, Option.toList_some, rd_snoc, ← HM.out]
                    go_wp2_with fail
                    refine (digit_any (t'[i].toNat_lt)).mono ?_
                    rintro e w' ⟨rfl, rfl⟩
                    have hdb := HDC.out
                    generalize dg t'[i].toNat = d at *
                    have hq5 : (m : Int) * (b : Int) + (d : Int) ≤ 4294967295 := by rw [HQ2.out]; omega
                    go_wp2_with fail
                    go_round
                    case rel => exact ⟨i + 1, f * b, m * b + d, by omega, congrArg (Value.int .u32) HQ1.out, by rw [Int.natCast_add, ← HQ2.out], by go_num, HFF.out, HMM.out, by omega, by omega⟩
                    case measure => simp [intOf]; omega
                  · have hin : cnt = i := by omega
                    subst hin
                    have hdlv : dl (rd b ((bs t).take k)) ≤ 17592186044416 := by
                      have h5 := dl_rd (b := b) (T := (bs t).take k) h2 (fun c hc => HG.out.dig c (List.mem_of_mem_take hc))
                      have h6 : ((bs t).take k).length ≤ k := by rw [List.length_take]; omega
                      omega
                    have HRA : Hid (rd b ((bs t).take k) * f + m = rd b ((bs t).take (k + cnt))) := by
                      show _ = _
                      rw [List.take_add, rd_append, ← HT.out, HM.out, HF.out]
                      congr 2
                      rw [List.length_take, bs_length]
                      congr 1
                      omega
                    have HMA := Lib.hid (mulAdd_v HV.out hf (Nat.lt_trans hm hf) hdlv)
                    have hsz : cnt ≤ t'.size := by omega
                    clear hdlv HM HF
                    go_wp2_with fail
                    refine HMA.out.mono ?_
                    rintro e w3 ⟨A3, c3, rfl, hno, hx3⟩
                    have HNV : Hid (NV w3 A3 c3 (digs B32 (rd b ((bs t).take k) * f + m)).length (rd b ((bs t).take (k + cnt)))) := by
                      show NV _ _ _ _ _
                      rw [← HRA.out]
                      exact hno.nv
                    have hxx := hx.trans hx3
                    clear hno
                    have HE : Hid (bs (t'.extract cnt t'.size) = (bs t).drop (k + cnt)) := by show _ = _; rw [bs_drop, HT.out, List.drop_drop]
                    have HSE : Hid ((t'.extract cnt t'.size).size = t'.size - cnt) := by show _ = _; rw [ByteArray.size_extract]; omega
                    go_wp2_with fail
                    go_roundw
                    case rel => first | exact ⟨_, k + cnt, A3, c3, _, rfl, rfl, HE.out, by rw [HSE.out]; omega, HNV.out, hxx⟩ | (rw [show (min (cnt : Int) (t'.size : Int)).toNat = cnt by omega]; exact ⟨_, k + cnt, A3, c3, _, rfl, rfl, HE.out, by rw [HSE.out]; omega, HNV.out, hxx⟩)
                    case measure => first | (show (t'.extract cnt t'.size).size < t'.size; rw [HSE.out]; omega) | (rw [show (min (cnt : Int) (t'.size : Int)).toNat = cnt by omega]; show (t'.extract cnt t'.size).size < t'.size; rw [HSE.out]; omega)
              · have hle' : t'.size ≤ cnt := by omega
                have hle2 : ¬ cnt ≤ t'.size := hle
                go_wp2_with fail
                obtain ⟨wi, hwi⟩ : ∃ wi : World, wi = wo := ⟨_, rfl⟩
                go_loop [13, 14, 15] (fun fv pv iv => ∃ i f m : Nat, i ≤ t'.size ∧ fv = .int .u32 f ∧ pv = .int .u32 m ∧ iv = .int .i64 i ∧ Hid (f = b ^ i) ∧ Hid (m = rd b ((bs t').take i)) ∧ f < 4294967296 ∧ m < f) (fun _ _ iv => t'.size - (intOf iv).toNat)
                case atStart => exact ⟨0, 1, 0, Nat.zero_le _, rfl, rfl, rfl, rfl, rfl, by omega, by omega⟩
                case round =>
                  obtain ⟨i, f, m, hi, rfl, rfl, rfl, HF, HM, hf, hm⟩ := hrel
                  by_cases hil : i < t'.size
                  · have hit : i < t'.size := by omega
                    have HC := Lib.hid (HSY.out i hit)
                    have HDC := Lib.hid (HDG.out _ (List.mem_of_getElem? HC.out))
                    have hpw : f * b ≤ p := by rw [HF.out, HP.out, ← Nat.pow_succ]; exact Nat.pow_le_pow_right (by omega) (by omega)
                    have hmb : m * b + b ≤ f * b := by have := Nat.mul_le_mul_right b (Nat.succ_le_of_lt hm); rw [Nat.succ_mul] at this; exact this
                    have HQ1 : Hid ((f : Int) * (b : Int) = ((f * b : Nat) : Int)) := (Int.natCast_mul f b).symm
                    have HQ2 : Hid ((m : Int) * (b : Int) = ((m * b : Nat) : Int)) := (Int.natCast_mul m b).symm
                    have hq1 : 0 ≤ (f : Int) * (b : Int) := by rw [HQ1.out]; omega
                    have hq2 : (f : Int) * (b : Int) ≤ 4294967295 := by rw [HQ1.out]; omega
                    have hq3 : 0 ≤ (m : Int) * (b : Int) := by rw [HQ2.out]; omega
                    have hq4 : (m : Int) * (b : Int) ≤ 4294967295 := by rw [HQ2.out]; omega
                    have HFF : Hid (f * b = b ^ (i + 1)) := by show _ = _; rw [HF.out, Nat.pow_succ]
                    have HMM : Hid (m * b + dg t'[i].toNat = rd b ((bs t').take (i + 1))) := by
                      show _ = _
                      rw [List.take_add_one, HC.out, Option.toList_some, rd_snoc, ← HM.out]
                    go_wp2_with fail
                    refine (digit_any (t'[i].toNat_lt)).mono ?_
                    rintro e w' ⟨rfl, rfl⟩
                    have hdb := HDC.out
                    generalize dg t'[i].toNat = d at *
                    have hq5 : (m : Int) * (b : Int) + (d : Int) ≤ 4294967295 := by rw [HQ2.out]; omega
                    go_wp2_with fail
                    go_round
                    case rel => exact ⟨i + 1, f * b, m * b + d, by omega, congrArg (Value.int .u32) HQ1.out, by rw [Int.natCast_add, ← HQ2.out], by go_num, HFF.out, HMM.out, by omega, by omega⟩
                    case measure => simp [intOf]; omega
                  · have hin : t'.size = i := by omega
                    subst hin
                    have hdlv : dl (rd b ((bs t).take k)) ≤ 17592186044416 := by
                      have h5 := dl_rd (b := b) (T := (bs t).take k) h2 (fun c hc => HG.out.dig c (List.mem_of_mem_take hc))
                      have h6 : ((bs t).take k).length ≤ k := by rw [List.length_take]; omega
                      omega
                    have HRA : Hid (rd b ((bs t).take k) * f + m = rd b ((bs t).take (k + t'.size))) := by
                      show _ = _
                      rw [List.take_add, rd_append, ← HT.out, HM.out, HF.out]
                      congr 2
                      rw [List.length_take, bs_length]
                      congr 1
                      omega
                    have HMA := Lib.hid (mulAdd_v HV.out hf (Nat.lt_trans hm hf) hdlv)
                    have hsz : t'.size ≤ t'.size := by omega
                    clear hdlv HM HF
                    go_wp2_with fail
                    refine HMA.out.mono ?_
                    rintro e w3 ⟨A3, c3, rfl, hno, hx3⟩
                    have HNV : Hid (NV w3 A3 c3 (digs B32 (rd b ((bs t).take k) * f + m)).length (rd b ((bs t).take (k + t'.size)))) := by
                      show NV _ _ _ _ _
                      rw [← HRA.out]
                      exact hno.nv
                    have hxx := hx.trans hx3
                    clear hno
                    have HE : Hid (([] : List Nat) = (bs t).drop (k + t'.size)) := by show _ = _; rw [List.drop_of_length_le (by rw [bs_length]; omega)]
                    go_wp2_with fail
                    go_roundw
                    case rel => first | exact ⟨_, k + t'.size, A3, c3, _, rfl, rfl, HE.out, by simp; omega, HNV.out, hxx⟩ | (rw [show (min (cnt : Int) (t'.size : Int)).toNat = t'.size by omega]; exact ⟨_, k + t'.size, A3, c3, _, rfl, rfl, (by show bs _ = _; rw [bs_drop, List.drop_eq_nil_of_le (by rw [bs_length]; exact Nat.le_refl _)]; exact HE.out), (by rw [ByteArray.size_extract]; omega), HNV.out, hxx⟩)
                    case measure => first | (show 0 < t'.size; exact ht0) | (rw [show (min (cnt : Int) (t'.size : Int)).toNat = t'.size by omega]; show (t'.extract t'.size t'.size).size < t'.size; rw [ByteArray.size_extract]; omega)
            · have hk2 : k = t.size := by omega
              have HVV : Hid (NV wo A c L (rd b (bs t))) := by
                have h5 := HV.out
                rw [List.take_of_length_le (by rw [bs_length]; omega)] at h5
                exact h5
              have HZV : Hid (ZV wo neg A c L (rdZ b neg (bs t))) := zv_rd HVV.out
              have hdl : dl (rdZ b neg (bs t)).natAbs ≤ 17592186044416 := by
                rw [natAbs_rdZ]
                have h5 := dl_rd (b := b) (T := bs t) h2 HG.out.dig
                rw [bs_length] at h5
                omega
              have HFR := Lib.hid (from_z HZV.out hdl)
              have t1 := hx.cell q1
              have t2 := hx.cell q2
              have p1 := hx.frozen q1 f1
              have p2 := hx.frozen q2 f2
              have hxx := hx1.trans hx
              clear hk2 hdl
              have hB := World.block_lt_of_cell? wo _ t1
              go_wp2_with fail
              refine HFR.out.mono ?_
              rintro e w4 ⟨sb, A4, c4, L4, rfl, hz, hx4⟩
              replace t1 := hx4.cell t1
              replace t2 := hx4.cell t2
              replace p1 := hx4.frozen (hx.cell q1) p1
              replace p2 := hx4.frozen (hx.cell q2) p2
              obtain ⟨r5, r6, hz', hxx'⟩ := fin_z (Nat.le_refl _) hB (hxx.trans hx4) hz t1 t2
              have HQ := Lib.hid (HY.out neg (bs t) _ sb A4 c4 L4 _ HST.out HG.out rfl hz' hxx')
              clear hz hz' hxx'
              go_wp2_with fail
              refine bodyPost_ret (v := .tuple #[.agg #[.bool sb, .slice A4 L4 c4], .int .i64 0]) (by simp [results, Try.results120, go_sem, r5, r6]) rfl ?_
              exact HQ.out

end Go.Proofs.Ytfnmbhjifdfibaa
