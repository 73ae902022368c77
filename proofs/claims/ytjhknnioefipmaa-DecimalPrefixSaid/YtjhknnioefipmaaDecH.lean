/- Contracts of package decimal, sixth part: Prefix. -/
import Derived.Test.YtjhknnioefipmaaLaw4c
namespace Go.Proofs.Ytjhknnioefipmaa
open Go.RowKit
theorem take_pre (neg : Bool) (T : List Nat) (p : Nat) : ((if neg then [45] else []) ++ T).take ((if neg then 1 else 0) + p) = (if neg then [45] else []) ++ T.take p := by cases neg <;> simp [Nat.add_comm]
set_option maxHeartbeats 4000000 in
set_option maxRecDepth 100000 in
theorem prefix_walk {w : World} {s : ByteArray} (hs : s.size ≤ 1000000) (Q : Ending → World → Prop)
    (HY : ∀ k x sb A c L w', (bs s).take k = fmtL 10 x → k ≤ s.size → (∀ j y, j ≤ s.size → (bs s).take j = fmtL 10 y → j ≤ k) → ZO w' w.heap.size sb A c L x → Ext w w' → Q (.returned (.tuple #[.agg #[.bool sb, .slice A L c], .int .i64 (k : Nat), .int .i64 0])) w')
    (HN : ∀ w', (∀ j y, j ≤ s.size → (bs s).take j ≠ fmtL 10 y) → Ext w w' → Q (.returned (.tuple #[.agg #[.bool false, .slice none 0 0], .int .i64 0, .int .i64 6])) w') :
    Calls Try.prog 23 #[.string s] w Q := by
  have HY := Lib.hid HY
  have HN := Lib.hid HN
  obtain ⟨w0, hw0⟩ : ∃ z : World, z = w.alloc (.cells #[.bool false, .slice none 0 0] 25) := ⟨_, rfl⟩
  have hx0 : Ext w w0 := by rw [hw0]; exact Ext.alloc _ _
  have hb := box_new w (.bool false) (.slice none 0 0) 25
  rw [← hw0] at hb
  have q1 := hb.1
  have q2 := hb.2.1
  have f1 := hb.2.2 0
  have f2 := hb.2.2 1
  have HW0 := Lib.hid hw0
  clear hb hw0
  go_enter Try.func23, Try.ntmps23
  go_wp2_with fail
  rw [← HW0.out]
  clear HW0
  refine split_any.mono ?_
  rintro e w1 ⟨⟨neg, t, rfl, hst, hn⟩, q, rfl⟩
  have hx1' : Ext w0 (w0.drewN q) := Qt.ext ⟨q, rfl⟩
  replace q1 := hx1'.cell q1
  replace q2 := hx1'.cell q2
  replace f1 : (w0.drewN q).frozen? ⟨w.heap.size, 0, none⟩ = false := f1
  replace f2 : (w0.drewN q).frozen? ⟨w.heap.size, 1, none⟩ = false := f2
  have hx1 := hx0.trans hx1'
  generalize w0.drewN q = w1 at *
  clear hx0 hx1'
  have hsz : s.size = (if neg then 1 else 0) + t.size := by
    have h5 := congrArg List.length hst
    rw [bs_length, List.length_append, bs_length] at h5
    rw [h5]
    cases neg <;> rfl
  have HNG : Hid (neg = false → (bs t).head? ≠ some 45) := fun e => by
    have h5 := hn e
    rw [hst, e] at h5
    exact h5
  obtain ⟨T, hT⟩ : ∃ T, T = bs t := ⟨_, rfl⟩
  have HLN : Hid (T.length = t.size) := by rw [hT]; exact bs_length t
  have HSY : Hid (∀ k (h : k < t.size), T[k]? = some (t[k]'h).toNat) := fun k h => by rw [hT]; exact bs_get? h
  rw [← hT] at HNG hst
  have HST := Lib.hid hst
  clear hst hn hT
  -- what the prefixes read as
  have HGP : Hid (∀ j y, j ≤ s.size → (bs s).take j = fmtL 10 y → ∃ i, j = (if neg then 1 else 0) + i ∧ i ≤ T.length ∧ Good 10 neg (T.take i)) := fun j y hj hy => by
    have hj0 : j ≠ 0 := fun e => fmt_ne 10 (by omega) y (by rw [← hy, e]; rfl)
    rw [HST.out] at hy
    have hL := HLN.out
    cases neg with
    | true =>
      obtain ⟨i, rfl⟩ : ∃ i, j = i + 1 := ⟨j - 1, by omega⟩
      refine ⟨i, by simp; omega, by simp at hsz; omega, ?_⟩
      exact (good_of (b := 10) (neg := true) (T := T.take i) (by omega) (by omega) hy.symm (fun e => by cases e)).1
    | false =>
      refine ⟨j, by simp, by simp at hsz; omega, ?_⟩
      refine (good_of (b := 10) (neg := false) (T := T.take j) (by omega) (by omega) hy.symm (fun _ e => HNG.out rfl ?_)).1
      cases hT2 : T with
      | nil => rw [hT2] at e; simp at e
      | cons c T' =>
        obtain ⟨j', rfl⟩ : ∃ j', j = j' + 1 := ⟨j - 1, by omega⟩
        rw [hT2] at e
        exact e
  have HTS : Hid (t.size ≤ 1000000) := by show t.size ≤ _; omega
  have hts : t.size ≤ 1000000 := HTS.out
  go_wp2_with fail
  go_loop [7] (fun i => ∃ k : Nat, k ≤ t.size ∧ i = .int .i64 k ∧ Hid (∀ c ∈ T.take k, dg c < 10)) (fun i => t.size - (intOf i).toNat)
  case atStart => exact ⟨0, Nat.zero_le _, rfl, fun c h => by simp at h⟩
  case round =>
    obtain ⟨k, hk, rfl, HK⟩ := hrel
    have HKL : Hid (k ≤ lead10 T) := lead10_max (by rw [HLN.out]; exact hk) HK.out
    by_cases hgo : k < t.size ∧ (∀ c, T[k]? = some c → dg c < 10)
    · obtain ⟨hlt, hd0⟩ := hgo
      have HC := Lib.hid (HSY.out k hlt)
      have hd := hd0 _ HC.out
      clear hd0
      go_wp2_with fail
      refine (digit_any (t[k].toNat_lt)).mono ?_
      rintro e w' ⟨rfl, rfl⟩
      have HKK : Hid (∀ c ∈ T.take (k + 1), dg c < 10) := fun c hc => by
        rw [List.take_add_one, HC.out, Option.toList_some, List.mem_append] at hc
        rcases hc with hc | hc
        · exact HK.out c hc
        · simp at hc; rw [hc]; exact hd
      generalize dg t[k].toNat = d at *
      go_wp2_with fail
      go_round
      case rel => exact ⟨k + 1, by omega, by go_num, HKK.out⟩
      case measure => simp [intOf]; omega
    · have HLE : Hid (k = lead10 T) := by
        rcases Nat.lt_or_ge k (lead10 T) with h5 | h5
        · exfalso
          have h6 := lead10_le T
          have h7 : k < t.size := by rw [← HLN.out]; omega
          refine hgo ⟨h7, fun c hc => lead10_dig (T := T) ?_⟩
          rw [List.mem_take_iff_getElem]
          have hkT : k < T.length := by omega
          refine ⟨k, by omega, ?_⟩
          rw [List.getElem?_eq_getElem hkT] at hc
          injection hc
        · exact Nat.le_antisymm HKL.out h5
      by_cases hlt : k < t.size
      · have HC := Lib.hid (HSY.out k hlt)
        have hd : ¬ dg t[k].toNat < 10 := fun h => hgo ⟨hlt, fun c hc => by rw [HC.out] at hc; injection hc with hc; rw [← hc]; exact h⟩
        clear hgo
        go_wp2_with fail
        refine (digit_any (t[k].toNat_lt)).mono ?_
        rintro e w' ⟨rfl, rfl⟩
        generalize dg t[k].toNat = d at *
        by_cases h48 : T.head? = some 48
        · have HPP : Hid (pre10 T = 1) := by show _ = _; unfold pre10; rw [if_pos h48]
          have hkp : 0 < k := by
            rw [HLE.out]
            cases hT2 : T with
            | nil => rw [hT2] at h48; cases h48
            | cons c T' =>
              rw [hT2] at h48
              injection h48 with h48
              unfold lead10
              rw [h48, if_pos (by decide)]
              omega
          have ht0 : 0 < t.size := by omega
          have hch : ((t[0].toNat : Int) == 48) = true := by
            have h5 := HSY.out 0 ht0
            rw [← List.head?_eq_getElem?, h48] at h5
            injection h5 with h5
            rw [← h5]; rfl
          clear h48 HLE
          cases neg with
          | true =>
            have hN : 2 = (if true = true then 1 else 0) + 1 := by simp; try omega
            have HTK : Hid ((bs s).take 2 = (if true = true then [45] else []) ++ T.take 1) := by
              have h5 := take_pre true T 1
              rw [← hN, ← HST.out] at h5
              exact h5
            have HMX : Hid (∀ j y, j ≤ s.size → (bs s).take j = fmtL 10 y → j ≤ 2 ∧ Good 10 true (T.take 1)) := fun j y hj hy => by
              obtain ⟨i, hji, hi, hg⟩ := HGP.out j y hj hy
              have h5 := good_pre hi hg
              rw [HPP.out] at h5
              exact ⟨by rw [hN, hji]; exact Nat.add_le_add_left h5.1 _, h5.2⟩
            have hNs : 2 ≤ s.size := by rw [hN, hsz]; exact Nat.add_le_add_left (by have := pre10_le T; rw [HPP.out, HLN.out] at this; exact this) _
            have HBE : Hid (bs (s.extract 0 2) = (if true = true then [45] else []) ++ T.take 1) := by show _ = _; rw [bs_take]; exact HTK.out
            have hse : (s.extract 0 2).size ≤ 1000000 := by rw [ByteArray.size_extract]; omega
            clear hN
            by_cases hg : Good 10 true (T.take 1)
            · have HPA : Hid (∀ w, Calls Try.prog 18 #[.string (s.extract 0 2)] w (RetZE w (rdZ 10 true (T.take 1)))) := fun w => Parse_yes hse (by rw [HBE.out]; exact (good_yes (by omega) (by omega) hg).symm)
              have HXE : Hid ((bs s).take 2 = fmtL 10 (rdZ 10 true (T.take 1))) := by show _ = _; rw [HTK.out]; exact (good_yes (by omega) (by omega) hg).symm
              clear hg hse hsz
              go_wp2_with fail
              refine (HPA.out _).mono ?_
              rintro e w4 ⟨sb, A4, c4, L4, rfl, hz, hx4⟩
              obtain ⟨w5, hw5⟩ : ∃ z : World, z = w4.alloc (.cells #[.bool sb, .slice A4 L4 c4] 25) := ⟨_, rfl⟩
              have x5 : Ext w4 w5 := by rw [hw5]; exact Ext.alloc _ _
              have hb5 := box_new w4 (.bool sb) (.slice A4 L4 c4) 25
              rw [← hw5] at hb5
              have d1 := hb5.1
              have d2 := hb5.2.1
              have HW5 := Lib.hid hw5
              have x45 := hx4.trans x5
              have p1 := x45.frozen q1 f1
              have p2 := x45.frozen q2 f2
              have t1 := x45.cell q1
              have t2 := x45.cell q2
              have hB := World.block_lt_of_cell? w1 _ q1
              obtain ⟨r5, r6, hz', hxx⟩ := fin_z (Nat.le_refl _) hB (hx1.trans x45) (hz.ext x5) t1 t2
              have HQ := Lib.hid (HY.out 2 _ sb A4 c4 L4 _ HXE.out hNs (fun j y hj hy => (HMX.out j y hj hy).1) hz' hxx)
              clear hb5 hw5 hz hz' hxx
              have a1 := fun o => (Ext.alloc w4 o).cell (hx4.cell q1)
              have a2 := fun o => (Ext.alloc w4 o).cell (hx4.cell q2)
              have a3 := fun o => (Ext.alloc w4 o).frozen (hx4.cell q1) (hx4.frozen q1 f1)
              have a4 := fun o => (Ext.alloc w4 o).frozen (hx4.cell q2) (hx4.frozen q2 f2)
              go_wp2_with fail
              clear a1 a2 a3 a4
              rw [← HW5.out]
              refine bodyPost_ret (v := .tuple #[.agg #[.bool sb, .slice A4 L4 c4], .int .i64 (2 : Nat), .int .i64 0]) (by simp [results, Try.results23, go_sem, r5, r6]) rfl ?_
              exact HQ.out
            · have HPA : Hid (∀ w, Calls Try.prog 18 #[.string (s.extract 0 2)] w (RetErr w 6)) := fun w => Parse_no hse (fun x e => hg (good_of (by omega) (by omega) (e.symm.trans HBE.out) (fun e2 e3 => HNG.out e2 (by
                cases hT2 : T with
                | nil => rw [hT2] at e3; simp at e3
                | cons c T' =>
                  rw [hT2] at e3
                  rw [List.head?_take] at e3
                  split at e3
                  · cases e3
                  · exact e3))).1)
              have HBD : Hid (∀ j y, j ≤ s.size → (bs s).take j ≠ fmtL 10 y) := fun j y hj hy => hg (HMX.out j y hj hy).2
              clear hg hse hsz
              go_wp2_with fail
              refine (HPA.out _).mono ?_
              rintro e w4 ⟨rfl, hx4⟩
              obtain ⟨w5, hw5⟩ : ∃ z : World, z = w4.alloc (.cells #[.bool false, .slice none 0 0] 25) := ⟨_, rfl⟩
              have x5 : Ext w4 w5 := by rw [hw5]; exact Ext.alloc _ _
              have HW5 := Lib.hid hw5
              have x45 := hx4.trans x5
              have p1 := x45.frozen q1 f1
              have p2 := x45.frozen q2 f2
              have t1 := x45.cell q1
              have t2 := x45.cell q2
              have hxx := hx1.trans x45
              clear hw5
              have a1 := fun o => (Ext.alloc w4 o).cell (hx4.cell q1)
              have a2 := fun o => (Ext.alloc w4 o).cell (hx4.cell q2)
              have a3 := fun o => (Ext.alloc w4 o).frozen (hx4.cell q1) (hx4.frozen q1 f1)
              have a4 := fun o => (Ext.alloc w4 o).frozen (hx4.cell q2) (hx4.frozen q2 f2)
              go_wp2_with fail
              clear a1 a2 a3 a4
              rw [← HW5.out]
              refine bodyPost_ret (v := .tuple #[.agg #[.bool false, .slice none 0 0], .int .i64 0, .int .i64 6]) (by simp [results, Try.results23, go_sem, t1, t2]) rfl ?_
              exact HN.out _ HBD.out (by repeat' (first | with_reducible exact Ext.refl _ | with_reducible assumption | with_reducible apply Ext.alloc_r | with_reducible apply Ext.drew_r | with_reducible apply Ext.drewN_r | with_reducible apply Ext.set_r | with_reducible exact Nat.le_refl _ | with_reducible refine Ext.trans ?_ ‹Ext _ _›))
          | false =>
            have hN : 1 = (if false = true then 1 else 0) + 1 := by simp; try omega
            have HTK : Hid ((bs s).take 1 = (if false = true then [45] else []) ++ T.take 1) := by
              have h5 := take_pre false T 1
              rw [← hN, ← HST.out] at h5
              exact h5
            have HMX : Hid (∀ j y, j ≤ s.size → (bs s).take j = fmtL 10 y → j ≤ 1 ∧ Good 10 false (T.take 1)) := fun j y hj hy => by
              obtain ⟨i, hji, hi, hg⟩ := HGP.out j y hj hy
              have h5 := good_pre hi hg
              rw [HPP.out] at h5
              exact ⟨by rw [hN, hji]; exact Nat.add_le_add_left h5.1 _, h5.2⟩
            have hNs : 1 ≤ s.size := by rw [hN, hsz]; exact Nat.add_le_add_left (by have := pre10_le T; rw [HPP.out, HLN.out] at this; exact this) _
            have HBE : Hid (bs (s.extract 0 1) = (if false = true then [45] else []) ++ T.take 1) := by show _ = _; rw [bs_take]; exact HTK.out
            have hse : (s.extract 0 1).size ≤ 1000000 := by rw [ByteArray.size_extract]; omega
            clear hN
            by_cases hg : Good 10 false (T.take 1)
            · have HPA : Hid (∀ w, Calls Try.prog 18 #[.string (s.extract 0 1)] w (RetZE w (rdZ 10 false (T.take 1)))) := fun w => Parse_yes hse (by rw [HBE.out]; exact (good_yes (by omega) (by omega) hg).symm)
              have HXE : Hid ((bs s).take 1 = fmtL 10 (rdZ 10 false (T.take 1))) := by show _ = _; rw [HTK.out]; exact (good_yes (by omega) (by omega) hg).symm
              clear hg hse hsz
              go_wp2_with fail
              refine (HPA.out _).mono ?_
              rintro e w4 ⟨sb, A4, c4, L4, rfl, hz, hx4⟩
              obtain ⟨w5, hw5⟩ : ∃ z : World, z = w4.alloc (.cells #[.bool sb, .slice A4 L4 c4] 25) := ⟨_, rfl⟩
              have x5 : Ext w4 w5 := by rw [hw5]; exact Ext.alloc _ _
              have hb5 := box_new w4 (.bool sb) (.slice A4 L4 c4) 25
              rw [← hw5] at hb5
              have d1 := hb5.1
              have d2 := hb5.2.1
              have HW5 := Lib.hid hw5
              have x45 := hx4.trans x5
              have p1 := x45.frozen q1 f1
              have p2 := x45.frozen q2 f2
              have t1 := x45.cell q1
              have t2 := x45.cell q2
              have hB := World.block_lt_of_cell? w1 _ q1
              obtain ⟨r5, r6, hz', hxx⟩ := fin_z (Nat.le_refl _) hB (hx1.trans x45) (hz.ext x5) t1 t2
              have HQ := Lib.hid (HY.out 1 _ sb A4 c4 L4 _ HXE.out hNs (fun j y hj hy => (HMX.out j y hj hy).1) hz' hxx)
              clear hb5 hw5 hz hz' hxx
              have a1 := fun o => (Ext.alloc w4 o).cell (hx4.cell q1)
              have a2 := fun o => (Ext.alloc w4 o).cell (hx4.cell q2)
              have a3 := fun o => (Ext.alloc w4 o).frozen (hx4.cell q1) (hx4.frozen q1 f1)
              have a4 := fun o => (Ext.alloc w4 o).frozen (hx4.cell q2) (hx4.frozen q2 f2)
              go_wp2_with fail
              clear a1 a2 a3 a4
              rw [← HW5.out]
              refine bodyPost_ret (v := .tuple #[.agg #[.bool sb, .slice A4 L4 c4], .int .i64 (1 : Nat), .int .i64 0]) (by simp [results, Try.results23, go_sem, r5, r6]) rfl ?_
              exact HQ.out
            · have HPA : Hid (∀ w, Calls Try.prog 18 #[.string (s.extract 0 1)] w (RetErr w 6)) := fun w => Parse_no hse (fun x e => hg (good_of (by omega) (by omega) (e.symm.trans HBE.out) (fun e2 e3 => HNG.out e2 (by
                cases hT2 : T with
                | nil => rw [hT2] at e3; simp at e3
                | cons c T' =>
                  rw [hT2] at e3
                  rw [List.head?_take] at e3
                  split at e3
                  · cases e3
                  · exact e3))).1)
              have HBD : Hid (∀ j y, j ≤ s.size → (bs s).take j ≠ fmtL 10 y) := fun j y hj hy => hg (HMX.out j y hj hy).2
              clear hg hse hsz
              go_wp2_with fail
              refine (HPA.out _).mono ?_
              rintro e w4 ⟨rfl, hx4⟩
              obtain ⟨w5, hw5⟩ : ∃ z : World, z = w4.alloc (.cells #[.bool false, .slice none 0 0] 25) := ⟨_, rfl⟩
              have x5 : Ext w4 w5 := by rw [hw5]; exact Ext.alloc _ _
              have HW5 := Lib.hid hw5
              have x45 := hx4.trans x5
              have p1 := x45.frozen q1 f1
              have p2 := x45.frozen q2 f2
              have t1 := x45.cell q1
              have t2 := x45.cell q2
              have hxx := hx1.trans x45
              clear hw5
              have a1 := fun o => (Ext.alloc w4 o).cell (hx4.cell q1)
              have a2 := fun o => (Ext.alloc w4 o).cell (hx4.cell q2)
              have a3 := fun o => (Ext.alloc w4 o).frozen (hx4.cell q1) (hx4.frozen q1 f1)
              have a4 := fun o => (Ext.alloc w4 o).frozen (hx4.cell q2) (hx4.frozen q2 f2)
              go_wp2_with fail
              clear a1 a2 a3 a4
              rw [← HW5.out]
              refine bodyPost_ret (v := .tuple #[.agg #[.bool false, .slice none 0 0], .int .i64 0, .int .i64 6]) (by simp [results, Try.results23, go_sem, t1, t2]) rfl ?_
              exact HN.out _ HBD.out (by repeat' (first | with_reducible exact Ext.refl _ | with_reducible assumption | with_reducible apply Ext.alloc_r | with_reducible apply Ext.drew_r | with_reducible apply Ext.drewN_r | with_reducible apply Ext.set_r | with_reducible exact Nat.le_refl _ | with_reducible refine Ext.trans ?_ ‹Ext _ _›))
        · have HPP : Hid (pre10 T = k) := by show _ = _; unfold pre10; rw [if_neg h48]; exact HLE.out.symm
          by_cases hkp : 0 < k
          · have ht0 : 0 < t.size := by omega
            have hch : ((t[0].toNat : Int) == 48) = false := by
              have h5 := HSY.out 0 ht0
              rw [← List.head?_eq_getElem?] at h5
              rw [beq_eq_false_iff_ne]
              intro h6
              exact h48 (by rw [h5]; congr 1; omega)
            clear h48 HLE
            cases neg with
            | true =>
              have hN : (k + 1) = (if true = true then 1 else 0) + k := by simp; try omega
              have HTK : Hid ((bs s).take (k + 1) = (if true = true then [45] else []) ++ T.take k) := by
                have h5 := take_pre true T k
                rw [← hN, ← HST.out] at h5
                exact h5
              have HMX : Hid (∀ j y, j ≤ s.size → (bs s).take j = fmtL 10 y → j ≤ (k + 1) ∧ Good 10 true (T.take k)) := fun j y hj hy => by
                obtain ⟨i, hji, hi, hg⟩ := HGP.out j y hj hy
                have h5 := good_pre hi hg
                rw [HPP.out] at h5
                exact ⟨by rw [hN, hji]; exact Nat.add_le_add_left h5.1 _, h5.2⟩
              have hNs : (k + 1) ≤ s.size := by rw [hN, hsz]; exact Nat.add_le_add_left (by have := pre10_le T; rw [HPP.out, HLN.out] at this; exact this) _
              have HBE : Hid (bs (s.extract 0 (k + 1)) = (if true = true then [45] else []) ++ T.take k) := by show _ = _; rw [bs_take]; exact HTK.out
              have hse : (s.extract 0 (k + 1)).size ≤ 1000000 := by rw [ByteArray.size_extract]; omega
              clear hN
              by_cases hg : Good 10 true (T.take k)
              · have HPA : Hid (∀ w, Calls Try.prog 18 #[.string (s.extract 0 (k + 1))] w (RetZE w (rdZ 10 true (T.take k)))) := fun w => Parse_yes hse (by rw [HBE.out]; exact (good_yes (by omega) (by omega) hg).symm)
                have HXE : Hid ((bs s).take (k + 1) = fmtL 10 (rdZ 10 true (T.take k))) := by show _ = _; rw [HTK.out]; exact (good_yes (by omega) (by omega) hg).symm
                clear hg hse hsz
                go_wp2_with fail
                refine (HPA.out _).mono ?_
                rintro e w4 ⟨sb, A4, c4, L4, rfl, hz, hx4⟩
                obtain ⟨w5, hw5⟩ : ∃ z : World, z = w4.alloc (.cells #[.bool sb, .slice A4 L4 c4] 25) := ⟨_, rfl⟩
                have x5 : Ext w4 w5 := by rw [hw5]; exact Ext.alloc _ _
                have hb5 := box_new w4 (.bool sb) (.slice A4 L4 c4) 25
                rw [← hw5] at hb5
                have d1 := hb5.1
                have d2 := hb5.2.1
                have HW5 := Lib.hid hw5
                have x45 := hx4.trans x5
                have p1 := x45.frozen q1 f1
                have p2 := x45.frozen q2 f2
                have t1 := x45.cell q1
                have t2 := x45.cell q2
                have hB := World.block_lt_of_cell? w1 _ q1
                obtain ⟨r5, r6, hz', hxx⟩ := fin_z (Nat.le_refl _) hB (hx1.trans x45) (hz.ext x5) t1 t2
                have HQ := Lib.hid (HY.out (k + 1) _ sb A4 c4 L4 _ HXE.out hNs (fun j y hj hy => (HMX.out j y hj hy).1) hz' hxx)
                clear hb5 hw5 hz hz' hxx
                have a1 := fun o => (Ext.alloc w4 o).cell (hx4.cell q1)
                have a2 := fun o => (Ext.alloc w4 o).cell (hx4.cell q2)
                have a3 := fun o => (Ext.alloc w4 o).frozen (hx4.cell q1) (hx4.frozen q1 f1)
                have a4 := fun o => (Ext.alloc w4 o).frozen (hx4.cell q2) (hx4.frozen q2 f2)
                go_wp2_with fail
                clear a1 a2 a3 a4
                rw [← HW5.out]
                refine bodyPost_ret (v := .tuple #[.agg #[.bool sb, .slice A4 L4 c4], .int .i64 ((k + 1) : Nat), .int .i64 0]) (by simp [results, Try.results23, go_sem, r5, r6]) rfl ?_
                exact HQ.out
              · have HPA : Hid (∀ w, Calls Try.prog 18 #[.string (s.extract 0 (k + 1))] w (RetErr w 6)) := fun w => Parse_no hse (fun x e => hg (good_of (by omega) (by omega) (e.symm.trans HBE.out) (fun e2 e3 => HNG.out e2 (by
                  cases hT2 : T with
                  | nil => rw [hT2] at e3; simp at e3
                  | cons c T' =>
                    rw [hT2] at e3
                    rw [List.head?_take] at e3
                    split at e3
                    · cases e3
                    · exact e3))).1)
                have HBD : Hid (∀ j y, j ≤ s.size → (bs s).take j ≠ fmtL 10 y) := fun j y hj hy => hg (HMX.out j y hj hy).2
                clear hg hse hsz
                go_wp2_with fail
                refine (HPA.out _).mono ?_
                rintro e w4 ⟨rfl, hx4⟩
                obtain ⟨w5, hw5⟩ : ∃ z : World, z = w4.alloc (.cells #[.bool false, .slice none 0 0] 25) := ⟨_, rfl⟩
                have x5 : Ext w4 w5 := by rw [hw5]; exact Ext.alloc _ _
                have HW5 := Lib.hid hw5
                have x45 := hx4.trans x5
                have p1 := x45.frozen q1 f1
                have p2 := x45.frozen q2 f2
                have t1 := x45.cell q1
                have t2 := x45.cell q2
                have hxx := hx1.trans x45
                clear hw5
                have a1 := fun o => (Ext.alloc w4 o).cell (hx4.cell q1)
                have a2 := fun o => (Ext.alloc w4 o).cell (hx4.cell q2)
                have a3 := fun o => (Ext.alloc w4 o).frozen (hx4.cell q1) (hx4.frozen q1 f1)
                have a4 := fun o => (Ext.alloc w4 o).frozen (hx4.cell q2) (hx4.frozen q2 f2)
                go_wp2_with fail
                clear a1 a2 a3 a4
                rw [← HW5.out]
                refine bodyPost_ret (v := .tuple #[.agg #[.bool false, .slice none 0 0], .int .i64 0, .int .i64 6]) (by simp [results, Try.results23, go_sem, t1, t2]) rfl ?_
                exact HN.out _ HBD.out (by repeat' (first | with_reducible exact Ext.refl _ | with_reducible assumption | with_reducible apply Ext.alloc_r | with_reducible apply Ext.drew_r | with_reducible apply Ext.drewN_r | with_reducible apply Ext.set_r | with_reducible exact Nat.le_refl _ | with_reducible refine Ext.trans ?_ ‹Ext _ _›))
            | false =>
              have hN : k = (if false = true then 1 else 0) + k := by simp; try omega
              have HTK : Hid ((bs s).take k = (if false = true then [45] else []) ++ T.take k) := by
                have h5 := take_pre false T k
                rw [← hN, ← HST.out] at h5
                exact h5
              have HMX : Hid (∀ j y, j ≤ s.size → (bs s).take j = fmtL 10 y → j ≤ k ∧ Good 10 false (T.take k)) := fun j y hj hy => by
                obtain ⟨i, hji, hi, hg⟩ := HGP.out j y hj hy
                have h5 := good_pre hi hg
                rw [HPP.out] at h5
                exact ⟨by rw [hN, hji]; exact Nat.add_le_add_left h5.1 _, h5.2⟩
              have hNs : k ≤ s.size := by rw [hN, hsz]; exact Nat.add_le_add_left (by have := pre10_le T; rw [HPP.out, HLN.out] at this; exact this) _
              have HBE : Hid (bs (s.extract 0 k) = (if false = true then [45] else []) ++ T.take k) := by show _ = _; rw [bs_take]; exact HTK.out
              have hse : (s.extract 0 k).size ≤ 1000000 := by rw [ByteArray.size_extract]; omega
              clear hN
              by_cases hg : Good 10 false (T.take k)
              · have HPA : Hid (∀ w, Calls Try.prog 18 #[.string (s.extract 0 k)] w (RetZE w (rdZ 10 false (T.take k)))) := fun w => Parse_yes hse (by rw [HBE.out]; exact (good_yes (by omega) (by omega) hg).symm)
                have HXE : Hid ((bs s).take k = fmtL 10 (rdZ 10 false (T.take k))) := by show _ = _; rw [HTK.out]; exact (good_yes (by omega) (by omega) hg).symm
                clear hg hse hsz
                go_wp2_with fail
                refine (HPA.out _).mono ?_
                rintro e w4 ⟨sb, A4, c4, L4, rfl, hz, hx4⟩
                obtain ⟨w5, hw5⟩ : ∃ z : World, z = w4.alloc (.cells #[.bool sb, .slice A4 L4 c4] 25) := ⟨_, rfl⟩
                have x5 : Ext w4 w5 := by rw [hw5]; exact Ext.alloc _ _
                have hb5 := box_new w4 (.bool sb) (.slice A4 L4 c4) 25
                rw [← hw5] at hb5
                have d1 := hb5.1
                have d2 := hb5.2.1
                have HW5 := Lib.hid hw5
                have x45 := hx4.trans x5
                have p1 := x45.frozen q1 f1
                have p2 := x45.frozen q2 f2
                have t1 := x45.cell q1
                have t2 := x45.cell q2
                have hB := World.block_lt_of_cell? w1 _ q1
                obtain ⟨r5, r6, hz', hxx⟩ := fin_z (Nat.le_refl _) hB (hx1.trans x45) (hz.ext x5) t1 t2
                have HQ := Lib.hid (HY.out k _ sb A4 c4 L4 _ HXE.out hNs (fun j y hj hy => (HMX.out j y hj hy).1) hz' hxx)
                clear hb5 hw5 hz hz' hxx
                have a1 := fun o => (Ext.alloc w4 o).cell (hx4.cell q1)
                have a2 := fun o => (Ext.alloc w4 o).cell (hx4.cell q2)
                have a3 := fun o => (Ext.alloc w4 o).frozen (hx4.cell q1) (hx4.frozen q1 f1)
                have a4 := fun o => (Ext.alloc w4 o).frozen (hx4.cell q2) (hx4.frozen q2 f2)
                go_wp2_with fail
                clear a1 a2 a3 a4
                rw [← HW5.out]
                refine bodyPost_ret (v := .tuple #[.agg #[.bool sb, .slice A4 L4 c4], .int .i64 (k : Nat), .int .i64 0]) (by simp [results, Try.results23, go_sem, r5, r6]) rfl ?_
                exact HQ.out
              · have HPA : Hid (∀ w, Calls Try.prog 18 #[.string (s.extract 0 k)] w (RetErr w 6)) := fun w => Parse_no hse (fun x e => hg (good_of (by omega) (by omega) (e.symm.trans HBE.out) (fun e2 e3 => HNG.out e2 (by
                  cases hT2 : T with
                  | nil => rw [hT2] at e3; simp at e3
                  | cons c T' =>
                    rw [hT2] at e3
                    rw [List.head?_take] at e3
                    split at e3
                    · cases e3
                    · exact e3))).1)
                have HBD : Hid (∀ j y, j ≤ s.size → (bs s).take j ≠ fmtL 10 y) := fun j y hj hy => hg (HMX.out j y hj hy).2
                clear hg hse hsz
                go_wp2_with fail
                refine (HPA.out _).mono ?_
                rintro e w4 ⟨rfl, hx4⟩
                obtain ⟨w5, hw5⟩ : ∃ z : World, z = w4.alloc (.cells #[.bool false, .slice none 0 0] 25) := ⟨_, rfl⟩
                have x5 : Ext w4 w5 := by rw [hw5]; exact Ext.alloc _ _
                have HW5 := Lib.hid hw5
                have x45 := hx4.trans x5
                have p1 := x45.frozen q1 f1
                have p2 := x45.frozen q2 f2
                have t1 := x45.cell q1
                have t2 := x45.cell q2
                have hxx := hx1.trans x45
                clear hw5
                have a1 := fun o => (Ext.alloc w4 o).cell (hx4.cell q1)
                have a2 := fun o => (Ext.alloc w4 o).cell (hx4.cell q2)
                have a3 := fun o => (Ext.alloc w4 o).frozen (hx4.cell q1) (hx4.frozen q1 f1)
                have a4 := fun o => (Ext.alloc w4 o).frozen (hx4.cell q2) (hx4.frozen q2 f2)
                go_wp2_with fail
                clear a1 a2 a3 a4
                rw [← HW5.out]
                refine bodyPost_ret (v := .tuple #[.agg #[.bool false, .slice none 0 0], .int .i64 0, .int .i64 6]) (by simp [results, Try.results23, go_sem, t1, t2]) rfl ?_
                exact HN.out _ HBD.out (by repeat' (first | with_reducible exact Ext.refl _ | with_reducible assumption | with_reducible apply Ext.alloc_r | with_reducible apply Ext.drew_r | with_reducible apply Ext.drewN_r | with_reducible apply Ext.set_r | with_reducible exact Nat.le_refl _ | with_reducible refine Ext.trans ?_ ‹Ext _ _›))
          · obtain rfl : k = 0 := by omega
            clear h48 HLE
            cases neg with
            | true =>
              have hN : 1 = (if true = true then 1 else 0) + 0 := by simp; try omega
              have HTK : Hid ((bs s).take 1 = (if true = true then [45] else []) ++ T.take 0) := by
                have h5 := take_pre true T 0
                rw [← hN, ← HST.out] at h5
                exact h5
              have HMX : Hid (∀ j y, j ≤ s.size → (bs s).take j = fmtL 10 y → j ≤ 1 ∧ Good 10 true (T.take 0)) := fun j y hj hy => by
                obtain ⟨i, hji, hi, hg⟩ := HGP.out j y hj hy
                have h5 := good_pre hi hg
                rw [HPP.out] at h5
                exact ⟨by rw [hN, hji]; exact Nat.add_le_add_left h5.1 _, h5.2⟩
              have hNs : 1 ≤ s.size := by rw [hN, hsz]; exact Nat.add_le_add_left (by have := pre10_le T; rw [HPP.out, HLN.out] at this; exact this) _
              have HBE : Hid (bs (s.extract 0 1) = (if true = true then [45] else []) ++ T.take 0) := by show _ = _; rw [bs_take]; exact HTK.out
              have hse : (s.extract 0 1).size ≤ 1000000 := by rw [ByteArray.size_extract]; omega
              clear hN
              have hg : ¬ Good 10 true (T.take 0) := fun g => g.ne rfl
              have HPA : Hid (∀ w, Calls Try.prog 18 #[.string (s.extract 0 1)] w (RetErr w 6)) := fun w => Parse_no hse (fun x e => hg (good_of (by omega) (by omega) (e.symm.trans HBE.out) (fun e2 e3 => HNG.out e2 (by
                cases hT2 : T with
                | nil => rw [hT2] at e3; simp at e3
                | cons c T' =>
                  rw [hT2] at e3
                  rw [List.head?_take] at e3
                  split at e3
                  · cases e3
                  · exact e3))).1)
              have HBD : Hid (∀ j y, j ≤ s.size → (bs s).take j ≠ fmtL 10 y) := fun j y hj hy => hg (HMX.out j y hj hy).2
              clear hg hse hsz
              go_wp2_with fail
              refine (HPA.out _).mono ?_
              rintro e w4 ⟨rfl, hx4⟩
              obtain ⟨w5, hw5⟩ : ∃ z : World, z = w4.alloc (.cells #[.bool false, .slice none 0 0] 25) := ⟨_, rfl⟩
              have x5 : Ext w4 w5 := by rw [hw5]; exact Ext.alloc _ _
              have HW5 := Lib.hid hw5
              have x45 := hx4.trans x5
              have p1 := x45.frozen q1 f1
              have p2 := x45.frozen q2 f2
              have t1 := x45.cell q1
              have t2 := x45.cell q2
              have hxx := hx1.trans x45
              clear hw5
              have a1 := fun o => (Ext.alloc w4 o).cell (hx4.cell q1)
              have a2 := fun o => (Ext.alloc w4 o).cell (hx4.cell q2)
              have a3 := fun o => (Ext.alloc w4 o).frozen (hx4.cell q1) (hx4.frozen q1 f1)
              have a4 := fun o => (Ext.alloc w4 o).frozen (hx4.cell q2) (hx4.frozen q2 f2)
              go_wp2_with fail
              clear a1 a2 a3 a4
              rw [← HW5.out]
              refine bodyPost_ret (v := .tuple #[.agg #[.bool false, .slice none 0 0], .int .i64 0, .int .i64 6]) (by simp [results, Try.results23, go_sem, t1, t2]) rfl ?_
              exact HN.out _ HBD.out (by repeat' (first | with_reducible exact Ext.refl _ | with_reducible assumption | with_reducible apply Ext.alloc_r | with_reducible apply Ext.drew_r | with_reducible apply Ext.drewN_r | with_reducible apply Ext.set_r | with_reducible exact Nat.le_refl _ | with_reducible refine Ext.trans ?_ ‹Ext _ _›))
            | false =>
              have hN : 0 = (if false = true then 1 else 0) + 0 := by simp; try omega
              have HTK : Hid ((bs s).take 0 = (if false = true then [45] else []) ++ T.take 0) := by
                have h5 := take_pre false T 0
                rw [← hN, ← HST.out] at h5
                exact h5
              have HMX : Hid (∀ j y, j ≤ s.size → (bs s).take j = fmtL 10 y → j ≤ 0 ∧ Good 10 false (T.take 0)) := fun j y hj hy => by
                obtain ⟨i, hji, hi, hg⟩ := HGP.out j y hj hy
                have h5 := good_pre hi hg
                rw [HPP.out] at h5
                exact ⟨by rw [hN, hji]; exact Nat.add_le_add_left h5.1 _, h5.2⟩
              have hNs : 0 ≤ s.size := by rw [hN, hsz]; exact Nat.add_le_add_left (by have := pre10_le T; rw [HPP.out, HLN.out] at this; exact this) _
              have HBE : Hid (bs ByteArray.empty = (if false = true then [45] else []) ++ T.take 0) := by show _ = _; exact HTK.out
              have hse : ByteArray.empty.size ≤ 1000000 := by simp
              clear hN
              have hg : ¬ Good 10 false (T.take 0) := fun g => g.ne rfl
              have HPA : Hid (∀ w, Calls Try.prog 18 #[.string ByteArray.empty] w (RetErr w 6)) := fun w => Parse_no hse (fun x e => hg (good_of (by omega) (by omega) (e.symm.trans HBE.out) (fun e2 e3 => HNG.out e2 (by
                cases hT2 : T with
                | nil => rw [hT2] at e3; simp at e3
                | cons c T' =>
                  rw [hT2] at e3
                  rw [List.head?_take] at e3
                  split at e3
                  · cases e3
                  · exact e3))).1)
              have HBD : Hid (∀ j y, j ≤ s.size → (bs s).take j ≠ fmtL 10 y) := fun j y hj hy => hg (HMX.out j y hj hy).2
              clear hg hse hsz
              go_wp2_with fail
              refine (HPA.out _).mono ?_
              rintro e w4 ⟨rfl, hx4⟩
              obtain ⟨w5, hw5⟩ : ∃ z : World, z = w4.alloc (.cells #[.bool false, .slice none 0 0] 25) := ⟨_, rfl⟩
              have x5 : Ext w4 w5 := by rw [hw5]; exact Ext.alloc _ _
              have HW5 := Lib.hid hw5
              have x45 := hx4.trans x5
              have p1 := x45.frozen q1 f1
              have p2 := x45.frozen q2 f2
              have t1 := x45.cell q1
              have t2 := x45.cell q2
              have hxx := hx1.trans x45
              clear hw5
              have a1 := fun o => (Ext.alloc w4 o).cell (hx4.cell q1)
              have a2 := fun o => (Ext.alloc w4 o).cell (hx4.cell q2)
              have a3 := fun o => (Ext.alloc w4 o).frozen (hx4.cell q1) (hx4.frozen q1 f1)
              have a4 := fun o => (Ext.alloc w4 o).frozen (hx4.cell q2) (hx4.frozen q2 f2)
              go_wp2_with fail
              clear a1 a2 a3 a4
              rw [← HW5.out]
              refine bodyPost_ret (v := .tuple #[.agg #[.bool false, .slice none 0 0], .int .i64 0, .int .i64 6]) (by simp [results, Try.results23, go_sem, t1, t2]) rfl ?_
              exact HN.out _ HBD.out (by repeat' (first | with_reducible exact Ext.refl _ | with_reducible assumption | with_reducible apply Ext.alloc_r | with_reducible apply Ext.drew_r | with_reducible apply Ext.drewN_r | with_reducible apply Ext.set_r | with_reducible exact Nat.le_refl _ | with_reducible refine Ext.trans ?_ ‹Ext _ _›))
      · clear hgo
        by_cases h48 : T.head? = some 48
        · have HPP : Hid (pre10 T = 1) := by show _ = _; unfold pre10; rw [if_pos h48]
          have hkp : 0 < k := by
            rw [HLE.out]
            cases hT2 : T with
            | nil => rw [hT2] at h48; cases h48
            | cons c T' =>
              rw [hT2] at h48
              injection h48 with h48
              unfold lead10
              rw [h48, if_pos (by decide)]
              omega
          have ht0 : 0 < t.size := by omega
          have hch : ((t[0].toNat : Int) == 48) = true := by
            have h5 := HSY.out 0 ht0
            rw [← List.head?_eq_getElem?, h48] at h5
            injection h5 with h5
            rw [← h5]; rfl
          clear h48 HLE
          cases neg with
          | true =>
            have hN : 2 = (if true = true then 1 else 0) + 1 := by simp; try omega
            have HTK : Hid ((bs s).take 2 = (if true = true then [45] else []) ++ T.take 1) := by
              have h5 := take_pre true T 1
              rw [← hN, ← HST.out] at h5
              exact h5
            have HMX : Hid (∀ j y, j ≤ s.size → (bs s).take j = fmtL 10 y → j ≤ 2 ∧ Good 10 true (T.take 1)) := fun j y hj hy => by
              obtain ⟨i, hji, hi, hg⟩ := HGP.out j y hj hy
              have h5 := good_pre hi hg
              rw [HPP.out] at h5
              exact ⟨by rw [hN, hji]; exact Nat.add_le_add_left h5.1 _, h5.2⟩
            have hNs : 2 ≤ s.size := by rw [hN, hsz]; exact Nat.add_le_add_left (by have := pre10_le T; rw [HPP.out, HLN.out] at this; exact this) _
            have HBE : Hid (bs (s.extract 0 2) = (if true = true then [45] else []) ++ T.take 1) := by show _ = _; rw [bs_take]; exact HTK.out
            have hse : (s.extract 0 2).size ≤ 1000000 := by rw [ByteArray.size_extract]; omega
            clear hN
            by_cases hg : Good 10 true (T.take 1)
            · have HPA : Hid (∀ w, Calls Try.prog 18 #[.string (s.extract 0 2)] w (RetZE w (rdZ 10 true (T.take 1)))) := fun w => Parse_yes hse (by rw [HBE.out]; exact (good_yes (by omega) (by omega) hg).symm)
              have HXE : Hid ((bs s).take 2 = fmtL 10 (rdZ 10 true (T.take 1))) := by show _ = _; rw [HTK.out]; exact (good_yes (by omega) (by omega) hg).symm
              clear hg hse hsz
              go_wp2_with fail
              refine (HPA.out _).mono ?_
              rintro e w4 ⟨sb, A4, c4, L4, rfl, hz, hx4⟩
              obtain ⟨w5, hw5⟩ : ∃ z : World, z = w4.alloc (.cells #[.bool sb, .slice A4 L4 c4] 25) := ⟨_, rfl⟩
              have x5 : Ext w4 w5 := by rw [hw5]; exact Ext.alloc _ _
              have hb5 := box_new w4 (.bool sb) (.slice A4 L4 c4) 25
              rw [← hw5] at hb5
              have d1 := hb5.1
              have d2 := hb5.2.1
              have HW5 := Lib.hid hw5
              have x45 := hx4.trans x5
              have p1 := x45.frozen q1 f1
              have p2 := x45.frozen q2 f2
              have t1 := x45.cell q1
              have t2 := x45.cell q2
              have hB := World.block_lt_of_cell? w1 _ q1
              obtain ⟨r5, r6, hz', hxx⟩ := fin_z (Nat.le_refl _) hB (hx1.trans x45) (hz.ext x5) t1 t2
              have HQ := Lib.hid (HY.out 2 _ sb A4 c4 L4 _ HXE.out hNs (fun j y hj hy => (HMX.out j y hj hy).1) hz' hxx)
              clear hb5 hw5 hz hz' hxx
              have a1 := fun o => (Ext.alloc w4 o).cell (hx4.cell q1)
              have a2 := fun o => (Ext.alloc w4 o).cell (hx4.cell q2)
              have a3 := fun o => (Ext.alloc w4 o).frozen (hx4.cell q1) (hx4.frozen q1 f1)
              have a4 := fun o => (Ext.alloc w4 o).frozen (hx4.cell q2) (hx4.frozen q2 f2)
              go_wp2_with fail
              clear a1 a2 a3 a4
              rw [← HW5.out]
              refine bodyPost_ret (v := .tuple #[.agg #[.bool sb, .slice A4 L4 c4], .int .i64 (2 : Nat), .int .i64 0]) (by simp [results, Try.results23, go_sem, r5, r6]) rfl ?_
              exact HQ.out
            · have HPA : Hid (∀ w, Calls Try.prog 18 #[.string (s.extract 0 2)] w (RetErr w 6)) := fun w => Parse_no hse (fun x e => hg (good_of (by omega) (by omega) (e.symm.trans HBE.out) (fun e2 e3 => HNG.out e2 (by
                cases hT2 : T with
                | nil => rw [hT2] at e3; simp at e3
                | cons c T' =>
                  rw [hT2] at e3
                  rw [List.head?_take] at e3
                  split at e3
                  · cases e3
                  · exact e3))).1)
              have HBD : Hid (∀ j y, j ≤ s.size → (bs s).take j ≠ fmtL 10 y) := fun j y hj hy => hg (HMX.out j y hj hy).2
              clear hg hse hsz
              go_wp2_with fail
              refine (HPA.out _).mono ?_
              rintro e w4 ⟨rfl, hx4⟩
              obtain ⟨w5, hw5⟩ : ∃ z : World, z = w4.alloc (.cells #[.bool false, .slice none 0 0] 25) := ⟨_, rfl⟩
              have x5 : Ext w4 w5 := by rw [hw5]; exact Ext.alloc _ _
              have HW5 := Lib.hid hw5
              have x45 := hx4.trans x5
              have p1 := x45.frozen q1 f1
              have p2 := x45.frozen q2 f2
              have t1 := x45.cell q1
              have t2 := x45.cell q2
              have hxx := hx1.trans x45
              clear hw5
              have a1 := fun o => (Ext.alloc w4 o).cell (hx4.cell q1)
              have a2 := fun o => (Ext.alloc w4 o).cell (hx4.cell q2)
              have a3 := fun o => (Ext.alloc w4 o).frozen (hx4.cell q1) (hx4.frozen q1 f1)
              have a4 := fun o => (Ext.alloc w4 o).frozen (hx4.cell q2) (hx4.frozen q2 f2)
              go_wp2_with fail
              clear a1 a2 a3 a4
              rw [← HW5.out]
              refine bodyPost_ret (v := .tuple #[.agg #[.bool false, .slice none 0 0], .int .i64 0, .int .i64 6]) (by simp [results, Try.results23, go_sem, t1, t2]) rfl ?_
              exact HN.out _ HBD.out (by repeat' (first | with_reducible exact Ext.refl _ | with_reducible assumption | with_reducible apply Ext.alloc_r | with_reducible apply Ext.drew_r | with_reducible apply Ext.drewN_r | with_reducible apply Ext.set_r | with_reducible exact Nat.le_refl _ | with_reducible refine Ext.trans ?_ ‹Ext _ _›))
          | false =>
            have hN : 1 = (if false = true then 1 else 0) + 1 := by simp; try omega
            have HTK : Hid ((bs s).take 1 = (if false = true then [45] else []) ++ T.take 1) := by
              have h5 := take_pre false T 1
              rw [← hN, ← HST.out] at h5
              exact h5
            have HMX : Hid (∀ j y, j ≤ s.size → (bs s).take j = fmtL 10 y → j ≤ 1 ∧ Good 10 false (T.take 1)) := fun j y hj hy => by
              obtain ⟨i, hji, hi, hg⟩ := HGP.out j y hj hy
              have h5 := good_pre hi hg
              rw [HPP.out] at h5
              exact ⟨by rw [hN, hji]; exact Nat.add_le_add_left h5.1 _, h5.2⟩
            have hNs : 1 ≤ s.size := by rw [hN, hsz]; exact Nat.add_le_add_left (by have := pre10_le T; rw [HPP.out, HLN.out] at this; exact this) _
            have HBE : Hid (bs (s.extract 0 1) = (if false = true then [45] else []) ++ T.take 1) := by show _ = _; rw [bs_take]; exact HTK.out
            have hse : (s.extract 0 1).size ≤ 1000000 := by rw [ByteArray.size_extract]; omega
            clear hN
            by_cases hg : Good 10 false (T.take 1)
            · have HPA : Hid (∀ w, Calls Try.prog 18 #[.string (s.extract 0 1)] w (RetZE w (rdZ 10 false (T.take 1)))) := fun w => Parse_yes hse (by rw [HBE.out]; exact (good_yes (by omega) (by omega) hg).symm)
              have HXE : Hid ((bs s).take 1 = fmtL 10 (rdZ 10 false (T.take 1))) := by show _ = _; rw [HTK.out]; exact (good_yes (by omega) (by omega) hg).symm
              clear hg hse hsz
              go_wp2_with fail
              refine (HPA.out _).mono ?_
              rintro e w4 ⟨sb, A4, c4, L4, rfl, hz, hx4⟩
              obtain ⟨w5, hw5⟩ : ∃ z : World, z = w4.alloc (.cells #[.bool sb, .slice A4 L4 c4] 25) := ⟨_, rfl⟩
              have x5 : Ext w4 w5 := by rw [hw5]; exact Ext.alloc _ _
              have hb5 := box_new w4 (.bool sb) (.slice A4 L4 c4) 25
              rw [← hw5] at hb5
              have d1 := hb5.1
              have d2 := hb5.2.1
              have HW5 := Lib.hid hw5
              have x45 := hx4.trans x5
              have p1 := x45.frozen q1 f1
              have p2 := x45.frozen q2 f2
              have t1 := x45.cell q1
              have t2 := x45.cell q2
              have hB := World.block_lt_of_cell? w1 _ q1
              obtain ⟨r5, r6, hz', hxx⟩ := fin_z (Nat.le_refl _) hB (hx1.trans x45) (hz.ext x5) t1 t2
              have HQ := Lib.hid (HY.out 1 _ sb A4 c4 L4 _ HXE.out hNs (fun j y hj hy => (HMX.out j y hj hy).1) hz' hxx)
              clear hb5 hw5 hz hz' hxx
              have a1 := fun o => (Ext.alloc w4 o).cell (hx4.cell q1)
              have a2 := fun o => (Ext.alloc w4 o).cell (hx4.cell q2)
              have a3 := fun o => (Ext.alloc w4 o).frozen (hx4.cell q1) (hx4.frozen q1 f1)
              have a4 := fun o => (Ext.alloc w4 o).frozen (hx4.cell q2) (hx4.frozen q2 f2)
              go_wp2_with fail
              clear a1 a2 a3 a4
              rw [← HW5.out]
              refine bodyPost_ret (v := .tuple #[.agg #[.bool sb, .slice A4 L4 c4], .int .i64 (1 : Nat), .int .i64 0]) (by simp [results, Try.results23, go_sem, r5, r6]) rfl ?_
              exact HQ.out
            · have HPA : Hid (∀ w, Calls Try.prog 18 #[.string (s.extract 0 1)] w (RetErr w 6)) := fun w => Parse_no hse (fun x e => hg (good_of (by omega) (by omega) (e.symm.trans HBE.out) (fun e2 e3 => HNG.out e2 (by
                cases hT2 : T with
                | nil => rw [hT2] at e3; simp at e3
                | cons c T' =>
                  rw [hT2] at e3
                  rw [List.head?_take] at e3
                  split at e3
                  · cases e3
                  · exact e3))).1)
              have HBD : Hid (∀ j y, j ≤ s.size → (bs s).take j ≠ fmtL 10 y) := fun j y hj hy => hg (HMX.out j y hj hy).2
              clear hg hse hsz
              go_wp2_with fail
              refine (HPA.out _).mono ?_
              rintro e w4 ⟨rfl, hx4⟩
              obtain ⟨w5, hw5⟩ : ∃ z : World, z = w4.alloc (.cells #[.bool false, .slice none 0 0] 25) := ⟨_, rfl⟩
              have x5 : Ext w4 w5 := by rw [hw5]; exact Ext.alloc _ _
              have HW5 := Lib.hid hw5
              have x45 := hx4.trans x5
              have p1 := x45.frozen q1 f1
              have p2 := x45.frozen q2 f2
              have t1 := x45.cell q1
              have t2 := x45.cell q2
              have hxx := hx1.trans x45
              clear hw5
              have a1 := fun o => (Ext.alloc w4 o).cell (hx4.cell q1)
              have a2 := fun o => (Ext.alloc w4 o).cell (hx4.cell q2)
              have a3 := fun o => (Ext.alloc w4 o).frozen (hx4.cell q1) (hx4.frozen q1 f1)
              have a4 := fun o => (Ext.alloc w4 o).frozen (hx4.cell q2) (hx4.frozen q2 f2)
              go_wp2_with fail
              clear a1 a2 a3 a4
              rw [← HW5.out]
              refine bodyPost_ret (v := .tuple #[.agg #[.bool false, .slice none 0 0], .int .i64 0, .int .i64 6]) (by simp [results, Try.results23, go_sem, t1, t2]) rfl ?_
              exact HN.out _ HBD.out (by repeat' (first | with_reducible exact Ext.refl _ | with_reducible assumption | with_reducible apply Ext.alloc_r | with_reducible apply Ext.drew_r | with_reducible apply Ext.drewN_r | with_reducible apply Ext.set_r | with_reducible exact Nat.le_refl _ | with_reducible refine Ext.trans ?_ ‹Ext _ _›))
        · have HPP : Hid (pre10 T = k) := by show _ = _; unfold pre10; rw [if_neg h48]; exact HLE.out.symm
          by_cases hkp : 0 < k
          · have ht0 : 0 < t.size := by omega
            have hch : ((t[0].toNat : Int) == 48) = false := by
              have h5 := HSY.out 0 ht0
              rw [← List.head?_eq_getElem?] at h5
              rw [beq_eq_false_iff_ne]
              intro h6
              exact h48 (by rw [h5]; congr 1; omega)
            clear h48 HLE
            cases neg with
            | true =>
              have hN : (k + 1) = (if true = true then 1 else 0) + k := by simp; try omega
              have HTK : Hid ((bs s).take (k + 1) = (if true = true then [45] else []) ++ T.take k) := by
                have h5 := take_pre true T k
                rw [← hN, ← HST.out] at h5
                exact h5
              have HMX : Hid (∀ j y, j ≤ s.size → (bs s).take j = fmtL 10 y → j ≤ (k + 1) ∧ Good 10 true (T.take k)) := fun j y hj hy => by
                obtain ⟨i, hji, hi, hg⟩ := HGP.out j y hj hy
                have h5 := good_pre hi hg
                rw [HPP.out] at h5
                exact ⟨by rw [hN, hji]; exact Nat.add_le_add_left h5.1 _, h5.2⟩
              have hNs : (k + 1) ≤ s.size := by rw [hN, hsz]; exact Nat.add_le_add_left (by have := pre10_le T; rw [HPP.out, HLN.out] at this; exact this) _
              have HBE : Hid (bs (s.extract 0 (k + 1)) = (if true = true then [45] else []) ++ T.take k) := by show _ = _; rw [bs_take]; exact HTK.out
              have hse : (s.extract 0 (k + 1)).size ≤ 1000000 := by rw [ByteArray.size_extract]; omega
              clear hN
              by_cases hg : Good 10 true (T.take k)
              · have HPA : Hid (∀ w, Calls Try.prog 18 #[.string (s.extract 0 (k + 1))] w (RetZE w (rdZ 10 true (T.take k)))) := fun w => Parse_yes hse (by rw [HBE.out]; exact (good_yes (by omega) (by omega) hg).symm)
                have HXE : Hid ((bs s).take (k + 1) = fmtL 10 (rdZ 10 true (T.take k))) := by show _ = _; rw [HTK.out]; exact (good_yes (by omega) (by omega) hg).symm
                clear hg hse hsz
                go_wp2_with fail
                refine (HPA.out _).mono ?_
                rintro e w4 ⟨sb, A4, c4, L4, rfl, hz, hx4⟩
                obtain ⟨w5, hw5⟩ : ∃ z : World, z = w4.alloc (.cells #[.bool sb, .slice A4 L4 c4] 25) := ⟨_, rfl⟩
                have x5 : Ext w4 w5 := by rw [hw5]; exact Ext.alloc _ _
                have hb5 := box_new w4 (.bool sb) (.slice A4 L4 c4) 25
                rw [← hw5] at hb5
                have d1 := hb5.1
                have d2 := hb5.2.1
                have HW5 := Lib.hid hw5
                have x45 := hx4.trans x5
                have p1 := x45.frozen q1 f1
                have p2 := x45.frozen q2 f2
                have t1 := x45.cell q1
                have t2 := x45.cell q2
                have hB := World.block_lt_of_cell? w1 _ q1
                obtain ⟨r5, r6, hz', hxx⟩ := fin_z (Nat.le_refl _) hB (hx1.trans x45) (hz.ext x5) t1 t2
                have HQ := Lib.hid (HY.out (k + 1) _ sb A4 c4 L4 _ HXE.out hNs (fun j y hj hy => (HMX.out j y hj hy).1) hz' hxx)
                clear hb5 hw5 hz hz' hxx
                have a1 := fun o => (Ext.alloc w4 o).cell (hx4.cell q1)
                have a2 := fun o => (Ext.alloc w4 o).cell (hx4.cell q2)
                have a3 := fun o => (Ext.alloc w4 o).frozen (hx4.cell q1) (hx4.frozen q1 f1)
                have a4 := fun o => (Ext.alloc w4 o).frozen (hx4.cell q2) (hx4.frozen q2 f2)
                go_wp2_with fail
                clear a1 a2 a3 a4
                rw [← HW5.out]
                refine bodyPost_ret (v := .tuple #[.agg #[.bool sb, .slice A4 L4 c4], .int .i64 ((k + 1) : Nat), .int .i64 0]) (by simp [results, Try.results23, go_sem, r5, r6]) rfl ?_
                exact HQ.out
              · have HPA : Hid (∀ w, Calls Try.prog 18 #[.string (s.extract 0 (k + 1))] w (RetErr w 6)) := fun w => Parse_no hse (fun x e => hg (good_of (by omega) (by omega) (e.symm.trans HBE.out) (fun e2 e3 => HNG.out e2 (by
                  cases hT2 : T with
                  | nil => rw [hT2] at e3; simp at e3
                  | cons c T' =>
                    rw [hT2] at e3
                    rw [List.head?_take] at e3
                    split at e3
                    · cases e3
                    · exact e3))).1)
                have HBD : Hid (∀ j y, j ≤ s.size → (bs s).take j ≠ fmtL 10 y) := fun j y hj hy => hg (HMX.out j y hj hy).2
                clear hg hse hsz
                go_wp2_with fail
                refine (HPA.out _).mono ?_
                rintro e w4 ⟨rfl, hx4⟩
                obtain ⟨w5, hw5⟩ : ∃ z : World, z = w4.alloc (.cells #[.bool false, .slice none 0 0] 25) := ⟨_, rfl⟩
                have x5 : Ext w4 w5 := by rw [hw5]; exact Ext.alloc _ _
                have HW5 := Lib.hid hw5
                have x45 := hx4.trans x5
                have p1 := x45.frozen q1 f1
                have p2 := x45.frozen q2 f2
                have t1 := x45.cell q1
                have t2 := x45.cell q2
                have hxx := hx1.trans x45
                clear hw5
                have a1 := fun o => (Ext.alloc w4 o).cell (hx4.cell q1)
                have a2 := fun o => (Ext.alloc w4 o).cell (hx4.cell q2)
                have a3 := fun o => (Ext.alloc w4 o).frozen (hx4.cell q1) (hx4.frozen q1 f1)
                have a4 := fun o => (Ext.alloc w4 o).frozen (hx4.cell q2) (hx4.frozen q2 f2)
                go_wp2_with fail
                clear a1 a2 a3 a4
                rw [← HW5.out]
                refine bodyPost_ret (v := .tuple #[.agg #[.bool false, .slice none 0 0], .int .i64 0, .int .i64 6]) (by simp [results, Try.results23, go_sem, t1, t2]) rfl ?_
                exact HN.out _ HBD.out (by repeat' (first | with_reducible exact Ext.refl _ | with_reducible assumption | with_reducible apply Ext.alloc_r | with_reducible apply Ext.drew_r | with_reducible apply Ext.drewN_r | with_reducible apply Ext.set_r | with_reducible exact Nat.le_refl _ | with_reducible refine Ext.trans ?_ ‹Ext _ _›))
            | false =>
              have hN : k = (if false = true then 1 else 0) + k := by simp; try omega
              have HTK : Hid ((bs s).take k = (if false = true then [45] else []) ++ T.take k) := by
                have h5 := take_pre false T k
                rw [← hN, ← HST.out] at h5
                exact h5
              have HMX : Hid (∀ j y, j ≤ s.size → (bs s).take j = fmtL 10 y → j ≤ k ∧ Good 10 false (T.take k)) := fun j y hj hy => by
                obtain ⟨i, hji, hi, hg⟩ := HGP.out j y hj hy
                have h5 := good_pre hi hg
                rw [HPP.out] at h5
                exact ⟨by rw [hN, hji]; exact Nat.add_le_add_left h5.1 _, h5.2⟩
              have hNs : k ≤ s.size := by rw [hN, hsz]; exact Nat.add_le_add_left (by have := pre10_le T; rw [HPP.out, HLN.out] at this; exact this) _
              have HBE : Hid (bs (s.extract 0 k) = (if false = true then [45] else []) ++ T.take k) := by show _ = _; rw [bs_take]; exact HTK.out
              have hse : (s.extract 0 k).size ≤ 1000000 := by rw [ByteArray.size_extract]; omega
              clear hN
              by_cases hg : Good 10 false (T.take k)
              · have HPA : Hid (∀ w, Calls Try.prog 18 #[.string (s.extract 0 k)] w (RetZE w (rdZ 10 false (T.take k)))) := fun w => Parse_yes hse (by rw [HBE.out]; exact (good_yes (by omega) (by omega) hg).symm)
                have HXE : Hid ((bs s).take k = fmtL 10 (rdZ 10 false (T.take k))) := by show _ = _; rw [HTK.out]; exact (good_yes (by omega) (by omega) hg).symm
                clear hg hse hsz
                go_wp2_with fail
                refine (HPA.out _).mono ?_
                rintro e w4 ⟨sb, A4, c4, L4, rfl, hz, hx4⟩
                obtain ⟨w5, hw5⟩ : ∃ z : World, z = w4.alloc (.cells #[.bool sb, .slice A4 L4 c4] 25) := ⟨_, rfl⟩
                have x5 : Ext w4 w5 := by rw [hw5]; exact Ext.alloc _ _
                have hb5 := box_new w4 (.bool sb) (.slice A4 L4 c4) 25
                rw [← hw5] at hb5
                have d1 := hb5.1
                have d2 := hb5.2.1
                have HW5 := Lib.hid hw5
                have x45 := hx4.trans x5
                have p1 := x45.frozen q1 f1
                have p2 := x45.frozen q2 f2
                have t1 := x45.cell q1
                have t2 := x45.cell q2
                have hB := World.block_lt_of_cell? w1 _ q1
                obtain ⟨r5, r6, hz', hxx⟩ := fin_z (Nat.le_refl _) hB (hx1.trans x45) (hz.ext x5) t1 t2
                have HQ := Lib.hid (HY.out k _ sb A4 c4 L4 _ HXE.out hNs (fun j y hj hy => (HMX.out j y hj hy).1) hz' hxx)
                clear hb5 hw5 hz hz' hxx
                have a1 := fun o => (Ext.alloc w4 o).cell (hx4.cell q1)
                have a2 := fun o => (Ext.alloc w4 o).cell (hx4.cell q2)
                have a3 := fun o => (Ext.alloc w4 o).frozen (hx4.cell q1) (hx4.frozen q1 f1)
                have a4 := fun o => (Ext.alloc w4 o).frozen (hx4.cell q2) (hx4.frozen q2 f2)
                go_wp2_with fail
                clear a1 a2 a3 a4
                rw [← HW5.out]
                refine bodyPost_ret (v := .tuple #[.agg #[.bool sb, .slice A4 L4 c4], .int .i64 (k : Nat), .int .i64 0]) (by simp [results, Try.results23, go_sem, r5, r6]) rfl ?_
                exact HQ.out
              · have HPA : Hid (∀ w, Calls Try.prog 18 #[.string (s.extract 0 k)] w (RetErr w 6)) := fun w => Parse_no hse (fun x e => hg (good_of (by omega) (by omega) (e.symm.trans HBE.out) (fun e2 e3 => HNG.out e2 (by
                  cases hT2 : T with
                  | nil => rw [hT2] at e3; simp at e3
                  | cons c T' =>
                    rw [hT2] at e3
                    rw [List.head?_take] at e3
                    split at e3
                    · cases e3
                    · exact e3))).1)
                have HBD : Hid (∀ j y, j ≤ s.size → (bs s).take j ≠ fmtL 10 y) := fun j y hj hy => hg (HMX.out j y hj hy).2
                clear hg hse hsz
                go_wp2_with fail
                refine (HPA.out _).mono ?_
                rintro e w4 ⟨rfl, hx4⟩
                obtain ⟨w5, hw5⟩ : ∃ z : World, z = w4.alloc (.cells #[.bool false, .slice none 0 0] 25) := ⟨_, rfl⟩
                have x5 : Ext w4 w5 := by rw [hw5]; exact Ext.alloc _ _
                have HW5 := Lib.hid hw5
                have x45 := hx4.trans x5
                have p1 := x45.frozen q1 f1
                have p2 := x45.frozen q2 f2
                have t1 := x45.cell q1
                have t2 := x45.cell q2
                have hxx := hx1.trans x45
                clear hw5
                have a1 := fun o => (Ext.alloc w4 o).cell (hx4.cell q1)
                have a2 := fun o => (Ext.alloc w4 o).cell (hx4.cell q2)
                have a3 := fun o => (Ext.alloc w4 o).frozen (hx4.cell q1) (hx4.frozen q1 f1)
                have a4 := fun o => (Ext.alloc w4 o).frozen (hx4.cell q2) (hx4.frozen q2 f2)
                go_wp2_with fail
                clear a1 a2 a3 a4
                rw [← HW5.out]
                refine bodyPost_ret (v := .tuple #[.agg #[.bool false, .slice none 0 0], .int .i64 0, .int .i64 6]) (by simp [results, Try.results23, go_sem, t1, t2]) rfl ?_
                exact HN.out _ HBD.out (by repeat' (first | with_reducible exact Ext.refl _ | with_reducible assumption | with_reducible apply Ext.alloc_r | with_reducible apply Ext.drew_r | with_reducible apply Ext.drewN_r | with_reducible apply Ext.set_r | with_reducible exact Nat.le_refl _ | with_reducible refine Ext.trans ?_ ‹Ext _ _›))
          · obtain rfl : k = 0 := by omega
            clear h48 HLE
            cases neg with
            | true =>
              have hN : 1 = (if true = true then 1 else 0) + 0 := by simp; try omega
              have HTK : Hid ((bs s).take 1 = (if true = true then [45] else []) ++ T.take 0) := by
                have h5 := take_pre true T 0
                rw [← hN, ← HST.out] at h5
                exact h5
              have HMX : Hid (∀ j y, j ≤ s.size → (bs s).take j = fmtL 10 y → j ≤ 1 ∧ Good 10 true (T.take 0)) := fun j y hj hy => by
                obtain ⟨i, hji, hi, hg⟩ := HGP.out j y hj hy
                have h5 := good_pre hi hg
                rw [HPP.out] at h5
                exact ⟨by rw [hN, hji]; exact Nat.add_le_add_left h5.1 _, h5.2⟩
              have hNs : 1 ≤ s.size := by rw [hN, hsz]; exact Nat.add_le_add_left (by have := pre10_le T; rw [HPP.out, HLN.out] at this; exact this) _
              have HBE : Hid (bs (s.extract 0 1) = (if true = true then [45] else []) ++ T.take 0) := by show _ = _; rw [bs_take]; exact HTK.out
              have hse : (s.extract 0 1).size ≤ 1000000 := by rw [ByteArray.size_extract]; omega
              clear hN
              have hg : ¬ Good 10 true (T.take 0) := fun g => g.ne rfl
              have HPA : Hid (∀ w, Calls Try.prog 18 #[.string (s.extract 0 1)] w (RetErr w 6)) := fun w => Parse_no hse (fun x e => hg (good_of (by omega) (by omega) (e.symm.trans HBE.out) (fun e2 e3 => HNG.out e2 (by
                cases hT2 : T with
                | nil => rw [hT2] at e3; simp at e3
                | cons c T' =>
                  rw [hT2] at e3
                  rw [List.head?_take] at e3
                  split at e3
                  · cases e3
                  · exact e3))).1)
              have HBD : Hid (∀ j y, j ≤ s.size → (bs s).take j ≠ fmtL 10 y) := fun j y hj hy => hg (HMX.out j y hj hy).2
              clear hg hse hsz
              go_wp2_with fail
              refine (HPA.out _).mono ?_
              rintro e w4 ⟨rfl, hx4⟩
              obtain ⟨w5, hw5⟩ : ∃ z : World, z = w4.alloc (.cells #[.bool false, .slice none 0 0] 25) := ⟨_, rfl⟩
              have x5 : Ext w4 w5 := by rw [hw5]; exact Ext.alloc _ _
              have HW5 := Lib.hid hw5
              have x45 := hx4.trans x5
              have p1 := x45.frozen q1 f1
              have p2 := x45.frozen q2 f2
              have t1 := x45.cell q1
              have t2 := x45.cell q2
              have hxx := hx1.trans x45
              clear hw5
              have a1 := fun o => (Ext.alloc w4 o).cell (hx4.cell q1)
              have a2 := fun o => (Ext.alloc w4 o).cell (hx4.cell q2)
              have a3 := fun o => (Ext.alloc w4 o).frozen (hx4.cell q1) (hx4.frozen q1 f1)
              have a4 := fun o => (Ext.alloc w4 o).frozen (hx4.cell q2) (hx4.frozen q2 f2)
              go_wp2_with fail
              clear a1 a2 a3 a4
              rw [← HW5.out]
              refine bodyPost_ret (v := .tuple #[.agg #[.bool false, .slice none 0 0], .int .i64 0, .int .i64 6]) (by simp [results, Try.results23, go_sem, t1, t2]) rfl ?_
              exact HN.out _ HBD.out (by repeat' (first | with_reducible exact Ext.refl _ | with_reducible assumption | with_reducible apply Ext.alloc_r | with_reducible apply Ext.drew_r | with_reducible apply Ext.drewN_r | with_reducible apply Ext.set_r | with_reducible exact Nat.le_refl _ | with_reducible refine Ext.trans ?_ ‹Ext _ _›))
            | false =>
              have hN : 0 = (if false = true then 1 else 0) + 0 := by simp; try omega
              have HTK : Hid ((bs s).take 0 = (if false = true then [45] else []) ++ T.take 0) := by
                have h5 := take_pre false T 0
                rw [← hN, ← HST.out] at h5
                exact h5
              have HMX : Hid (∀ j y, j ≤ s.size → (bs s).take j = fmtL 10 y → j ≤ 0 ∧ Good 10 false (T.take 0)) := fun j y hj hy => by
                obtain ⟨i, hji, hi, hg⟩ := HGP.out j y hj hy
                have h5 := good_pre hi hg
                rw [HPP.out] at h5
                exact ⟨by rw [hN, hji]; exact Nat.add_le_add_left h5.1 _, h5.2⟩
              have hNs : 0 ≤ s.size := by rw [hN, hsz]; exact Nat.add_le_add_left (by have := pre10_le T; rw [HPP.out, HLN.out] at this; exact this) _
              have HBE : Hid (bs ByteArray.empty = (if false = true then [45] else []) ++ T.take 0) := by show _ = _; exact HTK.out
              have hse : ByteArray.empty.size ≤ 1000000 := by simp
              clear hN
              have hg : ¬ Good 10 false (T.take 0) := fun g => g.ne rfl
              have HPA : Hid (∀ w, Calls Try.prog 18 #[.string ByteArray.empty] w (RetErr w 6)) := fun w => Parse_no hse (fun x e => hg (good_of (by omega) (by omega) (e.symm.trans HBE.out) (fun e2 e3 => HNG.out e2 (by
                cases hT2 : T with
                | nil => rw [hT2] at e3; simp at e3
                | cons c T' =>
                  rw [hT2] at e3
                  rw [List.head?_take] at e3
                  split at e3
                  · cases e3
                  · exact e3))).1)
              have HBD : Hid (∀ j y, j ≤ s.size → (bs s).take j ≠ fmtL 10 y) := fun j y hj hy => hg (HMX.out j y hj hy).2
              clear hg hse hsz
              go_wp2_with fail
              refine (HPA.out _).mono ?_
              rintro e w4 ⟨rfl, hx4⟩
              obtain ⟨w5, hw5⟩ : ∃ z : World, z = w4.alloc (.cells #[.bool false, .slice none 0 0] 25) := ⟨_, rfl⟩
              have x5 : Ext w4 w5 := by rw [hw5]; exact Ext.alloc _ _
              have HW5 := Lib.hid hw5
              have x45 := hx4.trans x5
              have p1 := x45.frozen q1 f1
              have p2 := x45.frozen q2 f2
              have t1 := x45.cell q1
              have t2 := x45.cell q2
              have hxx := hx1.trans x45
              clear hw5
              have a1 := fun o => (Ext.alloc w4 o).cell (hx4.cell q1)
              have a2 := fun o => (Ext.alloc w4 o).cell (hx4.cell q2)
              have a3 := fun o => (Ext.alloc w4 o).frozen (hx4.cell q1) (hx4.frozen q1 f1)
              have a4 := fun o => (Ext.alloc w4 o).frozen (hx4.cell q2) (hx4.frozen q2 f2)
              go_wp2_with fail
              clear a1 a2 a3 a4
              rw [← HW5.out]
              refine bodyPost_ret (v := .tuple #[.agg #[.bool false, .slice none 0 0], .int .i64 0, .int .i64 6]) (by simp [results, Try.results23, go_sem, t1, t2]) rfl ?_
              exact HN.out _ HBD.out (by repeat' (first | with_reducible exact Ext.refl _ | with_reducible assumption | with_reducible apply Ext.alloc_r | with_reducible apply Ext.drew_r | with_reducible apply Ext.drewN_r | with_reducible apply Ext.set_r | with_reducible exact Nat.le_refl _ | with_reducible refine Ext.trans ?_ ‹Ext _ _›))
/-- The call returns the integer x, a length and OK. -/
def RetZkE (w : World) (x : Int) (k : Nat) (e : Ending) (w' : World) : Prop := ∃ sb A c L, e = .returned (.tuple #[.agg #[.bool sb, .slice A L c], .int .i64 (k : Nat), .int .i64 0]) ∧ ZO w' w.heap.size sb A c L x ∧ Ext w w'
theorem Prefix_yes {w : World} {s : ByteArray} {k : Nat} {x : Int} (hs : s.size ≤ 1000000) (hk : k ≤ s.size) (hx : (bs s).take k = fmtL 10 x) (hm : ∀ j y, j ≤ s.size → (bs s).take j = fmtL 10 y → j ≤ k) : Calls Try.prog 23 #[.string s] w (RetZkE w x k) := by
  refine prefix_walk hs _ ?_ ?_
  · intro k' x' sb A c L w' hx' hk' hm' hz he
    have h1 := hm _ _ hk' hx'
    have h2 := hm' _ _ hk hx
    obtain rfl : k' = k := by omega
    have h3 := fmtL_inj (by omega) (by omega) (hx.symm.trans hx')
    subst h3
    exact ⟨sb, A, c, L, rfl, hz, he⟩
  · intro w' hn
    exact absurd hx (hn k x hk)
theorem Prefix_no {w : World} {s : ByteArray} (hs : s.size ≤ 1000000) (hn : ∀ j y, j ≤ s.size → (bs s).take j ≠ fmtL 10 y) :
    Calls Try.prog 23 #[.string s] w fun e w' => e = .returned (.tuple #[.agg #[.bool false, .slice none 0 0], .int .i64 0, .int .i64 6]) ∧ Ext w w' := by
  refine prefix_walk hs _ ?_ ?_
  · intro k' x' sb A c L w' hx' hk'
    exact absurd hx' (hn k' x' hk')
  · intro w' _ he
    exact ⟨rfl, he⟩
theorem max_exists (P : Nat → Prop) : ∀ n, (∀ j, j ≤ n → ¬ P j) ∨ ∃ k, k ≤ n ∧ P k ∧ ∀ j, j ≤ n → P j → j ≤ k
  | 0 => by
    by_cases h : P 0
    · exact .inr ⟨0, Nat.le_refl _, h, fun j hj _ => hj⟩
    · exact .inl fun j hj => by obtain rfl : j = 0 := by omega
                                exact h
  | n + 1 => by
    by_cases h : P (n + 1)
    · exact .inr ⟨n + 1, Nat.le_refl _, h, fun j hj _ => hj⟩
    · rcases max_exists P n with h1 | ⟨k, h1, h2, h3⟩
      · refine .inl fun j hj => ?_
        rcases Nat.lt_or_ge j (n + 1) with h4 | h4
        · exact h1 j (by omega)
        · obtain rfl : j = n + 1 := by omega
          exact h
      · refine .inr ⟨k, by omega, h2, fun j hj hp => ?_⟩
        rcases Nat.lt_or_ge j (n + 1) with h4 | h4
        · exact h3 j (by omega) hp
        · obtain rfl : j = n + 1 := by omega
          exact absurd hp h
end Go.Proofs.Ytjhknnioefipmaa
