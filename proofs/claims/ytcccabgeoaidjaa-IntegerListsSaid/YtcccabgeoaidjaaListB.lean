/- The walk of IntegerLists for lists of at most twelve integers. -/
import Derived.Test.YtcccabgeoaidjaaListA
namespace Go.Proofs.Ytcccabgeoaidjaa
open Go.RowKit

def sumK (xs : List Int) (k : Nat) : Int := (xs.take k).foldl (· + ·) 0
def prodK (xs : List Int) (k : Nat) : Int := (xs.take k).foldl (fun p x => x * p) 1
def Small4 (xs : List Int) (k : Nat) : Prop := ∀ j (h : j < xs.length), j < k → dl xs[j].natAbs ≤ 4
theorem sumK_succ {xs : List Int} {k : Nat} (h : k < xs.length) : sumK xs (k + 1) = sumK xs k + xs[k] := fold_take h _ _
theorem prodK_succ {xs : List Int} {k : Nat} (h : k < xs.length) : prodK xs (k + 1) = xs[k] * prodK xs k := fold_take h (fun p x => x * p) _
theorem sumK_bound {xs : List Int} : ∀ {k : Nat}, k ≤ xs.length → Small4 xs k → dl (sumK xs k).natAbs ≤ 4 + k
  | 0, _, _ => by show dl 0 ≤ _; have : dl 0 = 0 := rfl; omega
  | k + 1, hk, h => by
    rw [sumK_succ (by omega)]
    have h1 := sumK_bound (k := k) (by omega) (fun j hj hl => h j hj (by omega))
    have h2 := h k (by omega) (by omega)
    have h3 := dlz_add (sumK xs k) (xs[k]'(by omega))
    omega
theorem prodK_bound {xs : List Int} : ∀ {k : Nat}, k ≤ xs.length → Small4 xs k → dl (prodK xs k).natAbs ≤ 1 + 4 * k
  | 0, _, _ => by show dl 1 ≤ _; have : dl 1 ≤ 1 := dl_le (by unfold B32; decide); omega
  | k + 1, hk, h => by
    rw [prodK_succ (by omega)]
    have h1 := prodK_bound (k := k) (by omega) (fun j hj hl => h j hj (by omega))
    have h2 := h k (by omega) (by omega)
    have h3 := dlz_mul (xs[k]'(by omega)) (prodK xs k)
    omega
theorem fold_shift {f : Int → Int → Int} (hf : ∀ a b c, f (f a b) c = f (f a c) b) : ∀ (xs : List Int) (a x : Int), xs.foldl f (f a x) = f (xs.foldl f a) x
  | [], _, _ => rfl
  | y :: ys, a, x => by
    show ys.foldl f (f (f a x) y) = f (ys.foldl f (f a y)) x
    rw [hf a x y, fold_shift hf ys]
theorem fold_rev {f : Int → Int → Int} (hf : ∀ a b c, f (f a b) c = f (f a c) b) : ∀ (xs : List Int) (a : Int), xs.reverse.foldl f a = xs.foldl f a
  | [], _ => rfl
  | y :: ys, a => by
    rw [List.reverse_cons, List.foldl_append, fold_rev hf ys]
    exact (fold_shift hf ys a y).symm
theorem prodK_all (xs : List Int) : prodK xs xs.length = xs.foldl (· * ·) 1 := by
  unfold prodK
  rw [List.take_length, show (fun (p x : Int) => x * p) = (fun (p x : Int) => p * x) from funext fun p => funext fun x => Int.mul_comm _ _]
theorem zl_back {w wr : World} {g k cb : Nat} {Ab : Option Addr} {xs : List Int} {vals : List Value} (ho : wr.ownsRow g 25 2 (.slice Ab k cb) k vals) (hb : BackOf w xs k vals) (hx : Ext w wr) (hk : k = xs.length) : ZL wr Ab xs.reverse := by
  intro j hj
  have hj' : j < k := by rw [List.length_reverse] at hj; omega
  have hl : vals.length = k * 2 := ho.1
  obtain ⟨s, A, c, L, e0, e1, hz⟩ := hb j hj' (by omega)
  rcases ho.2 with ⟨_, h2⟩ | ⟨g', cap, cur, hv, _, hh, _⟩
  · omega
  · injection hv with h1 _ h3
    subst h1 h3
    refine ⟨g', 0, s, A, c, L, rfl, (Array.getElem?_eq_some_iff.1 hh).1, ?_, ?_, ?_⟩
    · rw [Nat.zero_add, World.ownsRow.cellAt ho (j * 2) (by omega), Nat.mul_comm]; exact e0
    · rw [Nat.zero_add, World.ownsRow.cellAt ho (j * 2 + 1) (by omega), Nat.mul_comm]; exact e1
    · rw [List.getElem_reverse]; exact hz.ext hx
def LRel (w : World) (g n : Nat) (xs : List Int) (back i : Value) (wr : World) : Prop :=
  ∃ (k : Nat) (s : Bool) (A : Option Addr) (L c : Nat) (s' : Bool) (A' : Option Addr) (L' c' : Nat) (Ab : Option Addr) (cb : Nat), k ≤ n ∧ i = .int .i64 k ∧ back = .slice Ab k cb ∧ Small4 xs k ∧ LB w wr g (sumK xs k) (prodK xs k) k xs s A L c s' A' L' c' Ab cb

set_option maxHeartbeats 40000000 in
set_option maxRecDepth 100000 in
theorem integerLists_main {w : World} {A0 : Option Addr} {c n : Nat} {xs : List Int} (h : ZL w A0 xs) (hn : n = xs.length) (hn12 : n ≤ 12) :
    Calls Try.prog 9 #[.slice A0 n c] w fun e w' => e = .returned (.bool true) ∧ Ext w w' := by
  have HL := Lib.hid h
  have HN := Lib.hid hn
  clear h hn
  go_enter Try.func9, Try.ntmps9
  go_wp2_with fail
  refine (lawake_z _).mono ?_
  rintro e w1 ⟨rfl, x1⟩
  go_wp2_with fail
  refine (of_z (n := 0) (by omega)).mono ?_
  rintro e w2 ⟨s0, A1, c0, L0, rfl, z0, x2⟩
  go_wp2_with fail
  refine (of_z (n := 1) (by omega)).mono ?_
  rintro e w3 ⟨s1, A2, c1, L1, rfl, z1, x3⟩
  have HI : Hid (LB w ((w3.alloc (.cells #[.bool s0, .slice A1 L0 c0] 25)).alloc (.cells #[.bool s1, .slice A2 L1 c1] 25)) w3.heap.size 0 1 0 xs s0 A1 L0 c0 s1 A2 L1 c1 none 0) := by
    have b0 := box_at w3 #[.bool s0, .slice A1 L0 c0] 25
    have b1 := box_at (w3.alloc (.cells #[.bool s0, .slice A1 L0 c0] 25)) #[.bool s1, .slice A2 L1 c1] 25
    simp only [World.size_alloc] at b1
    have y := Ext.alloc (w3.alloc (.cells #[.bool s0, .slice A1 L0 c0] 25)) (.cells #[.bool s1, .slice A2 L1 c1] 25)
    have y2 := (Ext.alloc w3 (.cells #[.bool s0, .slice A1 L0 c0] 25)).trans y
    have d0 := b0.1 0 (.bool s0) rfl
    have d1 := b0.1 1 (.slice A1 L0 c0) rfl
    have hs := ((x1.trans x2).trans x3).size
    exact ⟨hs, y.cell d0, y.cell d1, y.frozen d0 (b0.2 0), y.frozen d1 (b0.2 1), b1.1 0 (.bool s1) rfl, b1.1 1 (.slice A2 L1 c1) rfl, b1.2 0, b1.2 1, (IsBox.new _ _ rfl).ext y, IsBox.new _ _ (by simp),
      (z0.mono (Nat.zero_le _)).ext (x3.trans y2), (z1.mono (Nat.zero_le _)).ext y2, ⟨[], World.ownsRow_nil _ _ _ _, fun j hj => absurd hj (by omega)⟩, ((x1.trans x2).trans x3).trans y2⟩
  clear z0 z1
  go_wp2_with fail
  go_loopw [5, 6] (fun back i wr => LRel w w3.heap.size n xs back i wr) (fun _ i _ => n - (intOf i).toNat)
  case atStart => exact ⟨0, s0, A1, L0, c0, s1, A2, L1, c1, none, 0, Nat.zero_le _, rfl, rfl, (fun j hj hl => absurd hl (by omega)), HI.out⟩
  case round =>
    clear HI
    obtain ⟨k, s, A, L, ca, s', A', L', c', Ab, cb, hk, rfl, rfl, hsm, hB⟩ := hrel
    by_cases hlt : k < n
    · have hkx : k < xs.length := by rw [← HN.out]; exact hlt
      obtain ⟨b, off, s2, A3, c2, L2, hA0, hb, e0, e1, hv⟩ := HL.out k hkx
      obtain ⟨b', off', s4, A4, c4, L4, hA0', hb', e2, e3, hv2⟩ := HL.out (n - 1 - k) (by rw [← HN.out]; omega)
      rw [hA0] at hA0'
      injection hA0' with hA0'
      injection hA0' with i1 i2
      subst hA0 i1 i2
      have HE := Lib.hid (And.intro e0 (And.intro e1 (And.intro e2 e3)))
      have HV := Lib.hid hv
      have HV2 := Lib.hid hv2
      have HK := Lib.hid hkx
      have d0 := hB.ex.cell e0
      have d1 := hB.ex.cell e1
      clear e0 e1 e2 e3 hv hv2
      by_cases h4 : L2 ≤ 4
      · have h4' : ¬ 4 < (L2 : Int) := by omega
        have HM := Lib.hid hsm
        have hd2 : dl (xs[k]).natAbs ≤ 4 := Nat.le_trans HV.out.nv.dl h4
        have hds : dl (sumK xs k).natAbs ≤ 100 := by have := sumK_bound (k := k) (by omega) hsm; omega
        have hdp : dl (prodK xs k).natAbs ≤ 100 := by have := prodK_bound (k := k) (by omega) hsm; omega
        have t0 := hB.t0
        have t1 := hB.t1
        have f0 := hB.f0
        have f1 := hB.f1
        have HB := Lib.hid hB
        clear hB hsm h4
        go_wp2_with fail
        go_cut [] (fun wx => ∃ s A L c, LB w wx w3.heap.size (sumK xs k + xs[k]) (prodK xs k) k xs s A L c s' A' L' c' Ab cb)
        case first =>
          go_region_with (first
            | (go_at_call 25; refine (add_z (HB.out.zs.zv.ext (by repeat' (first | with_reducible exact Ext.refl _ | with_reducible assumption | with_reducible apply Ext.alloc_r | with_reducible apply Ext.drew_r | with_reducible apply Ext.drewN_r | with_reducible refine Ext.trans ?_ ‹Ext _ _›))) (HV.out.ext (HB.out.ex.trans (by repeat' (first | with_reducible exact Ext.refl _ | with_reducible assumption | with_reducible apply Ext.alloc_r | with_reducible apply Ext.drew_r | with_reducible apply Ext.drewN_r | with_reducible refine Ext.trans ?_ ‹Ext _ _›)))) (by omega) (by omega)).mono ?_; rintro e w5 ⟨s5, A5, c5, L5, rfl, z5, x5⟩; have y : Ext wr w5 := (by repeat' (first | with_reducible exact Ext.refl _ | with_reducible assumption | with_reducible apply Ext.alloc_r | with_reducible apply Ext.drew_r | with_reducible apply Ext.drewN_r | with_reducible refine Ext.trans ?_ ‹Ext _ _›)); have q0 := y.cell t0; have q1 := y.cell t1; have g0 := y.frozen t0 f0; have g1 := y.frozen t1 f1; have hlb := Lib.hid (HB.out.sum y z5); clear z5 x5 y))
          all_goals (go_wp2_with fail; go_meet)
          all_goals exact ⟨_, _, _, _, hlb.out⟩
        case rest =>
          obtain ⟨s5, A5, L5, c5, hB5⟩ := hcut
          clear t0 t1 f0 f1 HB d0 d1
          have t0 := hB5.p0
          have t1 := hB5.p1
          have f0 := hB5.h0
          have f1 := hB5.h1
          have d0 := hB5.ex.cell HE.out.1
          have d1 := hB5.ex.cell HE.out.2.1
          have HB := Lib.hid hB5
          clear hB5
          go_wp2_with fail
          go_cut [] (fun wx => ∃ s' A' L' c', LB w wx w3.heap.size (sumK xs k + xs[k]) (xs[k] * prodK xs k) k xs s5 A5 L5 c5 s' A' L' c' Ab cb)
          case first =>
            go_region_with (first
              | (go_at_call 17; refine (mul_z (HV.out.ext (HB.out.ex.trans (by repeat' (first | with_reducible exact Ext.refl _ | with_reducible assumption | with_reducible apply Ext.alloc_r | with_reducible apply Ext.drew_r | with_reducible apply Ext.drewN_r | with_reducible refine Ext.trans ?_ ‹Ext _ _›)))) (HB.out.zp.zv.ext (by repeat' (first | with_reducible exact Ext.refl _ | with_reducible assumption | with_reducible apply Ext.alloc_r | with_reducible apply Ext.drew_r | with_reducible apply Ext.drewN_r | with_reducible refine Ext.trans ?_ ‹Ext _ _›))) (by omega) (by omega)).mono ?_; rintro e w6 ⟨s6, A6, c6, L6, rfl, z6, x6⟩; have y : Ext wc w6 := (by repeat' (first | with_reducible exact Ext.refl _ | with_reducible assumption | with_reducible apply Ext.alloc_r | with_reducible apply Ext.drew_r | with_reducible apply Ext.drewN_r | with_reducible refine Ext.trans ?_ ‹Ext _ _›)); have q0 := y.cell t0; have q1 := y.cell t1; have g0 := y.frozen t0 f0; have g1 := y.frozen t1 f1; have hlb := Lib.hid (HB.out.prod y z6); clear z6 x6 y))
            all_goals (go_wp2_with fail; go_meet)
            all_goals exact ⟨_, _, _, _, hlb.out⟩
          case rest =>
            obtain ⟨s6, A6, L6, c6, hB6⟩ := hcut
            clear t0 t1 f0 f1 HB d0 d1
            obtain ⟨vals, how, hbk⟩ := hB6.ow
            have d0 := hB6.ex.cell HE.out.2.2.1
            have d1 := hB6.ex.cell HE.out.2.2.2
            have HB := Lib.hid hB6
            have HW := Lib.hid how
            have HBK := Lib.hid hbk
            clear hB6 how hbk
            go_wp2_with (at_builtin; refine wpList_app1_2 rfl _ _ _ rfl (w3.heap.size + 2) 25 _ 32 Try.underlying53 info_Z rfl (by omega) Ab cb k vals rfl ?how wc.heap.size (.bool s4) (.slice A4 L4 c4) rfl ?hc0 ?hc1 rfl rfl ?hl ?hB ?hh)
            case how => exact World.ownsRow.alloc HW.out _
            case hc0 => exact (box_at _ _ _).1 0 _ rfl
            case hc1 => exact (box_at _ _ _).1 1 _ rfl
            case hl => omega
            case hB => have := HB.out.i1.lt; simp only [World.size_alloc]; omega
            case hh =>
              intro Ab2 cb2 w7 hn hg
              have hq : LB w w7 w3.heap.size (sumK xs (k + 1)) (prodK xs (k + 1)) (k + 1) xs s5 A5 L5 c5 s6 A6 L6 c6 Ab2 cb2 := by
                rw [sumK_succ HK.out, prodK_succ HK.out]
                refine HB.out.app (Ext.alloc _ _) (World.ownsRow.alloc HW.out _) HBK.out hn hg (fun hl => ?_)
                have hv := HV2.out
                simp only [HN.out] at hv
                exact hv
              have HQ := Lib.hid hq
              have HM2 : Hid (Small4 xs (k + 1)) := Lib.hid (fun j hj hl => by
                rcases Nat.lt_or_ge j k with hjk | hjk
                · exact HM.out j hj hjk
                · obtain rfl : j = k := by omega
                  exact hd2)
              clear hq hn hg d0 d1
              go_wp2_with fail
              go_roundw
              case rel => exact ⟨k + 1, s5, A5, L5, c5, s6, A6, L6, c6, Ab2, cb2, by omega, by go_num, rfl, HM2.out, HQ.out⟩
              case measure => simp [intOf]; omega
      · have h4' : 4 < (L2 : Int) := by omega
        have hx := hB.ex
        have HB := Lib.hid hB
        have HM := Lib.hid hsm
        clear hB hsm h4
        go_wp2_with fail
        go_ret
        exact ⟨rfl, hx⟩
    · obtain rfl : k = n := by omega
      have t0 := hB.t0
      have t1 := hB.t1
      have d0 := hB.p0
      have d1 := hB.p1
      have ES : Hid (sumK xs k = xs.foldl (· + ·) 0) := Lib.hid (by unfold sumK; rw [HN.out, List.take_length])
      have EP : Hid (prodK xs k = xs.foldl (· * ·) 1) := Lib.hid (by rw [HN.out]; exact prodK_all xs)
      have hd : ∀ x ∈ xs, dl x.natAbs ≤ 4 := fun x hx => by
        obtain ⟨j, hj, rfl⟩ := List.getElem_of_mem hx
        exact hsm j hj (by rw [HN.out]; exact hj)
      have HD := Lib.hid hd
      obtain ⟨vals, how, hbk⟩ := hB.ow
      have HZ := Lib.hid (zl_back how hbk hB.ex HN.out)
      have HB := Lib.hid hB
      clear hsm hB hd how hbk
      go_wp2_with fail
      have HK : Hid (∀ w', Ext wr w' → Ext wr w' ∧ w'.cell? ⟨w3.heap.size, 0, none⟩ = some (.bool s) ∧ w'.cell? ⟨w3.heap.size, 1, none⟩ = some (.slice A L ca) ∧ w'.cell? ⟨w3.heap.size + 1, 0, none⟩ = some (.bool s') ∧ w'.cell? ⟨w3.heap.size + 1, 1, none⟩ = some (.slice A' L' c')) := fun w' hk => ⟨hk, hk.cell t0, hk.cell t1, hk.cell d0, hk.cell d1⟩
      first
      | go_region_held3 (fun w' => Ext wr w' ∧ w'.cell? ⟨w3.heap.size, 0, none⟩ = some (.bool s) ∧ w'.cell? ⟨w3.heap.size, 1, none⟩ = some (.slice A L ca) ∧ w'.cell? ⟨w3.heap.size + 1, 0, none⟩ = some (.bool s') ∧ w'.cell? ⟨w3.heap.size + 1, 1, none⟩ = some (.slice A' L' c'))
          ((refine HK.out _ ?_; (repeat' (first | with_reducible exact Ext.refl _ | with_reducible assumption | with_reducible apply Ext.alloc_r | with_reducible apply Ext.drew_r | with_reducible apply Ext.drewN_r | with_reducible refine Ext.trans ?_ ‹Ext _ _›))))
          (first
            | (go_at_call_of 29 (#[Value.agg #[Value.bool s7, Value.slice A7 L7 c7], Value.agg #[Value.bool s', Value.slice A' L' c']]); refine (same_yes (v7.zv.ext (by repeat' (first | with_reducible exact Ext.refl _ | with_reducible assumption | with_reducible apply Ext.alloc_r | with_reducible apply Ext.drew_r | with_reducible apply Ext.drewN_r | with_reducible refine Ext.trans ?_ ‹Ext _ _›))) (HB.out.zp.zv.ext (by repeat' (first | with_reducible exact Ext.refl _ | with_reducible assumption | with_reducible apply Ext.alloc_r | with_reducible apply Ext.drew_r | with_reducible apply Ext.drewN_r | with_reducible refine Ext.trans ?_ ‹Ext _ _›))) (by rw [EP.out]; exact fold_rev (fun a b c => Int.mul_right_comm a b c) _ _)).mono ?_; rintro e w11 ⟨rfl, x11⟩)
            | (go_at_call 38; have hgd := v6; clear hgd; refine (product_z (HZ.out.ext (by repeat' (first | with_reducible exact Ext.refl _ | with_reducible assumption | with_reducible apply Ext.alloc_r | with_reducible apply Ext.drew_r | with_reducible apply Ext.drewN_r | with_reducible refine Ext.trans ?_ ‹Ext _ _›))) (by rw [List.length_reverse, ← HN.out]; omega) (by rw [List.length_reverse]; exact HN.out) (fun x hx => by have := HD.out x (List.mem_reverse.1 hx); omega)).mono ?_; rintro e w10 ⟨s7, A7, c7, L7, rfl, v7, x10⟩)
            | (go_at_call_of 29 (#[Value.agg #[Value.bool s6, Value.slice A6 L6 c6], Value.agg #[Value.bool s, Value.slice A L ca]]); refine (same_yes (v6.zv.ext (by repeat' (first | with_reducible exact Ext.refl _ | with_reducible assumption | with_reducible apply Ext.alloc_r | with_reducible apply Ext.drew_r | with_reducible apply Ext.drewN_r | with_reducible refine Ext.trans ?_ ‹Ext _ _›))) (HB.out.zs.zv.ext (by repeat' (first | with_reducible exact Ext.refl _ | with_reducible assumption | with_reducible apply Ext.alloc_r | with_reducible apply Ext.drew_r | with_reducible apply Ext.drewN_r | with_reducible refine Ext.trans ?_ ‹Ext _ _›))) (by rw [ES.out]; exact fold_rev (fun a b c => Int.add_right_comm a b c) _ _)).mono ?_; rintro e w9 ⟨rfl, x9⟩)
            | (go_at_call 37; have hgd := v5; clear hgd; refine (sum_z (HZ.out.ext (by repeat' (first | with_reducible exact Ext.refl _ | with_reducible assumption | with_reducible apply Ext.alloc_r | with_reducible apply Ext.drew_r | with_reducible apply Ext.drewN_r | with_reducible refine Ext.trans ?_ ‹Ext _ _›))) (by rw [List.length_reverse, ← HN.out]; omega) (by rw [List.length_reverse]; exact HN.out) (fun x hx => by have := HD.out x (List.mem_reverse.1 hx); omega)).mono ?_; rintro e w8 ⟨s6, A6, c6, L6, rfl, v6, x8⟩)
            | (go_at_call_of 29 (#[Value.agg #[Value.bool s5, Value.slice A5 L5 c5], Value.agg #[Value.bool s', Value.slice A' L' c']]); refine (same_yes (v5.zv.ext (by repeat' (first | with_reducible exact Ext.refl _ | with_reducible assumption | with_reducible apply Ext.alloc_r | with_reducible apply Ext.drew_r | with_reducible apply Ext.drewN_r | with_reducible refine Ext.trans ?_ ‹Ext _ _›))) (HB.out.zp.zv.ext (by repeat' (first | with_reducible exact Ext.refl _ | with_reducible assumption | with_reducible apply Ext.alloc_r | with_reducible apply Ext.drew_r | with_reducible apply Ext.drewN_r | with_reducible refine Ext.trans ?_ ‹Ext _ _›))) EP.out.symm).mono ?_; rintro e w7 ⟨rfl, x7⟩)
            | (go_at_call 38; have hgd := v4; clear hgd; refine (product_z (HL.out.ext (HB.out.ex.trans (by repeat' (first | with_reducible exact Ext.refl _ | with_reducible assumption | with_reducible apply Ext.alloc_r | with_reducible apply Ext.drew_r | with_reducible apply Ext.drewN_r | with_reducible refine Ext.trans ?_ ‹Ext _ _›)))) (by rw [← HN.out]; omega) HN.out (fun x hx => by have := HD.out x hx; omega)).mono ?_; rintro e w6 ⟨s5, A5, c5, L5, rfl, v5, x6⟩)
            | (go_at_call_of 29 (#[Value.agg #[Value.bool s4, Value.slice A4 L4 c4], Value.agg #[Value.bool s, Value.slice A L ca]]); refine (same_yes (v4.zv.ext (by repeat' (first | with_reducible exact Ext.refl _ | with_reducible assumption | with_reducible apply Ext.alloc_r | with_reducible apply Ext.drew_r | with_reducible apply Ext.drewN_r | with_reducible refine Ext.trans ?_ ‹Ext _ _›))) (HB.out.zs.zv.ext (by repeat' (first | with_reducible exact Ext.refl _ | with_reducible assumption | with_reducible apply Ext.alloc_r | with_reducible apply Ext.drew_r | with_reducible apply Ext.drewN_r | with_reducible refine Ext.trans ?_ ‹Ext _ _›))) ES.out.symm).mono ?_; rintro e w5 ⟨rfl, x5⟩)
            | (go_at_call 37; refine (sum_z (HL.out.ext (HB.out.ex.trans (by repeat' (first | with_reducible exact Ext.refl _ | with_reducible assumption | with_reducible apply Ext.alloc_r | with_reducible apply Ext.drew_r | with_reducible apply Ext.drewN_r | with_reducible refine Ext.trans ?_ ‹Ext _ _›)))) (by rw [← HN.out]; omega) HN.out (fun x hx => by have := HD.out x hx; omega)).mono ?_; rintro e w4 ⟨s4, A4, c4, L4, rfl, v4, x4⟩))
      | fail
      have hx : Ext wr w11 := (by repeat' (first | with_reducible exact Ext.refl _ | with_reducible assumption | with_reducible apply Ext.alloc_r | with_reducible apply Ext.drew_r | with_reducible apply Ext.drewN_r | with_reducible refine Ext.trans ?_ ‹Ext _ _›))
      go_wp2_with fail
      go_ret
      exact ⟨rfl, HB.out.ex.trans hx⟩
end Go.Proofs.Ytcccabgeoaidjaa
