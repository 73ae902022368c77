/- Contracts of package decimal, second part: format. -/
import Derived.Test.YtfnmbhjifdfibaaDecA
import Derived.Test.YtfnmbhjifdfibaaApp
import Derived.Test.YtfnmbhjifdfibaaIntB
import Derived.Deep.LoopGhost
namespace Go.Proofs.Ytfnmbhjifdfibaa
open Go.RowKit
/-- What is still to come of a part: all its digits, or so many. -/
def rem_ (last : Bool) (b c m : Nat) : List Nat := if last then digs b m else padded b c m
theorem rem_step {last : Bool} {b c m : Nat} (hb : 2 ≤ b) (hc : 0 < c) (hm : last = true → m ≠ 0) : rem_ last b c m = m % b :: rem_ last b (c - 1) (m / b) := by
  obtain ⟨d, rfl⟩ : ∃ d, c = d + 1 := ⟨c - 1, by omega⟩
  unfold rem_
  cases last
  · rfl
  · rw [if_pos rfl, if_pos rfl, digs_pos hb (hm rfl)]
theorem rem_end {last : Bool} {b c m : Nat} (hl : m < b ^ c) (h : c = 0 ∨ (last = true ∧ m = 0)) : rem_ last b c m = [] := by
  unfold rem_
  rcases h with rfl | ⟨rfl, rfl⟩
  · have hm : m = 0 := by simpa using hl
    subst hm
    split <;> rfl
  · rw [if_pos rfl]; rfl
theorem rem_lt {b c m : Nat} (hc : 0 < c) (hl : m < b ^ c) : m / b < b ^ (c - 1) := by
  obtain ⟨d, rfl⟩ : ∃ d, c = d + 1 := ⟨c - 1, by omega⟩
  rw [Nat.pow_succ] at hl
  exact Nat.div_lt_of_lt_mul (by rw [Nat.mul_comm]; exact hl)
theorem digs_rem {b c n : Nat} (hb : 2 ≤ b) : digs b n = rem_ (n / b ^ c == 0) b c (n % b ^ c) ++ digs b (n / b ^ c) := by
  unfold rem_
  by_cases h : n / b ^ c = 0
  · have hlt : n < b ^ c := by
      rcases Nat.lt_or_ge n (b ^ c) with h1 | h1
      · exact h1
      · have := Nat.div_pos h1 (Nat.pow_pos (by omega)); omega
    rw [if_pos (by simpa using h), h, Nat.mod_eq_of_lt hlt, digs_zero, List.append_nil]
  · rw [if_neg (by simpa using h), padded_mod, digs_split hb c n h]
theorem info_u8 : (Try.prog.info? 5).map (fun i => (i.zero, i.size, i.bytes)) = some (some (.int .u8 0), 1, 1) := by kernel_rfl
theorem sym_at : ∀ (i : Fin 36), (ByteArray.mk #[48, 49, 50, 51, 52, 53, 54, 55, 56, 57, 97, 98, 99, 100, 101, 102, 103, 104, 105, 106, 107, 108, 109, 110, 111, 112, 113, 114, 115, 116, 117, 118, 119, 120, 121, 122])[i.val].toNat = sym i.val := by decide
theorem sym_at' {i : Nat} (h : i < 36) {h' : i < (ByteArray.mk #[48, 49, 50, 51, 52, 53, 54, 55, 56, 57, 97, 98, 99, 100, 101, 102, 103, 104, 105, 106, 107, 108, 109, 110, 111, 112, 113, 114, 115, 116, 117, 118, 119, 120, 121, 122]).size} : (ByteArray.mk #[48, 49, 50, 51, 52, 53, 54, 55, 56, 57, 97, 98, 99, 100, 101, 102, 103, 104, 105, 106, 107, 108, 109, 110, 111, 112, 113, 114, 115, 116, 117, 118, 119, 120, 121, 122])[i].toNat = sym i := sym_at ⟨i, h⟩
/-- The end of an inner round of 'format'. -/
theorem fmt_step {last : Bool} {b cnt i m m' : Nat} {es : List Nat} (hb : 2 ≤ b) (hi : i < cnt) (hg : last = true → m' ≠ 0) (he : es ++ rem_ last b (cnt - i) m' = rem_ last b cnt m) (hm : m' < b ^ (cnt - i)) :
    (es ++ [m' % b]) ++ rem_ last b (cnt - (i + 1)) (m' / b) = rem_ last b cnt m ∧ m' / b < b ^ (cnt - (i + 1)) := by
  have h1 := rem_step hb (show 0 < cnt - i by omega) hg
  have h2 := rem_lt (show 0 < cnt - i by omega) hm
  rw [show cnt - (i + 1) = cnt - i - 1 from by omega]
  exact ⟨by rw [← he, h1, List.append_assoc]; rfl, h2⟩
theorem digs_len {b X : Nat} (hb : 2 ≤ b) : (digs b X).length ≤ 32 * dl X := by
  refine digs_len_le hb ?_
  have h1 := lt_pow_len B32_two X
  have h2 : B32 ^ (digs B32 X).length = 2 ^ (32 * dl X) := by rw [Nat.pow_mul]; rfl
  have h3 : 2 ^ (32 * dl X) ≤ b ^ (32 * dl X) := Nat.pow_le_pow_left hb _
  omega
/-- 'string(out)' of an own slice. -/
theorem own_string {w : World} {B c : Nat} {A : Option Addr} {ds : List Nat} (h : Own w B .u8 5 A c ds) (h0 : ds ≠ []) (hv : ∀ d ∈ ds, d < 256) :
    (convert 127 9 (.slice A ds.length c)).run Try.prog w = .ok (.string (str ds)) w := by
  obtain ⟨g, rfl, _⟩ := h.addr h0
  have := run_convert_bytes_back (P := Try.prog) w 127 9 5 ⟨g, 0, none⟩ c (ds.map UInt8.ofNat) Try.underlying127 Try.underlying5 Try.underlying9 (fun j hj => by
    have hj' : j < ds.length := by simpa using hj
    have h1 := h.cell hj'
    have h2 := hv ds[j] (List.getElem_mem hj')
    have hadd : (⟨g, 0, none⟩ : Addr).add j = ⟨g, j, none⟩ := by unfold Addr.add; split <;> simp_all
    rw [hadd, h1]
    simp [UInt8.toNat_ofNat']
    omega)
  rw [List.length_map] at this
  exact this
theorem sym256 {b : Nat} {ds : List Nat} (h2 : b ≤ 36) (hv : Valid b ds) : ∀ d ∈ ds.map sym, d < 256 := by
  intro d hd
  rw [List.mem_map] at hd
  obtain ⟨e, he, rfl⟩ := hd
  have := sym_lt (d := e) (by have := hv e he; omega)
  omega
theorem RetS.of {w w' : World} {l : List Nat} (h : ∀ x ∈ l, x < 256) (hx : Ext w w') : RetS w l (.returned (.string (str l))) w' := ⟨_, rfl, bs_str h, hx⟩
theorem format_nz {w : World} {s : Bool} {A : Option Addr} {c L b : Nat} {x : Int} (h : ZV w s A c L x) (h1 : 2 ≤ b) (h2 : b ≤ 36) (hx : x ≠ 0) (hs : dl x.natAbs ≤ 1000000) :
    Calls Try.prog 101 #[.agg #[.bool s, .slice A L c], .int .i64 b] w (RetS w (fmtL b x)) := by
  have hsg : (x.sign == 0) = false := by simpa using hx
  obtain ⟨w0, hw0⟩ : ∃ z : World, z = w.alloc (.cells #[.bool s, .slice A L c] 25) := ⟨_, rfl⟩
  have hx0 : Ext w w0 := by rw [hw0]; exact Ext.alloc _ _
  have hb := box_new w (.bool s) (.slice A L c) 25
  rw [← hw0] at hb
  obtain ⟨e1, e2, _⟩ := hb
  go_enter Try.func101, Try.ntmps101
  go_wp2_with fail
  rw [← hw0]
  refine (sign_z (h.ext hx0)).mono ?_
  rintro e w1 ⟨rfl, hx1⟩
  have d1 := hx1.cell e1
  have d2 := hx1.cell e2
  have hx2 := hx0.trans hx1
  generalize x.sign = sg at *
  clear hw0 e1 e2 hx0 hx1
  go_wp2_with fail
  refine (chunk_any h1 h2).mono ?_
  rintro e w' ⟨⟨p, cnt, rfl, hp, hp2, hc1, hc2⟩, rfl⟩
  have HP := Lib.hid hp
  have hp0 : 2 ≤ p := by
    rw [hp]
    exact Nat.le_trans h1 (by conv => lhs; rw [← Nat.pow_one b]
                              exact Nat.pow_le_pow_right (by omega) hc1)
  clear hp
  have HN := Lib.hid (h.ext hx2).nv
  generalize hX : x.natAbs = X at *
  have hlen : (digs b X).length ≤ 32000000 := Nat.le_trans (digs_len h1) (by omega)
  have HX := Lib.hid hX
  clear hX
  go_wp2_with fail
  go_loopg [7, 8] X (fun k o7 o8 wr => ∃ (out : List Nat) (A7 : Option Addr) (c7 n : Nat) (A8 : Option Addr) (c8 L8 : Nat), o7 = .slice A7 out.length c7 ∧ Own wr w1.heap.size .u8 5 A7 c7 (out.map sym) ∧ o8 = .slice A8 L8 c8 ∧ NV wr A8 c8 L8 n ∧ digs b X = out ++ digs b n ∧ n ≤ X ∧ n ≤ k ∧ Ext w1 wr)
  case atStart => exact ⟨[], none, 0, X, A, c, L, rfl, Own.none_ _ _ _ _, rfl, HN.out, rfl, Nat.le_refl _, Nat.le_refl _, Ext.refl _⟩
  case round =>
    obtain ⟨out, A7, c7, n, A8, c8, L8, rfl, ho, rfl, hn, hd, hnX, hk, hext⟩ := hrel
    have hol : out.length ≤ 32000000 := by have := congrArg List.length hd; rw [List.length_append] at this; omega
    obtain ⟨wo, rfl⟩ : ∃ wo : World, wo = wr := ⟨_, rfl⟩
    have HO := Lib.hid ho
    have HD := Lib.hid hd
    have HV := Lib.hid hn
    clear ho hd hn
    go_wp2_with fail
    refine (isZero_v HV.out).mono ?_
    rintro e w' ⟨rfl, rfl⟩
    by_cases hz : (n == 0) = true
    · have hn0 : n = 0 := by simpa using hz
      subst hn0
      have hdo : out = digs b X := by rw [HD.out, digs_zero, List.append_nil]
      have c1 := hext.cell d1
      have hX0 : X ≠ 0 := by rw [← HX.out]; omega
      have hneO : out ≠ [] := fun e => by rw [e] at hdo; exact hX0 ((digs_eq_nil h1).1 hdo.symm)
      have hvO : ∀ d ∈ out.map sym, d < 256 := by rw [hdo]; exact sym256 h2 (valid_digs h1 X)
      have HXW : Hid (Ext w wo) := hx2.trans hext
      have HF : Hid (∀ v : Bool, s = v → fmtL b x = (if v then [45] else []) ++ (out.map sym).reverse) := fun v hv => by
        have h5 := h.neg
        have h6 := h.pos
        unfold fmtL
        rw [if_neg hx, HX.out, ← hdo]
        cases v
        · rw [if_neg (by have := h6 hv; omega)]; rfl
        · rw [if_pos (by have := h5 hv; omega)]; rfl
      have hsz := hx2.size
      have hsz2 := hext.size
      clear hdo hX0
      cases s with
      | false =>
        have hfl := HF.out false rfl
        go_wp2_with fail
        refine (reverse_own HO.out (by simp)).mono ?_
        rintro e w5 ⟨rfl, ho5, hb5⟩
        have hx5 : Ext w w5 := Below.trans HXW.out (Below.mono hb5 hsz)
        have hcv := own_string ho5 (by simpa using hneO) (fun d hd => hvO d (List.mem_reverse.1 hd))
        rw [List.length_reverse, List.length_map] at hcv
        go_wp2_with fail
        go_ret
        rw [hfl]
        exact RetS.of (fun d hd => hvO d (List.mem_reverse.1 hd)) hx5
      | true =>
        have hfl := HF.out true rfl
        go_wp2_with (at_builtin; refine wpList_app1n rfl _ _ _ rfl w1.heap.size 5 .u8 1 Try.underlying127 info_u8 (by omega) A7 c7 out.length (out.map sym) (by simp) rfl (HO.out.below (Ext.alloc _ _)) wo.heap.size 45 rfl ?h2 ?h3 ?h4 ?h5)
        case h2 =>
          rw [cell_of_row _ _ 0 _ _ (0, 0) (heap_alloc_new _ _)]
          simp
        case h3 => omega
        case h4 => simp; omega
        case h5 =>
          intro A10 c10 w4 hown hgr hnear
          have hx4 := (Mid.grown (Mid.start (B := w1.heap.size) HO.out rfl) hsz2 (Ext.alloc wo _) hgr hnear).below
          have HOW := Lib.hid hown
          clear hown hgr hnear
          go_wp2_with fail
          refine (reverse_own HOW.out (by simp)).mono ?_
          rintro e w5 ⟨rfl, ho5, hb5⟩
          have hx5 : Ext w w5 := Below.trans HXW.out (Below.mono (Below.trans hx4 hb5) hsz)
          have hv5 : ∀ d ∈ (out.map sym ++ [45]).reverse, d < 256 := fun d hd => by
            rcases List.mem_append.1 (List.mem_reverse.1 hd) with h | h
            · exact hvO d h
            · simp at h; omega
          have hcv := own_string ho5 (by simp) hv5
          rw [List.length_reverse, List.length_append, List.length_map] at hcv
          have HS : Hid (RetS w (fmtL b x) (.returned (.string (str (out.map sym ++ [45]).reverse))) w5) := by
            show RetS _ _ _ _
            rw [hfl]
            have := RetS.of hv5 hx5
            simpa using this
          simp at hcv
          go_wp2_with fail
          go_ret
          have := HS.out
          simpa using this
    · have hz' : (n == 0) = false := by simpa using hz
      have hn0 : n ≠ 0 := by simpa using hz
      clear hz
      go_wp2_with fail
      have hdl : dl n ≤ dl X := dl_mono hnX
      have hdv := divSmall_v (d := p) HV.out (by omega) hp2 (by omega)
      have HR : Hid (digs b X = out ++ (rem_ (n / p == 0) b cnt (n % p) ++ digs b (n / p))) := by show _ = _; rw [HD.out, HP.out, ← digs_rem h1]
      have HM : Hid (n % p < b ^ cnt) := by show _ < _; rw [← HP.out]; exact Nat.mod_lt _ (by omega)
      have hq : n / p < n := Nat.div_lt_self (by omega) (by omega)
      have hmp : n % p < 4294967296 := by have := Nat.mod_lt n (show p > 0 by omega); omega
      have HQ := Lib.hid hq
      clear hz' hq hdl
      generalize n % p = m at *
      generalize n / p = q at *
      refine hdv.mono ?_
      clear hdv
      rintro e w2 ⟨A2, c2, rfl, hno, hx3⟩
      have hnv := hno.nv
      go_wp2_with fail
      refine (isZero_v hnv).mono ?_
      rintro e w' ⟨rfl, rfl⟩
      have ho2 := HO.out.below hx3
      have hxx := hext.trans hx3
      have HNO := Lib.hid hno
      clear hno
      generalize (q == 0) = lb at *
      go_wp2_with fail
      obtain ⟨wz, hwz⟩ : ∃ z : World, z = w2 := ⟨_, rfl⟩
      go_loopw [7, 9, 11] (fun o7 pv iv wr => ∃ (es : List Nat) (A7 : Option Addr) (c7 m' i : Nat), o7 = .slice A7 (out.length + es.length) c7 ∧ pv = .int .u32 m' ∧ iv = .int .i64 i ∧ i ≤ cnt ∧ Own wr w1.heap.size .u8 5 A7 c7 ((out ++ es).map sym) ∧ m' < 4294967296 ∧ es ++ rem_ lb b (cnt - i) m' = rem_ lb b cnt m ∧ m' < b ^ (cnt - i) ∧ es.length ≤ i ∧ Mid w1.heap.size wo.heap.size w2 wr A7) (fun _ _ iv _ => cnt - (intOf iv).toNat)
      case atStart => exact ⟨[], A7, c7, m, 0, rfl, rfl, rfl, Nat.zero_le _, by simpa using ho2, hmp, rfl, HM.out, by simp, Mid.start HO.out rfl⟩
      case round =>
        obtain ⟨es, A9, c9, m', i, rfl, rfl, rfl, hi, ho, hm', hes, hmb, hel, hx4⟩ := hrel
        have HO := Lib.hid ho
        have HES := Lib.hid hes
        have HMB := Lib.hid hmb
        clear ho hes hmb
        have hpc : decide (i < cnt) = true → cnt - i ≤ cnt := fun _ => Nat.sub_le _ _
        clear hpc
        by_cases hgo : i < cnt ∧ (lb = true → m' ≠ 0)
        · have hmod : m' % b < 36 := Nat.lt_of_lt_of_le (Nat.mod_lt _ (by omega)) h2
          have hb0 : 0 < b := by omega
          have HDV : Hid ((m' : Int) / (b : Int) % 4294967296 = ((m' / b : Nat) : Int)) := by
            show _ = _
            have h5 : ((m' / b : Nat) : Int) = (m' : Int) / (b : Int) := Int.natCast_ediv _ _
            have h6 := Nat.div_le_self m' b
            rw [← h5]
            clear h5
            generalize m' / b = z at h6 ⊢
            omega
          have hst := fmt_step h1 hgo.1 hgo.2 HES.out HMB.out
          have hi2 := hgo.1
          cases lb with
          | false =>
            go_wp2_with (at_builtin; refine wpList_app1n rfl _ _ _ rfl w1.heap.size 5 .u8 1 Try.underlying127 info_u8 (by omega) A9 c9 (out.length + es.length) ((out ++ es).map sym) (by simp) rfl (HO.out.below (Ext.alloc _ _)) wr.heap.size (sym (m' % b)) rfl ?h2 ?h3 ?h4 ?h5)
            case h2 =>
              rw [cell_of_row _ _ 0 _ _ (0, 0) (heap_alloc_new _ _)]
              simp [sym_at' hmod]
            case h3 => omega
            case h4 =>
              have h6 := hxx.size
              have h7 := hx4.size
              simp
              omega
            case h5 =>
              intro A10 c10 w3 hown hgr hnear
              have hx5 := Mid.grown hx4 hxx.size (Ext.alloc wr _) hgr hnear
              have HO2 : Hid (Own w3 w1.heap.size .u8 5 A10 c10 ((out ++ (es ++ [m' % b])).map sym)) := by show Own _ _ _ _ _ _ _; simpa using hown
              clear hown
              go_wp2_with fail
              go_roundw
              case rel => exact ⟨es ++ [m' % b], A10, c10, m' / b, i + 1, by rw [List.length_append]; rfl, by rw [HDV.out], by go_num, by omega, HO2.out, by have := Nat.div_le_self m' b; omega, hst.1, hst.2, by rw [List.length_append]; simp; omega, hx5⟩
              case measure => simp [intOf]; omega
          | true =>
            have hm0 : ((m' : Int) == 0) = false := by have := hgo.2 rfl; simp; omega
            go_wp2_with (at_builtin; refine wpList_app1n rfl _ _ _ rfl w1.heap.size 5 .u8 1 Try.underlying127 info_u8 (by omega) A9 c9 (out.length + es.length) ((out ++ es).map sym) (by simp) rfl (HO.out.below (Ext.alloc _ _)) wr.heap.size (sym (m' % b)) rfl ?h2 ?h3 ?h4 ?h5)
            case h2 =>
              rw [cell_of_row _ _ 0 _ _ (0, 0) (heap_alloc_new _ _)]
              simp [sym_at' hmod]
            case h3 => omega
            case h4 =>
              have h6 := hxx.size
              have h7 := hx4.size
              simp
              omega
            case h5 =>
              intro A10 c10 w3 hown hgr hnear
              have hx5 := Mid.grown hx4 hxx.size (Ext.alloc wr _) hgr hnear
              have HO2 : Hid (Own w3 w1.heap.size .u8 5 A10 c10 ((out ++ (es ++ [m' % b])).map sym)) := by show Own _ _ _ _ _ _ _; simpa using hown
              clear hown
              go_wp2_with fail
              go_roundw
              case rel => exact ⟨es ++ [m' % b], A10, c10, m' / b, i + 1, by rw [List.length_append]; rfl, by rw [HDV.out], by go_num, by omega, HO2.out, by have := Nat.div_le_self m' b; omega, hst.1, hst.2, by rw [List.length_append]; simp; omega, hx5⟩
              case measure => simp [intOf]; omega
        · have hre : rem_ lb b (cnt - i) m' = [] := by
            refine rem_end HMB.out ?_
            by_cases h5 : i < cnt
            · right
              cases lb
              · exact absurd ⟨h5, fun h => by cases h⟩ hgo
              · refine ⟨rfl, ?_⟩
                by_cases h6 : m' = 0
                · exact h6
                · exact absurd ⟨h5, fun _ => h6⟩ hgo
            · left; omega
          have hes2 : es = rem_ lb b cnt m := by rw [← HES.out, hre, List.append_nil]
          have HNV : Hid (NV wr A2 c2 (digs B32 q).length q) := NO.nv (Own.mid HNO.out hx4)
          have HXX : Hid (Ext w1 wr) := Below.trans hxx hx4.below
          have HDD : Hid (digs b X = (out ++ es) ++ digs b q) := by show _ = _; rw [HR.out, hes2, List.append_assoc]
          have HOO : Hid (Value.slice A9 (out.length + es.length) c9 = Value.slice A9 (out ++ es).length c9) := by show _ = _; rw [List.length_append]
          have hqn := HQ.out
          clear hes2 hre hx4
          by_cases h5 : i < cnt
          · have h6 : ¬ (lb = true → m' ≠ 0) := fun h => hgo ⟨h5, h⟩
            have h7 : lb = true := by
              cases lb
              · exact absurd (fun h => by cases h) h6
              · rfl
            have h8 : m' = 0 := by
              by_cases h9 : m' = 0
              · exact h9
              · exact absurd (fun _ => h9) h6
            clear h6 hgo
            subst h7 h8
            go_wp2_with fail
            rw [HOO.out]
            go_roundg q
            case measure => omega
            case rel => exact ⟨out ++ es, A9, c9, q, A2, c2, _, rfl, HO.out, rfl, HNV.out, HDD.out, by omega, Nat.le_refl _, HXX.out⟩
          · clear hgo
            go_wp2_with fail
            rw [HOO.out]
            go_roundg q
            case measure => omega
            case rel => exact ⟨out ++ es, A9, c9, q, A2, c2, _, rfl, HO.out, rfl, HNV.out, HDD.out, by omega, Nat.le_refl _, HXX.out⟩
theorem format_z {w : World} {s : Bool} {A : Option Addr} {c L b : Nat} {x : Int} (h : ZV w s A c L x) (h1 : 2 ≤ b) (h2 : b ≤ 36) (hs : dl x.natAbs ≤ 1000000) :
    Calls Try.prog 101 #[.agg #[.bool s, .slice A L c], .int .i64 b] w (RetS w (fmtL b x)) := by
  by_cases hx : x = 0
  · have hsg : (x.sign == 0) = true := by simpa using hx
    have hf : fmtL b x = [48] := by rw [hx]; rfl
    obtain ⟨w0, hw0⟩ : ∃ z : World, z = w.alloc (.cells #[.bool s, .slice A L c] 25) := ⟨_, rfl⟩
    have hx0 : Ext w w0 := by rw [hw0]; exact Ext.alloc _ _
    have hb := box_new w (.bool s) (.slice A L c) 25
    rw [← hw0] at hb
    obtain ⟨e1, e2, _⟩ := hb
    rw [hf]
    clear hf hx
    go_enter Try.func101, Try.ntmps101
    go_wp2_with fail
    rw [← hw0]
    refine (sign_z (h.ext hx0)).mono ?_
    rintro e w1 ⟨rfl, hx1⟩
    generalize x.sign = sg at *
    clear hw0 e1 e2 h hs
    go_wp2_with fail
    go_ret
    exact ⟨_, rfl, rfl, hx0.trans hx1⟩
  · exact format_nz h h1 h2 hx hs
theorem Format_z {w : World} {s : Bool} {A : Option Addr} {c L : Nat} {x : Int} (h : ZV w s A c L x) (hs : dl x.natAbs ≤ 1000000) :
    Calls Try.prog 64 #[.agg #[.bool s, .slice A L c]] w (RetS w (fmtL 10 x)) := by
  go_enter Try.func64, Try.ntmps64
  go_wp2_with fail
  refine (format_z (b := 10) (h.ext (Ext.alloc _ _)) (by omega) (by omega) hs).mono ?_
  rintro e w1 ⟨t, rfl, ht, hx⟩
  go_wp2_with fail
  go_ret
  exact ⟨t, rfl, ht, (Ext.alloc _ _).trans hx⟩
end Go.Proofs.Ytfnmbhjifdfibaa
