/- Contracts of package natural: trimming, copies, conversion, comparison. -/
import Derived.Test.YtfnmbhjifdfibaaBits
import Derived.Test.YtfnmbhjifdfibaaLaws
namespace Go.Proofs.Ytfnmbhjifdfibaa
open Go.RowKit

def B32 : Nat := 4294967296
theorem B32_two : 2 ≤ B32 := by unfold B32; omega
theorem ret_slice {A : Option Addr} {n m c : Nat} (h : n = m) : Ending.returned (.slice A n c) = .returned (.slice A m c) := by rw [h]

theorem take_snoc' (ds : List Nat) (k : Nat) (h : k < ds.length) : ds.take (k + 1) = ds.take k ++ [ds[k]] := by
  rw [List.take_succ_eq_append_getElem h]

theorem trim_any (A : Option Addr) (c : Nat) (ds : List Nat) (w : World) (hc : ds.length ≤ c) (hn : c ≤ 9223372036854775807) (hr : Rd w .u32 A ds) :
    Calls Try.prog 115 #[.slice A ds.length c] w fun e w' => e = .returned (.slice A (trimL ds).length c) ∧ w = w' := by
  have H := Lib.hid hr
  clear hr
  go_enter Try.func115, Try.ntmps115
  go_wp2
  go_loop [3] (fun i => ∃ k : Nat, k ≤ ds.length ∧ i = .int .i64 k ∧ trimL ds = trimL (ds.take k)) (fun i => (intOf i).toNat)
  case atStart => exact ⟨_, Nat.le_refl _, rfl, by rw [List.take_length]⟩
  case round =>
    obtain ⟨k, hk, rfl, ht⟩ := hrel
    have HT := Lib.hid ht
    clear ht
    by_cases h0 : k = 0
    · subst h0
      go_wp2
      go_ret
      exact ⟨ret_slice (by rw [HT.out]; rfl), rfl⟩
    · have hk1 : k - 1 < ds.length := by omega
      obtain ⟨b, off, rfl, hb, hcell⟩ := H.out (k - 1) hk1
      have hp : 0 < k := by omega
      have HS := Lib.hid (take_snoc' ds (k - 1) hk1)
      go_wp2
      · have hz : (↑ds[k - 1] == (0 : Int)) = true := by assumption
        have hz' : ds[k - 1] = 0 := by simpa using hz
        go_round
        case rel =>
          refine ⟨k - 1, by omega, by go_num, ?_⟩
          have e : k = k - 1 + 1 := by omega
          rw [HT.out]
          conv => lhs; rw [e, HS.out, hz', trimL_snoc_zero]
        case measure => simp [intOf]; omega
      · have hz : (↑ds[k - 1] == (0 : Int)) = false := by assumption
        have hz' : ds[k - 1] ≠ 0 := by simpa using hz
        go_ret
        refine ⟨ret_slice ?_, rfl⟩
        have e : k = k - 1 + 1 := by omega
        rw [HT.out]
        conv => rhs; rw [e, HS.out, trimL_snoc hz', ← HS.out, ← e]
        rw [List.length_take]; omega

theorem info_u32 : (Try.prog.info? 139).map (fun i => (i.zero, i.size, i.bytes)) = some (some (.int .u32 0), 1, 4) := by kernel_rfl
theorem size_u32 : (Try.prog.info? 139).map (·.size) = some 1 := by kernel_rfl

/-- What a natural number's slice reads as: valid digits. -/
structure NR (w : World) (A : Option Addr) (c : Nat) (ds : List Nat) : Prop where
  rd : Rd w .u32 A ds
  valid : Valid B32 ds
  le : ds.length ≤ c
  cap : c ≤ 9223372036854775807
/-- A natural number in memory of the call's own, in canonical form. -/
def NO (w : World) (B : Nat) (A : Option Addr) (c n : Nat) : Prop := Own w B .u32 139 A c (digs B32 n)
/-- The value of digits. -/
def V (ds : List Nat) : Nat := val B32 ds
/-- The length of a number in digits. -/
def dl (n : Nat) : Nat := (digs B32 n).length
theorem trim_V {ds : List Nat} (h : Valid B32 ds) : trimL ds = digs B32 (V ds) := trimL_digs B32_two h

theorem NO.nr {w : World} {B : Nat} {A : Option Addr} {c n : Nat} (h : NO w B A c n) : NR w A c (digs B32 n) :=
  ⟨Own.rd h, valid_digs B32_two n, (Own.le h).1, by have := (Own.le h).2; unfold maxLen at this; omega⟩
theorem NR.ext {w w' : World} {A : Option Addr} {c : Nat} {ds : List Nat} (h : NR w A c ds) (hx : Ext w w') : NR w' A c ds := ⟨h.rd.below hx, h.valid, h.le, h.cap⟩
theorem NO.ext {w w' : World} {B : Nat} {A : Option Addr} {c n : Nat} (h : NO w B A c n) (hx : Ext w w') : NO w' B A c n := Own.below h hx

/-- The call returns the number n in new memory, and changes nothing else. -/
def RetN (w : World) (n : Nat) (e : Ending) (w' : World) : Prop := ∃ A c, e = .returned (.slice A (digs B32 n).length c) ∧ NO w' w.heap.size A c n ∧ Ext w w'

/-- 'trim' of an argument. -/
theorem trim_nr {w : World} {A : Option Addr} {c : Nat} {ds : List Nat} (h : NR w A c ds) :
    Calls Try.prog 115 #[.slice A ds.length c] w fun e w' => e = .returned (.slice A (digs B32 (V ds)).length c) ∧ w = w' := by
  rw [← trim_V h.valid]
  exact trim_any A c ds w h.le h.cap h.rd
/-- What an argument reads as behind its trimming. -/
theorem NR.trim {w : World} {A : Option Addr} {c : Nat} {ds : List Nat} (h : NR w A c ds) : NR w A c (digs B32 (V ds)) := by
  rw [← trim_V h.valid, ← trimL_take]
  exact ⟨h.rd.take _, by rw [trimL_take]; exact trimL_valid h.valid, by have := h.le; simp; omega, h.cap⟩

theorem normal_any {w : World} {A : Option Addr} {c : Nat} {ds : List Nat} (h : NR w A c ds) (hs : dl (V ds) ≤ 35184372088832) :
    Calls Try.prog 110 #[.slice A ds.length c] w (RetN w (V ds)) := by
  have ht := trim_nr h
  have hn := h.trim
  unfold dl at hs
  generalize V ds = n at *
  have hr := hn.rd
  have hle := hn.le
  clear hn
  go_enter Try.func110, Try.ntmps110
  go_wp2_with fail
  refine ht.mono ?_
  rintro e w' ⟨rfl, rfl⟩
  clear ht
  go_wp2_with (at_make; refine wpList_mkrow rfl _ _ _ rfl _ _ _ Try.underlying23 info_u32 (by omega) _ _ _ _ rfl rfl rfl hs ?_)
  intro g w1 hg hrow hx
  have hr1 := hr.below hx
  go_wp2_with (with_reducible refine wpList_copyrow rfl (.tmp 9) (.tmp 10) 23 23 rfl 139 Try.underlying23 size_u32 g _ _ _ A .u32 _ _ _ rfl rfl hrow hr1 (Nat.le_refl _) (by simp) ?_)
  intro w2 hrow2 hb2
  go_wp2_with fail
  go_ret
  have hrow3 : Row w2 g .u32 139 (digs B32 n) := by simpa using hrow2
  exact ⟨_, _, rfl, Own.of_row' hrow3 hg (by unfold maxLen; omega) rfl (List.take_length), hx.step hb2 hg⟩

theorem len_zero (n : Nat) : (((digs B32 n).length : Int) == 0) = (n == 0) := by
  rw [Bool.eq_iff_iff]
  simp [digs_eq_nil B32_two]

theorem isZero_any {w : World} {A : Option Addr} {c : Nat} {ds : List Nat} (h : NR w A c ds) :
    Calls Try.prog 81 #[.slice A ds.length c] w fun e w' => e = .returned (.bool (V ds == 0)) ∧ w = w' := by
  have ht := trim_nr h
  have HF := Lib.hid (len_zero (V ds))
  generalize V ds = n at *
  go_enter Try.func81, Try.ntmps81
  go_wp2_with fail
  refine ht.mono ?_
  rintro e w' ⟨rfl, rfl⟩
  go_wp2_with fail
  go_ret
  exact ⟨congrArg (fun b => Ending.returned (.bool b)) HF.out, rfl⟩

theorem V_two (n : Nat) : V [n % 4294967296, n / 4294967296] = n := by simp [V, val, B32]; omega
theorem dl_le {n k : Nat} (h : n < B32 ^ k) : dl n ≤ k := digs_len_le B32_two h
theorem of_any {w : World} (n : Nat) (hn : n < 18446744073709551616) :
    Calls Try.prog 76 #[.int .u64 n] w (RetN w n) := by
  have e : (nums .u32 [n % 4294967296, n / 4294967296]).toArray = #[Value.int .u32 ((n : Int) % 4294967296), Value.int .u32 ((n : Int) / 4294967296)] := by simp [nums]
  have hrow := Row.new w .u32 139 [n % 4294967296, n / 4294967296]
  have hnr : NR (w.alloc (.cells (nums .u32 [n % 4294967296, n / 4294967296]).toArray 139)) (some ⟨w.heap.size, 0, none⟩) 2 [n % 4294967296, n / 4294967296] :=
    ⟨by simpa using hrow.rd 2, by unfold Valid B32; simp; omega, by simp, by omega⟩
  rw [e] at hnr
  have hc := normal_any hnr (by rw [V_two]; have := dl_le (n := n) (k := 2) (by unfold B32; omega); omega)
  rw [V_two] at hc
  have HC := Lib.hid hc
  clear hc e hrow hnr
  go_enter Try.func76, Try.ntmps76
  go_wp2_with fail
  refine HC.out.mono ?_
  rintro e w' ⟨A, c, rfl, ho, hx⟩
  go_wp2_with fail
  go_ret
  exact ⟨A, c, rfl, Own.mono ho (by simp), (Ext.alloc w _).trans hx⟩

/-- Quiet: nothing but draws. -/
def Qt (w w' : World) : Prop := ∃ n, w' = w.drewN n
theorem Qt.ext {w w' : World} (h : Qt w w') : Ext w w' := by
  obtain ⟨n, rfl⟩ := h
  exact ⟨rfl, rfl, rfl, Nat.le_refl _, fun _ _ => rfl⟩
theorem Qt.refl (w : World) : Qt w w := ⟨0, rfl⟩

theorem uint64_yes {w : World} {A : Option Addr} {c : Nat} {ds : List Nat} (h : NR w A c ds) (hlt : V ds < 18446744073709551616) :
    Calls Try.prog 122 #[.slice A ds.length c] w fun e w' => e = .returned (.tuple #[.int .u64 (V ds), .bool true]) ∧ Qt w w' := by
  have ht := trim_nr h
  have hn := h.trim
  have hr := hn.rd
  clear h
  generalize V ds = n at *
  have hV := val_digs B32_two n
  have hB := hn.valid
  have hp : (digs B32 n).length ≤ 2 := digs_len_le B32_two (by unfold B32; omega)
  clear hn hlt
  rcases hd : digs B32 n with _ | ⟨d0, _ | ⟨d1, _ | ⟨d2, r⟩⟩⟩
  · rw [hd] at ht hV
    obtain rfl : n = 0 := hV.symm
    clear hr hd hB hp hV
    go_enter Try.func122, Try.ntmps122
    go_wp2_with fail
    refine ht.mono ?_
    rintro e w' ⟨rfl, rfl⟩
    go_wp2_with fail
    go_ret2
    exact ⟨rfl, Qt.refl _⟩
  · rw [hd] at ht hr hV hB
    obtain rfl : d0 = n := by simpa [val] using hV
    obtain ⟨b, off, rfl, hb, h0⟩ := hr 0 (by simp)
    have b0 : d0 < 4294967296 := hB d0 (by simp)
    clear hr hd hV hB hp
    simp at h0
    go_enter Try.func122, Try.ntmps122
    go_wp2_with fail
    refine ht.mono ?_
    rintro e w' ⟨rfl, rfl⟩
    go_wp2_with fail
    go_ret2
    exact ⟨rfl, Qt.refl _⟩
  · rw [hd] at ht hr hV hB
    obtain ⟨b, off, rfl, hb, h0⟩ := hr 0 (by simp)
    obtain ⟨b', off', hA, hb', h1⟩ := hr 1 (by simp)
    injection hA with hA
    injection hA with e1 e2
    subst e1 e2
    have b0 : d0 < 4294967296 := hB d0 (by simp)
    have b1 : d1 < 4294967296 := hB d1 (by simp)
    have hV' : d1 * 4294967296 + d0 = n := by rw [← hV]; simp [val, B32]; omega
    have HV := Lib.hid hV'
    clear hr hd hV hB hV' hp
    simp at h0 h1
    go_enter Try.func122, Try.ntmps122
    go_wp2_with fail
    refine ht.mono ?_
    rintro e w' ⟨rfl, rfl⟩
    go_wp2_with fail
    go_quiet (fail)
    go_wp2
    go_ret2
    refine ⟨?_, _, rfl⟩
    have e : bits BinOp.or IntKind.u64 ((d1 : Int) * 4294967296) (d0 : Int) = ((d1 * 4294967296 + d0 : Nat) : Int) := by
      have := u64_or_nat (d1 * 4294967296) d0 (by omega) (by omega)
      rw [hi_lo d1 d0 b0] at this
      rw [← this]
      rfl
    rw [← HV.out, ← e]
    rfl
  · rw [hd] at hp
    simp at hp

theorem uint64_no {w : World} {A : Option Addr} {c : Nat} {ds : List Nat} (h : NR w A c ds) (hge : 18446744073709551616 ≤ V ds) :
    Calls Try.prog 122 #[.slice A ds.length c] w fun e w' => e = .returned (.tuple #[.int .u64 0, .bool false]) ∧ Qt w w' := by
  have ht := trim_nr h
  have hn := h.trim
  clear h
  have hle := hn.le
  have hcap := hn.cap
  generalize V ds = n at *
  have hp : 2 < (digs B32 n).length := by
    rcases Nat.lt_or_ge 2 (digs B32 n).length with h1 | h1
    · exact h1
    · have h2 := lt_pow_len B32_two n
      have h3 : B32 ^ (digs B32 n).length ≤ B32 ^ 2 := Nat.pow_le_pow_right (by unfold B32; omega) h1
      have h4 : B32 ^ 2 = 18446744073709551616 := by decide
      omega
  clear hn hge
  generalize (digs B32 n).length = L at *
  have k0 : ((L : Int) == 0) = false := by simp; omega
  have k1 : ((L : Int) == 1) = false := by simp; omega
  have k2 : ((L : Int) == 2) = false := by simp; omega
  go_enter Try.func122, Try.ntmps122
  go_wp2_with fail
  refine ht.mono ?_
  rintro e w' ⟨rfl, rfl⟩
  go_wp2_with fail
  go_ret2
  exact ⟨rfl, Qt.refl _⟩

theorem Qt.drewN {w w' : World} (h : Qt w w') (n : Nat) : Qt w (w'.drewN n) := by
  obtain ⟨m, rfl⟩ := h
  exact ⟨m + n, World.drewN_drewN _ _ _⟩
theorem cmp_any {w : World} {A1 A2 : Option Addr} {c1 c2 : Nat} {d1 d2 : List Nat} (h1 : NR w A1 c1 d1) (h2 : NR w A2 c2 d2) :
    Calls Try.prog 99 #[.slice A1 d1.length c1, .slice A2 d2.length c2] w fun e w' => e = .returned (.int .i64 (cmpN (V d1) (V d2))) ∧ Qt w w' := by
  have t1 := trim_nr h1
  have t2 := trim_nr h2
  have n1 := h1.trim
  have n2 := h2.trim
  clear h1 h2
  generalize V d1 = a at *
  generalize V d2 = b at *
  have hv1 := n1.valid
  have hv2 := n2.valid
  have r1 := n1.rd
  have r2 := n2.rd
  have le1 := n1.le
  have le2 := n2.le
  have cp1 := n1.cap
  have cp2 := n2.cap
  clear n1 n2
  have HLT : (digs B32 a).length < (digs B32 b).length → a < b := lt_of_digs_len B32_two
  have HGT : (digs B32 b).length < (digs B32 a).length → b < a := lt_of_digs_len B32_two
  have ea := val_digs B32_two a
  have eb := val_digs B32_two b
  generalize digs B32 a = da at *
  generalize digs B32 b = db at *
  rcases Nat.lt_trichotomy da.length db.length with hl | hl | hl
  · have HC := Lib.hid (cmpN_lt (HLT hl))
    clear HLT HGT hv1 hv2 r1 r2 ea eb
    go_enter Try.func99, Try.ntmps99
    go_wp2_with fail
    refine t1.mono ?_
    rintro e w' ⟨rfl, rfl⟩
    go_wp2_with fail
    refine t2.mono ?_
    rintro e w' ⟨rfl, rfl⟩
    go_wp2_with fail
    go_ret
    exact ⟨by rw [HC.out]; rfl, Qt.refl _⟩
  · clear HLT HGT
    have HR1 := Lib.hid r1
    have HR2 := Lib.hid r2
    have HV1 := Lib.hid hv1
    have HV2 := Lib.hid hv2
    have HE1 := Lib.hid ea
    have HE2 := Lib.hid eb
    have HL := Lib.hid hl
    clear r1 r2 hv1 hv2 ea eb
    have hl1 : ¬ da.length < db.length := by omega
    have hl2 : ¬ db.length < da.length := by omega
    clear hl
    go_enter Try.func99, Try.ntmps99
    go_wp2_with fail
    refine t1.mono ?_
    rintro e w' ⟨rfl, rfl⟩
    go_wp2_with fail
    refine t2.mono ?_
    rintro e w' ⟨rfl, rfl⟩
    go_wp2_with fail
    clear t1 t2
    go_loopw [5] (fun i wr => ∃ k : Nat, k ≤ da.length ∧ i = .int .i64 ((k : Int) - 1) ∧ da.drop k = db.drop k ∧ Qt w wr) (fun i _ => (intOf i + 1).toNat)
    case atStart => exact ⟨da.length, Nat.le_refl _, rfl, by rw [List.drop_length, HL.out, List.drop_length], Qt.refl _⟩
    case round =>
      obtain ⟨k, hk, rfl, hd, nq, rfl⟩ := hrel
      have HD := Lib.hid hd
      clear hd
      by_cases h0 : k = 0
      · subst h0
        go_wp2
        go_ret
        refine ⟨?_, _, rfl⟩
        have := HD.out
        simp at this
        rw [← HE1.out, ← HE2.out, this, cmpN_eq]
        rfl
      · obtain ⟨b1, o1, rfl, hb1, hc1⟩ := HR1.out (k - 1) (by omega)
        obtain ⟨b2, o2, rfl, hb2, hc2⟩ := HR2.out (k - 1) (by omega)
        have hp : 0 < k := by omega
        rcases Nat.lt_trichotomy (da[k - 1]'(by omega)) (db[k - 1]'(by omega)) with hx | hx | hx
        · have HC : Hid (val B32 da < val B32 db) := val_lt_of_digit HV1.out (k - 1) (by omega) (by omega) hx (by rw [Nat.sub_add_cancel hp]; exact HD.out)
          go_wp2_with fail
          go_quiet (fail)
          go_wp2
          go_ret
          refine ⟨?_, by repeat (first | exact ⟨_, rfl⟩ | apply Qt.drewN)⟩
          have := HC.out
          rw [HE1.out, HE2.out] at this
          rw [cmpN_lt this]
          rfl
        · have x1 : ¬ da[k - 1]'(by omega) < db[k - 1]'(by omega) := by omega
          have x2 : ¬ db[k - 1]'(by omega) < da[k - 1]'(by omega) := by omega
          have HX : Hid (da.drop (k - 1) = db.drop (k - 1)) := by
            have h1 := List.drop_eq_getElem_cons (l := da) (i := k - 1) (by omega)
            have h2 := List.drop_eq_getElem_cons (l := db) (i := k - 1) (by omega)
            have h3 := HD.out
            rw [show k = k - 1 + 1 from by omega] at h3
            show _ = _
            rw [h1, h2, hx, h3]
          clear hx
          go_wp2_with fail
          go_quiet (fail)
          go_wp2_with fail
          go_quiet (fail)
          go_wp2
          go_roundw
          case rel => exact ⟨k - 1, by omega, by go_num, HX.out, by repeat (first | exact ⟨_, rfl⟩ | apply Qt.drewN)⟩
          case measure => simp [intOf]; omega
        · have HC : Hid (val B32 db < val B32 da) := val_lt_of_digit HV2.out (k - 1) (by omega) (by omega) hx (by rw [Nat.sub_add_cancel hp]; exact HD.out.symm)
          go_wp2_with fail
          go_quiet (fail)
          go_wp2_with fail
          go_quiet (fail)
          go_wp2
          go_ret
          refine ⟨?_, by repeat (first | exact ⟨_, rfl⟩ | apply Qt.drewN)⟩
          have := HC.out
          rw [HE1.out, HE2.out] at this
          rw [cmpN_gt this]
          rfl
  · have HC := Lib.hid (cmpN_gt (HGT hl))
    clear HLT HGT hv1 hv2 r1 r2 ea eb
    go_enter Try.func99, Try.ntmps99
    go_wp2_with fail
    refine t1.mono ?_
    rintro e w' ⟨rfl, rfl⟩
    go_wp2_with fail
    refine t2.mono ?_
    rintro e w' ⟨rfl, rfl⟩
    go_wp2_with fail
    go_ret
    exact ⟨by rw [HC.out]; rfl, Qt.refl _⟩
end Go.Proofs.Ytfnmbhjifdfibaa
