/- Contracts of natural.Add and natural.Sub. -/
import Derived.Test.YtfnmbhjifdfibaaNatA
namespace Go.Proofs.Ytfnmbhjifdfibaa
open Go.RowKit

theorem addc_any {x y c g : Nat} {w : World} (hrow : Row w g .u32 139 [c]) (hx : x < 4294967296) (hy : y < 4294967296) (hc : c ≤ 1) :
    Calls Try.prog 125 #[.int .u32 x, .int .u32 y, .pointer (some ⟨g, 0, none⟩)] w fun e w' => e = .returned (.int .u32 ((x + y + c) % 4294967296 : Nat)) ∧
      Row w' g .u32 139 [(x + y + c) / 4294967296] ∧ Only w w' g := by
  have h0 : w.cell? ⟨g, 0, none⟩ = some (.int .u32 c) := hrow.cell (i := 0) (by simp)
  have hf := hrow.frozen 0
  have hlt := hrow.lt
  have HR := Lib.hid (hrow.set_ 0 ((x + y + c) / 4294967296))
  clear hrow
  go_enter Try.func125, Try.ntmps125
  go_wp2_with fail
  refine (add32_any x y c _ hx hy hc).mono ?_
  rintro e w' ⟨rfl, rfl⟩
  go_wp2_with fail
  go_ret
  exact ⟨rfl, HR.out, Only.set_ _ _ _⟩

/-- What holds at the head of a round of 'Add': the carry in block gc, the digits so far in block g. -/
def AddInv (w wr : World) (gc g : Nat) (da db : List Nat) (k : Nat) : Prop :=
  ∃ cy zs, Row wr gc .u32 139 [cy] ∧ cy ≤ 1 ∧ Row wr g .u32 139 zs ∧ zs.length = da.length + 1 ∧ Valid B32 zs ∧
    val B32 (zs.take k) + B32 ^ k * cy = val B32 (da.take k) + val B32 (db.take k) ∧ Ext w wr

theorem AddInv.step {w w2 : World} {gc g : Nat} {da db : List Nat} {k cy : Nat} {zs : List Nat} {x y : Nat}
    (hcy : cy ≤ 1) (hx : x < B32) (hy : y < B32) (hgc : gc < g) (hwg : w.heap.size ≤ gc)
    (hc2 : Row w2 gc .u32 139 [(x + y + cy) / 4294967296]) (hz2 : Row w2 g .u32 139 zs) (hl : zs.length = da.length + 1) (hv : Valid B32 zs) (hk : k < zs.length)
    (he : val B32 (zs.take k) + B32 ^ k * cy = val B32 (da.take k) + val B32 (db.take k))
    (ha : val B32 (da.take (k + 1)) = val B32 (da.take k) + B32 ^ k * x) (hb : val B32 (db.take (k + 1)) = val B32 (db.take k) + B32 ^ k * y) (hext : Ext w w2) :
    AddInv w (w2.setCell ⟨g, k, none⟩ (.int .u32 ((x + y + cy) % 4294967296 : Nat))) gc g da db (k + 1) := by
  refine ⟨(x + y + cy) / B32, zs.set k ((x + y + cy) % B32), hc2.far (p := ⟨g, k, none⟩) (by show gc ≠ g; omega) _, ?_, hz2.set_ k _, by simpa using hl, valid_set hv _ _ (Nat.mod_lt _ (by unfold B32; omega)), ?_, ?_⟩
  · unfold B32 at *; omega
  · rw [val_set B32 hk, ha, hb, Nat.pow_succ]
    exact carry_step he
  · exact Below.setCell hext (p := ⟨g, k, none⟩) (by show w.heap.size ≤ g; omega) _

theorem add_ge {w : World} {A1 A2 : Option Addr} {c1 c2 : Nat} {d1 d2 : List Nat} (h1 : NR w A1 c1 d1) (h2 : NR w A2 c2 d2) (hs : dl (V d1) ≤ 17592186044416) (hge : dl (V d2) ≤ dl (V d1)) :
    Calls Try.prog 98 #[.slice A1 d1.length c1, .slice A2 d2.length c2] w (RetN w (V d1 + V d2)) := by
  have t1 := trim_nr h1
  have t2 := trim_nr h2
  have n1 := h1.trim
  have n2 := h2.trim
  clear h1 h2
  unfold dl at hs hge
  generalize V d1 = a at *
  generalize V d2 = b at *
  have HV1 := Lib.hid n1.valid
  have HV2 := Lib.hid n2.valid
  have HR1 := Lib.hid n1.rd
  have HR2 := Lib.hid n2.rd
  have HA := Lib.hid (val_digs B32_two a)
  have HB := Lib.hid (val_digs B32_two b)
  clear n1 n2
  have hge' : ¬ (digs B32 a).length < (digs B32 b).length := by omega
  go_enter Try.func98, Try.ntmps98
  go_wp2_with fail
  refine t1.mono ?_
  rintro e w' ⟨rfl, rfl⟩
  go_wp2_with fail
  refine t2.mono ?_
  rintro e w' ⟨rfl, rfl⟩
  clear t1 t2
  go_wp2_with (at_make; refine wpList_mkrow rfl _ _ _ rfl _ _ _ Try.underlying23 info_u32 (by omega) _ _ _ ((digs B32 a).length + 1) rfl rfl (by omega) (by omega) ?_)
  intro g w1 hg hrow hx
  have hgc : w.heap.size < g := by first | omega | (simp at hg; omega)
  have hinv : AddInv w w1 w.heap.size g (digs B32 a) (digs B32 b) 0 :=
    ⟨0, _, (Row.new w .u32 139 [0]).ext hx, by omega, hrow, by simp, valid_replicate (by unfold B32; omega) _, by simp [val], (Ext.alloc w _).trans hx⟩
  have hw1 := hx.size
  clear hrow hx
  generalize digs B32 a = da at *
  generalize digs B32 b = db at *
  go_wp2_with fail
  go_loopw [29] (fun i wr => ∃ k : Nat, k ≤ db.length ∧ i = .int .i64 k ∧ AddInv w wr w.heap.size g da db k) (fun i _ => db.length - (intOf i).toNat)
  case atStart => exact ⟨0, Nat.zero_le _, rfl, hinv⟩
  case round =>
    clear hinv
    obtain ⟨k, hk, rfl, hinv⟩ := hrel
    by_cases hlt : k < db.length
    · have hka : k < da.length := by omega
      obtain ⟨cy, zs, hc, hcy, hz, hl, hv, he, hext⟩ := hinv
      obtain ⟨b1, o1, rfl, hb1, hc1⟩ := (HR1.out.below hext).at_ (j := k) hka
      obtain ⟨b2, o2, rfl, hb2, hc2⟩ := (HR2.out.below hext).at_ (j := k) hlt
      go_wp2_with fail
      have hx : da[k]'hka < 4294967296 := valid_get HV1.out k hka
      have hy : db[k] < 4294967296 := valid_get HV2.out k hlt
      refine (addc_any hc hx hy hcy).mono ?_
      rintro e w2 ⟨rfl, hc', ho⟩
      have hz' := hz.only ho (by omega)
      obtain ⟨z0, hcell⟩ := hz'.some_ (i := k) (by omega)
      have hfr := hz'.frozen k
      have hk2 : k < da.length + 1 := by omega
      have HS := Lib.hid (AddInv.step hcy hx hy hgc (Nat.le_refl _) hc' hz' hl hv (by omega) he (val_take_succ B32 da k hka) (val_take_succ B32 db k hlt) (Below.trans hext (ho.below (Nat.le_refl _))))
      clear hc hz he hl hv hc' hz' hext hx hy hc1 hc2
      go_wp2_with fail
      go_roundw
      case rel => exact ⟨k + 1, by omega, by go_num, HS.out⟩
      case measure => simp [intOf]; omega
    · obtain rfl : k = db.length := by omega
      clear hk hlt
      go_wp2_with fail
      go_loopw [10] (fun i wr => ∃ k : Nat, db.length ≤ k ∧ k ≤ da.length ∧ i = .int .i64 k ∧ AddInv w wr w.heap.size g da db k) (fun i _ => da.length - (intOf i).toNat)
      case atStart => exact ⟨db.length, by omega, by omega, rfl, hinv⟩
      case round =>
        clear hinv
        obtain ⟨k, hkb, hk, rfl, hinv⟩ := hrel
        by_cases hlt : k < da.length
        · obtain ⟨cy, zs, hc, hcy, hz, hl, hv, he, hext⟩ := hinv
          obtain ⟨b1, o1, rfl, hb1, hc1⟩ := (HR1.out.below hext).at_ (j := k) hlt
          go_wp2_with fail
          have hx : da[k] < 4294967296 := valid_get HV1.out k hlt
          refine (addc_any (y := 0) hc hx (by omega) hcy).mono ?_
          rintro e w2 ⟨rfl, hc', ho⟩
          have hz' := hz.only ho (by omega)
          obtain ⟨z0, hcell⟩ := hz'.some_ (i := k) (by omega)
          have hfr := hz'.frozen k
          have hk2 : k < da.length + 1 := by omega
          have HS := Lib.hid (AddInv.step (y := 0) hcy hx (by unfold B32; omega) hgc (Nat.le_refl _) hc' hz' hl hv (by omega) he (val_take_succ B32 da k hlt)
            (by rw [List.take_of_length_le (by omega), List.take_of_length_le (by omega)]; simp) (Below.trans hext (ho.below (Nat.le_refl _))))
          clear hc hz he hl hv hc' hz' hext hx hc1
          go_wp2_with fail
          go_roundw
          case rel => exact ⟨k + 1, by omega, by omega, by go_num, HS.out⟩
          case measure => simp [intOf]; omega
        · obtain rfl : k = da.length := by omega
          obtain ⟨cy, zs, hc, hcy, hz, hl, hv, he, hext⟩ := hinv
          have hcc := hc.cell (i := 0) (by simp)
          simp only [List.getElem_cons_zero] at hcc
          obtain ⟨z0, hcell⟩ := hz.some_ (i := da.length) (by omega)
          have hfr := hz.frozen da.length
          have HZ := Lib.hid (hz.set_ da.length cy)
          have HX : Hid (Ext w (wr.setCell ⟨g, da.length, none⟩ (.int .u32 (cy : Int)))) := Below.setCell hext (p := ⟨g, da.length, none⟩) (by show w.heap.size ≤ g; omega) _
          have HW : Hid (Valid B32 (zs.set da.length cy)) := valid_set hv _ _ (by unfold B32; omega)
          have HE : Hid (V (zs.set da.length cy) = a + b) := by
            show val B32 _ = _
            have h1 := val_set B32 (zs := zs) (k := da.length) (v := cy) (by omega)
            rw [List.take_of_length_le (by simp; omega)] at h1
            rw [h1, he, List.take_of_length_le (Nat.le_refl _), List.take_of_length_le (by omega), HA.out, HB.out]
          have HL : Hid (da.length + 1 = (zs.set da.length cy).length) := by show _ = _; simp [hl]
          clear hc hz he hl hv hext
          go_wp2_with fail
          rw [HL.out]
          have hnr : NR (wr.setCell ⟨g, da.length, none⟩ (.int .u32 (cy : Int))) (some ⟨g, 0, none⟩) (zs.set da.length cy).length (zs.set da.length cy) :=
            ⟨by have := HZ.out.rd (zs.set da.length cy).length; rwa [List.take_length] at this, HW.out, Nat.le_refl _, by rw [← HL.out]; omega⟩
          refine (trim_nr hnr).mono ?_
          rintro e w' ⟨rfl, rfl⟩
          have hown := (Own.of_row' (B := w.heap.size) (n := zs.length) (ds := digs B32 (a + b)) HZ.out (by omega) (by rw [← HL.out]; unfold maxLen; omega) (by simp)
            (by rw [← HE.out, ← trim_V HW.out]; exact trimL_take _))
          have hX := HX.out
          rw [HE.out]
          clear hnr
          go_wp2_with fail
          go_ret
          exact ⟨_, _, rfl, hown, hX⟩
theorem add_lt {w : World} {A1 A2 : Option Addr} {c1 c2 : Nat} {d1 d2 : List Nat} (h1 : NR w A1 c1 d1) (h2 : NR w A2 c2 d2) (hs : dl (V d1) ≤ 17592186044416) (hge : dl (V d2) < dl (V d1)) :
    Calls Try.prog 98 #[.slice A2 d2.length c2, .slice A1 d1.length c1] w (RetN w (V d1 + V d2)) := by
  have t1 := trim_nr h1
  have t2 := trim_nr h2
  have n1 := h1.trim
  have n2 := h2.trim
  clear h1 h2
  unfold dl at hs hge
  generalize V d1 = a at *
  generalize V d2 = b at *
  have HV1 := Lib.hid n1.valid
  have HV2 := Lib.hid n2.valid
  have HR1 := Lib.hid n1.rd
  have HR2 := Lib.hid n2.rd
  have HA := Lib.hid (val_digs B32_two a)
  have HB := Lib.hid (val_digs B32_two b)
  clear n1 n2
  go_enter Try.func98, Try.ntmps98
  go_wp2_with fail
  refine t2.mono ?_
  rintro e w' ⟨rfl, rfl⟩
  go_wp2_with fail
  refine t1.mono ?_
  rintro e w' ⟨rfl, rfl⟩
  clear t1 t2
  go_wp2_with (at_make; refine wpList_mkrow rfl _ _ _ rfl _ _ _ Try.underlying23 info_u32 (by omega) _ _ _ ((digs B32 a).length + 1) rfl rfl (by omega) (by omega) ?_)
  intro g w1 hg hrow hx
  have hgc : w.heap.size < g := by first | omega | (simp at hg; omega)
  have hinv : AddInv w w1 w.heap.size g (digs B32 a) (digs B32 b) 0 :=
    ⟨0, _, (Row.new w .u32 139 [0]).ext hx, by omega, hrow, by simp, valid_replicate (by unfold B32; omega) _, by simp [val], (Ext.alloc w _).trans hx⟩
  have hw1 := hx.size
  clear hrow hx
  generalize digs B32 a = da at *
  generalize digs B32 b = db at *
  go_wp2_with fail
  go_loopw [29] (fun i wr => ∃ k : Nat, k ≤ db.length ∧ i = .int .i64 k ∧ AddInv w wr w.heap.size g da db k) (fun i _ => db.length - (intOf i).toNat)
  case atStart => exact ⟨0, Nat.zero_le _, rfl, hinv⟩
  case round =>
    clear hinv
    obtain ⟨k, hk, rfl, hinv⟩ := hrel
    by_cases hlt : k < db.length
    · have hka : k < da.length := by omega
      obtain ⟨cy, zs, hc, hcy, hz, hl, hv, he, hext⟩ := hinv
      obtain ⟨b1, o1, rfl, hb1, hc1⟩ := (HR1.out.below hext).at_ (j := k) hka
      obtain ⟨b2, o2, rfl, hb2, hc2⟩ := (HR2.out.below hext).at_ (j := k) hlt
      go_wp2_with fail
      have hx : da[k]'hka < 4294967296 := valid_get HV1.out k hka
      have hy : db[k] < 4294967296 := valid_get HV2.out k hlt
      refine (addc_any hc hx hy hcy).mono ?_
      rintro e w2 ⟨rfl, hc', ho⟩
      have hz' := hz.only ho (by omega)
      obtain ⟨z0, hcell⟩ := hz'.some_ (i := k) (by omega)
      have hfr := hz'.frozen k
      have hk2 : k < da.length + 1 := by omega
      have HS := Lib.hid (AddInv.step hcy hx hy hgc (Nat.le_refl _) hc' hz' hl hv (by omega) he (val_take_succ B32 da k hka) (val_take_succ B32 db k hlt) (Below.trans hext (ho.below (Nat.le_refl _))))
      clear hc hz he hl hv hc' hz' hext hx hy hc1 hc2
      go_wp2_with fail
      go_roundw
      case rel => exact ⟨k + 1, by omega, by go_num, HS.out⟩
      case measure => simp [intOf]; omega
    · obtain rfl : k = db.length := by omega
      clear hk hlt
      go_wp2_with fail
      go_loopw [10] (fun i wr => ∃ k : Nat, db.length ≤ k ∧ k ≤ da.length ∧ i = .int .i64 k ∧ AddInv w wr w.heap.size g da db k) (fun i _ => da.length - (intOf i).toNat)
      case atStart => exact ⟨db.length, by omega, by omega, rfl, hinv⟩
      case round =>
        clear hinv
        obtain ⟨k, hkb, hk, rfl, hinv⟩ := hrel
        by_cases hlt : k < da.length
        · obtain ⟨cy, zs, hc, hcy, hz, hl, hv, he, hext⟩ := hinv
          obtain ⟨b1, o1, rfl, hb1, hc1⟩ := (HR1.out.below hext).at_ (j := k) hlt
          go_wp2_with fail
          have hx : da[k] < 4294967296 := valid_get HV1.out k hlt
          refine (addc_any (y := 0) hc hx (by omega) hcy).mono ?_
          rintro e w2 ⟨rfl, hc', ho⟩
          have hz' := hz.only ho (by omega)
          obtain ⟨z0, hcell⟩ := hz'.some_ (i := k) (by omega)
          have hfr := hz'.frozen k
          have hk2 : k < da.length + 1 := by omega
          have HS := Lib.hid (AddInv.step (y := 0) hcy hx (by unfold B32; omega) hgc (Nat.le_refl _) hc' hz' hl hv (by omega) he (val_take_succ B32 da k hlt)
            (by rw [List.take_of_length_le (by omega), List.take_of_length_le (by omega)]; simp) (Below.trans hext (ho.below (Nat.le_refl _))))
          clear hc hz he hl hv hc' hz' hext hx hc1
          go_wp2_with fail
          go_roundw
          case rel => exact ⟨k + 1, by omega, by omega, by go_num, HS.out⟩
          case measure => simp [intOf]; omega
        · obtain rfl : k = da.length := by omega
          obtain ⟨cy, zs, hc, hcy, hz, hl, hv, he, hext⟩ := hinv
          have hcc := hc.cell (i := 0) (by simp)
          simp only [List.getElem_cons_zero] at hcc
          obtain ⟨z0, hcell⟩ := hz.some_ (i := da.length) (by omega)
          have hfr := hz.frozen da.length
          have HZ := Lib.hid (hz.set_ da.length cy)
          have HX : Hid (Ext w (wr.setCell ⟨g, da.length, none⟩ (.int .u32 (cy : Int)))) := Below.setCell hext (p := ⟨g, da.length, none⟩) (by show w.heap.size ≤ g; omega) _
          have HW : Hid (Valid B32 (zs.set da.length cy)) := valid_set hv _ _ (by unfold B32; omega)
          have HE : Hid (V (zs.set da.length cy) = a + b) := by
            show val B32 _ = _
            have h1 := val_set B32 (zs := zs) (k := da.length) (v := cy) (by omega)
            rw [List.take_of_length_le (by simp; omega)] at h1
            rw [h1, he, List.take_of_length_le (Nat.le_refl _), List.take_of_length_le (by omega), HA.out, HB.out]
          have HL : Hid (da.length + 1 = (zs.set da.length cy).length) := by show _ = _; simp [hl]
          clear hc hz he hl hv hext
          go_wp2_with fail
          rw [HL.out]
          have hnr : NR (wr.setCell ⟨g, da.length, none⟩ (.int .u32 (cy : Int))) (some ⟨g, 0, none⟩) (zs.set da.length cy).length (zs.set da.length cy) :=
            ⟨by have := HZ.out.rd (zs.set da.length cy).length; rwa [List.take_length] at this, HW.out, Nat.le_refl _, by rw [← HL.out]; omega⟩
          refine (trim_nr hnr).mono ?_
          rintro e w' ⟨rfl, rfl⟩
          have hown := (Own.of_row' (B := w.heap.size) (n := zs.length) (ds := digs B32 (a + b)) HZ.out (by omega) (by rw [← HL.out]; unfold maxLen; omega) (by simp)
            (by rw [← HE.out, ← trim_V HW.out]; exact trimL_take _))
          have hX := HX.out
          rw [HE.out]
          clear hnr
          go_wp2_with fail
          go_ret
          exact ⟨_, _, rfl, hown, hX⟩

theorem add_any {w : World} {A1 A2 : Option Addr} {c1 c2 : Nat} {d1 d2 : List Nat} (h1 : NR w A1 c1 d1) (h2 : NR w A2 c2 d2) (hs : dl (V d1) ≤ 17592186044416) (hs2 : dl (V d2) ≤ 17592186044416) :
    Calls Try.prog 98 #[.slice A1 d1.length c1, .slice A2 d2.length c2] w (RetN w (V d1 + V d2)) := by
  rcases Nat.lt_or_ge (dl (V d1)) (dl (V d2)) with h | h
  · rw [Nat.add_comm]; exact add_lt h2 h1 hs2 h
  · exact add_ge h1 h2 hs h

/-- The call returns the number n in new memory, and true. -/
def RetNT (w : World) (n : Nat) (e : Ending) (w' : World) : Prop := ∃ A c, e = .returned (.tuple #[.slice A (digs B32 n).length c, .bool true]) ∧ NO w' w.heap.size A c n ∧ Ext w w'

theorem subc_any {x y c g : Nat} {w : World} (hrow : Row w g .u32 139 [c]) (hx : x < 4294967296) (hy : y < 4294967296) (hc : c ≤ 1) :
    Calls Try.prog 127 #[.int .u32 x, .int .u32 y, .pointer (some ⟨g, 0, none⟩)] w fun e w' => e = .returned (.int .u32 ((x + 4294967296 - y - c) % 4294967296 : Nat)) ∧
      Row w' g .u32 139 [bor x y c] ∧ Only w w' g := by
  have h0 : w.cell? ⟨g, 0, none⟩ = some (.int .u32 c) := hrow.cell (i := 0) (by simp)
  have hf := hrow.frozen 0
  have hlt := hrow.lt
  have HR := Lib.hid (hrow.set_ 0 (bor x y c))
  clear hrow
  go_enter Try.func127, Try.ntmps127
  go_wp2_with fail
  refine (sub32_any x y c _ hx hy hc).mono ?_
  rintro e w' ⟨rfl, rfl⟩
  go_wp2_with fail
  go_ret
  exact ⟨rfl, HR.out, Only.set_ _ _ _⟩

/-- What holds at the head of a round of 'Sub': the borrow in block gc, the digits so far in block g. -/
def SubInv (w wr : World) (gc g : Nat) (da db : List Nat) (k : Nat) : Prop :=
  ∃ cy zs, Row wr gc .u32 139 [cy] ∧ cy ≤ 1 ∧ Row wr g .u32 139 zs ∧ zs.length = da.length ∧ Valid B32 zs ∧
    val B32 (zs.take k) + val B32 (db.take k) = val B32 (da.take k) + B32 ^ k * cy ∧ Ext w wr

theorem bor_le (x y c : Nat) : bor x y c ≤ 1 := by unfold bor; split <;> omega
theorem bor_eq {x y c : Nat} (hx : x < 4294967296) (hy : y < 4294967296) (hc : c ≤ 1) : (x + 4294967296 - y - c) % 4294967296 + y + c = x + 4294967296 * bor x y c := by
  unfold bor; split <;> omega
theorem SubInv.step {w w2 : World} {gc g : Nat} {da db : List Nat} {k cy : Nat} {zs : List Nat} {x y : Nat}
    (hcy : cy ≤ 1) (hx : x < B32) (hy : y < B32) (hgc : gc < g) (hwg : w.heap.size ≤ gc)
    (hc2 : Row w2 gc .u32 139 [bor x y cy]) (hz2 : Row w2 g .u32 139 zs) (hl : zs.length = da.length) (hv : Valid B32 zs) (hk : k < zs.length)
    (he : val B32 (zs.take k) + val B32 (db.take k) = val B32 (da.take k) + B32 ^ k * cy)
    (ha : val B32 (da.take (k + 1)) = val B32 (da.take k) + B32 ^ k * x) (hb : val B32 (db.take (k + 1)) = val B32 (db.take k) + B32 ^ k * y) (hext : Ext w w2) :
    SubInv w (w2.setCell ⟨g, k, none⟩ (.int .u32 ((x + 4294967296 - y - cy) % 4294967296 : Nat))) gc g da db (k + 1) := by
  refine ⟨bor x y cy, zs.set k ((x + 4294967296 - y - cy) % 4294967296), hc2.far (p := ⟨g, k, none⟩) (by show gc ≠ g; omega) _, bor_le _ _ _, hz2.set_ k _, by simpa using hl, valid_set hv _ _ (Nat.mod_lt _ (by omega)), ?_, ?_⟩
  · rw [val_set B32 hk, ha, hb, Nat.pow_succ]
    exact borrow_step he (bor_eq hx hy hcy)
  · exact Below.setCell hext (p := ⟨g, k, none⟩) (by show w.heap.size ≤ g; omega) _

theorem sub_yes {w : World} {A1 A2 : Option Addr} {c1 c2 : Nat} {d1 d2 : List Nat} (h1 : NR w A1 c1 d1) (h2 : NR w A2 c2 d2) (hs : dl (V d1) ≤ 17592186044416) (hge : V d2 ≤ V d1) :
    Calls Try.prog 100 #[.slice A1 d1.length c1, .slice A2 d2.length c2] w (RetNT w (V d1 - V d2)) := by
  have t1 := trim_nr h1
  have t2 := trim_nr h2
  have n1 := h1.trim
  have n2 := h2.trim
  clear h1 h2
  unfold dl at hs
  generalize V d1 = a at *
  generalize V d2 = b at *
  have HV1 := Lib.hid n1.valid
  have HV2 := Lib.hid n2.valid
  have HR1 := Lib.hid n1.rd
  have HR2 := Lib.hid n2.rd
  have HA := Lib.hid (val_digs B32_two a)
  have HB := Lib.hid (val_digs B32_two b)
  have tc := cmp_any n1 n2
  have hVa : V (digs B32 a) = a := HA.out
  have hVb : V (digs B32 b) = b := HB.out
  rw [hVa, hVb] at tc
  clear n1 n2 hVa hVb
  have hcm : 0 ≤ cmpN a b := by unfold cmpN; rw [if_neg (by omega)]; split <;> omega
  have HGE := Lib.hid hge
  have hle : (digs B32 b).length ≤ (digs B32 a).length := digs_len_mono B32_two hge
  clear hge
  generalize cmpN a b = cab at *
  go_enter Try.func100, Try.ntmps100
  go_wp2_with fail
  refine t1.mono ?_
  rintro e w' ⟨rfl, rfl⟩
  go_wp2_with fail
  refine t2.mono ?_
  rintro e w' ⟨rfl, rfl⟩
  clear t1 t2
  go_wp2_with fail
  refine tc.mono ?_
  rintro e w0 ⟨rfl, hq⟩
  have hx0 := hq.ext
  clear tc hq
  go_wp2_with (at_make; refine wpList_mkrow rfl _ _ _ rfl _ _ _ Try.underlying23 info_u32 (by omega) _ _ _ (digs B32 a).length rfl rfl (by omega) (by omega) ?_)
  intro g w1 hg hrow hx
  have hgc : w0.heap.size < g := by first | omega | (simp at hg; omega)
  have hw0 := hx0.size
  have hinv : SubInv w w1 w0.heap.size g (digs B32 a) (digs B32 b) 0 :=
    ⟨0, _, (Row.new w0 .u32 139 [0]).ext hx, by omega, hrow, by simp, valid_replicate (by unfold B32; omega) _, by simp [val], hx0.trans ((Ext.alloc w0 _).trans hx)⟩
  have hw1 := hx.size
  clear hrow hx
  generalize digs B32 a = da at *
  generalize digs B32 b = db at *
  go_wp2_with fail
  go_loopw [26] (fun i wr => ∃ k : Nat, k ≤ db.length ∧ i = .int .i64 k ∧ SubInv w wr w0.heap.size g da db k) (fun i _ => db.length - (intOf i).toNat)
  case atStart => exact ⟨0, Nat.zero_le _, rfl, hinv⟩
  case round =>
    clear hinv
    obtain ⟨k, hk, rfl, hinv⟩ := hrel
    by_cases hlt : k < db.length
    · have hka : k < da.length := by omega
      obtain ⟨cy, zs, hc, hcy, hz, hl, hv, he, hext⟩ := hinv
      obtain ⟨b1, o1, rfl, hb1, hc1⟩ := (HR1.out.below hext).at_ (j := k) hka
      obtain ⟨b2, o2, rfl, hb2, hc2⟩ := (HR2.out.below hext).at_ (j := k) hlt
      go_wp2_with fail
      have hx : da[k]'hka < 4294967296 := valid_get HV1.out k hka
      have hy : db[k] < 4294967296 := valid_get HV2.out k hlt
      refine (subc_any hc hx hy hcy).mono ?_
      rintro e w2 ⟨rfl, hc', ho⟩
      have hz' := hz.only ho (by omega)
      obtain ⟨z0, hcell⟩ := hz'.some_ (i := k) (by omega)
      have hfr := hz'.frozen k
      have HS := Lib.hid (SubInv.step hcy hx hy hgc hw0 hc' hz' hl hv (by omega) he (val_take_succ B32 da k hka) (val_take_succ B32 db k hlt) (Below.trans hext (ho.below hw0)))
      clear hc hz he hl hv hc' hz' hext hx hy hc1 hc2
      go_wp2_with fail
      go_roundw
      case rel => exact ⟨k + 1, by omega, by go_num, HS.out⟩
      case measure => simp [intOf]; omega
    · obtain rfl : k = db.length := by omega
      clear hk hlt
      go_wp2_with fail
      go_loopw [11] (fun i wr => ∃ k : Nat, db.length ≤ k ∧ k ≤ da.length ∧ i = .int .i64 k ∧ SubInv w wr w0.heap.size g da db k) (fun i _ => da.length - (intOf i).toNat)
      case atStart => exact ⟨db.length, by omega, by omega, rfl, hinv⟩
      case round =>
        clear hinv
        obtain ⟨k, hkb, hk, rfl, hinv⟩ := hrel
        by_cases hlt : k < da.length
        · obtain ⟨cy, zs, hc, hcy, hz, hl, hv, he, hext⟩ := hinv
          obtain ⟨b1, o1, rfl, hb1, hc1⟩ := (HR1.out.below hext).at_ (j := k) hlt
          go_wp2_with fail
          have hx : da[k] < 4294967296 := valid_get HV1.out k hlt
          refine (subc_any (y := 0) hc hx (by omega) hcy).mono ?_
          rintro e w2 ⟨rfl, hc', ho⟩
          have hz' := hz.only ho (by omega)
          obtain ⟨z0, hcell⟩ := hz'.some_ (i := k) (by omega)
          have hfr := hz'.frozen k
          have HS := Lib.hid (SubInv.step (y := 0) hcy hx (by unfold B32; omega) hgc hw0 hc' hz' hl hv (by omega) he (val_take_succ B32 da k hlt)
            (by rw [List.take_of_length_le (by omega), List.take_of_length_le (by omega)]; simp) (Below.trans hext (ho.below hw0)))
          clear hc hz he hl hv hc' hz' hext hx hc1
          go_wp2_with fail
          go_roundw
          case rel => exact ⟨k + 1, by omega, by omega, by go_num, HS.out⟩
          case measure => simp [intOf]; omega
        · obtain rfl : k = da.length := by omega
          obtain ⟨cy, zs, hc, hcy, hz, hl, hv, he, hext⟩ := hinv
          have HE : Hid (V zs = a - b) := by
            show val B32 _ = _
            rw [List.take_of_length_le (by omega), List.take_of_length_le (by omega), List.take_of_length_le (by omega), HA.out, HB.out] at he
            have h1 := val_lt hv
            rw [hl] at h1
            have h2 := HGE.out
            generalize B32 ^ da.length = P at *
            generalize val B32 zs = Z at *
            rcases Nat.le_one_iff_eq_zero_or_eq_one.1 hcy with rfl | rfl <;> omega
          have hnr : NR wr (some ⟨g, 0, none⟩) zs.length zs :=
            ⟨by have := hz.rd zs.length; rwa [List.take_length] at this, hv, Nat.le_refl _, by omega⟩
          have ht := trim_nr hnr
          have hown := (Own.of_row' (B := w.heap.size) (n := zs.length) (ds := digs B32 (a - b)) hz (by omega) (by unfold maxLen; omega) rfl
            (by rw [← HE.out, ← trim_V hv]; exact trimL_take _))
          rw [HE.out] at ht
          rw [hl] at ht hown
          have HT := Lib.hid ht
          clear hc hz he hl hv hnr ht
          go_wp2_with fail
          refine HT.out.mono ?_
          rintro e w' ⟨rfl, rfl⟩
          go_wp2_with fail
          go_ret2
          exact ⟨_, _, rfl, hown, hext⟩

theorem sub_no {w : World} {A1 A2 : Option Addr} {c1 c2 : Nat} {d1 d2 : List Nat} (h1 : NR w A1 c1 d1) (h2 : NR w A2 c2 d2) (hlt : V d1 < V d2) :
    Calls Try.prog 100 #[.slice A1 d1.length c1, .slice A2 d2.length c2] w fun e w' => e = .returned (.tuple #[.slice none 0 0, .bool false]) ∧ Ext w w' := by
  have t1 := trim_nr h1
  have t2 := trim_nr h2
  have tc := cmp_any h1.trim h2.trim
  have hVa : V (digs B32 (V d1)) = V d1 := val_digs B32_two _
  have hVb : V (digs B32 (V d2)) = V d2 := val_digs B32_two _
  rw [hVa, hVb, cmpN_lt hlt] at tc
  clear h1 h2 hVa hVb hlt
  generalize V d1 = a at *
  generalize V d2 = b at *
  go_enter Try.func100, Try.ntmps100
  go_wp2_with fail
  refine t1.mono ?_
  rintro e w' ⟨rfl, rfl⟩
  go_wp2_with fail
  refine t2.mono ?_
  rintro e w' ⟨rfl, rfl⟩
  clear t1 t2
  go_wp2_with fail
  refine tc.mono ?_
  rintro e w0 ⟨rfl, hq⟩
  go_wp2_with fail
  go_ret2
  exact ⟨rfl, hq.ext⟩
end Go.Proofs.Ytfnmbhjifdfibaa
