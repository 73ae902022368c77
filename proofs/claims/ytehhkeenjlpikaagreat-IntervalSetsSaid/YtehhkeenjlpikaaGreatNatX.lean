/- Contracts of package natural. -/
import Derived.Test.YtehhkeenjlpikaaGreatBase
namespace Go.Proofs.YtehhkeenjlpikaaGreat
open Go.RowKit
theorem addc_any {x y c g : Nat} {w : World} (hrow : Row w g .u32 141 [c]) (hx : x < 4294967296) (hy : y < 4294967296) (hc : c ≤ 1) :
    Calls Tryz.prog 130 #[.int .u32 x, .int .u32 y, .pointer (some ⟨g, 0, none⟩)] w fun e w' => e = .returned (.int .u32 ((x + y + c) % 4294967296 : Nat)) ∧
      Row w' g .u32 141 [(x + y + c) / 4294967296] ∧ Only w w' g := by
  have h0 : w.cell? ⟨g, 0, none⟩ = some (.int .u32 c) := hrow.cell (i := 0) (by simp)
  have hf := hrow.frozen 0
  have hlt := hrow.lt
  have HR := Lib.hid (hrow.set_ 0 ((x + y + c) / 4294967296))
  clear hrow
  go_enter Tryz.func130, Tryz.ntmps130
  go_wp2_with fail
  refine (add32_any x y c _ hx hy hc).mono ?_
  rintro e w' ⟨rfl, rfl⟩
  go_wp2_with fail
  go_ret
  exact ⟨rfl, HR.out, Only.set_ _ _ _⟩

/-- What holds at the head of a round of 'Add': the carry in block gc, the digits so far in block g. -/
def AddInv (w wr : World) (gc g : Nat) (da db : List Nat) (k : Nat) : Prop :=
  ∃ cy zs, Row wr gc .u32 141 [cy] ∧ cy ≤ 1 ∧ Row wr g .u32 141 zs ∧ zs.length = da.length + 1 ∧ Valid B32 zs ∧
    val B32 (zs.take k) + B32 ^ k * cy = val B32 (da.take k) + val B32 (db.take k) ∧ Ext w wr

theorem AddInv.step {w w2 : World} {gc g : Nat} {da db : List Nat} {k cy : Nat} {zs : List Nat} {x y : Nat}
    (hcy : cy ≤ 1) (hx : x < B32) (hy : y < B32) (hgc : gc < g) (hwg : w.heap.size ≤ gc)
    (hc2 : Row w2 gc .u32 141 [(x + y + cy) / 4294967296]) (hz2 : Row w2 g .u32 141 zs) (hl : zs.length = da.length + 1) (hv : Valid B32 zs) (hk : k < zs.length)
    (he : val B32 (zs.take k) + B32 ^ k * cy = val B32 (da.take k) + val B32 (db.take k))
    (ha : val B32 (da.take (k + 1)) = val B32 (da.take k) + B32 ^ k * x) (hb : val B32 (db.take (k + 1)) = val B32 (db.take k) + B32 ^ k * y) (hext : Ext w w2) :
    AddInv w (w2.setCell ⟨g, k, none⟩ (.int .u32 ((x + y + cy) % 4294967296 : Nat))) gc g da db (k + 1) := by
  refine ⟨(x + y + cy) / B32, zs.set k ((x + y + cy) % B32), hc2.far (p := ⟨g, k, none⟩) (by show gc ≠ g; omega) _, ?_, hz2.set_ k _, by simpa using hl, valid_set hv _ _ (Nat.mod_lt _ (by unfold B32; omega)), ?_, ?_⟩
  · unfold B32 at *; omega
  · rw [val_set B32 hk, ha, hb, Nat.pow_succ]
    exact carry_step he
  · exact Below.setCell hext (p := ⟨g, k, none⟩) (by show w.heap.size ≤ g; omega) _

theorem add_ge {w : World} {A1 A2 : Option Addr} {c1 c2 : Nat} {d1 d2 : List Nat} (h1 : NR w A1 c1 d1) (h2 : NR w A2 c2 d2) (hs : dl (V d1) ≤ 17592186044416) (hge : dl (V d2) ≤ dl (V d1)) :
    Calls Tryz.prog 110 #[.slice A1 d1.length c1, .slice A2 d2.length c2] w (RetN w (V d1 + V d2)) := by
  have t1 := trim_nr h1
  have t2 := trim_nr h2
  have n1 := h1.trim
  have n2 := h2.trim
  clear h1 h2
  unfold dl at hs hge
  generalize V d1 = a at *
  generalize V d2 = b at *
  have HV1 := Lib.hid n1.valid
  have HV2 := Lib.hid n2.valid
  have HR1 := Lib.hid n1.rd
  have HR2 := Lib.hid n2.rd
  have HA := Lib.hid (val_digs B32_two a)
  have HB := Lib.hid (val_digs B32_two b)
  clear n1 n2
  have hge' : ¬ (digs B32 a).length < (digs B32 b).length := by omega
  go_enter Tryz.func110, Tryz.ntmps110
  go_wp2_with fail
  refine t1.mono ?_
  rintro e w' ⟨rfl, rfl⟩
  go_wp2_with fail
  refine t2.mono ?_
  rintro e w' ⟨rfl, rfl⟩
  clear t1 t2
  go_wp2_with (at_make; refine wpList_mkrow rfl _ _ _ rfl _ _ _ Tryz.underlying23 info_u32 (by omega) _ _ _ ((digs B32 a).length + 1) rfl rfl (by omega) (by omega) ?_)
  intro g w1 hg hrow hx
  have hgc : w.heap.size < g := by first | omega | (simp at hg; omega)
  have hinv : AddInv w w1 w.heap.size g (digs B32 a) (digs B32 b) 0 :=
    ⟨0, _, (Row.new w .u32 141 [0]).ext hx, by omega, hrow, by simp, valid_replicate (by unfold B32; omega) _, by simp [val], (Ext.alloc w _).trans hx⟩
  have hw1 := hx.size
  clear hrow hx
  generalize digs B32 a = da at *
  generalize digs B32 b = db at *
  go_wp2_with fail
  go_loopw [29] (fun i wr => ∃ k : Nat, k ≤ db.length ∧ i = .int .i64 k ∧ AddInv w wr w.heap.size g da db k) (fun i _ => db.length - (intOf i).toNat)
  case atStart => exact ⟨0, Nat.zero_le _, rfl, hinv⟩
  case round =>
    clear hinv
    obtain ⟨k, hk, rfl, hinv⟩ := hrel
    by_cases hlt : k < db.length
    · have hka : k < da.length := by omega
      obtain ⟨cy, zs, hc, hcy, hz, hl, hv, he, hext⟩ := hinv
      obtain ⟨b1, o1, rfl, hb1, hc1⟩ := (HR1.out.below hext).at_ (j := k) hka
      obtain ⟨b2, o2, rfl, hb2, hc2⟩ := (HR2.out.below hext).at_ (j := k) hlt
      go_wp2_with fail
      have hx : da[k]'hka < 4294967296 := valid_get HV1.out k hka
      have hy : db[k] < 4294967296 := valid_get HV2.out k hlt
      refine (addc_any hc hx hy hcy).mono ?_
      rintro e w2 ⟨rfl, hc', ho⟩
      have hz' := hz.only ho (by omega)
      obtain ⟨z0, hcell⟩ := hz'.some_ (i := k) (by omega)
      have hfr := hz'.frozen k
      have hk2 : k < da.length + 1 := by omega
      have HS := Lib.hid (AddInv.step hcy hx hy hgc (Nat.le_refl _) hc' hz' hl hv (by omega) he (val_take_succ B32 da k hka) (val_take_succ B32 db k hlt) (Below.trans hext (ho.below (Nat.le_refl _))))
      clear hc hz he hl hv hc' hz' hext hx hy hc1 hc2
      go_wp2_with fail
      go_roundw
      case rel => exact ⟨k + 1, by omega, by go_num, HS.out⟩
      case measure => simp [intOf]; omega
    · obtain rfl : k = db.length := by omega
      clear hk hlt
      go_wp2_with fail
      go_loopw [10] (fun i wr => ∃ k : Nat, db.length ≤ k ∧ k ≤ da.length ∧ i = .int .i64 k ∧ AddInv w wr w.heap.size g da db k) (fun i _ => da.length - (intOf i).toNat)
      case atStart => exact ⟨db.length, by omega, by omega, rfl, hinv⟩
      case round =>
        clear hinv
        obtain ⟨k, hkb, hk, rfl, hinv⟩ := hrel
        by_cases hlt : k < da.length
        · obtain ⟨cy, zs, hc, hcy, hz, hl, hv, he, hext⟩ := hinv
          obtain ⟨b1, o1, rfl, hb1, hc1⟩ := (HR1.out.below hext).at_ (j := k) hlt
          go_wp2_with fail
          have hx : da[k] < 4294967296 := valid_get HV1.out k hlt
          refine (addc_any (y := 0) hc hx (by omega) hcy).mono ?_
          rintro e w2 ⟨rfl, hc', ho⟩
          have hz' := hz.only ho (by omega)
          obtain ⟨z0, hcell⟩ := hz'.some_ (i := k) (by omega)
          have hfr := hz'.frozen k
          have hk2 : k < da.length + 1 := by omega
          have HS := Lib.hid (AddInv.step (y := 0) hcy hx (by unfold B32; omega) hgc (Nat.le_refl _) hc' hz' hl hv (by omega) he (val_take_succ B32 da k hlt)
            (by rw [List.take_of_length_le (by omega), List.take_of_length_le (by omega)]; simp) (Below.trans hext (ho.below (Nat.le_refl _))))
          clear hc hz he hl hv hc' hz' hext hx hc1
          go_wp2_with fail
          go_roundw
          case rel => exact ⟨k + 1, by omega, by omega, by go_num, HS.out⟩
          case measure => simp [intOf]; omega
        · obtain rfl : k = da.length := by omega
          obtain ⟨cy, zs, hc, hcy, hz, hl, hv, he, hext⟩ := hinv
          have hcc := hc.cell (i := 0) (by simp)
          simp only [List.getElem_cons_zero] at hcc
          obtain ⟨z0, hcell⟩ := hz.some_ (i := da.length) (by omega)
          have hfr := hz.frozen da.length
          have HZ := Lib.hid (hz.set_ da.length cy)
          have HX : Hid (Ext w (wr.setCell ⟨g, da.length, none⟩ (.int .u32 (cy : Int)))) := Below.setCell hext (p := ⟨g, da.length, none⟩) (by show w.heap.size ≤ g; omega) _
          have HW : Hid (Valid B32 (zs.set da.length cy)) := valid_set hv _ _ (by unfold B32; omega)
          have HE : Hid (V (zs.set da.length cy) = a + b) := by
            show val B32 _ = _
            have h1 := val_set B32 (zs := zs) (k := da.length) (v := cy) (by omega)
            rw [List.take_of_length_le (by simp; omega)] at h1
            rw [h1, he, List.take_of_length_le (Nat.le_refl _), List.take_of_length_le (by omega), HA.out, HB.out]
          have HL : Hid (da.length + 1 = (zs.set da.length cy).length) := by show _ = _; simp [hl]
          clear hc hz he hl hv hext
          go_wp2_with fail
          rw [HL.out]
          have hnr : NR (wr.setCell ⟨g, da.length, none⟩ (.int .u32 (cy : Int))) (some ⟨g, 0, none⟩) (zs.set da.length cy).length (zs.set da.length cy) :=
            ⟨by have := HZ.out.rd (zs.set da.length cy).length; rwa [List.take_length] at this, HW.out, Nat.le_refl _, by rw [← HL.out]; omega⟩
          refine (trim_nr hnr).mono ?_
          rintro e w' ⟨rfl, rfl⟩
          have hown := (Own.of_row' (B := w.heap.size) (n := zs.length) (ds := digs B32 (a + b)) HZ.out (by omega) (by rw [← HL.out]; unfold maxLen; omega) (by simp)
            (by rw [← HE.out, ← trim_V HW.out]; exact trimL_take _))
          have hX := HX.out
          rw [HE.out]
          clear hnr
          go_wp2_with fail
          go_ret
          exact ⟨_, _, rfl, hown, hX⟩
theorem add_lt {w : World} {A1 A2 : Option Addr} {c1 c2 : Nat} {d1 d2 : List Nat} (h1 : NR w A1 c1 d1) (h2 : NR w A2 c2 d2) (hs : dl (V d1) ≤ 17592186044416) (hge : dl (V d2) < dl (V d1)) :
    Calls Tryz.prog 110 #[.slice A2 d2.length c2, .slice A1 d1.length c1] w (RetN w (V d1 + V d2)) := by
  have t1 := trim_nr h1
  have t2 := trim_nr h2
  have n1 := h1.trim
  have n2 := h2.trim
  clear h1 h2
  unfold dl at hs hge
  generalize V d1 = a at *
  generalize V d2 = b at *
  have HV1 := Lib.hid n1.valid
  have HV2 := Lib.hid n2.valid
  have HR1 := Lib.hid n1.rd
  have HR2 := Lib.hid n2.rd
  have HA := Lib.hid (val_digs B32_two a)
  have HB := Lib.hid (val_digs B32_two b)
  clear n1 n2
  go_enter Tryz.func110, Tryz.ntmps110
  go_wp2_with fail
  refine t2.mono ?_
  rintro e w' ⟨rfl, rfl⟩
  go_wp2_with fail
  refine t1.mono ?_
  rintro e w' ⟨rfl, rfl⟩
  clear t1 t2
  go_wp2_with (at_make; refine wpList_mkrow rfl _ _ _ rfl _ _ _ Tryz.underlying23 info_u32 (by omega) _ _ _ ((digs B32 a).length + 1) rfl rfl (by omega) (by omega) ?_)
  intro g w1 hg hrow hx
  have hgc : w.heap.size < g := by first | omega | (simp at hg; omega)
  have hinv : AddInv w w1 w.heap.size g (digs B32 a) (digs B32 b) 0 :=
    ⟨0, _, (Row.new w .u32 141 [0]).ext hx, by omega, hrow, by simp, valid_replicate (by unfold B32; omega) _, by simp [val], (Ext.alloc w _).trans hx⟩
  have hw1 := hx.size
  clear hrow hx
  generalize digs B32 a = da at *
  generalize digs B32 b = db at *
  go_wp2_with fail
  go_loopw [29] (fun i wr => ∃ k : Nat, k ≤ db.length ∧ i = .int .i64 k ∧ AddInv w wr w.heap.size g da db k) (fun i _ => db.length - (intOf i).toNat)
  case atStart => exact ⟨0, Nat.zero_le _, rfl, hinv⟩
  case round =>
    clear hinv
    obtain ⟨k, hk, rfl, hinv⟩ := hrel
    by_cases hlt : k < db.length
    · have hka : k < da.length := by omega
      obtain ⟨cy, zs, hc, hcy, hz, hl, hv, he, hext⟩ := hinv
      obtain ⟨b1, o1, rfl, hb1, hc1⟩ := (HR1.out.below hext).at_ (j := k) hka
      obtain ⟨b2, o2, rfl, hb2, hc2⟩ := (HR2.out.below hext).at_ (j := k) hlt
      go_wp2_with fail
      have hx : da[k]'hka < 4294967296 := valid_get HV1.out k hka
      have hy : db[k] < 4294967296 := valid_get HV2.out k hlt
      refine (addc_any hc hx hy hcy).mono ?_
      rintro e w2 ⟨rfl, hc', ho⟩
      have hz' := hz.only ho (by omega)
      obtain ⟨z0, hcell⟩ := hz'.some_ (i := k) (by omega)
      have hfr := hz'.frozen k
      have hk2 : k < da.length + 1 := by omega
      have HS := Lib.hid (AddInv.step hcy hx hy hgc (Nat.le_refl _) hc' hz' hl hv (by omega) he (val_take_succ B32 da k hka) (val_take_succ B32 db k hlt) (Below.trans hext (ho.below (Nat.le_refl _))))
      clear hc hz he hl hv hc' hz' hext hx hy hc1 hc2
      go_wp2_with fail
      go_roundw
      case rel => exact ⟨k + 1, by omega, by go_num, HS.out⟩
      case measure => simp [intOf]; omega
    · obtain rfl : k = db.length := by omega
      clear hk hlt
      go_wp2_with fail
      go_loopw [10] (fun i wr => ∃ k : Nat, db.length ≤ k ∧ k ≤ da.length ∧ i = .int .i64 k ∧ AddInv w wr w.heap.size g da db k) (fun i _ => da.length - (intOf i).toNat)
      case atStart => exact ⟨db.length, by omega, by omega, rfl, hinv⟩
      case round =>
        clear hinv
        obtain ⟨k, hkb, hk, rfl, hinv⟩ := hrel
        by_cases hlt : k < da.length
        · obtain ⟨cy, zs, hc, hcy, hz, hl, hv, he, hext⟩ := hinv
          obtain ⟨b1, o1, rfl, hb1, hc1⟩ := (HR1.out.below hext).at_ (j := k) hlt
          go_wp2_with fail
          have hx : da[k] < 4294967296 := valid_get HV1.out k hlt
          refine (addc_any (y := 0) hc hx (by omega) hcy).mono ?_
          rintro e w2 ⟨rfl, hc', ho⟩
          have hz' := hz.only ho (by omega)
          obtain ⟨z0, hcell⟩ := hz'.some_ (i := k) (by omega)
          have hfr := hz'.frozen k
          have hk2 : k < da.length + 1 := by omega
          have HS := Lib.hid (AddInv.step (y := 0) hcy hx (by unfold B32; omega) hgc (Nat.le_refl _) hc' hz' hl hv (by omega) he (val_take_succ B32 da k hlt)
            (by rw [List.take_of_length_le (by omega), List.take_of_length_le (by omega)]; simp) (Below.trans hext (ho.below (Nat.le_refl _))))
          clear hc hz he hl hv hc' hz' hext hx hc1
          go_wp2_with fail
          go_roundw
          case rel => exact ⟨k + 1, by omega, by omega, by go_num, HS.out⟩
          case measure => simp [intOf]; omega
        · obtain rfl : k = da.length := by omega
          obtain ⟨cy, zs, hc, hcy, hz, hl, hv, he, hext⟩ := hinv
          have hcc := hc.cell (i := 0) (by simp)
          simp only [List.getElem_cons_zero] at hcc
          obtain ⟨z0, hcell⟩ := hz.some_ (i := da.length) (by omega)
          have hfr := hz.frozen da.length
          have HZ := Lib.hid (hz.set_ da.length cy)
          have HX : Hid (Ext w (wr.setCell ⟨g, da.length, none⟩ (.int .u32 (cy : Int)))) := Below.setCell hext (p := ⟨g, da.length, none⟩) (by show w.heap.size ≤ g; omega) _
          have HW : Hid (Valid B32 (zs.set da.length cy)) := valid_set hv _ _ (by unfold B32; omega)
          have HE : Hid (V (zs.set da.length cy) = a + b) := by
            show val B32 _ = _
            have h1 := val_set B32 (zs := zs) (k := da.length) (v := cy) (by omega)
            rw [List.take_of_length_le (by simp; omega)] at h1
            rw [h1, he, List.take_of_length_le (Nat.le_refl _), List.take_of_length_le (by omega), HA.out, HB.out]
          have HL : Hid (da.length + 1 = (zs.set da.length cy).length) := by show _ = _; simp [hl]
          clear hc hz he hl hv hext
          go_wp2_with fail
          rw [HL.out]
          have hnr : NR (wr.setCell ⟨g, da.length, none⟩ (.int .u32 (cy : Int))) (some ⟨g, 0, none⟩) (zs.set da.length cy).length (zs.set da.length cy) :=
            ⟨by have := HZ.out.rd (zs.set da.length cy).length; rwa [List.take_length] at this, HW.out, Nat.le_refl _, by rw [← HL.out]; omega⟩
          refine (trim_nr hnr).mono ?_
          rintro e w' ⟨rfl, rfl⟩
          have hown := (Own.of_row' (B := w.heap.size) (n := zs.length) (ds := digs B32 (a + b)) HZ.out (by omega) (by rw [← HL.out]; unfold maxLen; omega) (by simp)
            (by rw [← HE.out, ← trim_V HW.out]; exact trimL_take _))
          have hX := HX.out
          rw [HE.out]
          clear hnr
          go_wp2_with fail
          go_ret
          exact ⟨_, _, rfl, hown, hX⟩

theorem add_any {w : World} {A1 A2 : Option Addr} {c1 c2 : Nat} {d1 d2 : List Nat} (h1 : NR w A1 c1 d1) (h2 : NR w A2 c2 d2) (hs : dl (V d1) ≤ 17592186044416) (hs2 : dl (V d2) ≤ 17592186044416) :
    Calls Tryz.prog 110 #[.slice A1 d1.length c1, .slice A2 d2.length c2] w (RetN w (V d1 + V d2)) := by
  rcases Nat.lt_or_ge (dl (V d1)) (dl (V d2)) with h | h
  · rw [Nat.add_comm]; exact add_lt h2 h1 hs2 h
  · exact add_ge h1 h2 hs h

/-- The call returns the number n in new memory, and true. -/
def RetNT (w : World) (n : Nat) (e : Ending) (w' : World) : Prop := ∃ A c, e = .returned (.tuple #[.slice A (digs B32 n).length c, .bool true]) ∧ NO w' w.heap.size A c n ∧ Ext w w'

theorem subc_any {x y c g : Nat} {w : World} (hrow : Row w g .u32 141 [c]) (hx : x < 4294967296) (hy : y < 4294967296) (hc : c ≤ 1) :
    Calls Tryz.prog 132 #[.int .u32 x, .int .u32 y, .pointer (some ⟨g, 0, none⟩)] w fun e w' => e = .returned (.int .u32 ((x + 4294967296 - y - c) % 4294967296 : Nat)) ∧
      Row w' g .u32 141 [bor x y c] ∧ Only w w' g := by
  have h0 : w.cell? ⟨g, 0, none⟩ = some (.int .u32 c) := hrow.cell (i := 0) (by simp)
  have hf := hrow.frozen 0
  have hlt := hrow.lt
  have HR := Lib.hid (hrow.set_ 0 (bor x y c))
  clear hrow
  go_enter Tryz.func132, Tryz.ntmps132
  go_wp2_with fail
  refine (sub32_any x y c _ hx hy hc).mono ?_
  rintro e w' ⟨rfl, rfl⟩
  go_wp2_with fail
  go_ret
  exact ⟨rfl, HR.out, Only.set_ _ _ _⟩

/-- What holds at the head of a round of 'Sub': the borrow in block gc, the digits so far in block g. -/
def SubInv (w wr : World) (gc g : Nat) (da db : List Nat) (k : Nat) : Prop :=
  ∃ cy zs, Row wr gc .u32 141 [cy] ∧ cy ≤ 1 ∧ Row wr g .u32 141 zs ∧ zs.length = da.length ∧ Valid B32 zs ∧
    val B32 (zs.take k) + val B32 (db.take k) = val B32 (da.take k) + B32 ^ k * cy ∧ Ext w wr

theorem bor_le (x y c : Nat) : bor x y c ≤ 1 := by unfold bor; split <;> omega
theorem bor_eq {x y c : Nat} (hx : x < 4294967296) (hy : y < 4294967296) (hc : c ≤ 1) : (x + 4294967296 - y - c) % 4294967296 + y + c = x + 4294967296 * bor x y c := by
  unfold bor; split <;> omega
theorem SubInv.step {w w2 : World} {gc g : Nat} {da db : List Nat} {k cy : Nat} {zs : List Nat} {x y : Nat}
    (hcy : cy ≤ 1) (hx : x < B32) (hy : y < B32) (hgc : gc < g) (hwg : w.heap.size ≤ gc)
    (hc2 : Row w2 gc .u32 141 [bor x y cy]) (hz2 : Row w2 g .u32 141 zs) (hl : zs.length = da.length) (hv : Valid B32 zs) (hk : k < zs.length)
    (he : val B32 (zs.take k) + val B32 (db.take k) = val B32 (da.take k) + B32 ^ k * cy)
    (ha : val B32 (da.take (k + 1)) = val B32 (da.take k) + B32 ^ k * x) (hb : val B32 (db.take (k + 1)) = val B32 (db.take k) + B32 ^ k * y) (hext : Ext w w2) :
    SubInv w (w2.setCell ⟨g, k, none⟩ (.int .u32 ((x + 4294967296 - y - cy) % 4294967296 : Nat))) gc g da db (k + 1) := by
  refine ⟨bor x y cy, zs.set k ((x + 4294967296 - y - cy) % 4294967296), hc2.far (p := ⟨g, k, none⟩) (by show gc ≠ g; omega) _, bor_le _ _ _, hz2.set_ k _, by simpa using hl, valid_set hv _ _ (Nat.mod_lt _ (by omega)), ?_, ?_⟩
  · rw [val_set B32 hk, ha, hb, Nat.pow_succ]
    exact borrow_step he (bor_eq hx hy hcy)
  · exact Below.setCell hext (p := ⟨g, k, none⟩) (by show w.heap.size ≤ g; omega) _

theorem sub_yes {w : World} {A1 A2 : Option Addr} {c1 c2 : Nat} {d1 d2 : List Nat} (h1 : NR w A1 c1 d1) (h2 : NR w A2 c2 d2) (hs : dl (V d1) ≤ 17592186044416) (hge : V d2 ≤ V d1) :
    Calls Tryz.prog 112 #[.slice A1 d1.length c1, .slice A2 d2.length c2] w (RetNT w (V d1 - V d2)) := by
  have t1 := trim_nr h1
  have t2 := trim_nr h2
  have n1 := h1.trim
  have n2 := h2.trim
  clear h1 h2
  unfold dl at hs
  generalize V d1 = a at *
  generalize V d2 = b at *
  have HV1 := Lib.hid n1.valid
  have HV2 := Lib.hid n2.valid
  have HR1 := Lib.hid n1.rd
  have HR2 := Lib.hid n2.rd
  have HA := Lib.hid (val_digs B32_two a)
  have HB := Lib.hid (val_digs B32_two b)
  have tc := cmp_any n1 n2
  have hVa : V (digs B32 a) = a := HA.out
  have hVb : V (digs B32 b) = b := HB.out
  rw [hVa, hVb] at tc
  clear n1 n2 hVa hVb
  have hcm : 0 ≤ cmpN a b := by unfold cmpN; rw [if_neg (by omega)]; split <;> omega
  have HGE := Lib.hid hge
  have hle : (digs B32 b).length ≤ (digs B32 a).length := digs_len_mono B32_two hge
  clear hge
  generalize cmpN a b = cab at *
  go_enter Tryz.func112, Tryz.ntmps112
  go_wp2_with fail
  refine t1.mono ?_
  rintro e w' ⟨rfl, rfl⟩
  go_wp2_with fail
  refine t2.mono ?_
  rintro e w' ⟨rfl, rfl⟩
  clear t1 t2
  go_wp2_with fail
  refine tc.mono ?_
  rintro e w0 ⟨rfl, hq⟩
  have hx0 := hq.ext
  clear tc hq
  go_wp2_with (at_make; refine wpList_mkrow rfl _ _ _ rfl _ _ _ Tryz.underlying23 info_u32 (by omega) _ _ _ (digs B32 a).length rfl rfl (by omega) (by omega) ?_)
  intro g w1 hg hrow hx
  have hgc : w0.heap.size < g := by first | omega | (simp at hg; omega)
  have hw0 := hx0.size
  have hinv : SubInv w w1 w0.heap.size g (digs B32 a) (digs B32 b) 0 :=
    ⟨0, _, (Row.new w0 .u32 141 [0]).ext hx, by omega, hrow, by simp, valid_replicate (by unfold B32; omega) _, by simp [val], hx0.trans ((Ext.alloc w0 _).trans hx)⟩
  have hw1 := hx.size
  clear hrow hx
  generalize digs B32 a = da at *
  generalize digs B32 b = db at *
  go_wp2_with fail
  go_loopw [26] (fun i wr => ∃ k : Nat, k ≤ db.length ∧ i = .int .i64 k ∧ SubInv w wr w0.heap.size g da db k) (fun i _ => db.length - (intOf i).toNat)
  case atStart => exact ⟨0, Nat.zero_le _, rfl, hinv⟩
  case round =>
    clear hinv
    obtain ⟨k, hk, rfl, hinv⟩ := hrel
    by_cases hlt : k < db.length
    · have hka : k < da.length := by omega
      obtain ⟨cy, zs, hc, hcy, hz, hl, hv, he, hext⟩ := hinv
      obtain ⟨b1, o1, rfl, hb1, hc1⟩ := (HR1.out.below hext).at_ (j := k) hka
      obtain ⟨b2, o2, rfl, hb2, hc2⟩ := (HR2.out.below hext).at_ (j := k) hlt
      go_wp2_with fail
      have hx : da[k]'hka < 4294967296 := valid_get HV1.out k hka
      have hy : db[k] < 4294967296 := valid_get HV2.out k hlt
      refine (subc_any hc hx hy hcy).mono ?_
      rintro e w2 ⟨rfl, hc', ho⟩
      have hz' := hz.only ho (by omega)
      obtain ⟨z0, hcell⟩ := hz'.some_ (i := k) (by omega)
      have hfr := hz'.frozen k
      have HS := Lib.hid (SubInv.step hcy hx hy hgc hw0 hc' hz' hl hv (by omega) he (val_take_succ B32 da k hka) (val_take_succ B32 db k hlt) (Below.trans hext (ho.below hw0)))
      clear hc hz he hl hv hc' hz' hext hx hy hc1 hc2
      go_wp2_with fail
      go_roundw
      case rel => exact ⟨k + 1, by omega, by go_num, HS.out⟩
      case measure => simp [intOf]; omega
    · obtain rfl : k = db.length := by omega
      clear hk hlt
      go_wp2_with fail
      go_loopw [11] (fun i wr => ∃ k : Nat, db.length ≤ k ∧ k ≤ da.length ∧ i = .int .i64 k ∧ SubInv w wr w0.heap.size g da db k) (fun i _ => da.length - (intOf i).toNat)
      case atStart => exact ⟨db.length, by omega, by omega, rfl, hinv⟩
      case round =>
        clear hinv
        obtain ⟨k, hkb, hk, rfl, hinv⟩ := hrel
        by_cases hlt : k < da.length
        · obtain ⟨cy, zs, hc, hcy, hz, hl, hv, he, hext⟩ := hinv
          obtain ⟨b1, o1, rfl, hb1, hc1⟩ := (HR1.out.below hext).at_ (j := k) hlt
          go_wp2_with fail
          have hx : da[k] < 4294967296 := valid_get HV1.out k hlt
          refine (subc_any (y := 0) hc hx (by omega) hcy).mono ?_
          rintro e w2 ⟨rfl, hc', ho⟩
          have hz' := hz.only ho (by omega)
          obtain ⟨z0, hcell⟩ := hz'.some_ (i := k) (by omega)
          have hfr := hz'.frozen k
          have HS := Lib.hid (SubInv.step (y := 0) hcy hx (by unfold B32; omega) hgc hw0 hc' hz' hl hv (by omega) he (val_take_succ B32 da k hlt)
            (by rw [List.take_of_length_le (by omega), List.take_of_length_le (by omega)]; simp) (Below.trans hext (ho.below hw0)))
          clear hc hz he hl hv hc' hz' hext hx hc1
          go_wp2_with fail
          go_roundw
          case rel => exact ⟨k + 1, by omega, by omega, by go_num, HS.out⟩
          case measure => simp [intOf]; omega
        · obtain rfl : k = da.length := by omega
          obtain ⟨cy, zs, hc, hcy, hz, hl, hv, he, hext⟩ := hinv
          have HE : Hid (V zs = a - b) := by
            show val B32 _ = _
            rw [List.take_of_length_le (by omega), List.take_of_length_le (by omega), List.take_of_length_le (by omega), HA.out, HB.out] at he
            have h1 := val_lt hv
            rw [hl] at h1
            have h2 := HGE.out
            generalize B32 ^ da.length = P at *
            generalize val B32 zs = Z at *
            rcases Nat.le_one_iff_eq_zero_or_eq_one.1 hcy with rfl | rfl <;> omega
          have hnr : NR wr (some ⟨g, 0, none⟩) zs.length zs :=
            ⟨by have := hz.rd zs.length; rwa [List.take_length] at this, hv, Nat.le_refl _, by omega⟩
          have ht := trim_nr hnr
          have hown := (Own.of_row' (B := w.heap.size) (n := zs.length) (ds := digs B32 (a - b)) hz (by omega) (by unfold maxLen; omega) rfl
            (by rw [← HE.out, ← trim_V hv]; exact trimL_take _))
          rw [HE.out] at ht
          rw [hl] at ht hown
          have HT := Lib.hid ht
          clear hc hz he hl hv hnr ht
          go_wp2_with fail
          refine HT.out.mono ?_
          rintro e w' ⟨rfl, rfl⟩
          go_wp2_with fail
          go_ret2
          exact ⟨_, _, rfl, hown, hext⟩

theorem sub_no {w : World} {A1 A2 : Option Addr} {c1 c2 : Nat} {d1 d2 : List Nat} (h1 : NR w A1 c1 d1) (h2 : NR w A2 c2 d2) (hlt : V d1 < V d2) :
    Calls Tryz.prog 112 #[.slice A1 d1.length c1, .slice A2 d2.length c2] w fun e w' => e = .returned (.tuple #[.slice none 0 0, .bool false]) ∧ Ext w w' := by
  have t1 := trim_nr h1
  have t2 := trim_nr h2
  have tc := cmp_any h1.trim h2.trim
  have hVa : V (digs B32 (V d1)) = V d1 := val_digs B32_two _
  have hVb : V (digs B32 (V d2)) = V d2 := val_digs B32_two _
  rw [hVa, hVb, cmpN_lt hlt] at tc
  clear h1 h2 hVa hVb hlt
  generalize V d1 = a at *
  generalize V d2 = b at *
  go_enter Tryz.func112, Tryz.ntmps112
  go_wp2_with fail
  refine t1.mono ?_
  rintro e w' ⟨rfl, rfl⟩
  go_wp2_with fail
  refine t2.mono ?_
  rintro e w' ⟨rfl, rfl⟩
  clear t1 t2
  go_wp2_with fail
  refine tc.mono ?_
  rintro e w0 ⟨rfl, hq⟩
  go_wp2_with fail
  go_ret2
  exact ⟨rfl, hq.ext⟩
theorem mul32_ex {x y : Nat} {w : World} (hx : x < 4294967296) (hy : y < 4294967296) :
    Calls Tryz.prog 143 #[.int .u32 x, .int .u32 y] w fun e w' => ∃ hi lo : Nat, e = .returned (.tuple #[.int .u32 hi, .int .u32 lo]) ∧ hi * 4294967296 + lo = x * y ∧ hi < 4294967296 ∧ lo < 4294967296 ∧ w = w' := by
  refine (mul32_any x y w hx hy).mono ?_
  rintro e w' ⟨rfl, rfl⟩
  have hb := mul_bound hx hy
  generalize x * y = P at *
  exact ⟨P / 4294967296, P % 4294967296, rfl, by omega, by omega, by omega, rfl⟩
theorem add32_ex {x y c : Nat} {w : World} (hx : x < 4294967296) (hy : y < 4294967296) (hc : c ≤ 1) :
    Calls Tryz.prog 131 #[.int .u32 x, .int .u32 y, .int .u32 c] w fun e w' => ∃ s k : Nat, e = .returned (.tuple #[.int .u32 s, .int .u32 k]) ∧ s + 4294967296 * k = x + y + c ∧ s < 4294967296 ∧ k ≤ 1 ∧ w = w' := by
  refine (add32_any x y c w hx hy hc).mono ?_
  rintro e w' ⟨rfl, rfl⟩
  exact ⟨_, _, rfl, by omega, by omega, by omega, rfl⟩

/-- What holds at the head of a round of 'MulAdd'. -/
def MAInv (w wr : World) (g : Nat) (da : List Nat) (m c0 k c : Nat) : Prop :=
  ∃ zs, Row wr g .u32 141 zs ∧ zs.length = da.length + 1 ∧ Valid B32 zs ∧
    val B32 (zs.take k) + B32 ^ k * c = val B32 (da.take k) * m + c0 ∧ Ext w wr

theorem ma_bound {x m c hi lo : Nat} (hx : x < 4294967296) (hm : m < 4294967296) (hc : c < 4294967296) (h : hi * 4294967296 + lo = x * m) {s k : Nat} (hs : s + 4294967296 * k = lo + c) :
    s + 4294967296 * (hi + k) = x * m + c ∧ (hi + k < 4294967296) := by
  have hb := mul_bound hx hm
  generalize x * m = P at *
  omega
theorem ma_step {B P Z X m c0 c x s c' : Nat} (h : Z + P * c = X * m + c0) (hs : s + B * c' = x * m + c) : Z + P * s + P * B * c' = (X + P * x) * m + c0 := by
  have h1 : P * (s + B * c') = P * (x * m + c) := by rw [hs]
  rw [Nat.mul_add, Nat.mul_add] at h1
  rw [Nat.add_mul, Nat.mul_assoc P B, Nat.mul_assoc P x]
  omega
theorem MAInv.step {w w2 : World} {g : Nat} {da : List Nat} {m c0 k c x s c' : Nat} {zs : List Nat}
    (hz2 : Row w2 g .u32 141 zs) (hl : zs.length = da.length + 1) (hv : Valid B32 zs) (hk : k < zs.length)
    (he : val B32 (zs.take k) + B32 ^ k * c = val B32 (da.take k) * m + c0)
    (ha : val B32 (da.take (k + 1)) = val B32 (da.take k) + B32 ^ k * x) (hs : s + 4294967296 * c' = x * m + c) (hsb : s < 4294967296) (hg : w.heap.size ≤ g) (hext : Ext w w2) :
    MAInv w (w2.setCell ⟨g, k, none⟩ (.int .u32 (s : Int))) g da m c0 (k + 1) c' := by
  refine ⟨zs.set k s, hz2.set_ k _, by simpa using hl, valid_set hv _ _ hsb, ?_, ?_⟩
  · rw [val_set B32 hk, ha, Nat.pow_succ]
    exact ma_step he hs
  · exact Below.setCell hext (p := ⟨g, k, none⟩) hg _

/-- The call returns the number q in new memory, the number r, and true. -/
def RetDS (w : World) (q r : Nat) (e : Ending) (w' : World) : Prop := ∃ A c, e = .returned (.tuple #[.slice A (digs B32 q).length c, .int .u32 r, .bool true]) ∧ NO w' w.heap.size A c q ∧ Ext w w'

/-- What holds at the head of a round of 'DivSmall'. -/
def DSInv (w wr : World) (g : Nat) (da : List Nat) (d k r : Nat) : Prop :=
  ∃ zs, Row wr g .u32 141 zs ∧ zs.length = da.length ∧ Valid B32 zs ∧
    val B32 (da.drop k) = val B32 (zs.drop k) * d + r ∧ Ext w wr

theorem drop_set {zs : List Nat} {k v : Nat} (h : k < zs.length) : (zs.set k v).drop k = v :: zs.drop (k + 1) := by
  rw [List.drop_eq_getElem_cons (by simpa using h), List.drop_set_of_lt (by omega)]
  simp
theorem DSInv.step {w w2 : World} {g : Nat} {da : List Nat} {d k r : Nat} {zs : List Nat} (hk : k < da.length)
    (hz2 : Row w2 g .u32 141 zs) (hl : zs.length = da.length) (hv : Valid B32 zs)
    (he : val B32 (da.drop (k + 1)) = val B32 (zs.drop (k + 1)) * d + r) (hd : r < d) (hx : da[k] < 4294967296) (hg : w.heap.size ≤ g) (hext : Ext w w2) :
    DSInv w (w2.setCell ⟨g, k, none⟩ (.int .u32 ((r * 4294967296 + da[k]) / d : Nat))) g da d k ((r * 4294967296 + da[k]) % d) := by
  refine ⟨zs.set k ((r * 4294967296 + da[k]) / d), hz2.set_ k _, by simpa using hl, valid_set hv _ _ (div_small hd hx), ?_, Below.setCell hext (p := ⟨g, k, none⟩) hg _⟩
  rw [drop_set (by omega), val_drop B32 da k hk, val_cons, he]
  have h1 := Nat.div_add_mod (r * 4294967296 + da[k]) d
  have hB : B32 = 4294967296 := rfl
  rw [hB, Nat.add_mul, Nat.mul_comm ((r * 4294967296 + da[k]) / d) d, Nat.mul_add, Nat.mul_assoc 4294967296]
  omega

theorem divSmall_any {w : World} {A : Option Addr} {c1 d : Nat} {ds : List Nat} (h : NR w A c1 ds) (hd0 : 0 < d) (hd : d < 4294967296) (hs : dl (V ds) ≤ 17592186044416) :
    Calls Tryz.prog 124 #[.slice A ds.length c1, .int .u32 d] w (RetDS w (V ds / d) (V ds % d)) := by
  have ht := trim_nr h
  have hn := h.trim
  clear h
  unfold dl at hs
  generalize V ds = a at *
  have HV := Lib.hid hn.valid
  have HR := Lib.hid hn.rd
  have HA := Lib.hid (val_digs B32_two a)
  clear hn
  have hdz : ((d : Int) == 0) = false := by simp; omega
  go_enter Tryz.func124, Tryz.ntmps124
  go_wp2_with fail
  refine ht.mono ?_
  rintro e w' ⟨rfl, rfl⟩
  clear ht
  go_wp2_with (at_make; refine wpList_mkrow rfl _ _ _ rfl _ _ _ Tryz.underlying23 info_u32 (by omega) _ _ _ (digs B32 a).length rfl rfl (by omega) (by omega) ?_)
  intro g w1 hg hrow hx
  have hinv : DSInv w w1 g (digs B32 a) d (digs B32 a).length 0 :=
    ⟨_, hrow, by simp, valid_replicate (by unfold B32; omega) _, by simp [val], hx⟩
  clear hrow hx
  generalize digs B32 a = da at *
  go_wp2_with fail
  go_loopw [8, 9] (fun rv i wr => ∃ k r : Nat, k ≤ da.length ∧ i = .int .i64 ((k : Int) - 1) ∧ rv = .int .u32 r ∧ r < d ∧ DSInv w wr g da d k r) (fun _ i _ => (intOf i + 1).toNat)
  case atStart => exact ⟨da.length, 0, Nat.le_refl _, rfl, rfl, hd0, hinv⟩
  case round =>
    clear hinv
    obtain ⟨k, r, hk, rfl, rfl, hr, hinv⟩ := hrel
    by_cases h0 : k = 0
    · subst h0
      obtain ⟨zs, hz, hl, hv, he, hext⟩ := hinv
      simp only [List.drop_zero] at he
      rw [HA.out] at he
      have hq : val B32 zs = a / d := by
        rw [he, Nat.mul_comm, Nat.mul_add_div hd0, Nat.div_eq_of_lt hr, Nat.add_zero]
      have hr' : r = a % d := by
        rw [he, Nat.mul_comm, Nat.mul_add_mod, Nat.mod_eq_of_lt hr]
      have HE : Hid (V zs = a / d) := hq
      have HM := Lib.hid hr'
      have hnr : NR wr (some ⟨g, 0, none⟩) zs.length zs :=
        ⟨by have := hz.rd zs.length; rwa [List.take_length] at this, hv, Nat.le_refl _, by omega⟩
      have ht := trim_nr hnr
      have hown := (Own.of_row' (B := w.heap.size) (n := zs.length) (ds := digs B32 (a / d)) hz (by omega) (by unfold maxLen; omega) rfl
        (by rw [← HE.out, ← trim_V hv]; exact trimL_take _))
      rw [HE.out] at ht
      rw [hl] at ht hown
      have HT := Lib.hid ht
      clear hz he hl hv hnr ht hq hr'
      go_wp2_with fail
      refine HT.out.mono ?_
      rintro e w' ⟨rfl, rfl⟩
      go_wp2_with fail
      go_ret3
      exact ⟨_, _, by rw [← HM.out]; rfl, hown, hext⟩
    · have hk1 : k - 1 < da.length := by omega
      obtain ⟨zs, hz, hl, hv, he, hext⟩ := hinv
      obtain ⟨b1, o1, rfl, hb1, hc1⟩ := (HR.out.below hext).at_ (j := k - 1) hk1
      have hx : da[k - 1] < 4294967296 := valid_get HV.out _ hk1
      obtain ⟨z0, hcell⟩ := hz.some_ (i := k - 1) (by omega)
      have hfr := hz.frozen (k - 1)
      have hrm : (r * 4294967296 + da[k - 1]) % d < d := Nat.mod_lt _ hd0
      have HS : Hid (∀ n, DSInv w ((wr.drewN n).setCell ⟨g, k - 1, none⟩ (.int .u32 ((r * 4294967296 + da[k - 1]) / d : Nat))) g da d (k - 1) ((r * 4294967296 + da[k - 1]) % d)) :=
        fun n => DSInv.step hk1 (hz.drewN n) hl hv (by rw [show k - 1 + 1 = k from by omega]; exact he) hr hx hg (hext.trans (Qt.ext ⟨n, rfl⟩))
      clear hl he hv
      have hp : 0 < k := by omega
      go_wp2_with fail
      refine (div32_any r _ d _ hr hx hd).mono ?_
      rintro e w' ⟨rfl, n, rfl⟩
      generalize hxx : da[k - 1] = x at *
      clear hxx
      go_wp2_with fail
      go_roundw
      case rel => exact ⟨k - 1, _, by omega, by go_num, rfl, hrm, HS.out n⟩
      case measure => simp [intOf]; omega

/-- The call returns a new row of L digits of value n. -/
def RetRow (w : World) (L n : Nat) (e : Ending) (w' : World) : Prop :=
  ∃ g zs, e = .returned (.slice (some ⟨g, 0, none⟩) L L) ∧ w.heap.size ≤ g ∧ Row w' g .u32 141 zs ∧ zs.length = L ∧ Valid B32 zs ∧ val B32 zs = n ∧ Ext w w'

/-- The head of a round of the outer loop of 'schoolbook'. -/
def SBOut (w wr : World) (g : Nat) (da db : List Nat) (i : Nat) : Prop :=
  ∃ zs, Row wr g .u32 141 zs ∧ zs.length = da.length + db.length ∧ Valid B32 zs ∧ val B32 zs = val B32 (da.take i) * val B32 db ∧
    zs.drop (i + db.length) = List.replicate (da.length - i) 0 ∧ Ext w wr
/-- The head of a round of its inner loop: Z the row at its start. -/
def SBIn (w wr : World) (g : Nat) (da db Z : List Nat) (x i j c : Nat) : Prop :=
  ∃ zs, Row wr g .u32 141 zs ∧ zs.length = da.length + db.length ∧ Valid B32 zs ∧ zs.drop (i + j) = Z.drop (i + j) ∧
    val B32 (zs.take (i + j)) + B32 ^ (i + j) * c = val B32 (Z.take (i + j)) + B32 ^ i * (x * val B32 (db.take j)) ∧ Ext w wr

theorem sb_digit {x y old c hi lo s1 k1 s2 k2 : Nat} (hx : x < 4294967296) (hy : y < 4294967296) (ho : old < 4294967296) (hc : c < 4294967296)
    (h1 : hi * 4294967296 + lo = x * y) (h2 : s1 + 4294967296 * k1 = lo + old) (h3 : s2 + 4294967296 * k2 = s1 + c) :
    hi + k1 < 4294967296 ∧ hi + k1 + k2 < 4294967296 ∧ s2 + 4294967296 * (hi + k1 + k2) = x * y + old + c := by
  have hb := mul_bound hx hy
  generalize x * y = P at *
  omega
theorem SBIn.step {w w2 : World} {g : Nat} {da db Z zs : List Nat} {x i j c s c' old : Nat} (hj : j < db.length) (hi : i < da.length) (hZ : Z.length = da.length + db.length)
    (hz : Row w2 g .u32 141 zs) (hl : zs.length = da.length + db.length) (hv : Valid B32 zs) (hd : zs.drop (i + j) = Z.drop (i + j))
    (he : val B32 (zs.take (i + j)) + B32 ^ (i + j) * c = val B32 (Z.take (i + j)) + B32 ^ i * (x * val B32 (db.take j)))
    (hold : Z[i + j]? = some old) (hs : s + 4294967296 * c' = x * db[j] + old + c) (hsb : s < 4294967296) (hg : w.heap.size ≤ g) (hext : Ext w w2) :
    SBIn w (w2.setCell ⟨g, i + j, none⟩ (.int .u32 (s : Int))) g da db Z x i (j + 1) c' := by
  refine ⟨zs.set (i + j) s, hz.set_ _ _, by simpa using hl, valid_set hv _ _ hsb, ?_, ?_, Below.setCell hext (p := ⟨g, i + j, none⟩) hg _⟩
  · rw [← Nat.add_assoc, List.drop_set_of_lt (by omega)]
    have h1 := congrArg (List.drop 1) hd
    rwa [List.drop_drop, List.drop_drop] at h1
  · rw [← Nat.add_assoc, val_set B32 (by omega), val_take_succ B32 Z (i + j) (by omega), val_take_succ B32 db j hj]
    have ho : Z[i + j]'(by omega) = old := by
      rw [List.getElem?_eq_getElem (by omega)] at hold
      injection hold
    rw [ho, Nat.pow_succ, Nat.pow_add]
    rw [Nat.pow_add] at he
    have := sb_math (B := B32) (s := s) (c' := c') (y := db[j]) (old := old) he hs
    rw [← Nat.mul_assoc (B32 ^ i)] at this
    exact this

theorem SBIn.close {w w2 : World} {g : Nat} {da db Z zs : List Nat} {x i c : Nat} (hi : i < da.length) (hx : da[i] = x) (hZ : Z.length = da.length + db.length)
    (hz : Row w2 g .u32 141 zs) (hl : zs.length = da.length + db.length) (hv : Valid B32 zs) (hd : zs.drop (i + db.length) = Z.drop (i + db.length))
    (he : val B32 (zs.take (i + db.length)) + B32 ^ (i + db.length) * c = val B32 (Z.take (i + db.length)) + B32 ^ i * (x * val B32 (db.take db.length)))
    (hc : c < 4294967296) (hZv : val B32 Z = val B32 (da.take i) * val B32 db) (hZd : Z.drop (i + db.length) = List.replicate (da.length - i) 0) (hg : w.heap.size ≤ g) (hext : Ext w w2) :
    SBOut w (w2.setCell ⟨g, i + db.length, none⟩ (.int .u32 (c : Int))) g da db (i + 1) := by
  have hk : i + db.length < zs.length := by omega
  have hdz : (zs.set (i + db.length) c).drop (i + 1 + db.length) = List.replicate (da.length - (i + 1)) 0 := by
    rw [show i + 1 + db.length = i + db.length + 1 from by omega, List.drop_set_of_lt (by omega)]
    have h1 := congrArg (List.drop 1) (hd.trans hZd)
    rw [List.drop_drop, List.drop_replicate] at h1
    rw [h1]
    congr 1
  refine ⟨zs.set (i + db.length) c, hz.set_ _ _, by simpa using hl, valid_set hv _ _ hc, ?_, hdz, Below.setCell hext (p := ⟨g, i + db.length, none⟩) hg _⟩
  rw [val_split B32 _ (i + 1 + db.length), hdz, val_replicate, Nat.mul_zero, Nat.add_zero, show i + 1 + db.length = i + db.length + 1 from by omega, val_set B32 hk, he, List.take_length,
    val_take_succ B32 da i hi, hx, Nat.add_mul, ← hZv]
  have h2 : val B32 Z = val B32 (Z.take (i + db.length)) := by
    conv => lhs; rw [val_split B32 Z (i + db.length), hZd, val_replicate, Nat.mul_zero, Nat.add_zero]
  rw [h2, Nat.mul_assoc]

theorem schoolbook_any {w : World} {A1 A2 : Option Addr} {c1 c2 : Nat} {da db : List Nat} (h1 : NR w A1 c1 da) (h2 : NR w A2 c2 db) (hs : da.length + db.length ≤ 17592186044416) :
    Calls Tryz.prog 135 #[.slice A1 da.length c1, .slice A2 db.length c2] w (RetRow w (da.length + db.length) (val B32 da * val B32 db)) := by
  have HV1 := Lib.hid h1.valid
  have HV2 := Lib.hid h2.valid
  have HR1 := Lib.hid h1.rd
  have HR2 := Lib.hid h2.rd
  clear h1 h2
  go_enter Tryz.func135, Tryz.ntmps135
  go_wp2_with (at_make; refine wpList_mkrow rfl _ _ _ rfl _ _ _ Tryz.underlying23 info_u32 (by omega) _ _ _ (da.length + db.length) rfl rfl (by omega) (by omega) ?_)
  intro g w1 hg hrow hx
  have hinv : SBOut w w1 g da db 0 := ⟨_, hrow, by simp, valid_replicate (by unfold B32; omega) _, by simp [val, val_replicate], by simp, hx⟩
  clear hrow hx
  go_wp2_with fail
  go_loopw [23] (fun i wr => ∃ k : Nat, k ≤ da.length ∧ i = .int .i64 k ∧ SBOut w wr g da db k) (fun i _ => da.length - (intOf i).toNat)
  case atStart => exact ⟨0, Nat.zero_le _, rfl, hinv⟩
  case round =>
    clear hinv
    obtain ⟨i, hi, rfl, hinv⟩ := hrel
    by_cases hlt : i < da.length
    · obtain ⟨Z, hz, hl, hv, he, hd, hext⟩ := hinv
      obtain ⟨b1, o1, rfl, hb1, hc1⟩ := (HR1.out.below hext).at_ (j := i) hlt
      by_cases h0 : da[i] = 0
      · have hS : SBOut w wr g da db (i + 1) := by
          refine ⟨Z, hz, hl, hv, ?_, ?_, hext⟩
          · rw [val_take_succ B32 da i hlt, h0, Nat.mul_zero, Nat.add_zero]; exact he
          · have h3 := congrArg (List.drop 1) hd
            rw [List.drop_drop, List.drop_replicate] at h3
            rw [show i + 1 + db.length = i + db.length + 1 from by omega, h3]
            congr 1
        have HS := Lib.hid hS
        have hz0 : ((da[i] : Nat) : Int) = 0 := by omega
        rw [hz0] at hc1
        clear hz hl hv he hd hext h0 hS hz0
        go_wp2_with fail
        go_roundw
        case rel => exact ⟨i + 1, by omega, by go_num, HS.out⟩
        case measure => simp [intOf]; omega
      · have hx : da[i] < 4294967296 := valid_get HV1.out i hlt
        have hin : SBIn w wr g da db Z da[i] i 0 0 := ⟨Z, hz, hl, hv, rfl, by simp [val], hext⟩
        have HL := Lib.hid hl
        have HW := Lib.hid hv
        have HE := Lib.hid he
        have HD := Lib.hid hd
        have HX := Lib.hid (rfl : da[i] = da[i])
        clear hz hl hv he hd hext
        generalize hxe : da[i] = x at hx hin hc1 h0
        have HXE := Lib.hid hxe
        clear hxe HX
        have hx0 : ((x : Int) == 0) = false := by simp; omega
        have hcut : ¬ (da.length + db.length = i) := by omega
        go_wp2_with fail
        obtain ⟨wo, rfl⟩ : ∃ wo : World, wo = wr := ⟨_, rfl⟩
        go_loopw [9, 35] (fun cv jv wr => ∃ j cc : Nat, j ≤ db.length ∧ jv = .int .i64 j ∧ cv = .int .u32 cc ∧ cc < 4294967296 ∧ SBIn w wr g da db Z x i j cc) (fun _ jv _ => db.length - (intOf jv).toNat)
        case atStart => exact ⟨0, 0, Nat.zero_le _, rfl, rfl, by omega, hin⟩
        case round =>
          clear hin hc1 hb1
          obtain ⟨j, cc, hj, rfl, rfl, hcc, hin⟩ := hrel
          by_cases hjl : j < db.length
          · obtain ⟨zs, hz, hl, hv, hd, he, hext⟩ := hin
            obtain ⟨b2, o2, rfl, hb2, hc2⟩ := (HR2.out.below hext).at_ (j := j) hjl
            have hy : db[j] < 4294967296 := valid_get HV2.out j hjl
            have hij : i + j < zs.length := by omega
            have hold : Z[i + j]? = some zs[i + j] := by
              have h3 := congrArg (fun l => l[0]?) hd
              simp only [List.getElem?_drop, Nat.add_zero] at h3
              rw [← h3, List.getElem?_eq_getElem hij]
            have ho : zs[i + j] < 4294967296 := valid_get hv _ hij
            have hcell : wr.cell? ⟨g, i + j, none⟩ = some (.int .u32 (zs[i + j] : Nat)) := hz.cell hij
            have hfr := hz.frozen (i + j)
            have HL2 := Lib.hid hl
            have HE2 := Lib.hid he
            have HD2 := Lib.hid hd
            have HO := Lib.hid hold
            generalize zs[i + j] = old at ho hcell HO
            clear hl he hd hold hij
            have hjr : j < da.length + db.length - i := by omega
            go_wp2_with fail
            refine (mul32_ex hx hy).mono ?_
            rintro e w' ⟨hi', lo, rfl, hp, hhi, hlo, rfl⟩
            have HP := Lib.hid hp
            clear hp
            go_wp2_with fail
            refine (add32_ex (c := 0) hlo ho (by omega)).mono ?_
            rintro e w' ⟨s1, k1, rfl, hq, hs1, hk1, rfl⟩
            have HQ := Lib.hid hq
            clear hq
            have hbd : hi' + k1 < 4294967296 := (sb_digit (c := 0) (s2 := s1) (k2 := 0) hx hy ho (by omega) HP.out (by have := HQ.out; omega) (by omega)).1
            go_wp2_with fail
            refine (add32_ex (c := 0) hs1 hcc (by omega)).mono ?_
            rintro e w' ⟨s2, k2, rfl, hq, hs2, hk2, rfl⟩
            obtain ⟨_, hbd2, hf⟩ := sb_digit hx hy ho hcc HP.out (s1 := s1) (k1 := k1) (by have := HQ.out; omega) (s2 := s2) (k2 := k2) (by omega)
            have HS := Lib.hid (SBIn.step hjl hlt HL.out hz HL2.out hv HD2.out HE2.out HO.out hf hs2 hg hext)
            clear hq hf hz hext hc2 hv
            go_wp2_with fail
            go_roundw
            case rel => exact ⟨j + 1, hi' + k1 + k2, by omega, by go_num, by go_num, by omega, HS.out⟩
            case measure => simp [intOf]; omega
          · obtain rfl : j = db.length := by omega
            obtain ⟨zs, hz, hl, hv, hd, he, hext⟩ := hin
            obtain ⟨z0, hcell⟩ := hz.some_ (i := i + db.length) (by omega)
            have hfr := hz.frozen (i + db.length)
            have HS := Lib.hid (SBIn.close hlt HXE.out HL.out hz hl hv hd he hcc HE.out HD.out hg hext)
            have hjr : db.length < da.length + db.length - i := by omega
            clear hz hl hv hd he hext
            go_wp2_with fail
            go_roundw
            case rel => exact ⟨i + 1, by omega, by go_num, HS.out⟩
            case measure => simp [intOf]; omega
    · obtain rfl : i = da.length := by omega
      obtain ⟨Z, hz, hl, hv, he, hd, hext⟩ := hinv
      go_wp2_with fail
      go_ret
      exact ⟨g, Z, rfl, hg, hz, hl, hv, by rw [he, List.take_length], hext⟩

theorem divSmall_zero {w : World} {A : Option Addr} {n c : Nat} :
    Calls Tryz.prog 124 #[.slice A n c, .int .u32 0] w fun e w' => e = .returned (.tuple #[.slice none 0 0, .int .u32 0, .bool false]) ∧ w = w' := by
  go_enter Tryz.func124, Tryz.ntmps124
  go_wp2_with fail
  go_ret3
  exact ⟨rfl, rfl⟩

theorem product_small {w : World} {A1 A2 : Option Addr} {c1 c2 : Nat} {da db : List Nat} (h1 : NR w A1 c1 da) (h2 : NR w A2 c2 db) (hs : da.length + db.length ≤ 17592186044416) (hm : min da.length db.length < 48) :
    Calls Tryz.prog 126 #[.slice A1 da.length c1, .slice A2 db.length c2] w (RetRow w (da.length + db.length) (val B32 da * val B32 db)) := by
  have t1 := schoolbook_any h1 h2 hs
  have t2 := schoolbook_any h2 h1 (by omega)
  rw [Nat.add_comm db.length, Nat.mul_comm (val B32 db)] at t2
  clear h1 h2
  by_cases hl : da.length < db.length
  · have h48 : da.length < 48 := by omega
    clear hm
    go_enter Tryz.func126, Tryz.ntmps126
    go_wp2_with fail
    refine t1.mono ?_
    rintro e w' ⟨g, zs, rfl, hr⟩
    go_wp2_with fail
    go_ret
    exact ⟨g, zs, rfl, hr⟩
  · have h48 : db.length < 48 := by omega
    clear hm
    go_enter Tryz.func126, Tryz.ntmps126
    go_wp2_with fail
    refine t2.mono ?_
    rintro e w' ⟨g, zs, rfl, hr⟩
    go_wp2_with fail
    go_ret
    exact ⟨g, zs, rfl, hr⟩

theorem mul_any {w : World} {A1 A2 : Option Addr} {c1 c2 : Nat} {d1 d2 : List Nat} (h1 : NR w A1 c1 d1) (h2 : NR w A2 c2 d2) (hs : dl (V d1) + dl (V d2) ≤ 17592186044416) (hm : min (dl (V d1)) (dl (V d2)) < 48) :
    Calls Tryz.prog 106 #[.slice A1 d1.length c1, .slice A2 d2.length c2] w (RetN w (V d1 * V d2)) := by
  have t1 := trim_nr h1
  have t2 := trim_nr h2
  have tp := product_small h1.trim h2.trim hs hm
  clear h1 h2
  rw [val_digs B32_two, val_digs B32_two] at tp
  unfold dl at hs
  generalize V d1 = a at *
  generalize V d2 = b at *
  go_enter Tryz.func106, Tryz.ntmps106
  go_wp2_with fail
  refine t1.mono ?_
  rintro e w' ⟨rfl, rfl⟩
  go_wp2_with fail
  refine t2.mono ?_
  rintro e w' ⟨rfl, rfl⟩
  go_wp2_with fail
  refine tp.mono ?_
  rintro e w1 ⟨g, zs, rfl, hg, hz, hl, hv, he, hext⟩
  have HE : Hid (V zs = a * b) := he
  have hnr : NR w1 (some ⟨g, 0, none⟩) zs.length zs :=
    ⟨by have := hz.rd zs.length; rwa [List.take_length] at this, hv, Nat.le_refl _, by omega⟩
  have ht := trim_nr hnr
  have hown := (Own.of_row' (B := w.heap.size) (n := zs.length) (ds := digs B32 (a * b)) hz (by omega) (by unfold maxLen; omega) rfl
    (by rw [← HE.out, ← trim_V hv]; exact trimL_take _))
  rw [HE.out] at ht
  rw [hl] at ht hown
  have HT := Lib.hid ht
  clear hz he hl hv hnr ht t1 t2 tp
  go_wp2_with fail
  refine HT.out.mono ?_
  rintro e w' ⟨rfl, rfl⟩
  go_wp2_with fail
  go_ret
  exact ⟨_, _, rfl, hown, hext⟩
/-- The head of a round of 'Shr': the digits so far. -/
def ShrInv (w wr : World) (g i s : Nat) (ts : List Nat) : Prop :=
  ∃ zs, Row wr g .u32 141 zs ∧ zs.length = ts.length ∧ zs.take i = (shrD s ts).take i ∧ Ext w wr

theorem ShrInv.step {w wr : World} {g i s : Nat} {v : Int} {ts : List Nat} (h : ShrInv w wr g i s ts) (hi : i < ts.length) (hg : w.heap.size ≤ g) (hv : v = (((ts[i] + 4294967296 * (ts[i + 1]?.getD 0)) / 2 ^ s % 4294967296 : Nat) : Int)) :
    ShrInv w (wr.setCell ⟨g, i, none⟩ (.int .u32 v)) g (i + 1) s ts := by
  subst hv
  obtain ⟨zs, hz, hl, he, hext⟩ := h
  refine ⟨zs.set i _, hz.set_ _ _, by simpa using hl, ?_, Below.setCell hext (p := ⟨g, i, none⟩) hg _⟩
  have hi2 : i < (shrD s ts).length := by rw [shrD_length]; exact hi
  rw [take_set_lt (by omega), List.take_succ_eq_append_getElem hi2, he, shrD_get s ts i hi2]

theorem or_digits {x y : Nat} (hx : x < 4294967296) (hy : y < 4294967296) : bits BinOp.or IntKind.u64 (x : Int) ((y : Int) * 4294967296) = ((x + 4294967296 * y : Nat) : Int) := by
  have h := u64_or_nat x (y * 4294967296) (by omega) (by omega)
  rw [Nat.or_comm, hi_lo y x hx] at h
  rw [show ((y * 4294967296 : Nat) : Int) = (y : Int) * 4294967296 from by omega] at h
  rw [h]
  congr 1
  omega

theorem shr_any {w : World} {A : Option Addr} {c1 n : Nat} {ds : List Nat} (h : NR w A c1 ds) (hs : dl (V ds) ≤ 17592186044416) (hn : n ≤ 4611686018427387904) (hlt : n / 32 < dl (V ds)) :
    Calls Tryz.prog 142 #[.slice A ds.length c1, .int .i64 n] w (RetN w (V ds / 2 ^ n)) := by
  have ht := trim_nr h
  have hn' := h.trim
  clear h
  unfold dl at hs hlt
  generalize V ds = a at *
  have HV := Lib.hid hn'.valid
  have HR := Lib.hid hn'.rd
  have hle := hn'.le
  have hcap := hn'.cap
  have hval : val B32 (shrD (n % 32) ((digs B32 a).drop (n / 32))) = a / 2 ^ n := by
    have hp : B32 ^ (n / 32) = 2 ^ (32 * (n / 32)) := by rw [Nat.pow_mul]; rfl
    have h1 := shrD_val (s := n % 32) (by omega) (valid_drop HV.out (n / 32))
    have h2 := val_drop_div B32_two HV.out (n / 32)
    rw [val_digs B32_two, hp] at h2
    show val 4294967296 _ = _
    rw [h1]
    show val B32 _ / _ = _
    rw [h2, Nat.div_div_eq_div_mul, ← Nat.pow_add, Nat.div_add_mod]
  have HVAL := Lib.hid hval
  clear hn' hval
  generalize digs B32 a = da at *
  have hcut : ¬ (c1 = n / 32) := by omega
  obtain ⟨b1, o1, rfl, hb1, _⟩ := HR.out.at_ (j := n / 32) hlt
  have HC : Hid (∀ k (hk : k < da.length - n / 32), w.cell? ⟨b1, o1 + n / 32 + k, none⟩ = some (.int .u32 (da[n / 32 + k] : Nat))) := by
    intro k hk
    obtain ⟨b, o, hA, _, hc⟩ := HR.out (n / 32 + k) (by omega)
    injection hA with hA
    injection hA with e1 e2
    subst e1 e2
    rw [Nat.add_assoc]
    exact hc
  have HG : Hid (∀ k (hk : k < (da.drop (n / 32)).length), (da.drop (n / 32))[k] = da[n / 32 + k]'(by simp at hk; omega)) := fun k hk => by simp
  have hT : (da.drop (n / 32)).length = da.length - n / 32 := by simp
  have HT := Lib.hid hT
  have HVd := Lib.hid (valid_drop HV.out (n / 32))
  clear hT
  go_enter Tryz.func142, Tryz.ntmps142
  go_wp2_with fail
  refine ht.mono ?_
  rintro e w' ⟨rfl, rfl⟩
  clear ht
  go_wp2_with (at_make; refine wpList_mkrow rfl _ _ _ rfl _ _ _ Tryz.underlying23 info_u32 (by omega) _ _ _ (da.length - n / 32) rfl rfl (by omega) (by omega) ?_)
  intro g w1 hg hrow hx
  have hinv : ShrInv w w1 g 0 (n % 32) (da.drop (n / 32)) := ⟨_, hrow, by simp, by simp, hx⟩
  clear hrow hx
  go_wp2_with fail
  go_loopw [33] (fun i wr => ∃ k : Nat, k ≤ da.length - n / 32 ∧ i = .int .i64 k ∧ ShrInv w wr g k (n % 32) (da.drop (n / 32))) (fun i _ => (da.length - n / 32) - (intOf i).toNat)
  case atStart => exact ⟨0, Nat.zero_le _, rfl, hinv⟩
  case round =>
    clear hinv
    obtain ⟨k, hk, rfl, hinv⟩ := hrel
    by_cases hlt2 : k < da.length - n / 32
    · have hinv0 := hinv
      obtain ⟨zs, hz, hl, he, hext⟩ := hinv
      have hcx : wr.cell? ⟨b1, o1 + n / 32 + k, none⟩ = some (.int .u32 (da[n / 32 + k] : Nat)) := hext.cell (HC.out k hlt2)
      have hx : da[n / 32 + k] < 4294967296 := valid_get HV.out _ (by omega)
      obtain ⟨z0, hcell⟩ := hz.some_ (i := k) (by rw [hl, HT.out]; exact hlt2)
      have hfr := hz.frozen k
      have HI := Lib.hid hinv0
      have hkd : k < (da.drop (n / 32)).length := by rw [HT.out]; exact hlt2
      have HX : Hid ((da.drop (n / 32))[k] = da[n / 32 + k]) := HG.out k hkd
      clear hz hl he hinv0
      by_cases hlast : k + 1 < da.length - n / 32
      · have hcy : wr.cell? ⟨b1, o1 + n / 32 + (k + 1), none⟩ = some (.int .u32 (da[n / 32 + (k + 1)] : Nat)) := hext.cell (HC.out (k + 1) hlast)
        have hy : da[n / 32 + (k + 1)] < 4294967296 := valid_get HV.out _ (by omega)
        have HY : Hid ((da.drop (n / 32))[k + 1]?.getD 0 = da[n / 32 + (k + 1)]) := by
          show _ = _
          have hkd2 : k + 1 < (da.drop (n / 32)).length := by rw [HT.out]; exact hlast
          rw [List.getElem?_eq_getElem hkd2, HG.out (k + 1) hkd2]; rfl
        generalize da[n / 32 + k] = x at *
        generalize da[n / 32 + (k + 1)] = y at *
        go_wp2_with fail
        go_roundw
        case rel =>
          refine ⟨k + 1, by omega, by go_num, HI.out.step hkd hg ?_⟩
          rw [HX.out, HY.out, or_digits hx hy]
          simp
        case measure => simp [intOf]; omega
      · have HY : Hid ((da.drop (n / 32))[k + 1]?.getD 0 = 0) := by
          show _ = _
          rw [List.getElem?_eq_none (by rw [HT.out]; omega)]; rfl
        generalize da[n / 32 + k] = x at *
        go_wp2_with fail
        go_roundw
        case rel =>
          refine ⟨k + 1, by omega, by go_num, HI.out.step hkd hg ?_⟩
          rw [HX.out, HY.out]
          simp
        case measure => simp [intOf]; omega
    · obtain rfl : k = da.length - n / 32 := by omega
      obtain ⟨zs, hz, hl, he, hext⟩ := hinv
      rw [← HT.out, ← hl, List.take_length, hl, List.take_of_length_le (by rw [shrD_length]; exact Nat.le_refl _)] at he
      have hv : Valid B32 zs := by rw [he]; exact shrD_valid _ _
      have HE : Hid (V zs = a / 2 ^ n) := by show val B32 zs = _; rw [he]; exact HVAL.out
      have hnr : NR wr (some ⟨g, 0, none⟩) zs.length zs :=
        ⟨by have := hz.rd zs.length; rwa [List.take_length] at this, hv, Nat.le_refl _, by rw [hl, HT.out]; omega⟩
      have ht := trim_nr hnr
      have hown := (Own.of_row' (B := w.heap.size) (n := zs.length) (ds := digs B32 (a / 2 ^ n)) hz (by omega) (by rw [hl, HT.out]; unfold maxLen; omega) rfl
        (by rw [← HE.out, ← trim_V hv]; exact trimL_take _))
      rw [HE.out] at ht
      rw [hl, HT.out] at ht hown
      have HTR := Lib.hid ht
      clear hz he hl hv hnr ht
      go_wp2_with fail
      refine HTR.out.mono ?_
      rintro e w' ⟨rfl, rfl⟩
      go_wp2_with fail
      go_ret
      exact ⟨_, _, rfl, hown, hext⟩

theorem shr_far {w : World} {A : Option Addr} {c1 n : Nat} {ds : List Nat} (h : NR w A c1 ds) (hn : n ≤ 4611686018427387904) (hge : dl (V ds) ≤ n / 32) :
    Calls Tryz.prog 142 #[.slice A ds.length c1, .int .i64 n] w fun e w' => e = .returned (.slice none 0 0) ∧ w = w' := by
  have ht := trim_nr h
  clear h
  unfold dl at hge
  generalize digs B32 (V ds) = da at *
  go_enter Tryz.func142, Tryz.ntmps142
  go_wp2_with fail
  refine ht.mono ?_
  rintro e w' ⟨rfl, rfl⟩
  go_wp2_with fail
  go_ret
  exact ⟨rfl, rfl⟩
/-- The head of a round of 'Shl': q whole digits, s bits; the digits so far. -/
def ShlInv (w wr : World) (g i q s : Nat) (da : List Nat) : Prop :=
  ∃ zs, Row wr g .u32 141 zs ∧ zs.length = q + da.length + 1 ∧ Valid B32 zs ∧ val B32 (zs.take (q + i + 1)) = B32 ^ q * (val B32 (da.take i) * 2 ^ s) ∧
    (∃ old, zs[q + i]? = some old ∧ old < 2 ^ s) ∧ zs.drop (q + i + 1) = List.replicate (da.length - i) 0 ∧ Ext w wr

theorem ShlInv.old_ {w wr : World} {g i q s : Nat} {da : List Nat} (h : ShlInv w wr g i q s da) (hi : i < da.length) :
    ∃ old z : Nat, wr.cell? ⟨g, q + i, none⟩ = some (.int .u32 (old : Nat)) ∧ wr.frozen? ⟨g, q + i, none⟩ = false ∧ old < 2 ^ s ∧
      wr.cell? ⟨g, q + (i + 1), none⟩ = some (.int .u32 (z : Nat)) ∧ wr.frozen? ⟨g, q + (i + 1), none⟩ = false ∧ g < wr.heap.size ∧
      ∀ x low hi' : Nat, s < 32 → x = da[i] → x < 4294967296 → w.heap.size ≤ g → low = x * 2 ^ s % 4294967296 → hi' = x * 2 ^ s / 4294967296 →
        ShlInv w ((wr.setCell ⟨g, q + i, none⟩ (.int .u32 ((old + low : Nat) : Int))).setCell ⟨g, q + (i + 1), none⟩ (.int .u32 (hi' : Int))) g (i + 1) q s da := by
  obtain ⟨zs, hz, hl, hv, he, ⟨old, ho, hos⟩, hd, hext⟩ := h
  have hk : q + i < zs.length := by omega
  have hk1 : q + i + 1 < zs.length := by omega
  rw [show q + (i + 1) = q + i + 1 from by omega]
  have hoe : zs[q + i] = old := by rw [List.getElem?_eq_getElem hk] at ho; injection ho
  refine ⟨old, zs[q + i + 1], by rw [← hoe]; exact hz.cell hk, hz.frozen _, hos, hz.cell hk1, hz.frozen _, hz.lt, ?_⟩
  intro x low hi' hs hxe hx hg hlow hhi
  obtain ⟨_, hlt, hhs, _⟩ := shl_digit hs hx hos
  have hB : B32 = 4294967296 := rfl
  have hdm : low + B32 * hi' = x * 2 ^ s := by rw [hlow, hhi, hB]; exact Nat.mod_add_div _ _
  have h31 : 2 ^ s ≤ 2 ^ 31 := Nat.pow_le_pow_right (by omega) (by omega)
  refine ⟨(zs.set (q + i) (old + low)).set (q + i + 1) hi', (hz.set_ _ _).set_ _ _, by simpa using hl, valid_set (valid_set hv _ _ (by rw [hlow, hB]; exact hlt)) _ _ (by rw [hhi, hB]; omega), ?_, ⟨hi', ?_, by rw [hhi]; exact hhs⟩, ?_, Below.setCell (Below.setCell hext (p := ⟨g, q + i, none⟩) hg _) (p := ⟨g, q + i + 1, none⟩) hg _⟩
  · rw [show q + (i + 1) + 1 = q + i + 1 + 1 from by omega, val_set B32 (by simpa using hk1), val_set B32 hk, val_take_succ B32 da i hi, ← hxe, Nat.pow_succ]
    have h0 : val B32 (zs.take (q + i)) + B32 ^ (q + i) * old = B32 ^ q * (val B32 (da.take i) * 2 ^ s) := by
      rw [← he, val_take_succ B32 zs (q + i) hk, hoe]
    have h1 := shl_math (B := B32) (P := B32 ^ (q + i)) (x := x) (t := 2 ^ s) h0 hdm
    rw [h1, Nat.add_mul, Nat.mul_add, Nat.pow_add, Nat.mul_assoc (B32 ^ q), Nat.mul_assoc (B32 ^ i)]
  · rw [show q + (i + 1) = q + i + 1 from by omega, List.getElem?_set_self (by simpa using hk1)]
  · rw [show q + (i + 1) + 1 = q + i + 1 + 1 from by omega, List.drop_set_of_lt (by omega), List.drop_set_of_lt (by omega)]
    have h1 := congrArg (List.drop 1) hd
    rw [List.drop_drop, List.drop_replicate] at h1
    rw [h1]
    congr 1
theorem shl_zero (L k q s : Nat) (da : List Nat) : val B32 ((List.replicate L 0).take k) = B32 ^ q * (val B32 (da.take 0) * 2 ^ s) := by
  rw [List.take_replicate, val_replicate, List.take_zero, val_nil, Nat.zero_mul, Nat.mul_zero]
theorem shl_pow (q s m a : Nat) (h : 32 * q + s = m) : B32 ^ q * (a * 2 ^ s) = a * 2 ^ m := by
  have e1 : B32 ^ q = 2 ^ (32 * q) := by rw [Nat.pow_mul]; rfl
  rw [e1, Nat.mul_left_comm, ← Nat.pow_add, h]

theorem shl_nat {w : World} {A : Option Addr} {c1 m : Nat} {ds : List Nat} (h : NR w A c1 ds) (hs : dl (V ds) ≤ 17592186044416) (hm : m ≤ 16777216) :
    Calls Tryz.prog 138 #[.slice A ds.length c1, .int .i64 m] w (RetN w (V ds * 2 ^ m)) := by
  have ht := trim_nr h
  have hn' := h.trim
  clear h
  unfold dl at hs
  have HF := Lib.hid (len_zero (V ds))
  have HV := Lib.hid hn'.valid
  have HR := Lib.hid hn'.rd
  have HA : Hid (val B32 (digs B32 (V ds)) = V ds) := val_digs B32_two _
  generalize V ds = a at *
  clear hn'
  by_cases h0 : a = 0
  · subst h0
    go_enter Tryz.func138, Tryz.ntmps138
    go_wp2_with fail
    refine ht.mono ?_
    rintro e w' ⟨rfl, rfl⟩
    go_wp2_with fail
    go_ret
    exact ⟨none, 0, by simp [digs_zero], by simpa [NO, digs_zero] using Own.none_ _ _ _ _, Ext.refl _⟩
  · have hz : (((digs B32 a).length : Int) == 0) = false := by rw [HF.out]; simpa using h0
    have HP : Hid (B32 ^ (m / 32) * (a * 2 ^ (m % 32)) = a * 2 ^ m) := shl_pow (m / 32) (m % 32) m a (by omega)
    clear HF h0
    generalize digs B32 a = da at *
    have hcut : ¬ ((m / 32) + da.length + 1 = m / 32) := by omega
    go_enter Tryz.func138, Tryz.ntmps138
    go_wp2_with fail
    refine ht.mono ?_
    rintro e w' ⟨rfl, rfl⟩
    clear ht
    go_wp2_with (at_make; refine wpList_mkrow rfl _ _ _ rfl _ _ _ Tryz.underlying23 info_u32 (by omega) _ _ _ ((m / 32) + da.length + 1) rfl rfl (by omega) (by omega) ?_)
    intro g w1 hg hrow hx
    have hinv : ShlInv w w1 g 0 (m / 32) (m % 32) da := by
      refine ⟨_, hrow, by simp, valid_replicate (by unfold B32; omega) _, shl_zero _ _ (m / 32) (m % 32) da, ⟨0, ?_, Nat.two_pow_pos _⟩, by simp, hx⟩
      rw [List.getElem?_replicate, if_pos (by omega)]
    clear hrow hx
    go_wp2_with fail
    go_loopw [36] (fun i wr => ∃ k : Nat, k ≤ da.length ∧ i = .int .i64 k ∧ ShlInv w wr g k (m / 32) (m % 32) da) (fun i _ => da.length - (intOf i).toNat)
    case atStart => exact ⟨0, Nat.zero_le _, rfl, hinv⟩
    case round =>
      clear hinv
      obtain ⟨k, hk, rfl, hinv⟩ := hrel
      by_cases hlt : k < da.length
      · have hext : Ext w wr := by obtain ⟨_, _, _, _, _, _, _, h⟩ := hinv; exact h
        obtain ⟨b1, o1, rfl, hb1, hcx⟩ := (HR.out.below hext).at_ (j := k) hlt
        have hx : da[k] < 4294967296 := valid_get HV.out _ hlt
        obtain ⟨old, z, hcell, hfr, hos, hcell2, hfr2, hgl, hstep⟩ := hinv.old_ hlt
        have hs32 : m % 32 < 32 := by omega
        have hstep2 := hstep da[k] _ _ hs32 rfl hx hg rfl rfl
        obtain ⟨hor, hd1, hd2, hd3⟩ := shl_digit hs32 hx hos
        have hold : old < 4294967296 := by omega
        have HS : Hid (∀ e1 e2 : Int, e1 = ((old + da[k] * 2 ^ (m % 32) % 4294967296 : Nat) : Int) → e2 = ((da[k] * 2 ^ (m % 32) / 4294967296 : Nat) : Int) →
            ShlInv w ((wr.setCell ⟨g, m / 32 + k, none⟩ (.int .u32 e1)).setCell ⟨g, m / 32 + (k + 1), none⟩ (.int .u32 e2)) g (k + 1) (m / 32) (m % 32) da) := fun e1 e2 h1 h2 => by subst h1 h2; exact hstep2
        have HOR := Lib.hid hor
        clear hinv hstep hstep2 hor
        generalize da[k] = x at *
        have hxs : ((x * 2 ^ (m % 32) : Nat) : Int) = (x : Int) * 2 ^ (m % 32) := by simp
        go_wp2_with fail
        go_roundw
        case rel =>
          refine ⟨k + 1, by omega, by go_num, HS.out _ _ ?_ ?_⟩
          · rw [← hxs, ← HOR.out]
            exact u32_or_nat old (x * 2 ^ (m % 32) % 4294967296) hold (Nat.mod_lt _ (by omega))
          · rw [← hxs]; rfl
        case measure => simp [intOf]; omega
      · obtain rfl : k = da.length := by omega
        obtain ⟨zs, hz, hl, hv, he, _, _, hext⟩ := hinv
        rw [List.take_of_length_le (by omega), List.take_length, HA.out, HP.out] at he
        have HE : Hid (V zs = a * 2 ^ m) := he
        have hnr : NR wr (some ⟨g, 0, none⟩) zs.length zs :=
          ⟨by have := hz.rd zs.length; rwa [List.take_length] at this, hv, Nat.le_refl _, by omega⟩
        have htr := trim_nr hnr
        have hown := (Own.of_row' (B := w.heap.size) (n := zs.length) (ds := digs B32 (a * 2 ^ m)) hz hg (by unfold maxLen; omega) rfl
          (by rw [← HE.out, ← trim_V hv]; exact trimL_take _))
        rw [HE.out] at htr
        rw [hl] at htr hown
        have HT := Lib.hid htr
        have HO := Lib.hid hown
        clear hz hl hv he hnr htr hown
        go_wp2_with fail
        refine HT.out.mono ?_
        rintro e w' ⟨rfl, rfl⟩
        go_wp2_with fail
        go_ret
        exact ⟨_, _, rfl, HO.out, hext⟩

theorem shl_neg {w : World} {A : Option Addr} {c1 m : Nat} {n : Int} {ds : List Nat} (h : NR w A c1 ds) (hs : dl (V ds) ≤ 17592186044416) (hm : m = 0) (hn : n < 0) :
    Calls Tryz.prog 138 #[.slice A ds.length c1, .int .i64 n] w (RetN w (V ds * 2 ^ m)) := by
  have ht := trim_nr h
  have hn' := h.trim
  clear h
  unfold dl at hs
  have HF := Lib.hid (len_zero (V ds))
  have HV := Lib.hid hn'.valid
  have HR := Lib.hid hn'.rd
  have HA : Hid (val B32 (digs B32 (V ds)) = V ds) := val_digs B32_two _
  generalize V ds = a at *
  clear hn'
  by_cases h0 : a = 0
  · subst h0
    clear hm
    go_enter Tryz.func138, Tryz.ntmps138
    go_wp2_with fail
    refine ht.mono ?_
    rintro e w' ⟨rfl, rfl⟩
    go_wp2_with fail
    go_ret
    exact ⟨none, 0, by simp [digs_zero], by simpa [NO, digs_zero] using Own.none_ _ _ _ _, Ext.refl _⟩
  · have hz : (((digs B32 a).length : Int) == 0) = false := by rw [HF.out]; simpa using h0
    have HP : Hid (B32 ^ (0) * (a * 2 ^ (0)) = a * 2 ^ m) := shl_pow (0) (0) m a (by omega)
    clear HF h0 hm
    generalize digs B32 a = da at *
    have hcut : ¬ ((0) + da.length + 1 = 0) := by omega
    go_enter Tryz.func138, Tryz.ntmps138
    go_wp2_with fail
    refine ht.mono ?_
    rintro e w' ⟨rfl, rfl⟩
    clear ht
    go_wp2_with (at_make; refine wpList_mkrow rfl _ _ _ rfl _ _ _ Tryz.underlying23 info_u32 (by omega) _ _ _ ((0) + da.length + 1) rfl rfl (by omega) (by omega) ?_)
    intro g w1 hg hrow hx
    have hinv : ShlInv w w1 g 0 (0) (0) da := by
      refine ⟨_, hrow, by simp, valid_replicate (by unfold B32; omega) _, shl_zero _ _ (0) (0) da, ⟨0, ?_, Nat.two_pow_pos _⟩, by simp, hx⟩
      rw [List.getElem?_replicate, if_pos (by omega)]
    clear hrow hx
    go_wp2_with fail
    go_loopw [36] (fun i wr => ∃ k : Nat, k ≤ da.length ∧ i = .int .i64 k ∧ ShlInv w wr g k (0) (0) da) (fun i _ => da.length - (intOf i).toNat)
    case atStart => exact ⟨0, Nat.zero_le _, rfl, hinv⟩
    case round =>
      clear hinv
      obtain ⟨k, hk, rfl, hinv⟩ := hrel
      by_cases hlt : k < da.length
      · have hext : Ext w wr := by obtain ⟨_, _, _, _, _, _, _, h⟩ := hinv; exact h
        obtain ⟨b1, o1, rfl, hb1, hcx⟩ := (HR.out.below hext).at_ (j := k) hlt
        have hx : da[k] < 4294967296 := valid_get HV.out _ hlt
        obtain ⟨old, z, hcell, hfr, hos, hcell2, hfr2, hgl, hstep⟩ := hinv.old_ hlt
        simp only [Nat.zero_add] at hcell hfr hcell2 hfr2 hstep
        have hs32 : 0 < 32 := by omega
        have hstep2 := hstep da[k] _ _ hs32 rfl hx hg rfl rfl
        obtain ⟨hor, hd1, hd2, hd3⟩ := shl_digit hs32 hx hos
        have hold : old < 4294967296 := by omega
        have HS : Hid (∀ e1 e2 : Int, e1 = ((old + da[k] * 2 ^ (0) % 4294967296 : Nat) : Int) → e2 = ((da[k] * 2 ^ (0) / 4294967296 : Nat) : Int) →
            ShlInv w ((wr.setCell ⟨g, k, none⟩ (.int .u32 e1)).setCell ⟨g, k + 1, none⟩ (.int .u32 e2)) g (k + 1) (0) (0) da) := fun e1 e2 h1 h2 => by subst h1 h2; exact hstep2
        have HOR := Lib.hid hor
        clear hinv hstep hstep2 hor
        generalize da[k] = x at *
        clear hd3
        go_wp2_with fail
        go_roundw
        case rel =>
          refine ⟨k + 1, by omega, by go_num, HS.out _ _ ?_ ?_⟩
          · have e0 : x * 2 ^ 0 % 4294967296 = x := by rw [Nat.pow_zero, Nat.mul_one]; exact Nat.mod_eq_of_lt hx
            have hO := HOR.out
            rw [e0] at hO
            rw [e0, ← hO]
            exact u32_or_nat old x hold hx
          · rw [Nat.pow_zero, Nat.mul_one]; omega
        case measure => simp [intOf]; omega
      · obtain rfl : k = da.length := by omega
        obtain ⟨zs, hz, hl, hv, he, _, _, hext⟩ := hinv
        rw [List.take_of_length_le (by omega), List.take_length, HA.out, HP.out] at he
        have HE : Hid (V zs = a * 2 ^ m) := he
        have hnr : NR wr (some ⟨g, 0, none⟩) zs.length zs :=
          ⟨by have := hz.rd zs.length; rwa [List.take_length] at this, hv, Nat.le_refl _, by omega⟩
        have htr := trim_nr hnr
        have hown := (Own.of_row' (B := w.heap.size) (n := zs.length) (ds := digs B32 (a * 2 ^ m)) hz hg (by unfold maxLen; omega) rfl
          (by rw [← HE.out, ← trim_V hv]; exact trimL_take _))
        rw [HE.out] at htr
        simp only [Nat.zero_add] at hl
        rw [hl] at htr hown
        have HT := Lib.hid htr
        have HO := Lib.hid hown
        clear hz hl hv he hnr htr hown
        go_wp2_with fail
        refine HT.out.mono ?_
        rintro e w' ⟨rfl, rfl⟩
        go_wp2_with fail
        go_ret
        exact ⟨_, _, rfl, HO.out, hext⟩

theorem shl_big {w : World} {A : Option Addr} {c1 m : Nat} {n : Int} {ds : List Nat} (h : NR w A c1 ds) (hs : dl (V ds) ≤ 17592186044416) (hm : m = 16777216) (hn : 16777216 < n) :
    Calls Tryz.prog 138 #[.slice A ds.length c1, .int .i64 n] w (RetN w (V ds * 2 ^ m)) := by
  have ht := trim_nr h
  have hn' := h.trim
  clear h
  unfold dl at hs
  have HF := Lib.hid (len_zero (V ds))
  have HV := Lib.hid hn'.valid
  have HR := Lib.hid hn'.rd
  have HA : Hid (val B32 (digs B32 (V ds)) = V ds) := val_digs B32_two _
  generalize V ds = a at *
  clear hn'
  by_cases h0 : a = 0
  · subst h0
    clear hm
    go_enter Tryz.func138, Tryz.ntmps138
    go_wp2_with fail
    refine ht.mono ?_
    rintro e w' ⟨rfl, rfl⟩
    go_wp2_with fail
    go_ret
    exact ⟨none, 0, by simp [digs_zero], by simpa [NO, digs_zero] using Own.none_ _ _ _ _, Ext.refl _⟩
  · have hz : (((digs B32 a).length : Int) == 0) = false := by rw [HF.out]; simpa using h0
    have HP : Hid (B32 ^ (524288) * (a * 2 ^ (0)) = a * 2 ^ m) := shl_pow (524288) (0) m a (by omega)
    clear HF h0 hm
    generalize digs B32 a = da at *
    have hcut : ¬ ((524288) + da.length + 1 = 524288) := by omega
    go_enter Tryz.func138, Tryz.ntmps138
    go_wp2_with fail
    refine ht.mono ?_
    rintro e w' ⟨rfl, rfl⟩
    clear ht
    go_wp2_with (at_make; refine wpList_mkrow rfl _ _ _ rfl _ _ _ Tryz.underlying23 info_u32 (by omega) _ _ _ ((524288) + da.length + 1) rfl rfl (by omega) (by omega) ?_)
    intro g w1 hg hrow hx
    have hinv : ShlInv w w1 g 0 (524288) (0) da := by
      refine ⟨_, hrow, by simp, valid_replicate (by unfold B32; omega) _, shl_zero _ _ (524288) (0) da, ⟨0, ?_, Nat.two_pow_pos _⟩, by simp, hx⟩
      rw [List.getElem?_replicate, if_pos (by omega)]
    clear hrow hx
    go_wp2_with fail
    go_loopw [36] (fun i wr => ∃ k : Nat, k ≤ da.length ∧ i = .int .i64 k ∧ ShlInv w wr g k (524288) (0) da) (fun i _ => da.length - (intOf i).toNat)
    case atStart => exact ⟨0, Nat.zero_le _, rfl, hinv⟩
    case round =>
      clear hinv
      obtain ⟨k, hk, rfl, hinv⟩ := hrel
      by_cases hlt : k < da.length
      · have hext : Ext w wr := by obtain ⟨_, _, _, _, _, _, _, h⟩ := hinv; exact h
        obtain ⟨b1, o1, rfl, hb1, hcx⟩ := (HR.out.below hext).at_ (j := k) hlt
        have hx : da[k] < 4294967296 := valid_get HV.out _ hlt
        obtain ⟨old, z, hcell, hfr, hos, hcell2, hfr2, hgl, hstep⟩ := hinv.old_ hlt
        have hs32 : 0 < 32 := by omega
        have hstep2 := hstep da[k] _ _ hs32 rfl hx hg rfl rfl
        obtain ⟨hor, hd1, hd2, hd3⟩ := shl_digit hs32 hx hos
        have hold : old < 4294967296 := by omega
        have HS : Hid (∀ e1 e2 : Int, e1 = ((old + da[k] * 2 ^ (0) % 4294967296 : Nat) : Int) → e2 = ((da[k] * 2 ^ (0) / 4294967296 : Nat) : Int) →
            ShlInv w ((wr.setCell ⟨g, 524288 + k, none⟩ (.int .u32 e1)).setCell ⟨g, 524288 + (k + 1), none⟩ (.int .u32 e2)) g (k + 1) (524288) (0) da) := fun e1 e2 h1 h2 => by subst h1 h2; exact hstep2
        have HOR := Lib.hid hor
        clear hinv hstep hstep2 hor
        generalize da[k] = x at *
        clear hd3
        go_wp2_with fail
        go_roundw
        case rel =>
          refine ⟨k + 1, by omega, by go_num, HS.out _ _ ?_ ?_⟩
          · have e0 : x * 2 ^ 0 % 4294967296 = x := by rw [Nat.pow_zero, Nat.mul_one]; exact Nat.mod_eq_of_lt hx
            have hO := HOR.out
            rw [e0] at hO
            rw [e0, ← hO]
            exact u32_or_nat old x hold hx
          · rw [Nat.pow_zero, Nat.mul_one]; omega
        case measure => simp [intOf]; omega
      · obtain rfl : k = da.length := by omega
        obtain ⟨zs, hz, hl, hv, he, _, _, hext⟩ := hinv
        rw [List.take_of_length_le (by omega), List.take_length, HA.out, HP.out] at he
        have HE : Hid (V zs = a * 2 ^ m) := he
        have hnr : NR wr (some ⟨g, 0, none⟩) zs.length zs :=
          ⟨by have := hz.rd zs.length; rwa [List.take_length] at this, hv, Nat.le_refl _, by omega⟩
        have htr := trim_nr hnr
        have hown := (Own.of_row' (B := w.heap.size) (n := zs.length) (ds := digs B32 (a * 2 ^ m)) hz hg (by unfold maxLen; omega) rfl
          (by rw [← HE.out, ← trim_V hv]; exact trimL_take _))
        rw [HE.out] at htr
        rw [hl] at htr hown
        have HT := Lib.hid htr
        have HO := Lib.hid hown
        clear hz hl hv he hnr htr hown
        go_wp2_with fail
        refine HT.out.mono ?_
        rintro e w' ⟨rfl, rfl⟩
        go_wp2_with fail
        go_ret
        exact ⟨_, _, rfl, HO.out, hext⟩
theorem shr_neg {w : World} {A : Option Addr} {c1 : Nat} {n : Int} {ds : List Nat} (h : NR w A c1 ds) (hs : dl (V ds) ≤ 17592186044416) (hn : n < 0) (hlt : 0 < dl (V ds)) :
    Calls Tryz.prog 142 #[.slice A ds.length c1, .int .i64 n] w (RetN w (V ds)) := by
  have ht := trim_nr h
  have hn' := h.trim
  clear h
  unfold dl at hs hlt
  generalize V ds = a at *
  have HV := Lib.hid hn'.valid
  have HR := Lib.hid hn'.rd
  have hle := hn'.le
  have hcap := hn'.cap
  have hval : val B32 (shrD 0 (digs B32 a)) = a := by
    have h1 := shrD_val (s := 0) (by omega) HV.out
    rw [Nat.pow_zero, Nat.div_one] at h1
    exact h1.trans (val_digs B32_two a)
  have HVAL := Lib.hid hval
  clear hn' hval
  generalize digs B32 a = da at *
  have hcut : ¬ (c1 = 0) := by omega
  obtain ⟨b1, o1, rfl, hb1, _⟩ := HR.out.at_ (j := 0) hlt
  have HC : Hid (∀ k (hk : k < da.length), w.cell? ⟨b1, o1 + k, none⟩ = some (.int .u32 (da[k] : Nat))) := by
    intro k hk
    obtain ⟨b, o, hA, _, hc⟩ := HR.out k (by omega)
    injection hA with hA
    injection hA with e1 e2
    subst e1 e2
    exact hc
  have HVd := Lib.hid (valid_drop HV.out (0))
  have hne : ¬ da = [] := by intro h; rw [h] at hlt; simp at hlt
  go_enter Tryz.func142, Tryz.ntmps142
  go_wp2_with fail
  refine ht.mono ?_
  rintro e w' ⟨rfl, rfl⟩
  clear ht
  go_wp2_with (at_make; refine wpList_mkrow rfl _ _ _ rfl _ _ _ Tryz.underlying23 info_u32 (by omega) _ _ _ (da.length) rfl rfl (by omega) (by omega) ?_)
  intro g w1 hg hrow hx
  have hinv : ShrInv w w1 g 0 (0) da := ⟨_, hrow, by simp, by simp, hx⟩
  clear hrow hx
  go_wp2_with fail
  go_loopw [33] (fun i wr => ∃ k : Nat, k ≤ da.length ∧ i = .int .i64 k ∧ ShrInv w wr g k (0) da) (fun i _ => (da.length) - (intOf i).toNat)
  case atStart => exact ⟨0, Nat.zero_le _, rfl, hinv⟩
  case round =>
    clear hinv
    obtain ⟨k, hk, rfl, hinv⟩ := hrel
    by_cases hlt2 : k < da.length
    · have hinv0 := hinv
      obtain ⟨zs, hz, hl, he, hext⟩ := hinv
      have hcx : wr.cell? ⟨b1, o1 + k, none⟩ = some (.int .u32 (da[k] : Nat)) := hext.cell (HC.out k hlt2)
      have hx : da[k] < 4294967296 := valid_get HV.out _ (by omega)
      obtain ⟨z0, hcell⟩ := hz.some_ (i := k) (by rw [hl]; exact hlt2)
      have hfr := hz.frozen k
      have HI := Lib.hid hinv0
      have hkd : k < da.length := by exact hlt2
      have HX : Hid (da[k] = da[k]) := Lib.hid rfl
      clear hz hl he hinv0
      by_cases hlast : k + 1 < da.length
      · have hcy : wr.cell? ⟨b1, o1 + (k + 1), none⟩ = some (.int .u32 (da[k + 1] : Nat)) := hext.cell (HC.out (k + 1) hlast)
        have hy : da[k + 1] < 4294967296 := valid_get HV.out _ (by omega)
        have HY : Hid (da[k + 1]?.getD 0 = da[k + 1]) := by
          show _ = _
          have hkd2 : k + 1 < da.length := by exact hlast
          rw [List.getElem?_eq_getElem hkd2]; rfl
        generalize hxe : da[k] = x at *
        have HXE := Lib.hid hxe
        clear hxe
        generalize da[k + 1] = y at *
        go_wp2_with fail
        go_roundw
        case rel =>
          refine ⟨k + 1, by omega, by go_num, HI.out.step hkd hg ?_⟩
          rw [HXE.out, HY.out, or_digits hx hy]
          simp
        case measure => simp [intOf]; omega
      · have HY : Hid (da[k + 1]?.getD 0 = 0) := by
          show _ = _
          rw [List.getElem?_eq_none (by omega)]; rfl
        generalize hxe : da[k] = x at *
        have HXE := Lib.hid hxe
        clear hxe
        go_wp2_with fail
        go_roundw
        case rel =>
          refine ⟨k + 1, by omega, by go_num, HI.out.step hkd hg ?_⟩
          rw [HXE.out, HY.out]
          simp
          omega
        case measure => simp [intOf]; omega
    · obtain rfl : k = da.length := by omega
      obtain ⟨zs, hz, hl, he, hext⟩ := hinv
      rw [← hl, List.take_length, hl, List.take_of_length_le (by rw [shrD_length]; exact Nat.le_refl _)] at he
      have hv : Valid B32 zs := by rw [he]; exact shrD_valid _ _
      have HE : Hid (V zs = a) := by show val B32 zs = _; rw [he]; exact HVAL.out
      have hnr : NR wr (some ⟨g, 0, none⟩) zs.length zs :=
        ⟨by have := hz.rd zs.length; rwa [List.take_length] at this, hv, Nat.le_refl _, by rw [hl]; omega⟩
      have ht := trim_nr hnr
      have hown := (Own.of_row' (B := w.heap.size) (n := zs.length) (ds := digs B32 (a)) hz (by omega) (by rw [hl]; unfold maxLen; omega) rfl
        (by rw [← HE.out, ← trim_V hv]; exact trimL_take _))
      rw [HE.out] at ht
      rw [hl] at ht hown
      have HTR := Lib.hid ht
      clear hz he hl hv hnr ht
      go_wp2_with fail
      refine HTR.out.mono ?_
      rintro e w' ⟨rfl, rfl⟩
      go_wp2_with fail
      go_ret
      exact ⟨_, _, rfl, hown, hext⟩


theorem shr_neg0 {w : World} {A : Option Addr} {c1 : Nat} {n : Int} {ds : List Nat} (h : NR w A c1 ds) (hn : n < 0) (h0 : V ds = 0) :
    Calls Tryz.prog 142 #[.slice A ds.length c1, .int .i64 n] w fun e w' => e = .returned (.slice none 0 0) ∧ w = w' := by
  have ht := trim_nr h
  clear h
  rw [h0, digs_zero] at ht
  go_enter Tryz.func142, Tryz.ntmps142
  go_wp2_with fail
  refine ht.mono ?_
  rintro e w' ⟨rfl, rfl⟩
  go_wp2_with fail
  go_ret
  exact ⟨rfl, rfl⟩
end Go.Proofs.YtehhkeenjlpikaaGreat
