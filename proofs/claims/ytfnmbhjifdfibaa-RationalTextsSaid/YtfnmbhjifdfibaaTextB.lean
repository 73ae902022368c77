/- The contract of rational.Parse. -/
import Derived.Test.YtfnmbhjifdfibaaTextA
import Derived.Test.YtfnmbhjifdfibaaDecG
import Derived.Deep.RegionHeldLaw
import Derived.Deep.LoopGhost
import Derived.Deep.QuietTactic
import Derived.BigQuiet
namespace Go.Proofs.Ytfnmbhjifdfibaa
open Go.RowKit
/-- The call returns no fraction and ErrSyntax. -/
def RetNoQ (w : World) (e : Ending) (w' : World) : Prop := e = .returned (.tuple #[.agg #[.bool false, .slice none 0 0, .slice none 0 0], .int .i64 6]) ∧ Ext w w'
theorem toZt {P : Program} {f : Nat} {args : Array Value} {w : World} {x y : Int} (e : x = y) (h : Calls P f args w (RetZ w x)) : Calls P f args w (RetZ w y) := by rw [← e]; exact h
set_option maxHeartbeats 4000000 in
set_option maxRecDepth 100000 in
theorem rparse_A {w : World} {s t b : ByteArray} {f : Bool} (hcut : ∀ w', Ext w w' → Calls Try.prog 90 #[.string s, .string ⟨#[47]⟩] w' fun e w'' => e = .returned (.tuple #[.string t, .string b, .bool f]) ∧ Ext w' w'') (ht : t.size ≤ 1000000) (hn : ∀ x, bs t ≠ fmtL 10 x) :
    Calls Try.prog 54 #[.string s] w (RetNoQ w) := by
  have HP : Hid (∀ w', Calls Try.prog 91 #[.string t] w' (RetErr w' 6)) := fun w' => Parse_no ht hn
  have HC := Lib.hid hcut
  clear hcut ht hn
  go_enter Try.func54, Try.ntmps54
  go_wp2_with fail
  obtain ⟨w0, hw0⟩ : ∃ z : World, z = (w.alloc (.cells #[.bool false, .slice none 0 0, .slice none 0 0] 27)) := ⟨_, rfl⟩
  rw [← hw0]
  have bxr : BK w0 (w.heap.size) 27 #[.bool false, .slice none 0 0, .slice none 0 0] := by rw [hw0]; have h5 := (BK.new w #[.bool false, .slice none 0 0, .slice none 0 0] 27); simpa only [World.size_alloc] using h5
  have hszw0 : w0.heap.size = w.heap.size + 1 := by rw [hw0]; simp only [World.size_alloc]
  have xw0 : Ext w w0 := by rw [hw0]; exact (Ext.alloc _ _)
  clear hw0
  refine (HC.out _ (by repeat' (first | with_reducible exact Ext.refl _ | with_reducible assumption | with_reducible apply Ext.alloc_r | with_reducible apply Ext.drew_r | with_reducible apply Ext.drewN_r | with_reducible refine Ext.trans ?_ ‹Ext _ _›))).mono ?_
  rintro e w1 ⟨rfl, x1⟩
  have szw1 : w0.heap.size ≤ w1.heap.size := x1.size
  replace bxr := bxr.ext x1
  clear HC
  have kr_0 := bxr.c 0 (.bool false) rfl
  have kr_1 := bxr.c 1 (.slice none 0 0) rfl
  have kr_2 := bxr.c 2 (.slice none 0 0) rfl
  go_wp2_with fail
  clear kr_0 kr_1 kr_2
  refine (HP.out _).mono ?_
  rintro e w2 ⟨rfl, x2⟩
  have szw2 : w1.heap.size ≤ w2.heap.size := x2.size
  replace bxr := bxr.ext x2
  clear HP
  have kr_0 := bxr.c 0 (.bool false) rfl
  have fr_0 := bxr.f 0
  have kr_1 := bxr.c 1 (.slice none 0 0) rfl
  have fr_1 := bxr.f 1
  have kr_2 := bxr.c 2 (.slice none 0 0) rfl
  have fr_2 := bxr.f 2
  have t1r_0 := fun (o0 : Obj) => ((Ext.alloc w2 o0).cell (bxr.c 0 (.bool false) rfl))
  have z1r_0 := fun (o0 : Obj) => (Ext.frozen (Ext.alloc w2 o0) (bxr.c 0 (.bool false) rfl) (bxr.f 0))
  have t1r_1 := fun (o0 : Obj) => ((Ext.alloc w2 o0).cell (bxr.c 1 (.slice none 0 0) rfl))
  have z1r_1 := fun (o0 : Obj) => (Ext.frozen (Ext.alloc w2 o0) (bxr.c 1 (.slice none 0 0) rfl) (bxr.f 1))
  have t1r_2 := fun (o0 : Obj) => ((Ext.alloc w2 o0).cell (bxr.c 2 (.slice none 0 0) rfl))
  have z1r_2 := fun (o0 : Obj) => (Ext.frozen (Ext.alloc w2 o0) (bxr.c 2 (.slice none 0 0) rfl) (bxr.f 2))
  go_wp2_with fail
  clear kr_0 fr_0 kr_1 fr_1 kr_2 fr_2 t1r_0 z1r_0 t1r_1 z1r_1 t1r_2 z1r_2
  obtain ⟨w3, hw⟩ : ∃ z : World, z = (w2.alloc (.cells #[.bool false, .slice none 0 0] 25)) := ⟨_, rfl⟩
  rw [← hw]
  have x3 : Ext w2 w3 := by rw [hw]; exact (Ext.alloc _ _)
  replace bxr := bxr.ext x3
  have bxnu : BK w3 (w2.heap.size) 25 #[.bool false, .slice none 0 0] := by rw [hw]; have h5 := (BK.new w2 #[.bool false, .slice none 0 0] 25); simpa only [World.size_alloc] using h5
  have szw3 : w3.heap.size = w2.heap.size + 1 := by rw [hw]; simp only [World.size_alloc]
  clear hw
  obtain ⟨w4, hw⟩ : ∃ z : World, z = (((w3.setCell ⟨w.heap.size, 0, none⟩ (.bool false)).setCell ⟨w.heap.size, 1, none⟩ (.slice none 0 0)).setCell ⟨w.heap.size, 2, none⟩ (.slice none 0 0)) := ⟨_, rfl⟩
  rw [← hw]
  have kw4 : Kept w3 w4 := by rw [hw]; exact (Kept.set_ (Kept.set_ (Kept.set_ (Kept.refl _) bxr.isBox plain_rat) (IsBox.set_ bxr.isBox) plain_rat) (IsBox.set_ (IsBox.set_ bxr.isBox)) plain_rat)
  have nbr : BK w4 (w.heap.size) 27 #[.bool false, .slice none 0 0, .slice none 0 0] := by rw [hw]; exact (BK.set (i := 2) (u := .slice none 0 0) (vs' := #[.bool false, .slice none 0 0, .slice none 0 0]) (BK.set (i := 1) (u := .slice none 0 0) (vs' := #[.bool false, .slice none 0 0, .slice none 0 0]) (BK.set (i := 0) (u := .bool false) (vs' := #[.bool false, .slice none 0 0, .slice none 0 0]) bxr rfl) rfl) rfl)
  have nbnu : BK w4 (w2.heap.size) 25 #[.bool false, .slice none 0 0] := by rw [hw]; exact (BK.far (BK.far (BK.far bxnu (show w2.heap.size ≠ w.heap.size by omega) 0 _) (show w2.heap.size ≠ w.heap.size by omega) 1 _) (show w2.heap.size ≠ w.heap.size by omega) 2 _)
  have x4 : Ext w w4 := by rw [hw]; have hxp : Ext w w3 := (by repeat' (first | with_reducible exact Ext.refl _ | with_reducible assumption | with_reducible apply Ext.alloc_r | with_reducible apply Ext.drew_r | with_reducible apply Ext.drewN_r | with_reducible refine Ext.trans ?_ ‹Ext _ _›)); exact (Ext.set_ (Ext.set_ (Ext.set_ hxp (show _ ≤ w.heap.size by omega)) (show _ ≤ w.heap.size by omega)) (show _ ≤ w.heap.size by omega))
  clear bxr
  clear bxnu
  have bxr := nbr
  clear nbr
  have bxnu := nbnu
  clear nbnu
  have szw4 : w4.heap.size = w3.heap.size := by rw [hw]; simp
  clear hw kw4
  have kr_0 := bxr.c 0 (.bool false) rfl
  have kr_1 := bxr.c 1 (.slice none 0 0) rfl
  have kr_2 := bxr.c 2 (.slice none 0 0) rfl
  refine bodyPost_ret (v := .tuple #[.agg #[.bool false, .slice none 0 0, .slice none 0 0], .int .i64 6]) (by simp [results, Try.results54, go_sem, kr_0, kr_1, kr_2]) rfl ?_
  exact ⟨rfl, x4⟩
set_option maxHeartbeats 4000000 in
set_option maxRecDepth 100000 in
theorem rparse_B {w : World} {s t b : ByteArray} (hcut : ∀ w', Ext w w' → Calls Try.prog 90 #[.string s, .string ⟨#[47]⟩] w' fun e w'' => e = .returned (.tuple #[.string t, .string b, .bool false]) ∧ Ext w' w'') (ht : t.size ≤ 1000000) {x : Int} (hx : bs t = fmtL 10 x) {N : Nat} (b1 : dl x.natAbs ≤ N) (hN : 1 ≤ N) (hN2 : N ≤ 1000000) :
    Calls Try.prog 54 #[.string s] w (RetRE w N (x : Rat)) := by
  have HP : Hid (∀ w', Calls Try.prog 91 #[.string t] w' (RetZE w' x)) := fun w' => Parse_yes ht hx
  have HC := Lib.hid hcut
  clear hcut ht hx
  go_enter Try.func54, Try.ntmps54
  go_wp2_with fail
  obtain ⟨w0, hw0⟩ : ∃ z : World, z = (w.alloc (.cells #[.bool false, .slice none 0 0, .slice none 0 0] 27)) := ⟨_, rfl⟩
  rw [← hw0]
  have bxr : BK w0 (w.heap.size) 27 #[.bool false, .slice none 0 0, .slice none 0 0] := by rw [hw0]; have h5 := (BK.new w #[.bool false, .slice none 0 0, .slice none 0 0] 27); simpa only [World.size_alloc] using h5
  have hszw0 : w0.heap.size = w.heap.size + 1 := by rw [hw0]; simp only [World.size_alloc]
  have xw0 : Ext w w0 := by rw [hw0]; exact (Ext.alloc _ _)
  clear hw0
  refine (HC.out _ (by repeat' (first | with_reducible exact Ext.refl _ | with_reducible assumption | with_reducible apply Ext.alloc_r | with_reducible apply Ext.drew_r | with_reducible apply Ext.drewN_r | with_reducible refine Ext.trans ?_ ‹Ext _ _›))).mono ?_
  rintro e w1 ⟨rfl, x1⟩
  have szw1 : w0.heap.size ≤ w1.heap.size := x1.size
  replace bxr := bxr.ext x1
  clear HC
  have kr_0 := bxr.c 0 (.bool false) rfl
  have kr_1 := bxr.c 1 (.slice none 0 0) rfl
  have kr_2 := bxr.c 2 (.slice none 0 0) rfl
  go_wp2_with fail
  clear kr_0 kr_1 kr_2
  refine (HP.out _).mono ?_
  rintro e w2 ⟨si, Ai, ci, Li, rfl, i, x2⟩
  have szw2 : w1.heap.size ≤ w2.heap.size := x2.size
  replace bxr := bxr.ext x2
  clear HP
  have HI := Lib.hid (i.mono (show w.heap.size ≤ _ by omega))
  clear i
  have kr_0 := bxr.c 0 (.bool false) rfl
  have kr_1 := bxr.c 1 (.slice none 0 0) rfl
  have kr_2 := bxr.c 2 (.slice none 0 0) rfl
  have t1r_0 := fun (o0 : Obj) => ((Ext.alloc w2 o0).cell (bxr.c 0 (.bool false) rfl))
  have t1r_1 := fun (o0 : Obj) => ((Ext.alloc w2 o0).cell (bxr.c 1 (.slice none 0 0) rfl))
  have t1r_2 := fun (o0 : Obj) => ((Ext.alloc w2 o0).cell (bxr.c 2 (.slice none 0 0) rfl))
  go_wp2_with fail
  clear kr_0 kr_1 kr_2 t1r_0 t1r_1 t1r_2
  obtain ⟨w3, hw⟩ : ∃ z : World, z = (w2.alloc (.cells #[.bool si, .slice Ai Li ci] 25)) := ⟨_, rfl⟩
  rw [← hw]
  have x3 : Ext w2 w3 := by rw [hw]; exact (Ext.alloc _ _)
  replace bxr := bxr.ext x3
  have bxnu : BK w3 (w2.heap.size) 25 #[.bool si, .slice Ai Li ci] := by rw [hw]; have h5 := (BK.new w2 #[.bool si, .slice Ai Li ci] 25); simpa only [World.size_alloc] using h5
  have szw3 : w3.heap.size = w2.heap.size + 1 := by rw [hw]; simp only [World.size_alloc]
  clear hw
  refine (rfrom_r (HI.out.zv.ext (by repeat' (first | with_reducible exact Ext.refl _ | with_reducible assumption | with_reducible apply Ext.alloc_r | with_reducible apply Ext.drew_r | with_reducible apply Ext.drewN_r | with_reducible refine Ext.trans ?_ ‹Ext _ _›))) b1 hN hN2).mono ?_
  rintro e w4 ⟨sz, Az, cz, Lz, Bz, dz, Mz, rfl, z, x4⟩
  have szw4 : w3.heap.size ≤ w4.heap.size := x4.size
  replace bxr := bxr.ext x4
  replace bxnu := bxnu.ext x4
  have HZ := Lib.hid (z.mono (show w.heap.size ≤ _ by omega))
  clear z HI
  have kr_0 := bxr.c 0 (.bool false) rfl
  have fr_0 := bxr.f 0
  have kr_1 := bxr.c 1 (.slice none 0 0) rfl
  have fr_1 := bxr.f 1
  have kr_2 := bxr.c 2 (.slice none 0 0) rfl
  have fr_2 := bxr.f 2
  have knu_0 := bxnu.c 0 (.bool si) rfl
  have knu_1 := bxnu.c 1 (.slice Ai Li ci) rfl
  go_wp2_with fail
  clear kr_0 fr_0 kr_1 fr_1 kr_2 fr_2 knu_0 knu_1
  have z := HZ.out
  clear HZ
  obtain ⟨w5, hw⟩ : ∃ z : World, z = (((w4.setCell ⟨w.heap.size, 0, none⟩ (.bool sz)).setCell ⟨w.heap.size, 1, none⟩ (.slice Az Lz cz)).setCell ⟨w.heap.size, 2, none⟩ (.slice Bz Mz dz)) := ⟨_, rfl⟩
  rw [← hw]
  have kw5 : Kept w4 w5 := by rw [hw]; exact (Kept.set_ (Kept.set_ (Kept.set_ (Kept.refl _) bxr.isBox plain_rat) (IsBox.set_ bxr.isBox) plain_rat) (IsBox.set_ (IsBox.set_ bxr.isBox)) plain_rat)
  have nbr : BK w5 (w.heap.size) 27 #[.bool sz, .slice Az Lz cz, .slice Bz Mz dz] := by rw [hw]; exact (BK.set (i := 2) (u := .slice Bz Mz dz) (vs' := #[.bool sz, .slice Az Lz cz, .slice Bz Mz dz]) (BK.set (i := 1) (u := .slice Az Lz cz) (vs' := #[.bool sz, .slice Az Lz cz, .slice none 0 0]) (BK.set (i := 0) (u := .bool sz) (vs' := #[.bool sz, .slice none 0 0, .slice none 0 0]) bxr rfl) rfl) rfl)
  have nbnu : BK w5 (w2.heap.size) 25 #[.bool si, .slice Ai Li ci] := by rw [hw]; exact (BK.far (BK.far (BK.far bxnu (show w2.heap.size ≠ w.heap.size by omega) 0 _) (show w2.heap.size ≠ w.heap.size by omega) 1 _) (show w2.heap.size ≠ w.heap.size by omega) 2 _)
  have x5 : Ext w w5 := by rw [hw]; have hxp : Ext w w4 := (by repeat' (first | with_reducible exact Ext.refl _ | with_reducible assumption | with_reducible apply Ext.alloc_r | with_reducible apply Ext.drew_r | with_reducible apply Ext.drewN_r | with_reducible refine Ext.trans ?_ ‹Ext _ _›)); exact (Ext.set_ (Ext.set_ (Ext.set_ hxp (show _ ≤ w.heap.size by omega)) (show _ ≤ w.heap.size by omega)) (show _ ≤ w.heap.size by omega))
  clear bxr
  clear bxnu
  have bxr := nbr
  clear nbr
  have bxnu := nbnu
  clear nbnu
  have szw5 : w5.heap.size = w4.heap.size := by rw [hw]; simp
  replace z := (z.ext (by repeat' (first | with_reducible exact Ext.refl _ | with_reducible assumption | with_reducible apply Ext.alloc_r | with_reducible apply Ext.drew_r | with_reducible apply Ext.drewN_r | with_reducible refine Ext.trans ?_ ‹Ext _ _›))).kept kw5
  clear hw kw5
  have HZ := Lib.hid z
  clear z
  have kr_0 := bxr.c 0 (.bool sz) rfl
  have kr_1 := bxr.c 1 (.slice Az Lz cz) rfl
  have kr_2 := bxr.c 2 (.slice Bz Mz dz) rfl
  refine bodyPost_ret (v := .tuple #[.agg #[Value.bool sz, Value.slice Az Lz cz, Value.slice Bz Mz dz], .int .i64 0]) (by simp [results, Try.results54, go_sem, kr_0, kr_1, kr_2]) rfl ?_
  exact ⟨_, _, _, _, _, _, _, rfl, HZ.out, x5⟩
set_option maxHeartbeats 4000000 in
set_option maxRecDepth 100000 in
theorem rparse_C {w : World} {s t b : ByteArray} (hcut : ∀ w', Ext w w' → Calls Try.prog 90 #[.string s, .string ⟨#[47]⟩] w' fun e w'' => e = .returned (.tuple #[.string t, .string b, .bool true]) ∧ Ext w' w'') (ht : t.size ≤ 1000000) {x : Int} (hx : bs t = fmtL 10 x) (hb : b.size ≤ 1000000) (hn : ∀ y, bs b ≠ fmtL 10 y) :
    Calls Try.prog 54 #[.string s] w (RetNoQ w) := by
  have HP : Hid (∀ w', Calls Try.prog 91 #[.string t] w' (RetZE w' x)) := fun w' => Parse_yes ht hx
  have HB : Hid (∀ w', Calls Try.prog 91 #[.string b] w' (RetErr w' 6)) := fun w' => Parse_no hb hn
  have HC := Lib.hid hcut
  clear hcut ht hx hb hn
  go_enter Try.func54, Try.ntmps54
  go_wp2_with fail
  obtain ⟨w0, hw0⟩ : ∃ z : World, z = (w.alloc (.cells #[.bool false, .slice none 0 0, .slice none 0 0] 27)) := ⟨_, rfl⟩
  rw [← hw0]
  have bxr : BK w0 (w.heap.size) 27 #[.bool false, .slice none 0 0, .slice none 0 0] := by rw [hw0]; have h5 := (BK.new w #[.bool false, .slice none 0 0, .slice none 0 0] 27); simpa only [World.size_alloc] using h5
  have hszw0 : w0.heap.size = w.heap.size + 1 := by rw [hw0]; simp only [World.size_alloc]
  have xw0 : Ext w w0 := by rw [hw0]; exact (Ext.alloc _ _)
  clear hw0
  refine (HC.out _ (by repeat' (first | with_reducible exact Ext.refl _ | with_reducible assumption | with_reducible apply Ext.alloc_r | with_reducible apply Ext.drew_r | with_reducible apply Ext.drewN_r | with_reducible refine Ext.trans ?_ ‹Ext _ _›))).mono ?_
  rintro e w1 ⟨rfl, x1⟩
  have szw1 : w0.heap.size ≤ w1.heap.size := x1.size
  replace bxr := bxr.ext x1
  clear HC
  have kr_0 := bxr.c 0 (.bool false) rfl
  have kr_1 := bxr.c 1 (.slice none 0 0) rfl
  have kr_2 := bxr.c 2 (.slice none 0 0) rfl
  go_wp2_with fail
  clear kr_0 kr_1 kr_2
  refine (HP.out _).mono ?_
  rintro e w2 ⟨si, Ai, ci, Li, rfl, i, x2⟩
  have szw2 : w1.heap.size ≤ w2.heap.size := x2.size
  replace bxr := bxr.ext x2
  clear HP
  have HI := Lib.hid (i.mono (show w.heap.size ≤ _ by omega))
  clear i
  have kr_0 := bxr.c 0 (.bool false) rfl
  have kr_1 := bxr.c 1 (.slice none 0 0) rfl
  have kr_2 := bxr.c 2 (.slice none 0 0) rfl
  have t1r_0 := fun (o0 : Obj) => ((Ext.alloc w2 o0).cell (bxr.c 0 (.bool false) rfl))
  have t1r_1 := fun (o0 : Obj) => ((Ext.alloc w2 o0).cell (bxr.c 1 (.slice none 0 0) rfl))
  have t1r_2 := fun (o0 : Obj) => ((Ext.alloc w2 o0).cell (bxr.c 2 (.slice none 0 0) rfl))
  go_wp2_with fail
  clear kr_0 kr_1 kr_2 t1r_0 t1r_1 t1r_2
  obtain ⟨w3, hw⟩ : ∃ z : World, z = (w2.alloc (.cells #[.bool si, .slice Ai Li ci] 25)) := ⟨_, rfl⟩
  rw [← hw]
  have x3 : Ext w2 w3 := by rw [hw]; exact (Ext.alloc _ _)
  replace bxr := bxr.ext x3
  have bxnu : BK w3 (w2.heap.size) 25 #[.bool si, .slice Ai Li ci] := by rw [hw]; have h5 := (BK.new w2 #[.bool si, .slice Ai Li ci] 25); simpa only [World.size_alloc] using h5
  have szw3 : w3.heap.size = w2.heap.size + 1 := by rw [hw]; simp only [World.size_alloc]
  clear hw
  refine (HB.out _).mono ?_
  rintro e w4 ⟨rfl, x4⟩
  have szw4 : w3.heap.size ≤ w4.heap.size := x4.size
  replace bxr := bxr.ext x4
  replace bxnu := bxnu.ext x4
  clear HB
  have kr_0 := bxr.c 0 (.bool false) rfl
  have kr_1 := bxr.c 1 (.slice none 0 0) rfl
  have kr_2 := bxr.c 2 (.slice none 0 0) rfl
  have knu_0 := bxnu.c 0 (.bool si) rfl
  have knu_1 := bxnu.c 1 (.slice Ai Li ci) rfl
  have t1r_0 := fun (o0 : Obj) => ((Ext.alloc w4 o0).cell (bxr.c 0 (.bool false) rfl))
  have t1r_1 := fun (o0 : Obj) => ((Ext.alloc w4 o0).cell (bxr.c 1 (.slice none 0 0) rfl))
  have t1r_2 := fun (o0 : Obj) => ((Ext.alloc w4 o0).cell (bxr.c 2 (.slice none 0 0) rfl))
  have t1nu_0 := fun (o0 : Obj) => ((Ext.alloc w4 o0).cell (bxnu.c 0 (.bool si) rfl))
  have t1nu_1 := fun (o0 : Obj) => ((Ext.alloc w4 o0).cell (bxnu.c 1 (.slice Ai Li ci) rfl))
  go_wp2_with fail
  clear kr_0 kr_1 kr_2 knu_0 knu_1 t1r_0 t1r_1 t1r_2 t1nu_0 t1nu_1
  obtain ⟨w5, hw⟩ : ∃ z : World, z = (w4.alloc (.cells #[.bool false, .slice none 0 0] 25)) := ⟨_, rfl⟩
  rw [← hw]
  have x5 : Ext w4 w5 := by rw [hw]; exact (Ext.alloc _ _)
  replace bxr := bxr.ext x5
  replace bxnu := bxnu.ext x5
  have bxde : BK w5 (w4.heap.size) 25 #[.bool false, .slice none 0 0] := by rw [hw]; have h5 := (BK.new w4 #[.bool false, .slice none 0 0] 25); simpa only [World.size_alloc] using h5
  have szw5 : w5.heap.size = w4.heap.size + 1 := by rw [hw]; simp only [World.size_alloc]
  clear hw
  refine (of_z (n := 1) (by omega)).mono ?_
  rintro e w6 ⟨sk, Ak, ck, Lk, rfl, k, x6⟩
  have szw6 : w5.heap.size ≤ w6.heap.size := x6.size
  replace bxr := bxr.ext x6
  replace bxnu := bxnu.ext x6
  replace bxde := bxde.ext x6
  have HO := Lib.hid k
  clear k
  have kr_0 := bxr.c 0 (.bool false) rfl
  have kr_1 := bxr.c 1 (.slice none 0 0) rfl
  have kr_2 := bxr.c 2 (.slice none 0 0) rfl
  have knu_0 := bxnu.c 0 (.bool si) rfl
  have knu_1 := bxnu.c 1 (.slice Ai Li ci) rfl
  have kde_0 := bxde.c 0 (.bool false) rfl
  have kde_1 := bxde.c 1 (.slice none 0 0) rfl
  have t1r_0 := fun (o0 : Obj) => ((Ext.alloc w6 o0).cell (bxr.c 0 (.bool false) rfl))
  have t1r_1 := fun (o0 : Obj) => ((Ext.alloc w6 o0).cell (bxr.c 1 (.slice none 0 0) rfl))
  have t1r_2 := fun (o0 : Obj) => ((Ext.alloc w6 o0).cell (bxr.c 2 (.slice none 0 0) rfl))
  have t1nu_0 := fun (o0 : Obj) => ((Ext.alloc w6 o0).cell (bxnu.c 0 (.bool si) rfl))
  have t1nu_1 := fun (o0 : Obj) => ((Ext.alloc w6 o0).cell (bxnu.c 1 (.slice Ai Li ci) rfl))
  have t1de_0 := fun (o0 : Obj) => ((Ext.alloc w6 o0).cell (bxde.c 0 (.bool false) rfl))
  have t1de_1 := fun (o0 : Obj) => ((Ext.alloc w6 o0).cell (bxde.c 1 (.slice none 0 0) rfl))
  go_wp2_with fail
  clear kr_0 kr_1 kr_2 knu_0 knu_1 kde_0 kde_1 t1r_0 t1r_1 t1r_2 t1nu_0 t1nu_1 t1de_0 t1de_1
  obtain ⟨w7, hw⟩ : ∃ z : World, z = (w6.alloc (.cells #[.bool sk, .slice Ak Lk ck] 25)) := ⟨_, rfl⟩
  rw [← hw]
  have x7 : Ext w6 w7 := by rw [hw]; exact (Ext.alloc _ _)
  replace bxr := bxr.ext x7
  replace bxnu := bxnu.ext x7
  replace bxde := bxde.ext x7
  have bxon : BK w7 (w6.heap.size) 25 #[.bool sk, .slice Ak Lk ck] := by rw [hw]; have h5 := (BK.new w6 #[.bool sk, .slice Ak Lk ck] 25); simpa only [World.size_alloc] using h5
  have szw7 : w7.heap.size = w6.heap.size + 1 := by rw [hw]; simp only [World.size_alloc]
  clear hw
  go_quiet (fail)
  rename_i nq
  obtain ⟨wq, hw⟩ : ∃ z : World, z = World.drewN w7 nq := ⟨_, rfl⟩
  rw [← hw]
  have xq : Ext w7 wq := by rw [hw]; exact Qt.ext ⟨_, rfl⟩
  have szq : w7.heap.size ≤ wq.heap.size := xq.size
  clear hw
  replace bxr := bxr.ext xq
  replace bxnu := bxnu.ext xq
  replace bxde := bxde.ext xq
  replace bxon := bxon.ext xq
  have kr_0 := bxr.c 0 (.bool false) rfl
  have fr_0 := bxr.f 0
  have kr_1 := bxr.c 1 (.slice none 0 0) rfl
  have fr_1 := bxr.f 1
  have kr_2 := bxr.c 2 (.slice none 0 0) rfl
  have fr_2 := bxr.f 2
  have knu_0 := bxnu.c 0 (.bool si) rfl
  have knu_1 := bxnu.c 1 (.slice Ai Li ci) rfl
  have kde_0 := bxde.c 0 (.bool false) rfl
  have kde_1 := bxde.c 1 (.slice none 0 0) rfl
  have kon_0 := bxon.c 0 (.bool sk) rfl
  have kon_1 := bxon.c 1 (.slice Ak Lk ck) rfl
  go_wp2_with fail
  clear kr_0 fr_0 kr_1 fr_1 kr_2 fr_2 knu_0 knu_1 kde_0 kde_1 kon_0 kon_1
  obtain ⟨w8, hw⟩ : ∃ z : World, z = (((wq.setCell ⟨w.heap.size, 0, none⟩ (.bool false)).setCell ⟨w.heap.size, 1, none⟩ (.slice none 0 0)).setCell ⟨w.heap.size, 2, none⟩ (.slice none 0 0)) := ⟨_, rfl⟩
  rw [← hw]
  have kw8 : Kept wq w8 := by rw [hw]; exact (Kept.set_ (Kept.set_ (Kept.set_ (Kept.refl _) bxr.isBox plain_rat) (IsBox.set_ bxr.isBox) plain_rat) (IsBox.set_ (IsBox.set_ bxr.isBox)) plain_rat)
  have nbr : BK w8 (w.heap.size) 27 #[.bool false, .slice none 0 0, .slice none 0 0] := by rw [hw]; exact (BK.set (i := 2) (u := .slice none 0 0) (vs' := #[.bool false, .slice none 0 0, .slice none 0 0]) (BK.set (i := 1) (u := .slice none 0 0) (vs' := #[.bool false, .slice none 0 0, .slice none 0 0]) (BK.set (i := 0) (u := .bool false) (vs' := #[.bool false, .slice none 0 0, .slice none 0 0]) bxr rfl) rfl) rfl)
  have nbnu : BK w8 (w2.heap.size) 25 #[.bool si, .slice Ai Li ci] := by rw [hw]; exact (BK.far (BK.far (BK.far bxnu (show w2.heap.size ≠ w.heap.size by omega) 0 _) (show w2.heap.size ≠ w.heap.size by omega) 1 _) (show w2.heap.size ≠ w.heap.size by omega) 2 _)
  have nbde : BK w8 (w4.heap.size) 25 #[.bool false, .slice none 0 0] := by rw [hw]; exact (BK.far (BK.far (BK.far bxde (show w4.heap.size ≠ w.heap.size by omega) 0 _) (show w4.heap.size ≠ w.heap.size by omega) 1 _) (show w4.heap.size ≠ w.heap.size by omega) 2 _)
  have nbon : BK w8 (w6.heap.size) 25 #[.bool sk, .slice Ak Lk ck] := by rw [hw]; exact (BK.far (BK.far (BK.far bxon (show w6.heap.size ≠ w.heap.size by omega) 0 _) (show w6.heap.size ≠ w.heap.size by omega) 1 _) (show w6.heap.size ≠ w.heap.size by omega) 2 _)
  have x8 : Ext w w8 := by rw [hw]; have hxp : Ext w wq := (by repeat' (first | with_reducible exact Ext.refl _ | with_reducible assumption | with_reducible apply Ext.alloc_r | with_reducible apply Ext.drew_r | with_reducible apply Ext.drewN_r | with_reducible refine Ext.trans ?_ ‹Ext _ _›)); exact (Ext.set_ (Ext.set_ (Ext.set_ hxp (show _ ≤ w.heap.size by omega)) (show _ ≤ w.heap.size by omega)) (show _ ≤ w.heap.size by omega))
  clear bxr
  clear bxnu
  clear bxde
  clear bxon
  have bxr := nbr
  clear nbr
  have bxnu := nbnu
  clear nbnu
  have bxde := nbde
  clear nbde
  have bxon := nbon
  clear nbon
  have szw8 : w8.heap.size = wq.heap.size := by rw [hw]; simp
  clear hw kw8
  have kr_0 := bxr.c 0 (.bool false) rfl
  have kr_1 := bxr.c 1 (.slice none 0 0) rfl
  have kr_2 := bxr.c 2 (.slice none 0 0) rfl
  refine bodyPost_ret (v := .tuple #[.agg #[.bool false, .slice none 0 0, .slice none 0 0], .int .i64 6]) (by simp [results, Try.results54, go_sem, kr_0, kr_1, kr_2]) rfl ?_
  exact ⟨rfl, x8⟩
set_option maxHeartbeats 4000000 in
set_option maxRecDepth 100000 in
theorem rparse_D {w : World} {s t b : ByteArray} (hcut : ∀ w', Ext w w' → Calls Try.prog 90 #[.string s, .string ⟨#[47]⟩] w' fun e w'' => e = .returned (.tuple #[.string t, .string b, .bool true]) ∧ Ext w' w'') (ht : t.size ≤ 1000000) {x : Int} (hx : bs t = fmtL 10 x) (hb : b.size ≤ 1000000) {y : Int} (hy : bs b = fmtL 10 y) (hle : y ≤ 1) :
    Calls Try.prog 54 #[.string s] w (RetNoQ w) := by
  have HP : Hid (∀ w', Calls Try.prog 91 #[.string t] w' (RetZE w' x)) := fun w' => Parse_yes ht hx
  have HB : Hid (∀ w', Calls Try.prog 91 #[.string b] w' (RetZE w' y)) := fun w' => Parse_yes hb hy
  have HC := Lib.hid hcut
  obtain ⟨K, hK⟩ : ∃ K : Int, K = cmpZ y 1 := ⟨_, rfl⟩
  have hk : K ≤ 0 := by rw [hK]; unfold cmpZ; split <;> (try split) <;> omega
  have HKK := Lib.hid hK.symm
  clear hK
  clear hcut ht hx hb hy hle
  go_enter Try.func54, Try.ntmps54
  go_wp2_with fail
  obtain ⟨w0, hw0⟩ : ∃ z : World, z = (w.alloc (.cells #[.bool false, .slice none 0 0, .slice none 0 0] 27)) := ⟨_, rfl⟩
  rw [← hw0]
  have bxr : BK w0 (w.heap.size) 27 #[.bool false, .slice none 0 0, .slice none 0 0] := by rw [hw0]; have h5 := (BK.new w #[.bool false, .slice none 0 0, .slice none 0 0] 27); simpa only [World.size_alloc] using h5
  have hszw0 : w0.heap.size = w.heap.size + 1 := by rw [hw0]; simp only [World.size_alloc]
  have xw0 : Ext w w0 := by rw [hw0]; exact (Ext.alloc _ _)
  clear hw0
  refine (HC.out _ (by repeat' (first | with_reducible exact Ext.refl _ | with_reducible assumption | with_reducible apply Ext.alloc_r | with_reducible apply Ext.drew_r | with_reducible apply Ext.drewN_r | with_reducible refine Ext.trans ?_ ‹Ext _ _›))).mono ?_
  rintro e w1 ⟨rfl, x1⟩
  have szw1 : w0.heap.size ≤ w1.heap.size := x1.size
  replace bxr := bxr.ext x1
  clear HC
  have kr_0 := bxr.c 0 (.bool false) rfl
  have kr_1 := bxr.c 1 (.slice none 0 0) rfl
  have kr_2 := bxr.c 2 (.slice none 0 0) rfl
  go_wp2_with fail
  clear kr_0 kr_1 kr_2
  refine (HP.out _).mono ?_
  rintro e w2 ⟨si, Ai, ci, Li, rfl, i, x2⟩
  have szw2 : w1.heap.size ≤ w2.heap.size := x2.size
  replace bxr := bxr.ext x2
  clear HP
  have HI := Lib.hid (i.mono (show w.heap.size ≤ _ by omega))
  clear i
  have kr_0 := bxr.c 0 (.bool false) rfl
  have kr_1 := bxr.c 1 (.slice none 0 0) rfl
  have kr_2 := bxr.c 2 (.slice none 0 0) rfl
  have t1r_0 := fun (o0 : Obj) => ((Ext.alloc w2 o0).cell (bxr.c 0 (.bool false) rfl))
  have t1r_1 := fun (o0 : Obj) => ((Ext.alloc w2 o0).cell (bxr.c 1 (.slice none 0 0) rfl))
  have t1r_2 := fun (o0 : Obj) => ((Ext.alloc w2 o0).cell (bxr.c 2 (.slice none 0 0) rfl))
  go_wp2_with fail
  clear kr_0 kr_1 kr_2 t1r_0 t1r_1 t1r_2
  obtain ⟨w3, hw⟩ : ∃ z : World, z = (w2.alloc (.cells #[.bool si, .slice Ai Li ci] 25)) := ⟨_, rfl⟩
  rw [← hw]
  have x3 : Ext w2 w3 := by rw [hw]; exact (Ext.alloc _ _)
  replace bxr := bxr.ext x3
  have bxnu : BK w3 (w2.heap.size) 25 #[.bool si, .slice Ai Li ci] := by rw [hw]; have h5 := (BK.new w2 #[.bool si, .slice Ai Li ci] 25); simpa only [World.size_alloc] using h5
  have szw3 : w3.heap.size = w2.heap.size + 1 := by rw [hw]; simp only [World.size_alloc]
  clear hw
  refine (HB.out _).mono ?_
  rintro e w4 ⟨sj, Aj, cj, Lj, rfl, j, x4⟩
  have szw4 : w3.heap.size ≤ w4.heap.size := x4.size
  replace bxr := bxr.ext x4
  replace bxnu := bxnu.ext x4
  clear HB
  have HJ := Lib.hid (j.mono (show w.heap.size ≤ _ by omega))
  clear j
  have kr_0 := bxr.c 0 (.bool false) rfl
  have kr_1 := bxr.c 1 (.slice none 0 0) rfl
  have kr_2 := bxr.c 2 (.slice none 0 0) rfl
  have knu_0 := bxnu.c 0 (.bool si) rfl
  have knu_1 := bxnu.c 1 (.slice Ai Li ci) rfl
  have t1r_0 := fun (o0 : Obj) => ((Ext.alloc w4 o0).cell (bxr.c 0 (.bool false) rfl))
  have t1r_1 := fun (o0 : Obj) => ((Ext.alloc w4 o0).cell (bxr.c 1 (.slice none 0 0) rfl))
  have t1r_2 := fun (o0 : Obj) => ((Ext.alloc w4 o0).cell (bxr.c 2 (.slice none 0 0) rfl))
  have t1nu_0 := fun (o0 : Obj) => ((Ext.alloc w4 o0).cell (bxnu.c 0 (.bool si) rfl))
  have t1nu_1 := fun (o0 : Obj) => ((Ext.alloc w4 o0).cell (bxnu.c 1 (.slice Ai Li ci) rfl))
  go_wp2_with fail
  clear kr_0 kr_1 kr_2 knu_0 knu_1 t1r_0 t1r_1 t1r_2 t1nu_0 t1nu_1
  obtain ⟨w5, hw⟩ : ∃ z : World, z = (w4.alloc (.cells #[.bool sj, .slice Aj Lj cj] 25)) := ⟨_, rfl⟩
  rw [← hw]
  have x5 : Ext w4 w5 := by rw [hw]; exact (Ext.alloc _ _)
  replace bxr := bxr.ext x5
  replace bxnu := bxnu.ext x5
  have bxde : BK w5 (w4.heap.size) 25 #[.bool sj, .slice Aj Lj cj] := by rw [hw]; have h5 := (BK.new w4 #[.bool sj, .slice Aj Lj cj] 25); simpa only [World.size_alloc] using h5
  have szw5 : w5.heap.size = w4.heap.size + 1 := by rw [hw]; simp only [World.size_alloc]
  clear hw
  refine (of_z (n := 1) (by omega)).mono ?_
  rintro e w6 ⟨sk, Ak, ck, Lk, rfl, k, x6⟩
  have szw6 : w5.heap.size ≤ w6.heap.size := x6.size
  replace bxr := bxr.ext x6
  replace bxnu := bxnu.ext x6
  replace bxde := bxde.ext x6
  have HO := Lib.hid k
  clear k
  have kr_0 := bxr.c 0 (.bool false) rfl
  have kr_1 := bxr.c 1 (.slice none 0 0) rfl
  have kr_2 := bxr.c 2 (.slice none 0 0) rfl
  have knu_0 := bxnu.c 0 (.bool si) rfl
  have knu_1 := bxnu.c 1 (.slice Ai Li ci) rfl
  have kde_0 := bxde.c 0 (.bool sj) rfl
  have kde_1 := bxde.c 1 (.slice Aj Lj cj) rfl
  have t1r_0 := fun (o0 : Obj) => ((Ext.alloc w6 o0).cell (bxr.c 0 (.bool false) rfl))
  have t1r_1 := fun (o0 : Obj) => ((Ext.alloc w6 o0).cell (bxr.c 1 (.slice none 0 0) rfl))
  have t1r_2 := fun (o0 : Obj) => ((Ext.alloc w6 o0).cell (bxr.c 2 (.slice none 0 0) rfl))
  have t1nu_0 := fun (o0 : Obj) => ((Ext.alloc w6 o0).cell (bxnu.c 0 (.bool si) rfl))
  have t1nu_1 := fun (o0 : Obj) => ((Ext.alloc w6 o0).cell (bxnu.c 1 (.slice Ai Li ci) rfl))
  have t1de_0 := fun (o0 : Obj) => ((Ext.alloc w6 o0).cell (bxde.c 0 (.bool sj) rfl))
  have t1de_1 := fun (o0 : Obj) => ((Ext.alloc w6 o0).cell (bxde.c 1 (.slice Aj Lj cj) rfl))
  go_wp2_with fail
  clear kr_0 kr_1 kr_2 knu_0 knu_1 kde_0 kde_1 t1r_0 t1r_1 t1r_2 t1nu_0 t1nu_1 t1de_0 t1de_1
  obtain ⟨w7, hw⟩ : ∃ z : World, z = (w6.alloc (.cells #[.bool sk, .slice Ak Lk ck] 25)) := ⟨_, rfl⟩
  rw [← hw]
  have x7 : Ext w6 w7 := by rw [hw]; exact (Ext.alloc _ _)
  replace bxr := bxr.ext x7
  replace bxnu := bxnu.ext x7
  replace bxde := bxde.ext x7
  have bxon : BK w7 (w6.heap.size) 25 #[.bool sk, .slice Ak Lk ck] := by rw [hw]; have h5 := (BK.new w6 #[.bool sk, .slice Ak Lk ck] 25); simpa only [World.size_alloc] using h5
  have szw7 : w7.heap.size = w6.heap.size + 1 := by rw [hw]; simp only [World.size_alloc]
  clear hw
  have kde_0 := bxde.c 0 (.bool sj) rfl
  have kde_1 := bxde.c 1 (.slice Aj Lj cj) rfl
  have kon_0 := bxon.c 0 (.bool sk) rfl
  have kon_1 := bxon.c 1 (.slice Ak Lk ck) rfl
  go_wp2_with fail
  go_cut [50] (fun s50 wx => s50 = Value.bool true ∧ Ext w7 wx)
  case first =>
    go_region_with (go_at_call 82; refine (cmp_is (HJ.out.zv.ext (by repeat' (first | with_reducible exact Ext.refl _ | with_reducible assumption | with_reducible apply Ext.alloc_r | with_reducible apply Ext.drew_r | with_reducible apply Ext.drewN_r | with_reducible refine Ext.trans ?_ ‹Ext _ _›))) (HO.out.zv.ext (by repeat' (first | with_reducible exact Ext.refl _ | with_reducible assumption | with_reducible apply Ext.alloc_r | with_reducible apply Ext.drew_r | with_reducible apply Ext.drewN_r | with_reducible refine Ext.trans ?_ ‹Ext _ _›))) HKK.out).mono ?_; rintro e w99 ⟨rfl, x99⟩)
    all_goals (go_wp2_with fail; go_meet)
    all_goals exact ⟨rfl, (by repeat' (first | with_reducible exact Ext.refl _ | with_reducible assumption | with_reducible apply Ext.alloc_r | with_reducible apply Ext.drew_r | with_reducible apply Ext.drewN_r | with_reducible refine Ext.trans ?_ ‹Ext _ _›))⟩
  case rest =>
    clear kde_0 kde_1 kon_0 kon_1
    obtain ⟨rfl, x8⟩ := hcut
    obtain ⟨w8, rfl⟩ : ∃ z : World, z = wc := ⟨_, rfl⟩
    have szw8 : w7.heap.size ≤ w8.heap.size := x8.size
    replace bxr := bxr.ext x8
    replace bxnu := bxnu.ext x8
    replace bxde := bxde.ext x8
    replace bxon := bxon.ext x8
    have kr_0 := bxr.c 0 (.bool false) rfl
    have fr_0 := bxr.f 0
    have kr_1 := bxr.c 1 (.slice none 0 0) rfl
    have fr_1 := bxr.f 1
    have kr_2 := bxr.c 2 (.slice none 0 0) rfl
    have fr_2 := bxr.f 2
    have knu_0 := bxnu.c 0 (.bool si) rfl
    have knu_1 := bxnu.c 1 (.slice Ai Li ci) rfl
    have kde_0 := bxde.c 0 (.bool sj) rfl
    have kde_1 := bxde.c 1 (.slice Aj Lj cj) rfl
    have kon_0 := bxon.c 0 (.bool sk) rfl
    have kon_1 := bxon.c 1 (.slice Ak Lk ck) rfl
    go_wp2_with fail
    clear kr_0 fr_0 kr_1 fr_1 kr_2 fr_2 knu_0 knu_1 kde_0 kde_1 kon_0 kon_1
    obtain ⟨w9, hw⟩ : ∃ z : World, z = (((w8.setCell ⟨w.heap.size, 0, none⟩ (.bool false)).setCell ⟨w.heap.size, 1, none⟩ (.slice none 0 0)).setCell ⟨w.heap.size, 2, none⟩ (.slice none 0 0)) := ⟨_, rfl⟩
    rw [← hw]
    have kw9 : Kept w8 w9 := by rw [hw]; exact (Kept.set_ (Kept.set_ (Kept.set_ (Kept.refl _) bxr.isBox plain_rat) (IsBox.set_ bxr.isBox) plain_rat) (IsBox.set_ (IsBox.set_ bxr.isBox)) plain_rat)
    have nbr : BK w9 (w.heap.size) 27 #[.bool false, .slice none 0 0, .slice none 0 0] := by rw [hw]; exact (BK.set (i := 2) (u := .slice none 0 0) (vs' := #[.bool false, .slice none 0 0, .slice none 0 0]) (BK.set (i := 1) (u := .slice none 0 0) (vs' := #[.bool false, .slice none 0 0, .slice none 0 0]) (BK.set (i := 0) (u := .bool false) (vs' := #[.bool false, .slice none 0 0, .slice none 0 0]) bxr rfl) rfl) rfl)
    have nbnu : BK w9 (w2.heap.size) 25 #[.bool si, .slice Ai Li ci] := by rw [hw]; exact (BK.far (BK.far (BK.far bxnu (show w2.heap.size ≠ w.heap.size by omega) 0 _) (show w2.heap.size ≠ w.heap.size by omega) 1 _) (show w2.heap.size ≠ w.heap.size by omega) 2 _)
    have nbde : BK w9 (w4.heap.size) 25 #[.bool sj, .slice Aj Lj cj] := by rw [hw]; exact (BK.far (BK.far (BK.far bxde (show w4.heap.size ≠ w.heap.size by omega) 0 _) (show w4.heap.size ≠ w.heap.size by omega) 1 _) (show w4.heap.size ≠ w.heap.size by omega) 2 _)
    have nbon : BK w9 (w6.heap.size) 25 #[.bool sk, .slice Ak Lk ck] := by rw [hw]; exact (BK.far (BK.far (BK.far bxon (show w6.heap.size ≠ w.heap.size by omega) 0 _) (show w6.heap.size ≠ w.heap.size by omega) 1 _) (show w6.heap.size ≠ w.heap.size by omega) 2 _)
    have x9 : Ext w w9 := by rw [hw]; have hxp : Ext w w8 := (by repeat' (first | with_reducible exact Ext.refl _ | with_reducible assumption | with_reducible apply Ext.alloc_r | with_reducible apply Ext.drew_r | with_reducible apply Ext.drewN_r | with_reducible refine Ext.trans ?_ ‹Ext _ _›)); exact (Ext.set_ (Ext.set_ (Ext.set_ hxp (show _ ≤ w.heap.size by omega)) (show _ ≤ w.heap.size by omega)) (show _ ≤ w.heap.size by omega))
    clear bxr
    clear bxnu
    clear bxde
    clear bxon
    have bxr := nbr
    clear nbr
    have bxnu := nbnu
    clear nbnu
    have bxde := nbde
    clear nbde
    have bxon := nbon
    clear nbon
    have szw9 : w9.heap.size = w8.heap.size := by rw [hw]; simp
    clear hw kw9
    have kr_0 := bxr.c 0 (.bool false) rfl
    have kr_1 := bxr.c 1 (.slice none 0 0) rfl
    have kr_2 := bxr.c 2 (.slice none 0 0) rfl
    refine bodyPost_ret (v := .tuple #[.agg #[.bool false, .slice none 0 0, .slice none 0 0], .int .i64 6]) (by simp [results, Try.results54, go_sem, kr_0, kr_1, kr_2]) rfl ?_
    exact ⟨rfl, x9⟩
set_option maxHeartbeats 4000000 in
set_option maxRecDepth 100000 in
theorem rparse_E {w : World} {s t b : ByteArray} (hcut : ∀ w', Ext w w' → Calls Try.prog 90 #[.string s, .string ⟨#[47]⟩] w' fun e w'' => e = .returned (.tuple #[.string t, .string b, .bool true]) ∧ Ext w' w'') (ht : t.size ≤ 1000000) {x : Int} (hx : bs t = fmtL 10 x) (hb : b.size ≤ 1000000) {y : Int} (hy : bs b = fmtL 10 y) (hgt : 1 < y) (hg : Nat.gcd x.natAbs y.natAbs ≠ 1) (d1 : dl x.natAbs ≤ 1000000) (d2 : dl y.natAbs ≤ 1000000) :
    Calls Try.prog 54 #[.string s] w (RetNoQ w) := by
  have HP : Hid (∀ w', Calls Try.prog 91 #[.string t] w' (RetZE w' x)) := fun w' => Parse_yes ht hx
  have HB : Hid (∀ w', Calls Try.prog 91 #[.string b] w' (RetZE w' y)) := fun w' => Parse_yes hb hy
  have HC := Lib.hid hcut
  obtain ⟨K, hK⟩ : ∃ K : Int, K = cmpZ y 1 := ⟨_, rfl⟩
  have hk : ¬ K ≤ 0 := by rw [hK, cmpZ_gt hgt]; omega
  have hkd : decide (K ≤ 0) = false := decide_eq_false hk
  have HKK := Lib.hid hK.symm
  clear hK
  obtain ⟨G, hG⟩ : ∃ G : Int, ((Nat.gcd x.natAbs y.natAbs : Nat) : Int) = G := ⟨_, rfl⟩
  have hgb : (G == 1) = false := by rw [← hG]; exact beq_eq_false_iff_ne.2 (by omega)
  have HS : Hid (∀ w' {s1 s2 : Bool} {A1 A2 : Option Addr} {c1 c2 L1 L2 : Nat}, ZV w' s1 A1 c1 L1 G → ZV w' s2 A2 c2 L2 1 → Calls Try.prog 34 #[.agg #[.bool s1, .slice A1 L1 c1], .agg #[.bool s2, .slice A2 L2 c2]] w' fun e w'' => e = .returned (.bool false) ∧ Ext w' w'') := fun w' _ _ _ _ _ _ _ _ g1 g2 => by
    have h5 := same_z g1 g2
    rwa [hgb] at h5
  have HG := Lib.hid hG
  clear hG hgb
  clear hcut ht hx hb hy hgt hg
  go_enter Try.func54, Try.ntmps54
  go_wp2_with fail
  obtain ⟨w0, hw0⟩ : ∃ z : World, z = (w.alloc (.cells #[.bool false, .slice none 0 0, .slice none 0 0] 27)) := ⟨_, rfl⟩
  rw [← hw0]
  have bxr : BK w0 (w.heap.size) 27 #[.bool false, .slice none 0 0, .slice none 0 0] := by rw [hw0]; have h5 := (BK.new w #[.bool false, .slice none 0 0, .slice none 0 0] 27); simpa only [World.size_alloc] using h5
  have hszw0 : w0.heap.size = w.heap.size + 1 := by rw [hw0]; simp only [World.size_alloc]
  have xw0 : Ext w w0 := by rw [hw0]; exact (Ext.alloc _ _)
  clear hw0
  refine (HC.out _ (by repeat' (first | with_reducible exact Ext.refl _ | with_reducible assumption | with_reducible apply Ext.alloc_r | with_reducible apply Ext.drew_r | with_reducible apply Ext.drewN_r | with_reducible refine Ext.trans ?_ ‹Ext _ _›))).mono ?_
  rintro e w1 ⟨rfl, x1⟩
  have szw1 : w0.heap.size ≤ w1.heap.size := x1.size
  replace bxr := bxr.ext x1
  clear HC
  have kr_0 := bxr.c 0 (.bool false) rfl
  have kr_1 := bxr.c 1 (.slice none 0 0) rfl
  have kr_2 := bxr.c 2 (.slice none 0 0) rfl
  go_wp2_with fail
  clear kr_0 kr_1 kr_2
  refine (HP.out _).mono ?_
  rintro e w2 ⟨si, Ai, ci, Li, rfl, i, x2⟩
  have szw2 : w1.heap.size ≤ w2.heap.size := x2.size
  replace bxr := bxr.ext x2
  clear HP
  have HI := Lib.hid (i.mono (show w.heap.size ≤ _ by omega))
  clear i
  have kr_0 := bxr.c 0 (.bool false) rfl
  have kr_1 := bxr.c 1 (.slice none 0 0) rfl
  have kr_2 := bxr.c 2 (.slice none 0 0) rfl
  have t1r_0 := fun (o0 : Obj) => ((Ext.alloc w2 o0).cell (bxr.c 0 (.bool false) rfl))
  have t1r_1 := fun (o0 : Obj) => ((Ext.alloc w2 o0).cell (bxr.c 1 (.slice none 0 0) rfl))
  have t1r_2 := fun (o0 : Obj) => ((Ext.alloc w2 o0).cell (bxr.c 2 (.slice none 0 0) rfl))
  go_wp2_with fail
  clear kr_0 kr_1 kr_2 t1r_0 t1r_1 t1r_2
  obtain ⟨w3, hw⟩ : ∃ z : World, z = (w2.alloc (.cells #[.bool si, .slice Ai Li ci] 25)) := ⟨_, rfl⟩
  rw [← hw]
  have x3 : Ext w2 w3 := by rw [hw]; exact (Ext.alloc _ _)
  replace bxr := bxr.ext x3
  have bxnu : BK w3 (w2.heap.size) 25 #[.bool si, .slice Ai Li ci] := by rw [hw]; have h5 := (BK.new w2 #[.bool si, .slice Ai Li ci] 25); simpa only [World.size_alloc] using h5
  have szw3 : w3.heap.size = w2.heap.size + 1 := by rw [hw]; simp only [World.size_alloc]
  clear hw
  refine (HB.out _).mono ?_
  rintro e w4 ⟨sj, Aj, cj, Lj, rfl, j, x4⟩
  have szw4 : w3.heap.size ≤ w4.heap.size := x4.size
  replace bxr := bxr.ext x4
  replace bxnu := bxnu.ext x4
  clear HB
  have HJ := Lib.hid (j.mono (show w.heap.size ≤ _ by omega))
  clear j
  have kr_0 := bxr.c 0 (.bool false) rfl
  have kr_1 := bxr.c 1 (.slice none 0 0) rfl
  have kr_2 := bxr.c 2 (.slice none 0 0) rfl
  have knu_0 := bxnu.c 0 (.bool si) rfl
  have knu_1 := bxnu.c 1 (.slice Ai Li ci) rfl
  have t1r_0 := fun (o0 : Obj) => ((Ext.alloc w4 o0).cell (bxr.c 0 (.bool false) rfl))
  have t1r_1 := fun (o0 : Obj) => ((Ext.alloc w4 o0).cell (bxr.c 1 (.slice none 0 0) rfl))
  have t1r_2 := fun (o0 : Obj) => ((Ext.alloc w4 o0).cell (bxr.c 2 (.slice none 0 0) rfl))
  have t1nu_0 := fun (o0 : Obj) => ((Ext.alloc w4 o0).cell (bxnu.c 0 (.bool si) rfl))
  have t1nu_1 := fun (o0 : Obj) => ((Ext.alloc w4 o0).cell (bxnu.c 1 (.slice Ai Li ci) rfl))
  go_wp2_with fail
  clear kr_0 kr_1 kr_2 knu_0 knu_1 t1r_0 t1r_1 t1r_2 t1nu_0 t1nu_1
  obtain ⟨w5, hw⟩ : ∃ z : World, z = (w4.alloc (.cells #[.bool sj, .slice Aj Lj cj] 25)) := ⟨_, rfl⟩
  rw [← hw]
  have x5 : Ext w4 w5 := by rw [hw]; exact (Ext.alloc _ _)
  replace bxr := bxr.ext x5
  replace bxnu := bxnu.ext x5
  have bxde : BK w5 (w4.heap.size) 25 #[.bool sj, .slice Aj Lj cj] := by rw [hw]; have h5 := (BK.new w4 #[.bool sj, .slice Aj Lj cj] 25); simpa only [World.size_alloc] using h5
  have szw5 : w5.heap.size = w4.heap.size + 1 := by rw [hw]; simp only [World.size_alloc]
  clear hw
  refine (of_z (n := 1) (by omega)).mono ?_
  rintro e w6 ⟨sk, Ak, ck, Lk, rfl, k, x6⟩
  have szw6 : w5.heap.size ≤ w6.heap.size := x6.size
  replace bxr := bxr.ext x6
  replace bxnu := bxnu.ext x6
  replace bxde := bxde.ext x6
  have HO := Lib.hid k
  clear k
  have kr_0 := bxr.c 0 (.bool false) rfl
  have kr_1 := bxr.c 1 (.slice none 0 0) rfl
  have kr_2 := bxr.c 2 (.slice none 0 0) rfl
  have knu_0 := bxnu.c 0 (.bool si) rfl
  have knu_1 := bxnu.c 1 (.slice Ai Li ci) rfl
  have kde_0 := bxde.c 0 (.bool sj) rfl
  have kde_1 := bxde.c 1 (.slice Aj Lj cj) rfl
  have t1r_0 := fun (o0 : Obj) => ((Ext.alloc w6 o0).cell (bxr.c 0 (.bool false) rfl))
  have t1r_1 := fun (o0 : Obj) => ((Ext.alloc w6 o0).cell (bxr.c 1 (.slice none 0 0) rfl))
  have t1r_2 := fun (o0 : Obj) => ((Ext.alloc w6 o0).cell (bxr.c 2 (.slice none 0 0) rfl))
  have t1nu_0 := fun (o0 : Obj) => ((Ext.alloc w6 o0).cell (bxnu.c 0 (.bool si) rfl))
  have t1nu_1 := fun (o0 : Obj) => ((Ext.alloc w6 o0).cell (bxnu.c 1 (.slice Ai Li ci) rfl))
  have t1de_0 := fun (o0 : Obj) => ((Ext.alloc w6 o0).cell (bxde.c 0 (.bool sj) rfl))
  have t1de_1 := fun (o0 : Obj) => ((Ext.alloc w6 o0).cell (bxde.c 1 (.slice Aj Lj cj) rfl))
  go_wp2_with fail
  clear kr_0 kr_1 kr_2 knu_0 knu_1 kde_0 kde_1 t1r_0 t1r_1 t1r_2 t1nu_0 t1nu_1 t1de_0 t1de_1
  obtain ⟨w7, hw⟩ : ∃ z : World, z = (w6.alloc (.cells #[.bool sk, .slice Ak Lk ck] 25)) := ⟨_, rfl⟩
  rw [← hw]
  have x7 : Ext w6 w7 := by rw [hw]; exact (Ext.alloc _ _)
  replace bxr := bxr.ext x7
  replace bxnu := bxnu.ext x7
  replace bxde := bxde.ext x7
  have bxon : BK w7 (w6.heap.size) 25 #[.bool sk, .slice Ak Lk ck] := by rw [hw]; have h5 := (BK.new w6 #[.bool sk, .slice Ak Lk ck] 25); simpa only [World.size_alloc] using h5
  have szw7 : w7.heap.size = w6.heap.size + 1 := by rw [hw]; simp only [World.size_alloc]
  clear hw
  have kr_0 := bxr.c 0 (.bool false) rfl
  have kr_1 := bxr.c 1 (.slice none 0 0) rfl
  have kr_2 := bxr.c 2 (.slice none 0 0) rfl
  have knu_0 := bxnu.c 0 (.bool si) rfl
  have knu_1 := bxnu.c 1 (.slice Ai Li ci) rfl
  have kde_0 := bxde.c 0 (.bool sj) rfl
  have kde_1 := bxde.c 1 (.slice Aj Lj cj) rfl
  have kon_0 := bxon.c 0 (.bool sk) rfl
  have kon_1 := bxon.c 1 (.slice Ak Lk ck) rfl
  go_wp2_with fail
  have HK : Hid (∀ w', Ext w7 w' → (w'.cell? ⟨w2.heap.size, 0, none⟩ = some (.bool si) ∧ w'.cell? ⟨w2.heap.size, 1, none⟩ = some (.slice Ai Li ci) ∧ w'.cell? ⟨w4.heap.size, 0, none⟩ = some (.bool sj) ∧ w'.cell? ⟨w4.heap.size, 1, none⟩ = some (.slice Aj Lj cj) ∧ w'.cell? ⟨w6.heap.size, 0, none⟩ = some (.bool sk) ∧ w'.cell? ⟨w6.heap.size, 1, none⟩ = some (.slice Ak Lk ck))) := fun w' hk => ⟨hk.cell knu_0, hk.cell knu_1, hk.cell kde_0, hk.cell kde_1, hk.cell kon_0, hk.cell kon_1⟩
  go_region_held3 (fun w' => w'.cell? ⟨w2.heap.size, 0, none⟩ = some (.bool si) ∧ w'.cell? ⟨w2.heap.size, 1, none⟩ = some (.slice Ai Li ci) ∧ w'.cell? ⟨w4.heap.size, 0, none⟩ = some (.bool sj) ∧ w'.cell? ⟨w4.heap.size, 1, none⟩ = some (.slice Aj Lj cj) ∧ w'.cell? ⟨w6.heap.size, 0, none⟩ = some (.bool sk) ∧ w'.cell? ⟨w6.heap.size, 1, none⟩ = some (.slice Ak Lk ck))
    ((with_reducible refine HK.out _ ?_; (repeat' (first | with_reducible exact Ext.refl _ | with_reducible assumption | with_reducible apply Ext.alloc_r | with_reducible apply Ext.drew_r | with_reducible apply Ext.drewN_r | with_reducible refine Ext.trans ?_ ‹Ext _ _›))))
    (first
      | (go_at_call 34; have hgd := g; clear hgd; refine (HS.out _ (g.zv.ext (by repeat' (first | with_reducible exact Ext.refl _ | with_reducible assumption | with_reducible apply Ext.alloc_r | with_reducible apply Ext.drew_r | with_reducible apply Ext.drewN_r | with_reducible refine Ext.trans ?_ ‹Ext _ _›))) (HO.out.zv.ext (by repeat' (first | with_reducible exact Ext.refl _ | with_reducible assumption | with_reducible apply Ext.alloc_r | with_reducible apply Ext.drew_r | with_reducible apply Ext.drewN_r | with_reducible refine Ext.trans ?_ ‹Ext _ _›)))).mono ?_; rintro e w10 ⟨rfl, x10⟩)
      | (go_at_call 92; refine (toZt HG.out (gcd_z (HI.out.zv.ext (by repeat' (first | with_reducible exact Ext.refl _ | with_reducible assumption | with_reducible apply Ext.alloc_r | with_reducible apply Ext.drew_r | with_reducible apply Ext.drewN_r | with_reducible refine Ext.trans ?_ ‹Ext _ _›))) (HJ.out.zv.ext (by repeat' (first | with_reducible exact Ext.refl _ | with_reducible assumption | with_reducible apply Ext.alloc_r | with_reducible apply Ext.drew_r | with_reducible apply Ext.drewN_r | with_reducible refine Ext.trans ?_ ‹Ext _ _›))) d1 d2)).mono ?_; rintro e w9 ⟨sg, Ag, cg, Lg, rfl, g, x9⟩)
      | (go_at_call 82; refine (cmp_is (HJ.out.zv.ext (by repeat' (first | with_reducible exact Ext.refl _ | with_reducible assumption | with_reducible apply Ext.alloc_r | with_reducible apply Ext.drew_r | with_reducible apply Ext.drewN_r | with_reducible refine Ext.trans ?_ ‹Ext _ _›))) (HO.out.zv.ext (by repeat' (first | with_reducible exact Ext.refl _ | with_reducible assumption | with_reducible apply Ext.alloc_r | with_reducible apply Ext.drew_r | with_reducible apply Ext.drewN_r | with_reducible refine Ext.trans ?_ ‹Ext _ _›))) HKK.out).mono ?_; rintro e w8 ⟨rfl, x8⟩))
  clear kr_0 kr_1 kr_2 knu_0 knu_1 kde_0 kde_1 kon_0 kon_1
  clear HK
  have szw8 : w7.heap.size ≤ w8.heap.size := (show Ext w7 w8 from (by repeat' (first | with_reducible exact Ext.refl _ | with_reducible assumption | with_reducible apply Ext.alloc_r | with_reducible apply Ext.drew_r | with_reducible apply Ext.drewN_r | with_reducible refine Ext.trans ?_ ‹Ext _ _›))).size
  have szw9 : w7.heap.size ≤ w9.heap.size := (show Ext w7 w9 from (by repeat' (first | with_reducible exact Ext.refl _ | with_reducible assumption | with_reducible apply Ext.alloc_r | with_reducible apply Ext.drew_r | with_reducible apply Ext.drewN_r | with_reducible refine Ext.trans ?_ ‹Ext _ _›))).size
  have xhw10 : Ext w7 w10 := (by repeat' (first | with_reducible exact Ext.refl _ | with_reducible assumption | with_reducible apply Ext.alloc_r | with_reducible apply Ext.drew_r | with_reducible apply Ext.drewN_r | with_reducible refine Ext.trans ?_ ‹Ext _ _›))
  have szw10 : w7.heap.size ≤ w10.heap.size := xhw10.size
  replace bxr := bxr.ext xhw10
  replace bxnu := bxnu.ext xhw10
  replace bxde := bxde.ext xhw10
  replace bxon := bxon.ext xhw10
  clear g HS HG HKK
  have kr_0 := bxr.c 0 (.bool false) rfl
  have fr_0 := bxr.f 0
  have kr_1 := bxr.c 1 (.slice none 0 0) rfl
  have fr_1 := bxr.f 1
  have kr_2 := bxr.c 2 (.slice none 0 0) rfl
  have fr_2 := bxr.f 2
  have knu_0 := bxnu.c 0 (.bool si) rfl
  have knu_1 := bxnu.c 1 (.slice Ai Li ci) rfl
  have kde_0 := bxde.c 0 (.bool sj) rfl
  have kde_1 := bxde.c 1 (.slice Aj Lj cj) rfl
  have kon_0 := bxon.c 0 (.bool sk) rfl
  have kon_1 := bxon.c 1 (.slice Ak Lk ck) rfl
  go_wp2_with fail
  clear kr_0 fr_0 kr_1 fr_1 kr_2 fr_2 knu_0 knu_1 kde_0 kde_1 kon_0 kon_1
  obtain ⟨w11, hw⟩ : ∃ z : World, z = (((w10.setCell ⟨w.heap.size, 0, none⟩ (.bool false)).setCell ⟨w.heap.size, 1, none⟩ (.slice none 0 0)).setCell ⟨w.heap.size, 2, none⟩ (.slice none 0 0)) := ⟨_, rfl⟩
  rw [← hw]
  have kw11 : Kept w10 w11 := by rw [hw]; exact (Kept.set_ (Kept.set_ (Kept.set_ (Kept.refl _) bxr.isBox plain_rat) (IsBox.set_ bxr.isBox) plain_rat) (IsBox.set_ (IsBox.set_ bxr.isBox)) plain_rat)
  have nbr : BK w11 (w.heap.size) 27 #[.bool false, .slice none 0 0, .slice none 0 0] := by rw [hw]; exact (BK.set (i := 2) (u := .slice none 0 0) (vs' := #[.bool false, .slice none 0 0, .slice none 0 0]) (BK.set (i := 1) (u := .slice none 0 0) (vs' := #[.bool false, .slice none 0 0, .slice none 0 0]) (BK.set (i := 0) (u := .bool false) (vs' := #[.bool false, .slice none 0 0, .slice none 0 0]) bxr rfl) rfl) rfl)
  have nbnu : BK w11 (w2.heap.size) 25 #[.bool si, .slice Ai Li ci] := by rw [hw]; exact (BK.far (BK.far (BK.far bxnu (show w2.heap.size ≠ w.heap.size by omega) 0 _) (show w2.heap.size ≠ w.heap.size by omega) 1 _) (show w2.heap.size ≠ w.heap.size by omega) 2 _)
  have nbde : BK w11 (w4.heap.size) 25 #[.bool sj, .slice Aj Lj cj] := by rw [hw]; exact (BK.far (BK.far (BK.far bxde (show w4.heap.size ≠ w.heap.size by omega) 0 _) (show w4.heap.size ≠ w.heap.size by omega) 1 _) (show w4.heap.size ≠ w.heap.size by omega) 2 _)
  have nbon : BK w11 (w6.heap.size) 25 #[.bool sk, .slice Ak Lk ck] := by rw [hw]; exact (BK.far (BK.far (BK.far bxon (show w6.heap.size ≠ w.heap.size by omega) 0 _) (show w6.heap.size ≠ w.heap.size by omega) 1 _) (show w6.heap.size ≠ w.heap.size by omega) 2 _)
  have x11 : Ext w w11 := by rw [hw]; have hxp : Ext w w10 := (by repeat' (first | with_reducible exact Ext.refl _ | with_reducible assumption | with_reducible apply Ext.alloc_r | with_reducible apply Ext.drew_r | with_reducible apply Ext.drewN_r | with_reducible refine Ext.trans ?_ ‹Ext _ _›)); exact (Ext.set_ (Ext.set_ (Ext.set_ hxp (show _ ≤ w.heap.size by omega)) (show _ ≤ w.heap.size by omega)) (show _ ≤ w.heap.size by omega))
  clear bxr
  clear bxnu
  clear bxde
  clear bxon
  have bxr := nbr
  clear nbr
  have bxnu := nbnu
  clear nbnu
  have bxde := nbde
  clear nbde
  have bxon := nbon
  clear nbon
  have szw11 : w11.heap.size = w10.heap.size := by rw [hw]; simp
  clear hw kw11
  have kr_0 := bxr.c 0 (.bool false) rfl
  have kr_1 := bxr.c 1 (.slice none 0 0) rfl
  have kr_2 := bxr.c 2 (.slice none 0 0) rfl
  refine bodyPost_ret (v := .tuple #[.agg #[.bool false, .slice none 0 0, .slice none 0 0], .int .i64 6]) (by simp [results, Try.results54, go_sem, kr_0, kr_1, kr_2]) rfl ?_
  exact ⟨rfl, x11⟩
set_option maxHeartbeats 4000000 in
set_option maxRecDepth 100000 in
theorem rparse_F {w : World} {s t b : ByteArray} (hcut : ∀ w', Ext w w' → Calls Try.prog 90 #[.string s, .string ⟨#[47]⟩] w' fun e w'' => e = .returned (.tuple #[.string t, .string b, .bool true]) ∧ Ext w' w'') (ht : t.size ≤ 1000000) {x : Int} (hx : bs t = fmtL 10 x) (hb : b.size ≤ 1000000) {y : Int} (hy : bs b = fmtL 10 y) (hgt : 1 < y) (hg : Nat.gcd x.natAbs y.natAbs = 1) (d1 : dl x.natAbs ≤ 1000000) (d2 : dl y.natAbs ≤ 1000000) {N : Nat} {q : Rat} (e1 : q.num = x) (e2 : (q.den : Int) = y) (b1 : dl q.num.natAbs ≤ N) (b2 : dl q.den ≤ N) :
    Calls Try.prog 54 #[.string s] w (RetRE w N q) := by
  have HP : Hid (∀ w', Calls Try.prog 91 #[.string t] w' (RetZE w' x)) := fun w' => Parse_yes ht hx
  have HB : Hid (∀ w', Calls Try.prog 91 #[.string b] w' (RetZE w' y)) := fun w' => Parse_yes hb hy
  have HC := Lib.hid hcut
  obtain ⟨K, hK⟩ : ∃ K : Int, K = cmpZ y 1 := ⟨_, rfl⟩
  have hk : ¬ K ≤ 0 := by rw [hK, cmpZ_gt hgt]; omega
  have hkd : decide (K ≤ 0) = false := decide_eq_false hk
  have HKK := Lib.hid hK.symm
  clear hK
  obtain ⟨G, hG⟩ : ∃ G : Int, ((Nat.gcd x.natAbs y.natAbs : Nat) : Int) = G := ⟨_, rfl⟩
  have hgb : (G == 1) = true := by rw [← hG]; rw [hg]; rfl
  have HS : Hid (∀ w' {s1 s2 : Bool} {A1 A2 : Option Addr} {c1 c2 L1 L2 : Nat}, ZV w' s1 A1 c1 L1 G → ZV w' s2 A2 c2 L2 1 → Calls Try.prog 34 #[.agg #[.bool s1, .slice A1 L1 c1], .agg #[.bool s2, .slice A2 L2 c2]] w' fun e w'' => e = .returned (.bool true) ∧ Ext w' w'') := fun w' _ _ _ _ _ _ _ _ g1 g2 => by
    have h5 := same_z g1 g2
    rwa [hgb] at h5
  have HG := Lib.hid hG
  clear hG hgb
  clear hcut ht hx hb hy hgt hg
  go_enter Try.func54, Try.ntmps54
  go_wp2_with fail
  obtain ⟨w0, hw0⟩ : ∃ z : World, z = (w.alloc (.cells #[.bool false, .slice none 0 0, .slice none 0 0] 27)) := ⟨_, rfl⟩
  rw [← hw0]
  have bxr : BK w0 (w.heap.size) 27 #[.bool false, .slice none 0 0, .slice none 0 0] := by rw [hw0]; have h5 := (BK.new w #[.bool false, .slice none 0 0, .slice none 0 0] 27); simpa only [World.size_alloc] using h5
  have hszw0 : w0.heap.size = w.heap.size + 1 := by rw [hw0]; simp only [World.size_alloc]
  have xw0 : Ext w w0 := by rw [hw0]; exact (Ext.alloc _ _)
  clear hw0
  refine (HC.out _ (by repeat' (first | with_reducible exact Ext.refl _ | with_reducible assumption | with_reducible apply Ext.alloc_r | with_reducible apply Ext.drew_r | with_reducible apply Ext.drewN_r | with_reducible refine Ext.trans ?_ ‹Ext _ _›))).mono ?_
  rintro e w1 ⟨rfl, x1⟩
  have szw1 : w0.heap.size ≤ w1.heap.size := x1.size
  replace bxr := bxr.ext x1
  clear HC
  have kr_0 := bxr.c 0 (.bool false) rfl
  have kr_1 := bxr.c 1 (.slice none 0 0) rfl
  have kr_2 := bxr.c 2 (.slice none 0 0) rfl
  go_wp2_with fail
  clear kr_0 kr_1 kr_2
  refine (HP.out _).mono ?_
  rintro e w2 ⟨si, Ai, ci, Li, rfl, i, x2⟩
  have szw2 : w1.heap.size ≤ w2.heap.size := x2.size
  replace bxr := bxr.ext x2
  clear HP
  have HI := Lib.hid (i.mono (show w.heap.size ≤ _ by omega))
  clear i
  have kr_0 := bxr.c 0 (.bool false) rfl
  have kr_1 := bxr.c 1 (.slice none 0 0) rfl
  have kr_2 := bxr.c 2 (.slice none 0 0) rfl
  have t1r_0 := fun (o0 : Obj) => ((Ext.alloc w2 o0).cell (bxr.c 0 (.bool false) rfl))
  have t1r_1 := fun (o0 : Obj) => ((Ext.alloc w2 o0).cell (bxr.c 1 (.slice none 0 0) rfl))
  have t1r_2 := fun (o0 : Obj) => ((Ext.alloc w2 o0).cell (bxr.c 2 (.slice none 0 0) rfl))
  go_wp2_with fail
  clear kr_0 kr_1 kr_2 t1r_0 t1r_1 t1r_2
  obtain ⟨w3, hw⟩ : ∃ z : World, z = (w2.alloc (.cells #[.bool si, .slice Ai Li ci] 25)) := ⟨_, rfl⟩
  rw [← hw]
  have x3 : Ext w2 w3 := by rw [hw]; exact (Ext.alloc _ _)
  replace bxr := bxr.ext x3
  have bxnu : BK w3 (w2.heap.size) 25 #[.bool si, .slice Ai Li ci] := by rw [hw]; have h5 := (BK.new w2 #[.bool si, .slice Ai Li ci] 25); simpa only [World.size_alloc] using h5
  have szw3 : w3.heap.size = w2.heap.size + 1 := by rw [hw]; simp only [World.size_alloc]
  clear hw
  refine (HB.out _).mono ?_
  rintro e w4 ⟨sj, Aj, cj, Lj, rfl, j, x4⟩
  have szw4 : w3.heap.size ≤ w4.heap.size := x4.size
  replace bxr := bxr.ext x4
  replace bxnu := bxnu.ext x4
  clear HB
  have HJ := Lib.hid (j.mono (show w.heap.size ≤ _ by omega))
  clear j
  have kr_0 := bxr.c 0 (.bool false) rfl
  have kr_1 := bxr.c 1 (.slice none 0 0) rfl
  have kr_2 := bxr.c 2 (.slice none 0 0) rfl
  have knu_0 := bxnu.c 0 (.bool si) rfl
  have knu_1 := bxnu.c 1 (.slice Ai Li ci) rfl
  have t1r_0 := fun (o0 : Obj) => ((Ext.alloc w4 o0).cell (bxr.c 0 (.bool false) rfl))
  have t1r_1 := fun (o0 : Obj) => ((Ext.alloc w4 o0).cell (bxr.c 1 (.slice none 0 0) rfl))
  have t1r_2 := fun (o0 : Obj) => ((Ext.alloc w4 o0).cell (bxr.c 2 (.slice none 0 0) rfl))
  have t1nu_0 := fun (o0 : Obj) => ((Ext.alloc w4 o0).cell (bxnu.c 0 (.bool si) rfl))
  have t1nu_1 := fun (o0 : Obj) => ((Ext.alloc w4 o0).cell (bxnu.c 1 (.slice Ai Li ci) rfl))
  go_wp2_with fail
  clear kr_0 kr_1 kr_2 knu_0 knu_1 t1r_0 t1r_1 t1r_2 t1nu_0 t1nu_1
  obtain ⟨w5, hw⟩ : ∃ z : World, z = (w4.alloc (.cells #[.bool sj, .slice Aj Lj cj] 25)) := ⟨_, rfl⟩
  rw [← hw]
  have x5 : Ext w4 w5 := by rw [hw]; exact (Ext.alloc _ _)
  replace bxr := bxr.ext x5
  replace bxnu := bxnu.ext x5
  have bxde : BK w5 (w4.heap.size) 25 #[.bool sj, .slice Aj Lj cj] := by rw [hw]; have h5 := (BK.new w4 #[.bool sj, .slice Aj Lj cj] 25); simpa only [World.size_alloc] using h5
  have szw5 : w5.heap.size = w4.heap.size + 1 := by rw [hw]; simp only [World.size_alloc]
  clear hw
  refine (of_z (n := 1) (by omega)).mono ?_
  rintro e w6 ⟨sk, Ak, ck, Lk, rfl, k, x6⟩
  have szw6 : w5.heap.size ≤ w6.heap.size := x6.size
  replace bxr := bxr.ext x6
  replace bxnu := bxnu.ext x6
  replace bxde := bxde.ext x6
  have HO := Lib.hid k
  clear k
  have kr_0 := bxr.c 0 (.bool false) rfl
  have kr_1 := bxr.c 1 (.slice none 0 0) rfl
  have kr_2 := bxr.c 2 (.slice none 0 0) rfl
  have knu_0 := bxnu.c 0 (.bool si) rfl
  have knu_1 := bxnu.c 1 (.slice Ai Li ci) rfl
  have kde_0 := bxde.c 0 (.bool sj) rfl
  have kde_1 := bxde.c 1 (.slice Aj Lj cj) rfl
  have t1r_0 := fun (o0 : Obj) => ((Ext.alloc w6 o0).cell (bxr.c 0 (.bool false) rfl))
  have t1r_1 := fun (o0 : Obj) => ((Ext.alloc w6 o0).cell (bxr.c 1 (.slice none 0 0) rfl))
  have t1r_2 := fun (o0 : Obj) => ((Ext.alloc w6 o0).cell (bxr.c 2 (.slice none 0 0) rfl))
  have t1nu_0 := fun (o0 : Obj) => ((Ext.alloc w6 o0).cell (bxnu.c 0 (.bool si) rfl))
  have t1nu_1 := fun (o0 : Obj) => ((Ext.alloc w6 o0).cell (bxnu.c 1 (.slice Ai Li ci) rfl))
  have t1de_0 := fun (o0 : Obj) => ((Ext.alloc w6 o0).cell (bxde.c 0 (.bool sj) rfl))
  have t1de_1 := fun (o0 : Obj) => ((Ext.alloc w6 o0).cell (bxde.c 1 (.slice Aj Lj cj) rfl))
  go_wp2_with fail
  clear kr_0 kr_1 kr_2 knu_0 knu_1 kde_0 kde_1 t1r_0 t1r_1 t1r_2 t1nu_0 t1nu_1 t1de_0 t1de_1
  obtain ⟨w7, hw⟩ : ∃ z : World, z = (w6.alloc (.cells #[.bool sk, .slice Ak Lk ck] 25)) := ⟨_, rfl⟩
  rw [← hw]
  have x7 : Ext w6 w7 := by rw [hw]; exact (Ext.alloc _ _)
  replace bxr := bxr.ext x7
  replace bxnu := bxnu.ext x7
  replace bxde := bxde.ext x7
  have bxon : BK w7 (w6.heap.size) 25 #[.bool sk, .slice Ak Lk ck] := by rw [hw]; have h5 := (BK.new w6 #[.bool sk, .slice Ak Lk ck] 25); simpa only [World.size_alloc] using h5
  have szw7 : w7.heap.size = w6.heap.size + 1 := by rw [hw]; simp only [World.size_alloc]
  clear hw
  have kr_0 := bxr.c 0 (.bool false) rfl
  have kr_1 := bxr.c 1 (.slice none 0 0) rfl
  have kr_2 := bxr.c 2 (.slice none 0 0) rfl
  have knu_0 := bxnu.c 0 (.bool si) rfl
  have knu_1 := bxnu.c 1 (.slice Ai Li ci) rfl
  have kde_0 := bxde.c 0 (.bool sj) rfl
  have kde_1 := bxde.c 1 (.slice Aj Lj cj) rfl
  have kon_0 := bxon.c 0 (.bool sk) rfl
  have kon_1 := bxon.c 1 (.slice Ak Lk ck) rfl
  go_wp2_with fail
  have HK : Hid (∀ w', Ext w7 w' → (w'.cell? ⟨w2.heap.size, 0, none⟩ = some (.bool si) ∧ w'.cell? ⟨w2.heap.size, 1, none⟩ = some (.slice Ai Li ci) ∧ w'.cell? ⟨w4.heap.size, 0, none⟩ = some (.bool sj) ∧ w'.cell? ⟨w4.heap.size, 1, none⟩ = some (.slice Aj Lj cj) ∧ w'.cell? ⟨w6.heap.size, 0, none⟩ = some (.bool sk) ∧ w'.cell? ⟨w6.heap.size, 1, none⟩ = some (.slice Ak Lk ck))) := fun w' hk => ⟨hk.cell knu_0, hk.cell knu_1, hk.cell kde_0, hk.cell kde_1, hk.cell kon_0, hk.cell kon_1⟩
  go_region_held3 (fun w' => w'.cell? ⟨w2.heap.size, 0, none⟩ = some (.bool si) ∧ w'.cell? ⟨w2.heap.size, 1, none⟩ = some (.slice Ai Li ci) ∧ w'.cell? ⟨w4.heap.size, 0, none⟩ = some (.bool sj) ∧ w'.cell? ⟨w4.heap.size, 1, none⟩ = some (.slice Aj Lj cj) ∧ w'.cell? ⟨w6.heap.size, 0, none⟩ = some (.bool sk) ∧ w'.cell? ⟨w6.heap.size, 1, none⟩ = some (.slice Ak Lk ck))
    ((with_reducible refine HK.out _ ?_; (repeat' (first | with_reducible exact Ext.refl _ | with_reducible assumption | with_reducible apply Ext.alloc_r | with_reducible apply Ext.drew_r | with_reducible apply Ext.drewN_r | with_reducible refine Ext.trans ?_ ‹Ext _ _›))))
    (first
      | (go_at_call 34; have hgd := g; clear hgd; refine (HS.out _ (g.zv.ext (by repeat' (first | with_reducible exact Ext.refl _ | with_reducible assumption | with_reducible apply Ext.alloc_r | with_reducible apply Ext.drew_r | with_reducible apply Ext.drewN_r | with_reducible refine Ext.trans ?_ ‹Ext _ _›))) (HO.out.zv.ext (by repeat' (first | with_reducible exact Ext.refl _ | with_reducible assumption | with_reducible apply Ext.alloc_r | with_reducible apply Ext.drew_r | with_reducible apply Ext.drewN_r | with_reducible refine Ext.trans ?_ ‹Ext _ _›)))).mono ?_; rintro e w10 ⟨rfl, x10⟩)
      | (go_at_call 92; refine (toZt HG.out (gcd_z (HI.out.zv.ext (by repeat' (first | with_reducible exact Ext.refl _ | with_reducible assumption | with_reducible apply Ext.alloc_r | with_reducible apply Ext.drew_r | with_reducible apply Ext.drewN_r | with_reducible refine Ext.trans ?_ ‹Ext _ _›))) (HJ.out.zv.ext (by repeat' (first | with_reducible exact Ext.refl _ | with_reducible assumption | with_reducible apply Ext.alloc_r | with_reducible apply Ext.drew_r | with_reducible apply Ext.drewN_r | with_reducible refine Ext.trans ?_ ‹Ext _ _›))) d1 d2)).mono ?_; rintro e w9 ⟨sg, Ag, cg, Lg, rfl, g, x9⟩)
      | (go_at_call 82; refine (cmp_is (HJ.out.zv.ext (by repeat' (first | with_reducible exact Ext.refl _ | with_reducible assumption | with_reducible apply Ext.alloc_r | with_reducible apply Ext.drew_r | with_reducible apply Ext.drewN_r | with_reducible refine Ext.trans ?_ ‹Ext _ _›))) (HO.out.zv.ext (by repeat' (first | with_reducible exact Ext.refl _ | with_reducible assumption | with_reducible apply Ext.alloc_r | with_reducible apply Ext.drew_r | with_reducible apply Ext.drewN_r | with_reducible refine Ext.trans ?_ ‹Ext _ _›))) HKK.out).mono ?_; rintro e w8 ⟨rfl, x8⟩))
  clear kr_0 kr_1 kr_2 knu_0 knu_1 kde_0 kde_1 kon_0 kon_1
  clear HK
  have szw8 : w7.heap.size ≤ w8.heap.size := (show Ext w7 w8 from (by repeat' (first | with_reducible exact Ext.refl _ | with_reducible assumption | with_reducible apply Ext.alloc_r | with_reducible apply Ext.drew_r | with_reducible apply Ext.drewN_r | with_reducible refine Ext.trans ?_ ‹Ext _ _›))).size
  have szw9 : w7.heap.size ≤ w9.heap.size := (show Ext w7 w9 from (by repeat' (first | with_reducible exact Ext.refl _ | with_reducible assumption | with_reducible apply Ext.alloc_r | with_reducible apply Ext.drew_r | with_reducible apply Ext.drewN_r | with_reducible refine Ext.trans ?_ ‹Ext _ _›))).size
  have xhw10 : Ext w7 w10 := (by repeat' (first | with_reducible exact Ext.refl _ | with_reducible assumption | with_reducible apply Ext.alloc_r | with_reducible apply Ext.drew_r | with_reducible apply Ext.drewN_r | with_reducible refine Ext.trans ?_ ‹Ext _ _›))
  have szw10 : w7.heap.size ≤ w10.heap.size := xhw10.size
  replace bxr := bxr.ext xhw10
  replace bxnu := bxnu.ext xhw10
  replace bxde := bxde.ext xhw10
  replace bxon := bxon.ext xhw10
  clear g HS HG HKK
  have kr_0 := bxr.c 0 (.bool false) rfl
  have fr_0 := bxr.f 0
  have kr_1 := bxr.c 1 (.slice none 0 0) rfl
  have fr_1 := bxr.f 1
  have kr_2 := bxr.c 2 (.slice none 0 0) rfl
  have fr_2 := bxr.f 2
  have knu_0 := bxnu.c 0 (.bool si) rfl
  have knu_1 := bxnu.c 1 (.slice Ai Li ci) rfl
  have kde_0 := bxde.c 0 (.bool sj) rfl
  have kde_1 := bxde.c 1 (.slice Aj Lj cj) rfl
  have kon_0 := bxon.c 0 (.bool sk) rfl
  have kon_1 := bxon.c 1 (.slice Ak Lk ck) rfl
  go_wp2_with fail
  clear kr_0 fr_0 kr_1 fr_1 kr_2 fr_2 knu_0 knu_1 kde_0 kde_1 kon_0 kon_1
  have i := HI.out
  have j := HJ.out
  clear HI HJ HO
  obtain ⟨w11, hw⟩ : ∃ z : World, z = (((w10.setCell ⟨w.heap.size, 0, none⟩ (.bool si)).setCell ⟨w.heap.size, 1, none⟩ (.slice Ai Li ci)).setCell ⟨w.heap.size, 2, none⟩ (.slice Aj Lj cj)) := ⟨_, rfl⟩
  rw [← hw]
  have kw11 : Kept w10 w11 := by rw [hw]; exact (Kept.set_ (Kept.set_ (Kept.set_ (Kept.refl _) bxr.isBox plain_rat) (IsBox.set_ bxr.isBox) plain_rat) (IsBox.set_ (IsBox.set_ bxr.isBox)) plain_rat)
  have nbr : BK w11 (w.heap.size) 27 #[.bool si, .slice Ai Li ci, .slice Aj Lj cj] := by rw [hw]; exact (BK.set (i := 2) (u := .slice Aj Lj cj) (vs' := #[.bool si, .slice Ai Li ci, .slice Aj Lj cj]) (BK.set (i := 1) (u := .slice Ai Li ci) (vs' := #[.bool si, .slice Ai Li ci, .slice none 0 0]) (BK.set (i := 0) (u := .bool si) (vs' := #[.bool si, .slice none 0 0, .slice none 0 0]) bxr rfl) rfl) rfl)
  have nbnu : BK w11 (w2.heap.size) 25 #[.bool si, .slice Ai Li ci] := by rw [hw]; exact (BK.far (BK.far (BK.far bxnu (show w2.heap.size ≠ w.heap.size by omega) 0 _) (show w2.heap.size ≠ w.heap.size by omega) 1 _) (show w2.heap.size ≠ w.heap.size by omega) 2 _)
  have nbde : BK w11 (w4.heap.size) 25 #[.bool sj, .slice Aj Lj cj] := by rw [hw]; exact (BK.far (BK.far (BK.far bxde (show w4.heap.size ≠ w.heap.size by omega) 0 _) (show w4.heap.size ≠ w.heap.size by omega) 1 _) (show w4.heap.size ≠ w.heap.size by omega) 2 _)
  have nbon : BK w11 (w6.heap.size) 25 #[.bool sk, .slice Ak Lk ck] := by rw [hw]; exact (BK.far (BK.far (BK.far bxon (show w6.heap.size ≠ w.heap.size by omega) 0 _) (show w6.heap.size ≠ w.heap.size by omega) 1 _) (show w6.heap.size ≠ w.heap.size by omega) 2 _)
  have x11 : Ext w w11 := by rw [hw]; have hxp : Ext w w10 := (by repeat' (first | with_reducible exact Ext.refl _ | with_reducible assumption | with_reducible apply Ext.alloc_r | with_reducible apply Ext.drew_r | with_reducible apply Ext.drewN_r | with_reducible refine Ext.trans ?_ ‹Ext _ _›)); exact (Ext.set_ (Ext.set_ (Ext.set_ hxp (show _ ≤ w.heap.size by omega)) (show _ ≤ w.heap.size by omega)) (show _ ≤ w.heap.size by omega))
  clear bxr
  clear bxnu
  clear bxde
  clear bxon
  have bxr := nbr
  clear nbr
  have bxnu := nbnu
  clear nbnu
  have bxde := nbde
  clear nbde
  have bxon := nbon
  clear nbon
  have szw11 : w11.heap.size = w10.heap.size := by rw [hw]; simp
  replace i := (i.ext (by repeat' (first | with_reducible exact Ext.refl _ | with_reducible assumption | with_reducible apply Ext.alloc_r | with_reducible apply Ext.drew_r | with_reducible apply Ext.drewN_r | with_reducible refine Ext.trans ?_ ‹Ext _ _›))).kept kw11
  replace j := (j.ext (by repeat' (first | with_reducible exact Ext.refl _ | with_reducible assumption | with_reducible apply Ext.alloc_r | with_reducible apply Ext.drew_r | with_reducible apply Ext.drewN_r | with_reducible refine Ext.trans ?_ ‹Ext _ _›))).kept kw11
  clear hw kw11
  have hro : RO w11 w.heap.size si Ai ci Li Aj cj Lj N q := ⟨by rw [e1]; exact i, by have h5 := j.no; rw [← e2, Int.natAbs_natCast] at h5; exact h5, by have h5 := j.len; rw [← e2, Int.natAbs_natCast] at h5; exact h5, b1, b2⟩
  have HRO := Lib.hid hro
  clear hro i j
  have kr_0 := bxr.c 0 (.bool si) rfl
  have kr_1 := bxr.c 1 (.slice Ai Li ci) rfl
  have kr_2 := bxr.c 2 (.slice Aj Lj cj) rfl
  refine bodyPost_ret (v := .tuple #[.agg #[.bool si, .slice Ai Li ci, .slice Aj Lj cj], .int .i64 0]) (by simp [results, Try.results54, go_sem, kr_0, kr_1, kr_2]) rfl ?_
  exact ⟨_, _, _, _, _, _, _, rfl, HRO.out, x11⟩
theorem cutof_size {s t b : ByteArray} {f : Bool} (h : CutOf (bs s) (bs t) (bs b) f) : t.size ≤ s.size ∧ (f = true → b.size ≤ s.size) := by
  have h1 := bs_length s
  have h2 := bs_length t
  have h3 := bs_length b
  rcases h with ⟨e, h4, _⟩ | ⟨e, h4, _⟩
  · rw [h4] at h2
    exact ⟨by omega, fun h => by rw [e] at h; cases h⟩
  · rw [h4, List.length_append, List.length_cons] at h1
    exact ⟨by omega, fun _ => by omega⟩
theorem rparse_yes {w : World} {s : ByteArray} {q : Rat} {N : Nat} (hs : s.size ≤ 1000000) (hm : ∃ m, w.cell? ⟨0, 0, none⟩ = some (.int .i64 m)) (h : bs s = fmtQ q) (b1 : dl q.num.natAbs ≤ N) (b2 : dl q.den ≤ N) (hN : 1 ≤ N) (hN2 : N ≤ 1000000) :
    Calls Try.prog 54 #[.string s] w (RetRE w N q) := by
  obtain ⟨t, b, f, hc, hcut⟩ := cut_any hs hm
  obtain ⟨z1, z2⟩ := cutof_size hc
  rw [h] at hc
  rcases fmtQ_cut hc with ⟨e1, e2, e3⟩ | ⟨e1, e2, e3, e4⟩
  · subst e1
    have hq : q = (q.num : Rat) := Rat.ext rfl e2
    rw [hq]
    exact rparse_B hcut (by omega) e3 b1 hN hN2
  · subst e1
    have hd := q.den_pos
    refine rparse_F hcut (by omega) e3 (by have := z2 rfl; omega) e4 (by omega) ?_ (by omega) (by rw [Int.natAbs_natCast]; omega) rfl rfl b1 b2
    rw [Int.natAbs_natCast]
    exact q.reduced
theorem rparse_no {w : World} {s : ByteArray} (hs : s.size ≤ 1000000) (hm : ∃ m, w.cell? ⟨0, 0, none⟩ = some (.int .i64 m)) (h : ∀ q, bs s ≠ fmtQ q) :
    Calls Try.prog 54 #[.string s] w (RetNoQ w) := by
  obtain ⟨t, b, f, hc, hcut⟩ := cut_any hs hm
  obtain ⟨z1, z2⟩ := cutof_size hc
  by_cases ht : ∃ x, bs t = fmtL 10 x
  · obtain ⟨x, hx⟩ := ht
    rcases hc with ⟨e1, e2, _⟩ | ⟨e1, e2, e3⟩
    · exact absurd (by rw [← e2, hx, fmtQ_int]) (h (x : Rat))
    · subst e1
      have z3 := z2 rfl
      have d1 : dl x.natAbs ≤ 1000000 := dl_fmt (by rw [← hx, bs_length]; omega)
      by_cases hb : ∃ y, bs b = fmtL 10 y
      · obtain ⟨y, hy⟩ := hb
        have d2 : dl y.natAbs ≤ 1000000 := dl_fmt (by rw [← hy, bs_length]; omega)
        rcases Int.lt_or_le 1 y with h1 | h1
        · by_cases hg : Nat.gcd x.natAbs y.natAbs = 1
          · exact absurd (by rw [e2, hx, hy, (fmtQ_frac h1 hg).2.2]) (h (mkRat x y.natAbs))
          · exact rparse_E hcut (by omega) hx (by omega) hy h1 hg d1 d2
        · exact rparse_D hcut (by omega) hx (by omega) hy h1
      · exact rparse_C hcut (by omega) hx (by omega) (fun y hy => hb ⟨y, hy⟩)
  · exact rparse_A hcut (by omega) (fun x hx => ht ⟨x, hx⟩)
end Go.Proofs.Ytfnmbhjifdfibaa
