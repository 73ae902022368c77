/- Statements about layer 4 (decimal): the law's own helpers. -/
import Derived.Test.YtjhknnioefipmaaLaw2
import Derived.Test.YtjhknnioefipmaaDecC
import Derived.Test.YtjhknnioefipmaaRefI
namespace Go.Proofs.Ytjhknnioefipmaa
open Go.RowKit

theorem lof4 {w : World} {s : Bool} {A : Option Addr} {c L : Nat} {x : Int} (h : ZV w s A c L x) (hs : L ≤ 274877906944) :
    Calls Try.prog 13 #[.agg #[.bool s, .slice A L c]] w (RetRZ w x) := by
  go_enter Try.func13, Try.ntmps13
  go_wp2_with fail
  obtain ⟨w0, hw0⟩ : ∃ w0 : World, w0 = ((w.alloc (.cells #[.bool s, .slice A L c] 25)).alloc (.cells #[.int .i64 0, .slice none 0 0] 30)) := ⟨_, rfl⟩
  rw [← hw0]
  have b0 := box_new w (.bool s) (.slice A L c) 25
  have b1 := box_new (w.alloc (.cells #[.bool s, .slice A L c] 25)) (.int .i64 0) (.slice none 0 0) 30
  rw [← hw0] at b1
  have y1 : Ext (w.alloc (.cells #[.bool s, .slice A L c] 25)) w0 := by rw [hw0]; exact Ext.alloc _ _
  have y0 : Ext w w0 := (Ext.alloc _ _).trans y1
  have x0 : Ext w w0 := y0
  have e0a := y1.cell b0.1
  have e0b := y1.cell b0.2.1
  have q1 := b1.1
  have q2 := b1.2.1
  have f1 := b1.2.2 0
  have f2 := b1.2.2 1
  simp at q1 q2 f1 f2
  clear hw0 b0 b1 y0 y1
  go_wp2_with fail
  refine (of_rz (h.ext x0) hs).mono ?_
  rintro e w4 ⟨sg, A4, c4, L4, rfl, hz, hx4⟩
  have p1 := hx4.frozen q1 f1
  have p2 := hx4.frozen q2 f2
  have t1 := hx4.cell q1
  have t2 := hx4.cell q2
  obtain ⟨r5, r6, hz', hxx⟩ := fin_rz (Nat.le_succ _) (x0.trans hx4) hz t1 t2
  go_wp2_with fail
  refine bodyPost_ret (v := .agg #[.int .i64 sg, .slice A4 L4 c4]) (by simp [results, Try.results13, go_sem, r5, r6]) rfl ?_
  exact ⟨_, _, _, _, rfl, hz', hxx⟩

theorem lis4 {w : World} {B : Nat} {s : Bool} {sg x : Int} {A A2 : Option Addr} {c c2 L L2 : Nat} (h1 : ZO w B s A c L x) (h2 : RZ w sg A2 c2 L2 x) (hs : bl x.natAbs ≤ 8796093022208) :
    Calls Try.prog 21 #[.agg #[.bool s, .slice A L c], .agg #[.int .i64 sg, .slice A2 L2 c2]] w fun e w' => e = .returned (.bool true) ∧ Ext w w' := by
  have HI : Hid (∀ w', Ext w w' → Calls Try.prog 40 #[.bool s, .slice A L c, .agg #[.int .i64 sg, .slice A2 L2 c2]] w' fun e w'' => e = .returned (.bool true) ∧ Ext w' w'') := fun w' hx => is_rz (h1.ext hx) (h2.ext hx) hs
  clear h1 h2
  go_enter Try.func21, Try.ntmps21
  go_wp2_with fail
  refine (HI.out _ ((Ext.alloc _ _).trans (Ext.alloc _ _))).mono ?_
  rintro e w' ⟨rfl, hx⟩
  go_wp2_with fail
  go_ret
  exact ⟨rfl, ((Ext.alloc _ _).trans (Ext.alloc _ _)).trans hx⟩

theorem lawake4 (w : World) : Calls Try.prog 11 #[] w fun e w' => e = .returned (.bool true) ∧ Ext w w' := by
  have hd : digs 10 1234567 = [7, 6, 5, 4, 3, 2, 1] := by
    have := digs_of_val (B := 10) (ds := [7, 6, 5, 4, 3, 2, 1]) (by omega) (by unfold Valid; simp) (by simp)
    simpa [val] using this
  have hf : fmtL 10 (-1234567) = [45, 49, 50, 51, 52, 53, 54, 55] := by
    unfold fmtL
    rw [if_pos (by omega), if_neg (by omega)]
    show [45] ++ ((digs 10 1234567).map sym).reverse = _
    rw [hd]
    rfl
  have hdl : dl (-1234567 : Int).natAbs ≤ 1 := dl_le (by show 1234567 < _; unfold B32; omega)
  have H1 : Hid (∀ w, Calls Try.prog 28 #[.int .i64 (-1234567)] w (RetZ w (-1234567))) := fun w => of_z (by omega)
  have H2 : Hid (∀ w s A c L, ZV w s A c L (-1234567) → Calls Try.prog 14 #[.agg #[.bool s, .slice A L c]] w fun e w' => e = .returned (.string ⟨#[45, 49, 50, 51, 52, 53, 54, 55]⟩) ∧ Ext w w') := by
    intro w s A c L h
    refine (Format_z h (by omega)).mono ?_
    rintro e w' ⟨t, rfl, ht, hx⟩
    rw [hf] at ht
    have : t = ⟨#[45, 49, 50, 51, 52, 53, 54, 55]⟩ := bs_inj (by rw [ht]; rfl)
    rw [this]
    exact ⟨rfl, hx⟩
  clear hd hf hdl
  go_enter Try.func11, Try.ntmps11
  go_wp2_with fail
  refine (H1.out _).mono ?_
  rintro e w1 ⟨s1, A1, c1, L1, rfl, z1, x1⟩
  go_wp2_with fail
  refine (H2.out _ _ _ _ _ z1.zv).mono ?_
  rintro e w2 ⟨rfl, x2⟩
  go_wp2_with fail
  go_ret
  exact ⟨by rfl, x1.trans x2⟩
end Go.Proofs.Ytjhknnioefipmaa
