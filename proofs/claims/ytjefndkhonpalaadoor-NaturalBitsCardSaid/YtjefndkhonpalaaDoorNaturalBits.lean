/- The statement NaturalBits, as the card asks it: for every input the law returns true, and each argument reads afterwards as it read before, where the table math/bits.deBruijn32tab holds what the program's own text lays there. No other condition is added. -/
import Derived.Test.YtjefndkhonpalaaDoorRows
import Derived.Test.YtjefndkhonpalaaDoorTie
import Derived.Test.YtjefndkhonpalaaDoorCards
import Derived.LaidMore
import Derived.Stop.Joined
import Derived.SevenTiedAt
import Derived.Test.YtjefndkhonpalaaDoorOpen
import Derived.Test.YtjefndkhonpalaaDoorNaturalBitsW
namespace Go.Proofs.YtjefndkhonpalaaDoor.naturalBitsDone
open Go.ChangeShapes Go.WideShapes Go.ChangeAt Go.RowKit Go.Proofs.YtjefndkhonpalaaDoor
open Go.ChangeMaps (open_string shut_string)

theorem gTab : Tryd.prog.globalNamed "math/bits.deBruijn32tab" = some 0 := by kernel_rfl
theorem tTab : (Tryd.prog.globals[0]?).map (·.type) = some 40 := by kernel_rfl
theorem cells_u8 : Tryd.prog.cellsOf 5 = 1 := by kernel_rfl
/-- The door's own heap meets the condition. -/
theorem door_met (os : Os) (args : Array Value) : laidMetH Tryd.prog Rows.naturalBitsRow.laid ((World.doorLaid Tryd.prog 400 os).forCall (fun _ _ => 0) ⟨#[], args, []⟩).memory :=
  laidMetH_of_parts3 (fuel := 8) (laidMet_of_run' 8 (by kernel_rfl) (by kernel_rfl)) (by kernel_rfl) (by kernel_rfl)
/-- What the condition says: the table stands in its variable. -/
theorem of_laid {W : World} (h : laidMetH Tryd.prog Rows.naturalBitsRow.laid W) : TabAt 0 Lib.deBruijn32tab W := by
  rw [MakeChecks.laidMetH_plain _ _ _ (by kernel_rfl)] at h
  obtain ⟨ps, ⟨g0, t0, cs0, f0, p0, q0, hg0, ht0, hv0, hd0, _, _⟩, _, _⟩ := h
  obtain rfl := Option.some.inj (gTab.symm.trans hg0)
  obtain rfl := Option.some.inj (tTab.symm.trans ht0)
  obtain ⟨xs, m1, rfl, hx1, _, hn, hel⟩ := DataW.trod_array Tryd.underlying40 hd0
  simp only [Prod.mk.injEq] at hx1
  have hx2 : xs.map (·.1) = Lib.deBruijn32tab.map (fun (k : Nat) => DataW.lit (.int .u8 (k : Int))) := by
    have h5 := hx1.1.symm
    injection h5
  intro j hj
  have hj2 : j < 32 := hj
  have h1 := hel j hj2
  rw [List.getElem?_eq_getElem (by omega), cells_u8, Nat.mul_one] at h1
  obtain ⟨k, e1, e2, _⟩ := DataW.trod_int Tryd.underlying5 h1
  have h3 : (xs.map (·.1))[j]? = some (DataW.lit (.int .u8 k)) := by
    rw [List.getElem?_map, List.getElem?_eq_getElem (by omega), e2]; rfl
  rw [hx2, List.getElem?_map, List.getElem?_eq_getElem hj] at h3
  simp only [Option.map_some, Option.some.injEq, DataW.lit.injEq, Lit.int.injEq, true_and] at h3
  rw [World.var?_cell hg0 hv0 j]
  have h4 : cs0.toList[j]? = some (.int .u8 k) := by
    have h5 := congrArg (·[0]?) e1
    simpa [List.getElem?_take, List.getElem?_drop] using h5
  rw [← Array.getElem?_toList, h4, ← h3]
  congr 3
  rw [List.getD_eq_getElem?_getD, List.getElem?_eq_getElem hj]
  rfl

set_option maxRecDepth 100000 in
theorem lifted (os : Os) (started : os.Started) (H : Type) (enc : TypeId × Value → H) :
    ReturnsInHanded {} Tryd.checked os 3 .any (fun w args => (Rows.naturalBitsSpec.pre enc Tryd.prog Tryd.f3 [] false w args ∧ laidMetH Tryd.prog Rows.naturalBitsRow.laid w) ∧ sizedMet enc Tryd.prog Tryd.f3 (OpenSpec.ofChange Rows.naturalBitsSpec) false w args)
      (Rows.naturalBitsSpec.post enc Tryd.prog Tryd.f3 false true false false) := by
  refine returnsInHanded_of_change_and (C := Tryd.checked) (X := fun w _ => laidMetH Tryd.prog Rows.naturalBitsRow.laid w) (fun _ _ _ hh h => h.of_heap hh) own_knob started (by kernel_rfl) Tryd.func3
    (ChangeSpec.witness_shaped (enc := enc) (C := Tryd.checked) (os := os) (X := fun w _ => laidMetH Tryd.prog Rows.naturalBitsRow.laid w) false (World.doorLaid Tryd.prog 400 os) #[.slice none 0 0, .int .i64 0] 8 rfl (World.shaped_of_RefB (by kernel_rfl) (by kernel_rfl)) (by kernel_rfl) (by kernel_rfl) (by kernel_rfl) (door_met os _)) ?_
  intro W base args ds gs before hval0 hW _ _ hL _
  have hval : ∀ (j : Nat) t v, Tryd.f3.params[j]? = some t → args[j]? = some v → Value.okWide Tryd.prog W .any base t v := hval0
  have hW' := hW
  obtain ⟨p, q, hA0, hV, rfl, _, _⟩ := hW
  have hA : DataW.TrodAll enc Tryd.prog W 0 (fun _ => true) true Tryd.f3.params.toList args.toList ds p := hA0
  rw [Tryd.params3] at hA hval
  obtain ⟨v0, vs0, d0, ds0, p0, q0, hargs, rfl, rfl, h0, r0⟩ := trodAll_cons hA
  obtain ⟨v1, vs1, d1, ds1, p1, q1, rfl, rfl, rfl, h1, r1⟩ := trodAll_cons r0
  obtain ⟨rfl, rfl, rfl⟩ := trodAll_nil r1
  obtain rfl : args = #[v0, v1] := by cases args; simp_all
  obtain ⟨rfl, rfl⟩ := trodVars_none hV
  have k0 := h0
  have lt0 : ∀ x ∈ p0, x.block < W.heap.size := by obtain ⟨m, hm⟩ := k0; exact DataW.trod_lt m _ _ _ hm
  have k1 := h1
  have lt1 : ∀ x ∈ p1, x.block < W.heap.size := by obtain ⟨m, hm⟩ := k1; exact DataW.trod_lt m _ _ _ hm
  obtain ⟨A0, c0, e0, rfl, n0⟩ := open_nat (hval 0 22 v0 rfl rfl) h0
  obtain ⟨e1, rfl, n1⟩ := open_int_ (hval 1 3 v1 rfl rfl) h1
  clear hA0 hval0 hval
  refine (naturalBits_walk (of_laid hL) n0 n1).mono fun e W' ⟨he, bel⟩ => ?_
  subst he
  exact ⟨_, rfl, _, _, _, [], _, [], hW', trodAll_mk1 (shut_bool Tryd.underlying4 _), (trodAll_cons_mk (Below.trod laidOut (by kernel_rfl) (of_decide_eq_true (by kernel_rfl)) k0 bel lt0) (trodAll_cons_mk (Below.trod laidOut (by kernel_rfl) (of_decide_eq_true (by kernel_rfl)) k1 bel lt1) trodAll_mk0)), rfl, bel.frame _, fun h => by cases h⟩

theorem fact0 : (Rows.naturalBitsRow.wf (OpenSpec.ofChange Rows.naturalBitsSpec) : Bool) = true := by kernel_rfl
theorem fact3 : (Tryd.f3.params.all (Tryd.prog.readableRec ·) : Bool) = true := by kernel_rfl
theorem fact4 : (namedTie Tryd.prog Rows.naturalBitsRow.named Rows.naturalBitsSpec.vars : Bool) = true := by kernel_rfl
theorem fact5 : ((Rows.naturalBitsRow.stops == []) : Bool) = true := by kernel_rfl
theorem fact7 : ((Rows.naturalBitsRow.knobs == []) : Bool) = true := by kernel_rfl
theorem fact9 : ((Rows.naturalBitsRow.inPlace == Tryd.prog.inPlace 3) : Bool) = true := by kernel_rfl
theorem fact10 : ((Rows.naturalBitsRow.unfollowed == Tryd.prog.unfollowed 3) : Bool) = true := by kernel_rfl
theorem fact11 : ((Rows.naturalBitsRow.recurses == Tryd.prog.recurses 3) : Bool) = true := by kernel_rfl
theorem fact12 : ((Rows.naturalBitsRow.named == Tryd.prog.varsNamed 3) : Bool) = true := by kernel_rfl
theorem fact13 : ((Rows.naturalBitsRow.maps == (Tryd.f3.params.toList ++ Rows.naturalBitsSpec.plain.varTypes Tryd.prog).any (Tryd.prog.mapsRec ·)) : Bool) = true := by kernel_rfl
theorem fact14 : ((Rows.naturalBitsRow.ifaces == (Tryd.f3.params.toList ++ Rows.naturalBitsSpec.plain.varTypes Tryd.prog).any (Tryd.prog.ifacesRec ·)) : Bool) = true := by kernel_rfl
theorem fact15 : ((Rows.naturalBitsRow.mapsOut == Tryd.prog.mapsAmong Tryd.f3.resultTypes.toList) : Bool) = true := by kernel_rfl
theorem fact16 : ((Rows.naturalBitsRow.loops == (Tryd.f3.params.toList ++ Rows.naturalBitsSpec.plain.varTypes Tryd.prog).any (Tryd.prog.loopsFrom ·)) : Bool) = true := by kernel_rfl
theorem fact17 : ((Rows.naturalBitsRow.wideKeys == (Tryd.f3.params.toList ++ Rows.naturalBitsSpec.plain.varTypes Tryd.prog ++ Tryd.f3.resultTypes.toList).any (Tryd.prog.wideKeysFrom ·)) : Bool) = true := by kernel_rfl
theorem fact18 : (Rows.naturalBitsSpec.vars.all (Tryd.prog.varReadable ·) : Bool) = true := by kernel_rfl
theorem fact19 : (Tryd.f3.resultTypes.all (fun t => Tryd.prog.readableRec t && decide (t < Tryd.prog.types.size)) : Bool) = true := by kernel_rfl
theorem fact20 : ((Rows.naturalBitsRow.ifacesOut == Tryd.f3.resultTypes.toList.any (Tryd.prog.ifacesRec ·)) : Bool) = true := by kernel_rfl
theorem fact21 : ((Rows.naturalBitsRow.loopsOut == Tryd.f3.resultTypes.toList.any (Tryd.prog.loopsFrom ·)) : Bool) = true := by kernel_rfl
theorem fact22 : ((Rows.naturalBitsRow.plainKeys == Tryd.prog.plainKeys) : Bool) = true := by kernel_rfl
theorem fact23 : (Rows.naturalBitsRow.shortTexts.isNone : Bool) = true := by kernel_rfl
theorem fact26 : ((Rows.naturalBitsRow.lifted == Tryd.prog.liftsFinal) : Bool) = true := by kernel_rfl
theorem fact27 : ((Tryd.prog.make == some Rows.naturalBitsRow.make) : Bool) = true := by kernel_rfl
theorem fact28 : ((Rows.naturalBitsRow.kinds == (if Rows.naturalBitsRow.domain.isEmpty then [] else Tryd.f3.params.toList.map fun t => match Tryd.prog.underlying t with | some (.int k) => some k | _ => none)) : Bool) = true := by kernel_rfl
theorem fact29 : ((Rows.naturalBitsRow.pinned == Rows.naturalBitsRow.pinnedBy) : Bool) = true := by kernel_rfl
theorem fact30 : ((Rows.naturalBitsRow.veiled == (Tryd.f3.params.toList ++ Rows.naturalBitsSpec.plain.varTypes Tryd.prog ++ Tryd.f3.resultTypes.toList).any (Tryd.prog.veiledRec ·)) : Bool) = true := by kernel_rfl
theorem fact31 : (Rows.naturalBitsRow.veiledFits Tryd.prog Tryd.f3.params.toList (Tryd.f3.params.toList ++ Rows.naturalBitsSpec.plain.varTypes Tryd.prog ++ Tryd.f3.resultTypes.toList) : Bool) = true := by kernel_rfl
set_option maxRecDepth 100000 in
theorem closed : joinedFacts Tryd.prog 3 Tryd.f3 Rows.naturalBitsSpec Rows.naturalBitsRow = true := and_true (and_true (and_true (and_true (and_true (and_true (and_true (and_true (and_true (and_true (and_true (and_true (and_true (and_true (and_true (and_true (and_true (and_true (and_true (and_true (and_true (and_true (and_true (and_true (and_true (and_true (and_true (and_true (and_true (and_true (and_true fact0 laidOut) shared_fact2) fact3) fact4) fact5) shared_fact6) fact7) shared_fact8) fact9) fact10) fact11) fact12) fact13) fact14) fact15) fact16) fact17) fact18) fact19) fact20) fact21) fact22) fact23) shared_fact24) shared_fact25) fact26) fact27) fact28) fact29) fact30) fact31

theorem over : Rows.naturalBitsRow.holds Tryd.pinned (OpenSpec.ofChange Rows.naturalBitsSpec) :=
  OpenClaim.holds_of_wide 3 Tryd.f3 rfl rfl rfl rfl rfl rfl rfl ⟨rfl, rfl, rfl, rfl, rfl⟩ rfl rfl rfl rfl rfl (by as_aux_lemma => kernel_rfl) Tryd.func3 closed
    (of_decide_eq_true (by kernel_rfl)) (by unfold Func.isWrapper; first | (rw [if_pos (by decide +kernel)]; kernel_rfl) | (rw [if_neg (by decide +kernel)]; exact ⟨rfl, rfl⟩))
    (fun os started H enc _ => lifted os started H enc)

theorem proved : Rows.NaturalBitsCardSaid :=
  Claim7.holds_tied_plain_at .later [] [.data] true (true, "3bf33f2a634353908b8f913c7ac81fe025d543e57582b7fa6f50f83bae922e1d") false
    over (fun _ h => by cases h) (by kernel_rfl) (fun _ h => by cases h) naturalBits_row_tie rfl ⟨rfl, rfl⟩ (by kernel_rfl) rfl
    (fun f fn hf hfn => by
      obtain rfl : f = 3 := Option.some.inj ((show Tryd.prog.funcNamed "cylinder/cylinderlaw01.NaturalBits" = some 3 by kernel_rfl).symm.trans hf) |>.symm
      obtain rfl : fn = Tryd.f3 := (Option.some.inj (Tryd.func3.symm.trans hfn)).symm
      exact ⟨by kernel_rfl, fun j t ht => by
        rw [Tryd.params3] at ht
        have hm : t ∈ [22, 3] := by simpa using Array.mem_of_getElem? ht
        have hall : ([22, 3].all fun u => !Tryd.prog.wantsStandIn u) = true := by kernel_rfl
        exact (show Tryd.prog.wantsStandIn t = false by simpa using List.all_eq_true.1 hall t hm)⟩)
    (by kernel_rfl)
#print axioms proved
end Go.Proofs.YtjefndkhonpalaaDoor.naturalBitsDone
