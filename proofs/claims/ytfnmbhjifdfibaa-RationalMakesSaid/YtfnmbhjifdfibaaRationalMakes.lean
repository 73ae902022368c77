/- The statement RationalMakes: for every input the law returns true, and each argument reads afterwards as it read before. No condition is added. -/
import Derived.Test.YtfnmbhjifdfibaaRows
import Derived.Test.YtfnmbhjifdfibaaOpenZ
import Derived.Test.YtfnmbhjifdfibaaRationalMakesW
namespace Go.Proofs.Ytfnmbhjifdfibaa.rationalMakesDone
open Go.ChangeShapes Go.WideShapes Go.ChangeAt Go.RowKit Go.Proofs.Ytfnmbhjifdfibaa
open Go.ChangeMaps (open_string shut_string)

set_option maxRecDepth 100000 in
theorem lifted (os : Os) (started : os.Started) (H : Type) (enc : TypeId × Value → H) :
    ReturnsInHanded {} Try.checked os 4 .any (Rows.rationalMakesSpec.pre6 enc Try.prog Try.f4 Rows.rationalMakesRow.domain false) (Rows.rationalMakesSpec.post enc Try.prog Try.f4 false true false false) := by
  refine returnsInHanded_of_change (C := Try.checked) own_knob started (by kernel_rfl) Try.func4
    (ChangeSpec.witness6 (enc := enc) (C := Try.checked) false ⟨#[], #[.agg #[.bool false, .slice none 0 0], .agg #[.bool false, .slice none 0 0]], []⟩ 8 (by kernel_rfl) (by kernel_rfl) (by kernel_rfl) (by kernel_rfl)) ?_
  intro W base args ds gs before hval0 hW _ _
  have hval : ∀ (j : Nat) t v, Try.f4.params[j]? = some t → args[j]? = some v → Value.okWide Try.prog W .any base t v := hval0
  have hW' := hW
  obtain ⟨p, q, hA0, hV, rfl, _, _⟩ := hW
  have hA : DataW.TrodAll enc Try.prog W 0 (fun _ => true) true Try.f4.params.toList args.toList ds p := hA0
  rw [Try.params4] at hA hval
  obtain ⟨v0, vs0, d0, ds0, p0, q0, hargs, rfl, rfl, h0, r0⟩ := trodAll_cons hA
  obtain ⟨v1, vs1, d1, ds1, p1, q1, rfl, rfl, rfl, h1, r1⟩ := trodAll_cons r0
  obtain ⟨rfl, rfl, rfl⟩ := trodAll_nil r1
  obtain rfl : args = #[v0, v1] := by cases args; simp_all
  obtain ⟨rfl, rfl⟩ := trodVars_none hV
  have k0 := h0
  have lt0 : ∀ x ∈ p0, x.block < W.heap.size := by obtain ⟨m, hm⟩ := k0; exact DataW.trod_lt m _ _ _ hm
  have k1 := h1
  have lt1 : ∀ x ∈ p1, x.block < W.heap.size := by obtain ⟨m, hm⟩ := k1; exact DataW.trod_lt m _ _ _ hm
  obtain ⟨s0, A0, c0, l0, x0, rfl, n0⟩ := open_Z (hval 0 25 v0 rfl rfl) h0
  obtain ⟨s1, A1, c1, l1, x1, rfl, n1⟩ := open_Z (hval 1 25 v1 rfl rfl) h1
  clear hA0 hval0 hval
  refine (rationalMakes_walk n0 n1).mono fun e W' ⟨he, bel⟩ => ?_
  subst he
  exact ⟨_, rfl, _, _, _, [], _, [], hW', trodAll_mk1 (shut_bool Try.underlying4 _), (trodAll_cons_mk (Below.trod laidOut (by kernel_rfl) (of_decide_eq_true (by kernel_rfl)) k0 bel lt0) (trodAll_cons_mk (Below.trod laidOut (by kernel_rfl) (of_decide_eq_true (by kernel_rfl)) k1 bel lt1) trodAll_mk0)), rfl, bel.frame _, fun h => by cases h⟩

theorem fact0 : (Rows.rationalMakesRow.wf (OpenSpec.ofChange Rows.rationalMakesSpec) : Bool) = true := by kernel_rfl
theorem fact3 : (Try.f4.params.all (Try.prog.readableRec ·) : Bool) = true := by kernel_rfl
theorem fact4 : (namedTie Try.prog Rows.rationalMakesRow.named Rows.rationalMakesSpec.vars : Bool) = true := by kernel_rfl
theorem fact5 : ((Rows.rationalMakesRow.stops == []) : Bool) = true := by kernel_rfl
theorem fact7 : ((Rows.rationalMakesRow.knobs == []) : Bool) = true := by kernel_rfl
theorem fact9 : ((Rows.rationalMakesRow.inPlace == Try.prog.inPlace 4) : Bool) = true := by kernel_rfl
theorem fact10 : ((Rows.rationalMakesRow.unfollowed == Try.prog.unfollowed 4) : Bool) = true := by kernel_rfl
theorem fact11 : ((Rows.rationalMakesRow.recurses == Try.prog.recurses 4) : Bool) = true := by kernel_rfl
theorem fact12 : ((Rows.rationalMakesRow.named == Try.prog.varsNamed 4) : Bool) = true := by kernel_rfl
theorem fact13 : ((Rows.rationalMakesRow.maps == (Try.f4.params.toList ++ Rows.rationalMakesSpec.plain.varTypes Try.prog).any (Try.prog.mapsRec ·)) : Bool) = true := by kernel_rfl
theorem fact14 : ((Rows.rationalMakesRow.ifaces == (Try.f4.params.toList ++ Rows.rationalMakesSpec.plain.varTypes Try.prog).any (Try.prog.ifacesRec ·)) : Bool) = true := by kernel_rfl
theorem fact15 : ((Rows.rationalMakesRow.mapsOut == Try.prog.mapsAmong Try.f4.resultTypes.toList) : Bool) = true := by kernel_rfl
theorem fact16 : ((Rows.rationalMakesRow.loops == (Try.f4.params.toList ++ Rows.rationalMakesSpec.plain.varTypes Try.prog).any (Try.prog.loopsFrom ·)) : Bool) = true := by kernel_rfl
theorem fact17 : ((Rows.rationalMakesRow.wideKeys == (Try.f4.params.toList ++ Rows.rationalMakesSpec.plain.varTypes Try.prog ++ Try.f4.resultTypes.toList).any (Try.prog.wideKeysFrom ·)) : Bool) = true := by kernel_rfl
theorem fact18 : (Rows.rationalMakesSpec.vars.all (Try.prog.varReadable ·) : Bool) = true := by kernel_rfl
theorem fact19 : (Try.f4.resultTypes.all (fun t => Try.prog.readableRec t && decide (t < Try.prog.types.size)) : Bool) = true := by kernel_rfl
theorem fact20 : ((Rows.rationalMakesRow.ifacesOut == Try.f4.resultTypes.toList.any (Try.prog.ifacesRec ·)) : Bool) = true := by kernel_rfl
theorem fact21 : ((Rows.rationalMakesRow.loopsOut == Try.f4.resultTypes.toList.any (Try.prog.loopsFrom ·)) : Bool) = true := by kernel_rfl
theorem fact22 : ((Rows.rationalMakesRow.plainKeys == Try.prog.plainKeys) : Bool) = true := by kernel_rfl
theorem fact23 : (Rows.rationalMakesRow.shortTexts.isNone : Bool) = true := by kernel_rfl
theorem fact26 : ((Rows.rationalMakesRow.lifted == Try.prog.liftsFinal) : Bool) = true := by kernel_rfl
theorem fact27 : ((Try.prog.make == some Rows.rationalMakesRow.make) : Bool) = true := by kernel_rfl
theorem fact28 : ((Rows.rationalMakesRow.kinds == (if Rows.rationalMakesRow.domain.isEmpty then [] else Try.f4.params.toList.map fun t => match Try.prog.underlying t with | some (.int k) => some k | _ => none)) : Bool) = true := by kernel_rfl
theorem fact29 : ((Rows.rationalMakesRow.pinned == Rows.rationalMakesRow.pinnedBy) : Bool) = true := by kernel_rfl
theorem fact30 : ((Rows.rationalMakesRow.veiled == (Try.f4.params.toList ++ Rows.rationalMakesSpec.plain.varTypes Try.prog ++ Try.f4.resultTypes.toList).any (Try.prog.veiledRec ·)) : Bool) = true := by kernel_rfl
theorem fact31 : (Rows.rationalMakesRow.veiledFits Try.prog Try.f4.params.toList (Try.f4.params.toList ++ Rows.rationalMakesSpec.plain.varTypes Try.prog ++ Try.f4.resultTypes.toList) : Bool) = true := by kernel_rfl
set_option maxRecDepth 100000 in
theorem closed : joinedFacts Try.prog 4 Try.f4 Rows.rationalMakesSpec Rows.rationalMakesRow = true := and_true (and_true (and_true (and_true (and_true (and_true (and_true (and_true (and_true (and_true (and_true (and_true (and_true (and_true (and_true (and_true (and_true (and_true (and_true (and_true (and_true (and_true (and_true (and_true (and_true (and_true (and_true (and_true (and_true (and_true (and_true fact0 laidOut) shared_fact2) fact3) fact4) fact5) shared_fact6) fact7) shared_fact8) fact9) fact10) fact11) fact12) fact13) fact14) fact15) fact16) fact17) fact18) fact19) fact20) fact21) fact22) fact23) shared_fact24) shared_fact25) fact26) fact27) fact28) fact29) fact30) fact31

theorem over : Rows.rationalMakesRow.holds Try.pinned (OpenSpec.ofChange Rows.rationalMakesSpec) :=
  OpenClaim.holds_of_wide 4 Try.f4 rfl rfl rfl rfl rfl rfl rfl ⟨rfl, rfl, rfl, rfl, rfl⟩ rfl rfl rfl rfl rfl (by as_aux_lemma => kernel_rfl) Try.func4 closed
    (of_decide_eq_true (by kernel_rfl)) (by unfold Func.isWrapper; first | (rw [if_pos (by decide +kernel)]; kernel_rfl) | (rw [if_neg (by decide +kernel)]; exact ⟨rfl, rfl⟩))
    (fun os started H enc _ => lifted os started H enc)

theorem proved : Rows.RationalMakesSaid := over
#print axioms proved
end Go.Proofs.Ytfnmbhjifdfibaa.rationalMakesDone
