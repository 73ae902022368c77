/- The statement RationalDecimals: for every input the law returns true, and each argument reads afterwards as it read before. No condition is added. -/
import Derived.Test.YtfnmbhjifdfibaaRows
import Derived.Test.YtfnmbhjifdfibaaOpenR
import Derived.Test.YtfnmbhjifdfibaaRationalDecimalsW
namespace Go.Proofs.Ytfnmbhjifdfibaa.rationalDecimalsDone
open Go.ChangeShapes Go.WideShapes Go.ChangeAt Go.RowKit Go.Proofs.Ytfnmbhjifdfibaa
open Go.ChangeMaps (open_string shut_string)

set_option maxRecDepth 100000 in
theorem lifted (os : Os) (started : os.Started) (H : Type) (enc : TypeId × Value → H) :
    ReturnsInHanded {} Try.checked os 3 .any (Rows.rationalDecimalsSpec.pre6 enc Try.prog Try.f3 Rows.rationalDecimalsRow.domain false) (Rows.rationalDecimalsSpec.post enc Try.prog Try.f3 false true false false) := by
  refine returnsInHanded_of_change (C := Try.checked) own_knob started (by kernel_rfl) Try.func3
    (ChangeSpec.witness6 (enc := enc) (C := Try.checked) false ⟨#[], #[.agg #[.bool false, .slice none 0 0, .slice none 0 0], .int .i64 0], []⟩ 8 (by kernel_rfl) (by kernel_rfl) (by kernel_rfl) (by kernel_rfl)) ?_
  intro W base args ds gs before hval0 hW _ _
  have hval : ∀ (j : Nat) t v, Try.f3.params[j]? = some t → args[j]? = some v → Value.okWide Try.prog W .any base t v := hval0
  have hW' := hW
  obtain ⟨p, q, hA0, hV, rfl, _, _⟩ := hW
  have hA : DataW.TrodAll enc Try.prog W 0 (fun _ => true) true Try.f3.params.toList args.toList ds p := hA0
  rw [Try.params3] at hA hval
  obtain ⟨v0, vs0, d0, ds0, p0, q0, hargs, rfl, rfl, h0, r0⟩ := trodAll_cons hA
  obtain ⟨v1, vs1, d1, ds1, p1, q1, rfl, rfl, rfl, h1, r1⟩ := trodAll_cons r0
  obtain ⟨rfl, rfl, rfl⟩ := trodAll_nil r1
  obtain rfl : args = #[v0, v1] := by cases args; simp_all
  obtain ⟨rfl, rfl⟩ := trodVars_none hV
  have k0 := h0
  have lt0 : ∀ x ∈ p0, x.block < W.heap.size := by obtain ⟨m, hm⟩ := k0; exact DataW.trod_lt m _ _ _ hm
  have k1 := h1
  have lt1 : ∀ x ∈ p1, x.block < W.heap.size := by obtain ⟨m, hm⟩ := k1; exact DataW.trod_lt m _ _ _ hm
  obtain ⟨s0, A0, c0, L0, B0, d0, M0, x0, y0, rfl, n0⟩ := open_R (hval 0 27 v0 rfl rfl) h0
  obtain ⟨e1, rfl, n1⟩ := open_int_ (hval 1 3 v1 rfl rfl) h1
  clear hA0 hval0 hval
  refine (rationalDecimals_walk n0 n1).mono fun e W' ⟨he, bel⟩ => ?_
  subst he
  exact ⟨_, rfl, _, _, _, [], _, [], hW', trodAll_mk1 (shut_bool Try.underlying4 _), (trodAll_cons_mk (Below.trod laidOut (by kernel_rfl) (of_decide_eq_true (by kernel_rfl)) k0 bel lt0) (trodAll_cons_mk (Below.trod laidOut (by kernel_rfl) (of_decide_eq_true (by kernel_rfl)) k1 bel lt1) trodAll_mk0)), rfl, bel.frame _, fun h => by cases h⟩

theorem fact0 : (Rows.rationalDecimalsRow.wf (OpenSpec.ofChange Rows.rationalDecimalsSpec) : Bool) = true := by kernel_rfl
theorem fact3 : (Try.f3.params.all (Try.prog.readableRec ·) : Bool) = true := by kernel_rfl
theorem fact4 : (namedTie Try.prog Rows.rationalDecimalsRow.named Rows.rationalDecimalsSpec.vars : Bool) = true := by kernel_rfl
theorem fact5 : ((Rows.rationalDecimalsRow.stops == []) : Bool) = true := by kernel_rfl
theorem fact7 : ((Rows.rationalDecimalsRow.knobs == []) : Bool) = true := by kernel_rfl
theorem fact9 : ((Rows.rationalDecimalsRow.inPlace == Try.prog.inPlace 3) : Bool) = true := by kernel_rfl
theorem fact10 : ((Rows.rationalDecimalsRow.unfollowed == Try.prog.unfollowed 3) : Bool) = true := by kernel_rfl
theorem fact11 : ((Rows.rationalDecimalsRow.recurses == Try.prog.recurses 3) : Bool) = true := by kernel_rfl
theorem fact12 : ((Rows.rationalDecimalsRow.named == Try.prog.varsNamed 3) : Bool) = true := by kernel_rfl
theorem fact13 : ((Rows.rationalDecimalsRow.maps == (Try.f3.params.toList ++ Rows.rationalDecimalsSpec.plain.varTypes Try.prog).any (Try.prog.mapsRec ·)) : Bool) = true := by kernel_rfl
theorem fact14 : ((Rows.rationalDecimalsRow.ifaces == (Try.f3.params.toList ++ Rows.rationalDecimalsSpec.plain.varTypes Try.prog).any (Try.prog.ifacesRec ·)) : Bool) = true := by kernel_rfl
theorem fact15 : ((Rows.rationalDecimalsRow.mapsOut == Try.prog.mapsAmong Try.f3.resultTypes.toList) : Bool) = true := by kernel_rfl
theorem fact16 : ((Rows.rationalDecimalsRow.loops == (Try.f3.params.toList ++ Rows.rationalDecimalsSpec.plain.varTypes Try.prog).any (Try.prog.loopsFrom ·)) : Bool) = true := by kernel_rfl
theorem fact17 : ((Rows.rationalDecimalsRow.wideKeys == (Try.f3.params.toList ++ Rows.rationalDecimalsSpec.plain.varTypes Try.prog ++ Try.f3.resultTypes.toList).any (Try.prog.wideKeysFrom ·)) : Bool) = true := by kernel_rfl
theorem fact18 : (Rows.rationalDecimalsSpec.vars.all (Try.prog.varReadable ·) : Bool) = true := by kernel_rfl
theorem fact19 : (Try.f3.resultTypes.all (fun t => Try.prog.readableRec t && decide (t < Try.prog.types.size)) : Bool) = true := by kernel_rfl
theorem fact20 : ((Rows.rationalDecimalsRow.ifacesOut == Try.f3.resultTypes.toList.any (Try.prog.ifacesRec ·)) : Bool) = true := by kernel_rfl
theorem fact21 : ((Rows.rationalDecimalsRow.loopsOut == Try.f3.resultTypes.toList.any (Try.prog.loopsFrom ·)) : Bool) = true := by kernel_rfl
theorem fact22 : ((Rows.rationalDecimalsRow.plainKeys == Try.prog.plainKeys) : Bool) = true := by kernel_rfl
theorem fact23 : (Rows.rationalDecimalsRow.shortTexts.isNone : Bool) = true := by kernel_rfl
theorem fact26 : ((Rows.rationalDecimalsRow.lifted == Try.prog.liftsFinal) : Bool) = true := by kernel_rfl
theorem fact27 : ((Try.prog.make == some Rows.rationalDecimalsRow.make) : Bool) = true := by kernel_rfl
theorem fact28 : ((Rows.rationalDecimalsRow.kinds == (if Rows.rationalDecimalsRow.domain.isEmpty then [] else Try.f3.params.toList.map fun t => match Try.prog.underlying t with | some (.int k) => some k | _ => none)) : Bool) = true := by kernel_rfl
theorem fact29 : ((Rows.rationalDecimalsRow.pinned == Rows.rationalDecimalsRow.pinnedBy) : Bool) = true := by kernel_rfl
theorem fact30 : ((Rows.rationalDecimalsRow.veiled == (Try.f3.params.toList ++ Rows.rationalDecimalsSpec.plain.varTypes Try.prog ++ Try.f3.resultTypes.toList).any (Try.prog.veiledRec ·)) : Bool) = true := by kernel_rfl
theorem fact31 : (Rows.rationalDecimalsRow.veiledFits Try.prog Try.f3.params.toList (Try.f3.params.toList ++ Rows.rationalDecimalsSpec.plain.varTypes Try.prog ++ Try.f3.resultTypes.toList) : Bool) = true := by kernel_rfl
set_option maxRecDepth 100000 in
theorem closed : joinedFacts Try.prog 3 Try.f3 Rows.rationalDecimalsSpec Rows.rationalDecimalsRow = true := and_true (and_true (and_true (and_true (and_true (and_true (and_true (and_true (and_true (and_true (and_true (and_true (and_true (and_true (and_true (and_true (and_true (and_true (and_true (and_true (and_true (and_true (and_true (and_true (and_true (and_true (and_true (and_true (and_true (and_true (and_true fact0 laidOut) shared_fact2) fact3) fact4) fact5) shared_fact6) fact7) shared_fact8) fact9) fact10) fact11) fact12) fact13) fact14) fact15) fact16) fact17) fact18) fact19) fact20) fact21) fact22) fact23) shared_fact24) shared_fact25) fact26) fact27) fact28) fact29) fact30) fact31

theorem over : Rows.rationalDecimalsRow.holds Try.pinned (OpenSpec.ofChange Rows.rationalDecimalsSpec) :=
  OpenClaim.holds_of_wide 3 Try.f3 rfl rfl rfl rfl rfl rfl rfl ⟨rfl, rfl, rfl, rfl, rfl⟩ rfl rfl rfl rfl rfl (by as_aux_lemma => kernel_rfl) Try.func3 closed
    (of_decide_eq_true (by kernel_rfl)) (by unfold Func.isWrapper; first | (rw [if_pos (by decide +kernel)]; kernel_rfl) | (rw [if_neg (by decide +kernel)]; exact ⟨rfl, rfl⟩))
    (fun os started H enc _ => lifted os started H enc)

theorem proved : Rows.RationalDecimalsSaid := over
#print axioms proved
end Go.Proofs.Ytfnmbhjifdfibaa.rationalDecimalsDone
