/- The statement IntegerLists: for every input the law returns true, and each argument reads afterwards as it read before. No condition is added. -/
import Derived.Test.YtcccabgeoaidjaaRows
import Derived.Test.YtcccabgeoaidjaaOpenZL
import Derived.Test.YtcccabgeoaidjaaIntegerListsW
namespace Go.Proofs.Ytcccabgeoaidjaa.integerListsDone
open Go.ChangeShapes Go.WideShapes Go.ChangeAt Go.RowKit Go.Proofs.Ytcccabgeoaidjaa
open Go.ChangeMaps (open_string shut_string)

set_option maxRecDepth 100000 in
theorem lifted (os : Os) (started : os.Started) (H : Type) (enc : TypeId × Value → H) :
    ReturnsInHanded {} Try.checked os 9 .any (Rows.integerListsSpec.pre6 enc Try.prog Try.f9 Rows.integerListsRow.domain false) (Rows.integerListsSpec.post enc Try.prog Try.f9 false true false false) := by
  refine returnsInHanded_of_change (C := Try.checked) own_knob started (by kernel_rfl) Try.func9
    (ChangeSpec.witness6 (enc := enc) (C := Try.checked) false ⟨#[], #[.slice none 0 0], []⟩ 8 (by kernel_rfl) (by kernel_rfl) (by kernel_rfl) (by kernel_rfl)) ?_
  intro W base args ds gs before hval0 hW _ _
  have hval : ∀ (j : Nat) t v, Try.f9.params[j]? = some t → args[j]? = some v → Value.okWide Try.prog W .any base t v := hval0
  have hW' := hW
  obtain ⟨p, q, hA0, hV, rfl, _, _⟩ := hW
  have hA : DataW.TrodAll enc Try.prog W 0 (fun _ => true) true Try.f9.params.toList args.toList ds p := hA0
  rw [Try.params9] at hA hval
  obtain ⟨v0, vs0, d0, ds0, p0, q0, hargs, rfl, rfl, h0, r0⟩ := trodAll_cons hA
  obtain ⟨rfl, rfl, rfl⟩ := trodAll_nil r0
  obtain rfl : args = #[v0] := by cases args; simp_all
  obtain ⟨rfl, rfl⟩ := trodVars_none hV
  have k0 := h0
  have lt0 : ∀ x ∈ p0, x.block < W.heap.size := by obtain ⟨m, hm⟩ := k0; exact DataW.trod_lt m _ _ _ hm
  obtain ⟨A0, c0, l0, x0, rfl, m0, b0, n0⟩ := open_ZL (hval 0 53 v0 rfl rfl) h0
  clear hA0 hval0 hval
  refine (integerLists_walk m0 b0 n0).mono fun e W' ⟨he, bel⟩ => ?_
  subst he
  exact ⟨_, rfl, _, _, _, [], _, [], hW', trodAll_mk1 (shut_bool Try.underlying4 _), (trodAll_cons_mk (Below.trod laidOut (by kernel_rfl) (of_decide_eq_true (by kernel_rfl)) k0 bel lt0) trodAll_mk0), rfl, bel.frame _, fun h => by cases h⟩

theorem fact0 : (Rows.integerListsRow.wf (OpenSpec.ofChange Rows.integerListsSpec) : Bool) = true := by kernel_rfl
theorem fact3 : (Try.f9.params.all (Try.prog.readableRec ·) : Bool) = true := by kernel_rfl
theorem fact4 : (namedTie Try.prog Rows.integerListsRow.named Rows.integerListsSpec.vars : Bool) = true := by kernel_rfl
theorem fact5 : ((Rows.integerListsRow.stops == []) : Bool) = true := by kernel_rfl
theorem fact7 : ((Rows.integerListsRow.knobs == []) : Bool) = true := by kernel_rfl
theorem fact9 : ((Rows.integerListsRow.inPlace == Try.prog.inPlace 9) : Bool) = true := by kernel_rfl
theorem fact10 : ((Rows.integerListsRow.unfollowed == Try.prog.unfollowed 9) : Bool) = true := by kernel_rfl
theorem fact11 : ((Rows.integerListsRow.recurses == Try.prog.recurses 9) : Bool) = true := by kernel_rfl
theorem fact12 : ((Rows.integerListsRow.named == Try.prog.varsNamed 9) : Bool) = true := by kernel_rfl
theorem fact13 : ((Rows.integerListsRow.maps == (Try.f9.params.toList ++ Rows.integerListsSpec.plain.varTypes Try.prog).any (Try.prog.mapsRec ·)) : Bool) = true := by kernel_rfl
theorem fact14 : ((Rows.integerListsRow.ifaces == (Try.f9.params.toList ++ Rows.integerListsSpec.plain.varTypes Try.prog).any (Try.prog.ifacesRec ·)) : Bool) = true := by kernel_rfl
theorem fact15 : ((Rows.integerListsRow.mapsOut == Try.prog.mapsAmong Try.f9.resultTypes.toList) : Bool) = true := by kernel_rfl
theorem fact16 : ((Rows.integerListsRow.loops == (Try.f9.params.toList ++ Rows.integerListsSpec.plain.varTypes Try.prog).any (Try.prog.loopsFrom ·)) : Bool) = true := by kernel_rfl
theorem fact17 : ((Rows.integerListsRow.wideKeys == (Try.f9.params.toList ++ Rows.integerListsSpec.plain.varTypes Try.prog ++ Try.f9.resultTypes.toList).any (Try.prog.wideKeysFrom ·)) : Bool) = true := by kernel_rfl
theorem fact18 : (Rows.integerListsSpec.vars.all (Try.prog.varReadable ·) : Bool) = true := by kernel_rfl
theorem fact19 : (Try.f9.resultTypes.all (fun t => Try.prog.readableRec t && decide (t < Try.prog.types.size)) : Bool) = true := by kernel_rfl
theorem fact20 : ((Rows.integerListsRow.ifacesOut == Try.f9.resultTypes.toList.any (Try.prog.ifacesRec ·)) : Bool) = true := by kernel_rfl
theorem fact21 : ((Rows.integerListsRow.loopsOut == Try.f9.resultTypes.toList.any (Try.prog.loopsFrom ·)) : Bool) = true := by kernel_rfl
theorem fact22 : ((Rows.integerListsRow.plainKeys == Try.prog.plainKeys) : Bool) = true := by kernel_rfl
theorem fact23 : (Rows.integerListsRow.shortTexts.isNone : Bool) = true := by kernel_rfl
theorem fact26 : ((Rows.integerListsRow.lifted == Try.prog.liftsFinal) : Bool) = true := by kernel_rfl
theorem fact27 : ((Try.prog.make == some Rows.integerListsRow.make) : Bool) = true := by kernel_rfl
theorem fact28 : ((Rows.integerListsRow.kinds == (if Rows.integerListsRow.domain.isEmpty then [] else Try.f9.params.toList.map fun t => match Try.prog.underlying t with | some (.int k) => some k | _ => none)) : Bool) = true := by kernel_rfl
theorem fact29 : ((Rows.integerListsRow.pinned == Rows.integerListsRow.pinnedBy) : Bool) = true := by kernel_rfl
theorem fact30 : ((Rows.integerListsRow.veiled == (Try.f9.params.toList ++ Rows.integerListsSpec.plain.varTypes Try.prog ++ Try.f9.resultTypes.toList).any (Try.prog.veiledRec ·)) : Bool) = true := by kernel_rfl
theorem fact31 : (Rows.integerListsRow.veiledFits Try.prog Try.f9.params.toList (Try.f9.params.toList ++ Rows.integerListsSpec.plain.varTypes Try.prog ++ Try.f9.resultTypes.toList) : Bool) = true := by kernel_rfl
theorem closed : joinedFacts Try.prog 9 Try.f9 Rows.integerListsSpec Rows.integerListsRow = true := and_true (and_true (and_true (and_true (and_true (and_true (and_true (and_true (and_true (and_true (and_true (and_true (and_true (and_true (and_true (and_true (and_true (and_true (and_true (and_true (and_true (and_true (and_true (and_true (and_true (and_true (and_true (and_true (and_true (and_true (and_true fact0 laidOut) shared_fact2) fact3) fact4) fact5) shared_fact6) fact7) shared_fact8) fact9) fact10) fact11) fact12) fact13) fact14) fact15) fact16) fact17) fact18) fact19) fact20) fact21) fact22) fact23) shared_fact24) shared_fact25) fact26) fact27) fact28) fact29) fact30) fact31

theorem over : Rows.integerListsRow.holds Try.pinned (OpenSpec.ofChange Rows.integerListsSpec) :=
  OpenClaim.holds_of_wide 9 Try.f9 rfl rfl rfl rfl rfl rfl rfl ⟨rfl, rfl, rfl, rfl, rfl⟩ rfl rfl rfl rfl rfl (by as_aux_lemma => kernel_rfl) Try.func9 closed
    (of_decide_eq_true (by kernel_rfl)) (by unfold Func.isWrapper; first | (rw [if_pos (by decide +kernel)]; kernel_rfl) | (rw [if_neg (by decide +kernel)]; exact ⟨rfl, rfl⟩))
    (fun os started H enc _ => lifted os started H enc)

theorem proved : Rows.IntegerListsSaid := over
#print axioms proved
end Go.Proofs.Ytcccabgeoaidjaa.integerListsDone
