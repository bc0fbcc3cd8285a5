/- ScriptCounts holds for every input: the row, out of the interpreter's contract and the plain law (printed by vmrow.py). -/
import Derived.Test.YtgffbbcoackfaaaDoorBSCO3
import Derived.Test.YtgffbbcoackfaaaDoorCards
import Derived.Test.YtgffbbcoackfaaaDoorTie
import Derived.Lay
import Derived.LaidOnce
import Derived.SevenTiedAt
import Derived.WalkKit
import Derived.ProofKit
import Derived.OpenShut
import Derived.ShutString
import Derived.ChangeOld
import Derived.Below
import Derived.SizedLaws
import Derived.Carry
namespace Go.Proofs.YtgffbbcoackfaaaDoor.scriptCounts
open Go.ChangeShapes Go.WideShapes Go.ChangeAt Go.RowKit Go.Vm
set_option linter.unusedVariables false
set_option linter.unusedSimpArgs false
theorem own : ownKnob Tryd.prog.godebug = none := by kernel_rfl
theorem laidOut : laidOutB Tryd.prog = true := by kernel_rfl
abbrev tys : List Ty := [.str]
theorem spec (k : Nat) : SpecOk Tryd.prog 4 (.pu (tys.map PK.val) .bool (V.althinglaw21_ScriptCounts k)) := V.ok_althinglaw21_ScriptCounts k 4 (.pu V.althinglaw21_ScriptCounts.ps V.althinglaw21_ScriptCounts.r (V.althinglaw21_ScriptCounts k)) (by unfold V.G_althinglaw21_ScriptCounts ins; rfl)
set_option maxRecDepth 100000 in
theorem lifted (os : Os) (started : os.Started) (H : Type) (enc : TypeId × Value → H) :
    ReturnsInHanded {} Tryd.checked os 4 .any (fun w args => (Rows.scriptCountsSpec.pre enc Tryd.prog Tryd.f4 Rows.scriptCountsRow.domain false w args ∧ laidMetH Tryd.prog Rows.scriptCountsRow.laid w) ∧ sizedMet enc Tryd.prog Tryd.f4 (OpenSpec.ofChange Rows.scriptCountsSpec) false w args) (Rows.scriptCountsSpec.post enc Tryd.prog Tryd.f4 false true false false) := by
  refine returnsInHanded_of_change_and (C := Tryd.checked) (X := fun w _ => laidMetH Tryd.prog Rows.scriptCountsRow.laid w) (fun _ _ _ hh h => h.of_heap hh) own started (by kernel_rfl) Tryd.func4
    (ChangeSpec.witness_shaped (enc := enc) (C := Tryd.checked) (os := os) (X := fun w _ => laidMetH Tryd.prog Rows.scriptCountsRow.laid w) false (World.laidAll Tryd.prog os Rows.scriptCountsRow.laid) #[(.string ⟨#[]⟩)] 8 (World.laidAll_os _ _ _) (World.shaped_of_ZipB (by kernel_rfl) (by kernel_rfl)) (by kernel_rfl) (by kernel_rfl) (by kernel_rfl)
      (by rw [MakeChecks.laidMetH_plain _ _ _ (by kernel_rfl)]; exact laidMet_laidAll _ (by kernel_rfl) (by kernel_rfl))) ?_
  intro W base args ds gs before hval0 hW _ _ hL _
  have hW' := hW
  obtain ⟨p, q, hA0, hV, rfl, hfz, hnd⟩ := hW
  have hA : DataW.TrodAll enc Tryd.prog W 0 (fun _ => true) true Tryd.f4.params.toList args.toList ds p := hA0
  have hval : ∀ (j : Nat) t v, Tryd.f4.params[j]? = some t → args[j]? = some v → Value.okWide Tryd.prog W .any base t v := hval0
  rw [Tryd.params4] at hA hval
  have hB := hA
  obtain ⟨v0, vs0, d0, ds0, p0, q0, hvs, rfl, rfl, h0, r0⟩ := trodAll_cons hB
  obtain ⟨rfl, rfl, rfl⟩ := trodAll_nil r0
  obtain ⟨rfl, rfl⟩ := trodVars_none hV
  obtain ⟨zs, hargs, hwf⟩ := row_args (fl := true) (b0 := base) V.tabOk [9] tys (by kernel_rfl) hA (fun j t v h1 h2 => hval j t v (by simpa using h1) (by simpa using h2))
  have hc := law_calls spec (V.pure_ScriptCounts zs hwf) hargs
  rw [Array.toArray_toList] at hc
  refine hc.mono fun e W' ⟨he, bel⟩ => ?_
  subst he
  exact ⟨_, rfl, _, _, _, [], _, [], hW', trodAll_mk1 (shut_bool Tryd.underlying4 _), row_back (ts := [9]) laidOut bel (by kernel_rfl) hA, rfl, bel.frame _, fun h => by cases h⟩
theorem and_tt {a b : Bool} (h : a = true) (k : b = true) : (a && b) = true := by rw [h, k]; rfl
set_option maxHeartbeats 8000000 in
theorem joined : joinedFacts Tryd.pinned.checked.prog 4 Tryd.f4 Rows.scriptCountsSpec Rows.scriptCountsRow = true := by
  unfold joinedFacts
  repeat' with_reducible refine and_tt ?_ ?_
  all_goals as_aux_lemma => kernel_rfl
theorem over : Rows.scriptCountsRow.holds Tryd.pinned (OpenSpec.ofChange Rows.scriptCountsSpec) :=
  OpenClaim.holds_of_wide 4 Tryd.f4 rfl rfl rfl rfl rfl rfl rfl ⟨rfl, rfl, rfl, rfl, rfl⟩ rfl rfl rfl rfl rfl (by kernel_rfl) Tryd.func4 joined
    (of_decide_eq_true (by kernel_rfl)) (by unfold Func.isWrapper; first | (rw [if_pos (by decide +kernel)]; kernel_rfl) | (rw [if_neg (by decide +kernel)]; exact ⟨rfl, rfl⟩))
    (fun os started H enc _ => lifted os started H enc)
theorem proved : Rows.ScriptCountsSaid := over
#print axioms proved
end Go.Proofs.YtgffbbcoackfaaaDoor.scriptCounts
namespace Go.Proofs.YtgffbbcoackfaaaDoor
/-- The row, under a short name, for the claim. -/
theorem scriptCountsCard_holds : Rows.ScriptCountsCardSaid :=
  Claim7.holds_tied_plain_at .later [] [.data, .pinned] true (true, "af47bdbba6d18d3d5dce92086802f2240f7621c775741200fd37805fb28874ce") true scriptCounts.proved (fun _ h => by cases h) (by kernel_rfl) (fun _ h => by cases h) scriptCounts_row_tie rfl ⟨rfl, rfl⟩ (by kernel_rfl) rfl
    (fun f fn hf hfn => by
      obtain rfl : f = 4 := Option.some.inj ((show Tryd.prog.funcNamed "althing/althinglaw21.ScriptCounts" = some 4 by kernel_rfl).symm.trans hf) |>.symm
      obtain rfl : fn = Tryd.f4 := (Option.some.inj (Tryd.func4.symm.trans hfn)).symm
      exact ⟨by kernel_rfl, fun j t ht => by
        rw [Tryd.params4] at ht
        have hm : t ∈ [9] := by simpa using Array.mem_of_getElem? ht
        have hall : ([9].all fun u => !Tryd.prog.wantsStandIn u) = true := by kernel_rfl
        exact (show Tryd.prog.wantsStandIn t = false by simpa using List.all_eq_true.1 hall t hm)⟩)
    (by kernel_rfl)
end Go.Proofs.YtgffbbcoackfaaaDoor
