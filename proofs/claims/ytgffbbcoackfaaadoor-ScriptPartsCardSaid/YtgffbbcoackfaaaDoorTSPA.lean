/- ScriptParts holds for every input: the row, out of the interpreter's contract and the plain law (printed by vmrow.py). -/
import Derived.Test.YtgffbbcoackfaaaDoorBSPA4
import Derived.Test.YtgffbbcoackfaaaDoorCards
import Derived.Test.YtgffbbcoackfaaaDoorTie
import Derived.Lay
import Derived.LaidOnce
import Derived.SevenTiedAt
import Derived.WalkKit
import Derived.ProofKit
import Derived.OpenShut
import Derived.ShutString
import Derived.ChangeOld
import Derived.Below
import Derived.SizedLaws
import Derived.Carry
namespace Go.Proofs.YtgffbbcoackfaaaDoor.scriptParts
open Go.ChangeShapes Go.WideShapes Go.ChangeAt Go.RowKit Go.Vm
set_option linter.unusedVariables false
set_option linter.unusedSimpArgs false
theorem own : ownKnob Tryd.prog.godebug = none := by kernel_rfl
theorem laidOut : laidOutB Tryd.prog = true := by kernel_rfl
abbrev tys : List Ty := [.str]
theorem spec (k : Nat) : SpecOk Tryd.prog 5 (.pu (tys.map PK.val) .bool (V.althinglaw21_ScriptParts k)) := V.ok_althinglaw21_ScriptParts k 5 (.pu V.althinglaw21_ScriptParts.ps V.althinglaw21_ScriptParts.r (V.althinglaw21_ScriptParts k)) (by unfold V.G_althinglaw21_ScriptParts ins; rfl)
set_option maxRecDepth 100000 in
theorem lifted (os : Os) (started : os.Started) (H : Type) (enc : TypeId × Value → H) :
    ReturnsInHanded {} Tryd.checked os 5 .any (fun w args => (Rows.scriptPartsSpec.pre enc Tryd.prog Tryd.f5 Rows.scriptPartsRow.domain false w args ∧ laidMetH Tryd.prog Rows.scriptPartsRow.laid w) ∧ sizedMet enc Tryd.prog Tryd.f5 (OpenSpec.ofChange Rows.scriptPartsSpec) false w args) (Rows.scriptPartsSpec.post enc Tryd.prog Tryd.f5 false true false false) := by
  refine returnsInHanded_of_change_and (C := Tryd.checked) (X := fun w _ => laidMetH Tryd.prog Rows.scriptPartsRow.laid w) (fun _ _ _ hh h => h.of_heap hh) own started (by kernel_rfl) Tryd.func5
    (ChangeSpec.witness_shaped (enc := enc) (C := Tryd.checked) (os := os) (X := fun w _ => laidMetH Tryd.prog Rows.scriptPartsRow.laid w) false (World.laidAll Tryd.prog os Rows.scriptPartsRow.laid) #[(.string ⟨#[]⟩)] 8 (World.laidAll_os _ _ _) (World.shaped_of_ZipB (by kernel_rfl) (by kernel_rfl)) (by kernel_rfl) (by kernel_rfl) (by kernel_rfl)
      (by rw [MakeChecks.laidMetH_plain _ _ _ (by kernel_rfl)]; exact laidMet_laidAll _ (by kernel_rfl) (by kernel_rfl))) ?_
  intro W base args ds gs before hval0 hW _ _ hL _
  have hW' := hW
  obtain ⟨p, q, hA0, hV, rfl, hfz, hnd⟩ := hW
  have hA : DataW.TrodAll enc Tryd.prog W 0 (fun _ => true) true Tryd.f5.params.toList args.toList ds p := hA0
  have hval : ∀ (j : Nat) t v, Tryd.f5.params[j]? = some t → args[j]? = some v → Value.okWide Tryd.prog W .any base t v := hval0
  rw [Tryd.params5] at hA hval
  have hB := hA
  obtain ⟨v0, vs0, d0, ds0, p0, q0, hvs, rfl, rfl, h0, r0⟩ := trodAll_cons hB
  obtain ⟨rfl, rfl, rfl⟩ := trodAll_nil r0
  obtain ⟨rfl, rfl⟩ := trodVars_none hV
  obtain ⟨zs, hargs, hwf⟩ := row_args (fl := true) (b0 := base) V.tabOk [9] tys (by kernel_rfl) hA (fun j t v h1 h2 => hval j t v (by simpa using h1) (by simpa using h2))
  have hc := law_calls spec (V.pure_ScriptParts zs hwf) hargs
  rw [Array.toArray_toList] at hc
  refine hc.mono fun e W' ⟨he, bel⟩ => ?_
  subst he
  exact ⟨_, rfl, _, _, _, [], _, [], hW', trodAll_mk1 (shut_bool Tryd.underlying4 _), row_back (ts := [9]) laidOut bel (by kernel_rfl) hA, rfl, bel.frame _, fun h => by cases h⟩
theorem and_tt {a b : Bool} (h : a = true) (k : b = true) : (a && b) = true := by rw [h, k]; rfl
set_option maxHeartbeats 8000000 in
theorem joined : joinedFacts Tryd.pinned.checked.prog 5 Tryd.f5 Rows.scriptPartsSpec Rows.scriptPartsRow = true := by
  unfold joinedFacts
  repeat' with_reducible refine and_tt ?_ ?_
  all_goals as_aux_lemma => kernel_rfl
theorem over : Rows.scriptPartsRow.holds Tryd.pinned (OpenSpec.ofChange Rows.scriptPartsSpec) :=
  OpenClaim.holds_of_wide 5 Tryd.f5 rfl rfl rfl rfl rfl rfl rfl ⟨rfl, rfl, rfl, rfl, rfl⟩ rfl rfl rfl rfl rfl (by kernel_rfl) Tryd.func5 joined
    (of_decide_eq_true (by kernel_rfl)) (by unfold Func.isWrapper; first | (rw [if_pos (by decide +kernel)]; kernel_rfl) | (rw [if_neg (by decide +kernel)]; exact ⟨rfl, rfl⟩))
    (fun os started H enc _ => lifted os started H enc)
theorem proved : Rows.ScriptPartsSaid := over
#print axioms proved
end Go.Proofs.YtgffbbcoackfaaaDoor.scriptParts
namespace Go.Proofs.YtgffbbcoackfaaaDoor
/-- The row, under a short name, for the claim. -/
theorem scriptPartsCard_holds : Rows.ScriptPartsCardSaid :=
  Claim7.holds_tied_plain_at .later [] [.data, .pinned] true (true, "af47bdbba6d18d3d5dce92086802f2240f7621c775741200fd37805fb28874ce") true scriptParts.proved (fun _ h => by cases h) (by kernel_rfl) (fun _ h => by cases h) scriptParts_row_tie rfl ⟨rfl, rfl⟩ (by kernel_rfl) rfl
    (fun f fn hf hfn => by
      obtain rfl : f = 5 := Option.some.inj ((show Tryd.prog.funcNamed "althing/althinglaw21.ScriptParts" = some 5 by kernel_rfl).symm.trans hf) |>.symm
      obtain rfl : fn = Tryd.f5 := (Option.some.inj (Tryd.func5.symm.trans hfn)).symm
      exact ⟨by kernel_rfl, fun j t ht => by
        rw [Tryd.params5] at ht
        have hm : t ∈ [9] := by simpa using Array.mem_of_getElem? ht
        have hall : ([9].all fun u => !Tryd.prog.wantsStandIn u) = true := by kernel_rfl
        exact (show Tryd.prog.wantsStandIn t = false by simpa using List.all_eq_true.1 hall t hm)⟩)
    (by kernel_rfl)
end Go.Proofs.YtgffbbcoackfaaaDoor
