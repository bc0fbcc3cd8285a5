/- ScriptBad holds for every input: the row, out of the interpreter's contract and the plain law (printed by vmrow.py). -/
import Derived.Test.YtgffbbcoackfaaaDoorBSBA5
import Derived.Test.YtgffbbcoackfaaaDoorCards
import Derived.Test.YtgffbbcoackfaaaDoorTie
import Derived.Lay
import Derived.LaidOnce
import Derived.SevenTiedAt
import Derived.WalkKit
import Derived.ProofKit
import Derived.OpenShut
import Derived.ShutString
import Derived.ChangeOld
import Derived.Below
import Derived.SizedLaws
import Derived.Carry
namespace Go.Proofs.YtgffbbcoackfaaaDoor.scriptBad
open Go.ChangeShapes Go.WideShapes Go.ChangeAt Go.RowKit Go.Vm
set_option linter.unusedVariables false
set_option linter.unusedSimpArgs false
theorem own : ownKnob Tryd.prog.godebug = none := by kernel_rfl
theorem laidOut : laidOutB Tryd.prog = true := by kernel_rfl
abbrev tys : List Ty := [.str, .str, (.int .u8)]
theorem spec (k : Nat) : SpecOk Tryd.prog 6 (.pu (tys.map PK.val) .bool (V.althinglaw21_ScriptBad k)) := V.ok_althinglaw21_ScriptBad k 6 (.pu V.althinglaw21_ScriptBad.ps V.althinglaw21_ScriptBad.r (V.althinglaw21_ScriptBad k)) (by unfold V.G_althinglaw21_ScriptBad ins; rfl)
set_option maxRecDepth 100000 in
theorem lifted (os : Os) (started : os.Started) (H : Type) (enc : TypeId × Value → H) :
    ReturnsInHanded {} Tryd.checked os 6 .any (fun w args => (Rows.scriptBadSpec.pre enc Tryd.prog Tryd.f6 Rows.scriptBadRow.domain false w args ∧ laidMetH Tryd.prog Rows.scriptBadRow.laid w) ∧ sizedMet enc Tryd.prog Tryd.f6 (OpenSpec.ofChange Rows.scriptBadSpec) false w args) (Rows.scriptBadSpec.post enc Tryd.prog Tryd.f6 false true false false) := by
  refine returnsInHanded_of_change_and (C := Tryd.checked) (X := fun w _ => laidMetH Tryd.prog Rows.scriptBadRow.laid w) (fun _ _ _ hh h => h.of_heap hh) own started (by kernel_rfl) Tryd.func6
    (ChangeSpec.witness_shaped (enc := enc) (C := Tryd.checked) (os := os) (X := fun w _ => laidMetH Tryd.prog Rows.scriptBadRow.laid w) false (World.laidAll Tryd.prog os Rows.scriptBadRow.laid) #[(.string ⟨#[]⟩), (.string ⟨#[]⟩), (.int .u8 0)] 8 (World.laidAll_os _ _ _) (World.shaped_of_ZipB (by kernel_rfl) (by kernel_rfl)) (by kernel_rfl) (by kernel_rfl) (by kernel_rfl)
      (by rw [MakeChecks.laidMetH_plain _ _ _ (by kernel_rfl)]; exact laidMet_laidAll _ (by kernel_rfl) (by kernel_rfl))) ?_
  intro W base args ds gs before hval0 hW _ _ hL _
  have hW' := hW
  obtain ⟨p, q, hA0, hV, rfl, hfz, hnd⟩ := hW
  have hA : DataW.TrodAll enc Tryd.prog W 0 (fun _ => true) true Tryd.f6.params.toList args.toList ds p := hA0
  have hval : ∀ (j : Nat) t v, Tryd.f6.params[j]? = some t → args[j]? = some v → Value.okWide Tryd.prog W .any base t v := hval0
  rw [Tryd.params6] at hA hval
  have hB := hA
  obtain ⟨v0, vs0, d0, ds0, p0, q0, hvs, rfl, rfl, h0, r0⟩ := trodAll_cons hB
  obtain ⟨v1, vs1, d1, ds1, p1, q1, rfl, rfl, rfl, h1, r1⟩ := trodAll_cons r0
  obtain ⟨v2, vs2, d2, ds2, p2, q2, rfl, rfl, rfl, h2, r2⟩ := trodAll_cons r1
  obtain ⟨rfl, rfl, rfl⟩ := trodAll_nil r2
  obtain ⟨rfl, rfl⟩ := trodVars_none hV
  obtain ⟨zs, hargs, hwf⟩ := row_args (fl := true) (b0 := base) V.tabOk [9, 9, 5] tys (by kernel_rfl) hA (fun j t v h1 h2 => hval j t v (by simpa using h1) (by simpa using h2))
  have hc := law_calls spec (V.pure_ScriptBad zs hwf) hargs
  rw [Array.toArray_toList] at hc
  refine hc.mono fun e W' ⟨he, bel⟩ => ?_
  subst he
  exact ⟨_, rfl, _, _, _, [], _, [], hW', trodAll_mk1 (shut_bool Tryd.underlying4 _), row_back (ts := [9, 9, 5]) laidOut bel (by kernel_rfl) hA, rfl, bel.frame _, fun h => by cases h⟩
theorem and_tt {a b : Bool} (h : a = true) (k : b = true) : (a && b) = true := by rw [h, k]; rfl
set_option maxHeartbeats 8000000 in
theorem joined : joinedFacts Tryd.pinned.checked.prog 6 Tryd.f6 Rows.scriptBadSpec Rows.scriptBadRow = true := by
  unfold joinedFacts
  repeat' with_reducible refine and_tt ?_ ?_
  all_goals as_aux_lemma => kernel_rfl
theorem over : Rows.scriptBadRow.holds Tryd.pinned (OpenSpec.ofChange Rows.scriptBadSpec) :=
  OpenClaim.holds_of_wide 6 Tryd.f6 rfl rfl rfl rfl rfl rfl rfl ⟨rfl, rfl, rfl, rfl, rfl⟩ rfl rfl rfl rfl rfl (by kernel_rfl) Tryd.func6 joined
    (of_decide_eq_true (by kernel_rfl)) (by unfold Func.isWrapper; first | (rw [if_pos (by decide +kernel)]; kernel_rfl) | (rw [if_neg (by decide +kernel)]; exact ⟨rfl, rfl⟩))
    (fun os started H enc _ => lifted os started H enc)
theorem proved : Rows.ScriptBadSaid := over
#print axioms proved
end Go.Proofs.YtgffbbcoackfaaaDoor.scriptBad
namespace Go.Proofs.YtgffbbcoackfaaaDoor
/-- The row, under a short name, for the claim. -/
theorem scriptBadCard_holds : Rows.ScriptBadCardSaid :=
  Claim7.holds_tied_plain_at .later [] [.data, .pinned] true (true, "af47bdbba6d18d3d5dce92086802f2240f7621c775741200fd37805fb28874ce") true scriptBad.proved (fun _ h => by cases h) (by kernel_rfl) (fun _ h => by cases h) scriptBad_row_tie rfl ⟨rfl, rfl⟩ (by kernel_rfl) rfl
    (fun f fn hf hfn => by
      obtain rfl : f = 6 := Option.some.inj ((show Tryd.prog.funcNamed "althing/althinglaw21.ScriptBad" = some 6 by kernel_rfl).symm.trans hf) |>.symm
      obtain rfl : fn = Tryd.f6 := (Option.some.inj (Tryd.func6.symm.trans hfn)).symm
      exact ⟨by kernel_rfl, fun j t ht => by
        rw [Tryd.params6] at ht
        have hm : t ∈ [9, 9, 5] := by simpa using Array.mem_of_getElem? ht
        have hall : ([9, 9, 5].all fun u => !Tryd.prog.wantsStandIn u) = true := by kernel_rfl
        exact (show Tryd.prog.wantsStandIn t = false by simpa using List.all_eq_true.1 hall t hm)⟩)
    (by kernel_rfl)
end Go.Proofs.YtgffbbcoackfaaaDoor
