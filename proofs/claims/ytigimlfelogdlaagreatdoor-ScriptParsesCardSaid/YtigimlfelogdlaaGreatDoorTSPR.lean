/- ScriptParses: the tied card, out of the row (printed by vmrow.py). -/
import Derived.Test.YtigimlfelogdlaaGreatDoorBSPR5
import Derived.Test.YtigimlfelogdlaaGreatDoorCards
import Derived.Test.YtigimlfelogdlaaGreatDoorTie
import Derived.SevenTiedAt
namespace Go.Proofs.YtigimlfelogdlaaGreatDoor
/-- The row, under a short name, for the claim. -/
theorem scriptParses_hw : Rows.scriptParsesRow.wfByText (OpenSpec.ofChange Rows.scriptParsesSpec) = true := by kernel_rfl
theorem scriptParses_hm : Tryz.pinned.checked.prog.mainIs = some (true, "664fa49ae608ab73fcd7f93266b2844de4308cbfdf3c0017698c3d72dbad8768".toList) := by kernel_rfl
theorem scriptParses_lk : true = Tryz.pinned.checked.prog.looks [] := by kernel_rfl
theorem scriptParses_fn : Tryz.prog.funcNamed "althing/althinglaw21.ScriptParses" = some 3 := by kernel_rfl
theorem scriptParses_si : ([9].all fun u => !Tryz.prog.wantsStandIn u) = true := by kernel_rfl
theorem scriptParses_go : false = Rows.scriptParsesRow.goesBy Tryz.pinned.checked.prog := Go.Vm.goesBy_of rfl scriptParses_fn scriptParses.goes_
theorem scriptParsesCard_holds : Rows.ScriptParsesCardSaid :=
  Claim7.holds_tied_plain_at .later [] [.data, .data, .pinned] true (true, "664fa49ae608ab73fcd7f93266b2844de4308cbfdf3c0017698c3d72dbad8768") true scriptParses.proved (fun _ h => by cases h) scriptParses_hw (fun _ h => by cases h) scriptParses_row_tie rfl ⟨rfl, rfl⟩ scriptParses_hm rfl
    (fun f fn hf hfn => by
      obtain rfl : f = 3 := Option.some.inj (scriptParses_fn.symm.trans hf) |>.symm
      obtain rfl : fn = Tryz.f3 := (Option.some.inj (Tryz.func3.symm.trans hfn)).symm
      exact ⟨scriptParses_lk, fun j t ht => by
        rw [Tryz.params3] at ht
        have hm : t ∈ [9] := by simpa using Array.mem_of_getElem? ht
        exact (show Tryz.prog.wantsStandIn t = false by simpa using List.all_eq_true.1 scriptParses_si t hm)⟩)
    scriptParses_go
end Go.Proofs.YtigimlfelogdlaaGreatDoor
