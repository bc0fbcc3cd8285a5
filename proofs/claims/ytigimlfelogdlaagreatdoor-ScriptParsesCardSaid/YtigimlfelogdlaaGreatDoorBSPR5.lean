/- What the claim SPR leans on: texts joined by bundle.py, a program of ours; the words cut down to what is used. -/
import Derived.Test.YtigimlfelogdlaaGreatDoorBSPR4
import Derived.Test.YtigimlfelogdlaaGreatDoorCards
import Derived.Test.YtigimlfelogdlaaGreatDoorTie
import Derived.Lay
import Derived.LaidOnce
import Derived.SevenTiedAt
import Derived.WalkKit
import Derived.ProofKit
import Derived.OpenShut
import Derived.ShutString
import Derived.ChangeOld
import Derived.Below
import Derived.SizedLaws
import Derived.Carry
section
namespace Go.Proofs.YtigimlfelogdlaaGreatDoor.scriptParses
open Go.ChangeShapes Go.WideShapes Go.ChangeAt Go.RowKit Go.Vm
set_option linter.unusedVariables false
set_option linter.unusedSimpArgs false
theorem own : ownKnob Tryz.prog.godebug = none := by kernel_rfl
theorem laidOut : laidOutB Tryz.prog = true := by kernel_rfl
abbrev tys : List Ty := [.str]
theorem spec (k : Nat) : SpecOk Tryz.prog 3 (.pu (tys.map PK.val) .bool (V.althinglaw21_ScriptParses k)) := V.ok_althinglaw21_ScriptParses k 3 (.pu V.althinglaw21_ScriptParses.ps V.althinglaw21_ScriptParses.r (V.althinglaw21_ScriptParses k)) (by unfold V.G_althinglaw21_ScriptParses ins; rfl)
set_option maxRecDepth 100000 in
theorem lifted (os : Os) (started : os.Started) (H : Type) (enc : TypeId × Value → H) :
    ReturnsInHanded {} Tryz.checked os 3 .any (fun w args => (Rows.scriptParsesSpec.pre enc Tryz.prog Tryz.f3 Rows.scriptParsesRow.domain false w args ∧ laidMetH Tryz.prog Rows.scriptParsesRow.laid w) ∧ sizedMet enc Tryz.prog Tryz.f3 (OpenSpec.ofChange Rows.scriptParsesSpec) false w args) (Rows.scriptParsesSpec.post enc Tryz.prog Tryz.f3 false true false false) := by
  refine returnsInHanded_of_change_and (C := Tryz.checked) (X := fun w _ => laidMetH Tryz.prog Rows.scriptParsesRow.laid w) (fun _ _ _ hh h => h.of_heap hh) own started (by kernel_rfl) Tryz.func3
    (ChangeSpec.witness_shaped (enc := enc) (C := Tryz.checked) (os := os) (X := fun w _ => laidMetH Tryz.prog Rows.scriptParsesRow.laid w) false (World.laidAll Tryz.prog os Rows.scriptParsesRow.laid) #[(.string ⟨#[]⟩)] 8 (World.laidAll_os _ _ _) (World.shaped_of_ZipB (by kernel_rfl) (by kernel_rfl)) (by kernel_rfl) (by kernel_rfl) (by kernel_rfl)
      (by rw [MakeChecks.laidMetH_plain _ _ _ (by kernel_rfl)]; exact laidMet_laidAll _ (by kernel_rfl) (by kernel_rfl))) ?_
  intro W base args ds gs before hval0 hW _ _ hL _
  have hW' := hW
  obtain ⟨p, q, hA0, hV, rfl, hfz, hnd⟩ := hW
  have hA : DataW.TrodAll enc Tryz.prog W 0 (fun _ => true) true Tryz.f3.params.toList args.toList ds p := hA0
  have hval : ∀ (j : Nat) t v, Tryz.f3.params[j]? = some t → args[j]? = some v → Value.okWide Tryz.prog W .any base t v := hval0
  rw [Tryz.params3] at hA hval
  have hB := hA
  obtain ⟨v0, vs0, d0, ds0, p0, q0, hvs, rfl, rfl, h0, r0⟩ := trodAll_cons hB
  obtain ⟨rfl, rfl, rfl⟩ := trodAll_nil r0
  obtain ⟨rfl, rfl⟩ := trodVars_none hV
  obtain ⟨zs, hargs, hwf⟩ := row_args (fl := true) (b0 := base) V.tabOk [9] tys (by kernel_rfl) hA (fun j t v h1 h2 => hval j t v (by simpa using h1) (by simpa using h2))
  have hc := law_calls spec (V.pure_ScriptParses zs hwf) hargs
  rw [Array.toArray_toList] at hc
  refine hc.mono fun e W' ⟨he, bel⟩ => ?_
  subst he
  exact ⟨_, rfl, _, _, _, [], _, [], hW', trodAll_mk1 (shut_bool Tryz.underlying4 _), row_back (ts := [9]) laidOut bel (by kernel_rfl) hA, rfl, bel.frame _, fun h => by cases h⟩
def tab : List (List Nat) := [[], [], [1], [4, 5, 6, 4, 7, 8, 4], [5, 9], [10, 11, 13, 12, 14, 10, 15], [5, 16, 17, 18], [19, 20, 21, 22, 23], [24], [], [], [25], [26], [11, 27], [28, 28, 28, 28, 28], [11, 13, 29, 12, 12, 12, 12, 12, 12, 12], [14, 30, 31, 32, 33, 34], [35, 36, 37], [38, 39], [], [19], [], [], [20, 40, 41, 42, 21], [], [43, 44, 45], [], [], [], [9], [], [46], [], [47, 48, 49, 50], [], [51, 53, 54, 56, 57, 58, 59, 60, 61, 63, 64, 66, 68, 69, 71, 73, 74], [75], [76], [77], [], [80], [], [], [81, 82], [81, 83, 45], [84], [], [31], [86, 85, 87, 88, 89, 90, 91, 92], [], [93, 94, 95, 96, 97], [52], [], [98, 36, 99, 100, 101], [55], [102, 103], [104], [105, 106], [105, 99, 107, 108], [109, 106], [105, 99, 110, 111], [62], [99, 112, 113, 115, 114, 116, 99, 107, 117, 116], [118, 119], [65], [120, 121, 122, 123, 124, 123], [67], [125], [126, 36, 127], [70], [128, 129], [72], [128, 130], [75, 131], [75, 33], [], [132], [78, 79], [], [], [134, 134, 134, 134, 134, 134], [], [135], [], [136, 137, 136, 138, 137, 139], [140], [], [141, 142, 143, 144, 145, 146, 147, 148, 148, 148], [], [], [149], [], [], [121], [151, 152, 150], [154], [143, 155], [143, 156, 157], [103, 158], [159], [160], [102, 103, 161, 162], [], [], [102, 163, 164, 165, 167, 166, 133], [], [121, 168, 123], [], [102], [102, 169, 117], [], [102], [133, 170, 171], [76], [36], [99, 107], [114, 172, 106], [143, 133], [173, 50], [147, 130], [121, 174, 175, 176, 95, 177], [178], [95, 179, 180, 182, 181, 183, 183, 183], [184, 31, 133], [185, 186, 185, 95, 187, 188, 183, 189], [190, 176, 191, 192], [193, 129], [147, 47, 47, 121, 194, 195, 196, 123], [], [], [197], [], [133], [], [], [], [198], [], [], [199], [149, 90, 200, 90, 90], [148], [201, 202, 204, 206, 207], [208, 209, 161, 210, 212, 211, 213, 211], [201, 214, 207, 215, 142], [186, 216, 216, 217, 218, 219, 143, 218, 220], [201, 215, 144], [218, 218, 218, 216, 145], [], [], [221], [222, 223, 224, 230, 221], [153], [231], [133], [98], [232, 133], [160, 233, 235, 234, 236], [237], [49], [], [238, 238], [239], [161, 161], [240], [240], [98], [212, 213, 241], [185, 242, 188, 183, 189], [], [244, 243], [162, 245], [], [246], [177], [222, 247, 248, 249], [227, 229], [227, 229, 250], [133], [217], [251, 253, 252, 251], [188, 183, 189], [], [133], [254], [31], [238, 238], [216, 216], [255], [183, 183], [], [256, 257], [], [128, 197], [258, 95, 217, 259, 260, 217, 260, 260, 261, 259, 260, 260, 259, 260, 259, 260], [184], [262, 95, 179, 217, 263, 264, 265, 180, 266, 267], [133], [], [], [], [214], [203], [214, 148], [205, 201], [203, 141], [205, 205], [141, 148], [268, 269], [238, 238], [161, 162], [103], [], [], [141, 148, 148, 148], [141, 148], [238, 238], [239], [], [208], [], [], [270, 220, 271, 272, 273, 150], [247, 274, 248], [225, 226, 150, 228, 227], [], [], [244, 275], [229], [239], [], [], [276, 277], [279, 278], [280, 281], [], [162], [], [], [], [244, 282], [240], [143, 283, 261, 154], [284, 285, 286, 287, 288, 289, 290, 291, 243, 243], [292, 293], [239], [], [249], [], [227, 229], [], [46], [294], [31], [191, 295, 178, 89], [], [143, 296, 145, 297, 147, 298, 297], [149, 200], [147, 299], [154], [154], [300, 301], [147, 185], [255], [188], [302, 252, 303, 266, 180, 182, 181], [217, 189], [183, 304, 183, 266, 181, 305], [], [], [306, 307, 133], [220], [220], [], [], [308, 309, 310, 311, 312, 313, 314, 315, 275, 275], [316, 318, 317], [236, 321, 317], [], [236], [], [324], [325, 326, 327, 328, 329, 330, 331, 332, 333, 282, 282], [], [], [334, 334], [335, 336], [337, 337, 337, 338], [], [], [], [], [], [], [263], [339], [298, 340, 298, 298, 340, 340, 341], [298, 298, 341, 296], [], [], [270, 343, 342], [345], [], [46], [346, 347, 348, 350, 351, 350, 352, 351, 353, 350, 351, 350, 95, 350], [261, 188, 183, 189], [], [354], [], [355, 355], [335, 336], [356, 356, 356, 357], [], [], [], [], [160, 235, 359, 358], [], [319, 236, 236, 320], [], [360], [322, 236, 323], [236], [361], [362, 362, 362], [331], [363, 363], [335, 336], [364, 364, 364, 365], [], [331, 331, 331], [366, 366], [331, 331], [331, 331, 331, 331], [], [244], [], [338], [367, 367, 367], [], [298], [], [354], [344], [167, 167, 368], [], [], [31, 186, 145, 251], [349], [], [133], [217], [346, 347, 353], [], [], [], [357], [369, 369, 369], [278], [236], [], [], [], [331, 331], [365], [370, 370, 370], [], [], [372, 371], [], [331], [374], [373], [375], [], [], [], [], [], [], [], [], [], [], [], [], [], [], [], [], [], [], [], [], [], [], [], [], []]
theorem tabIs : Tryz.prog.funcs.toList.map Tryz.prog.leadsTo = tab := by kernel_rfl
def clo : List Nat := closT tab (fuelT tab) [3] []
theorem cloIs : Tryz.prog.closure 3 = clo := closure_is tabIs 3
theorem inPl : Tryz.pinned.checked.prog.inPlace 3 = ["internal/bytealg.CountString", "internal/bytealg.IndexByteString", "internal/bytealg.IndexString", "slices.overlaps[althing/store.Version]"] := by show Tryz.prog.inPlace 3 = _; unfold Program.inPlace; rw [cloIs]; kernel_rfl
theorem unf : Tryz.pinned.checked.prog.unfollowed 3 = true := by show Tryz.prog.unfollowed 3 = _; unfold Program.unfollowed; rw [cloIs]; kernel_rfl
theorem recu : Tryz.pinned.checked.prog.recurses 3 = true := by unfold Program.recurses; rw [unf]; rfl
theorem vars : Tryz.pinned.checked.prog.varsNamed 3 = ["unicode/utf8.first", "unicode/utf8.acceptRanges", "internal/bytealg.MaxLen", "althing/frame.steps"] := by show Tryz.prog.varsNamed 3 = _; unfold Program.varsNamed; rw [cloIs]; kernel_rfl
theorem and_tt {a b : Bool} (h : a = true) (k : b = true) : (a && b) = true := by rw [h, k]; rfl
set_option maxHeartbeats 8000000 in
theorem joined : joinedFacts Tryz.pinned.checked.prog 3 Tryz.f3 Rows.scriptParsesSpec Rows.scriptParsesRow = true := by
  unfold joinedFacts
  rw [inPl, unf, recu, vars]
  repeat' with_reducible refine and_tt ?_ ?_
  all_goals as_aux_lemma => kernel_rfl
theorem over : Rows.scriptParsesRow.holds Tryz.pinned (OpenSpec.ofChange Rows.scriptParsesSpec) :=
  OpenClaim.holds_of_wide 3 Tryz.f3 rfl rfl rfl rfl rfl rfl rfl ⟨rfl, rfl, rfl, rfl, rfl⟩ rfl rfl rfl rfl rfl (by kernel_rfl) Tryz.func3 joined
    (of_decide_eq_true (by kernel_rfl)) (by unfold Func.isWrapper; first | (rw [if_pos (by decide +kernel)]; kernel_rfl) | (rw [if_neg (by decide +kernel)]; exact ⟨rfl, rfl⟩))
    (fun os started H enc _ => lifted os started H enc)
theorem goes_ : Tryz.pinned.checked.prog.goes 3 = false := by unfold Program.goes; rw [unf]; show ((Tryz.prog.closure 3).any _ || _) = false; rw [cloIs]; kernel_rfl
theorem proved : Rows.ScriptParsesSaid := over
#print axioms proved
end Go.Proofs.YtigimlfelogdlaaGreatDoor.scriptParses
end
