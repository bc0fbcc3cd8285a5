/- LeadBegins holds for every input: the row, out of the interpreter's contract and the plain law (printed by vmrow.py). -/
import Derived.Test.YtjgcmmpfaemkiaaGreatBLBE7
import Derived.Test.YtjgcmmpfaemkiaaGreatRows
import Derived.WalkKit
import Derived.ProofKit
import Derived.OpenShut
import Derived.ShutString
import Derived.ChangeOld
import Derived.Below
import Derived.SizedLaws
import Derived.Carry
namespace Go.Proofs.YtjgcmmpfaemkiaaGreat.leadBegins
open Go.ChangeShapes Go.WideShapes Go.ChangeAt Go.RowKit Go.Vm
set_option linter.unusedVariables false
set_option linter.unusedSimpArgs false
theorem own : ownKnob Tryz.prog.godebug = none := by kernel_rfl
theorem laidOut : laidOutB Tryz.prog = true := by kernel_rfl
abbrev tys : List Ty := [Ty.i64, Ty.i64, (.sl 37 (.st (.pair V.Ty_api_Instance (.pair Ty.i64 (.pair V.Ty_api_Instance (.pair V.Ty_api_Instance (.pair V.Ty_api_Command (.pair Ty.i64 (.pair (.arr 7 Ty.i64) .bool))))))))), V.Ty_api_Command, V.Ty_api_Instance]
theorem spec (k : Nat) : SpecOk Tryz.prog 7 (.pu (tys.map PK.val) .bool (V.althinglaw14_LeadBegins k)) := V.ok_althinglaw14_LeadBegins k 7 (.pu V.althinglaw14_LeadBegins.ps V.althinglaw14_LeadBegins.r (V.althinglaw14_LeadBegins k)) (by unfold V.G_althinglaw14_LeadBegins ins; rfl)
set_option maxRecDepth 100000 in
theorem lifted (os : Os) (started : os.Started) (H : Type) (enc : TypeId × Value → H) :
    ReturnsInHanded {} Tryz.checked os 7 .any (Rows.leadBeginsSpec.pre6 enc Tryz.prog Tryz.f7 Rows.leadBeginsRow.domain false) (Rows.leadBeginsSpec.post enc Tryz.prog Tryz.f7 false true false false) := by
  refine returnsInHanded_of_change_sized (C := Tryz.checked) own started (by kernel_rfl) Tryz.func7
    (ChangeSpec.witness6 (enc := enc) (C := Tryz.checked) false ⟨#[], #[(.int .i64 0), (.int .i64 0), (.slice none 0 0), (.agg #[(.int .i64 0), (.int .i64 0), (.int .i64 0), (.int .i64 0), (.int .i64 0), (.int .i64 0), (.slice none 0 0), (.slice none 0 0), (.bool false)]), (.agg #[(.int .i64 0), (.int .i64 0)])], []⟩ 8 (by kernel_rfl) (by kernel_rfl) (by kernel_rfl) (by kernel_rfl)) ?_
  intro W base args ds gs before hval0 hW hcnd hsz0 _
  have hW' := hW
  obtain ⟨p, q, hA0, hV, rfl, hfz, hnd⟩ := hW
  have hA : DataW.TrodAll enc Tryz.prog W 0 (fun _ => true) true Tryz.f7.params.toList args.toList ds p := hA0
  have hval : ∀ (j : Nat) t v, Tryz.f7.params[j]? = some t → args[j]? = some v → Value.okWide Tryz.prog W .any base t v := hval0
  rw [Tryz.params7] at hA hval
  have hB := hA
  obtain ⟨v0, vs0, d0, ds0, p0, q0, hvs, rfl, rfl, h0, r0⟩ := trodAll_cons hB
  obtain ⟨v1, vs1, d1, ds1, p1, q1, rfl, rfl, rfl, h1, r1⟩ := trodAll_cons r0
  obtain ⟨v2, vs2, d2, ds2, p2, q2, rfl, rfl, rfl, h2, r2⟩ := trodAll_cons r1
  obtain ⟨v3, vs3, d3, ds3, p3, q3, rfl, rfl, rfl, h3, r3⟩ := trodAll_cons r2
  obtain ⟨v4, vs4, d4, ds4, p4, q4, rfl, rfl, rfl, h4, r4⟩ := trodAll_cons r3
  obtain ⟨rfl, rfl, rfl⟩ := trodAll_nil r4
  obtain ⟨rfl, rfl⟩ := trodVars_none hV
  obtain ⟨zs, hargs, hwf⟩ := row_args (fl := true) (b0 := base) V.tabOk [3, 3, 41, 33, 25] tys (by kernel_rfl) hA (fun j t v h1 h2 => hval j t v (by simpa using h1) (by simpa using h2))
  have hc := law_calls spec (V.pure_LeadBegins zs hwf) hargs
  rw [Array.toArray_toList] at hc
  refine hc.mono fun e W' ⟨he, bel⟩ => ?_
  subst he
  exact ⟨_, rfl, _, _, _, [], _, [], hW', trodAll_mk1 (shut_bool Tryz.underlying4 _), row_back (ts := [3, 3, 41, 33, 25]) laidOut bel (by kernel_rfl) hA, rfl, bel.frame _, fun h => by cases h⟩
theorem and_tt {a b : Bool} (h : a = true) (k : b = true) : (a && b) = true := by rw [h, k]; rfl
set_option maxHeartbeats 8000000 in
theorem joined : joinedFacts Tryz.pinned.checked.prog 7 Tryz.f7 Rows.leadBeginsSpec Rows.leadBeginsRow = true := by
  unfold joinedFacts
  repeat' with_reducible refine and_tt ?_ ?_
  all_goals as_aux_lemma => kernel_rfl
theorem over : Rows.leadBeginsRow.holds Tryz.pinned (OpenSpec.ofChange Rows.leadBeginsSpec) :=
  OpenClaim.holds_of_wide 7 Tryz.f7 rfl rfl rfl rfl rfl rfl rfl ⟨rfl, rfl, rfl, rfl, rfl⟩ rfl rfl rfl rfl rfl (by kernel_rfl) Tryz.func7 joined
    (of_decide_eq_true (by kernel_rfl)) (by unfold Func.isWrapper; first | (rw [if_pos (by decide +kernel)]; kernel_rfl) | (rw [if_neg (by decide +kernel)]; exact ⟨rfl, rfl⟩))
    (fun os started H enc _ => lifted os started H enc)
theorem proved : Rows.LeadBeginsSaid := over
#print axioms proved
end Go.Proofs.YtjgcmmpfaemkiaaGreat.leadBegins
namespace Go.Proofs.YtjgcmmpfaemkiaaGreat
/-- The row, under a short name, for the claim. -/
theorem leadBegins_holds : Rows.LeadBeginsSaid := leadBegins.proved
end Go.Proofs.YtjgcmmpfaemkiaaGreat
