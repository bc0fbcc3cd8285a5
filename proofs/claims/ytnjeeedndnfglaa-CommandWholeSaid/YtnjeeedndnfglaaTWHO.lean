/- CommandWhole holds for every input: the row, out of the walk and the plain law. -/
import Derived.Test.YtnjeeedndnfglaaBWHO7
import Derived.Test.YtnjeeedndnfglaaRows
import Derived.WalkKit
import Derived.ProofKit
import Derived.OpenShut
import Derived.ShutString
import Derived.ChangeOld
import Derived.Below
import Derived.SizedLaws
import Derived.Carry
namespace Go.Proofs.Ytnjeeedndnfglaa.commandWhole
open Go.ChangeShapes Go.WideShapes Go.ChangeAt Go.RowKit Go.Proofs.YtnjeeedndnfglaaW.PrintWords Go.Proofs.YtnjeeedndnfglaaW.PrintLast Go.Proofs.YtnjeeedndnfglaaW.PrintMore
open Go.ChangeMaps (open_string shut_string)
set_option linter.unusedVariables false
set_option linter.unusedSimpArgs false
theorem own : ownKnob Try.prog.godebug = none := by kernel_rfl
theorem laidOut : laidOutB Try.prog = true := by kernel_rfl
theorem walk (x0 : X.S29) (A0_6 : Option Addr) (c0_6 : Nat) (A0_7 : Option Addr) (c0_7 : Nat) (x1 : Int) (w : World) (q0 : q29 x0) (q1 : inI64 x1) (hr0_6 : Kd.C X.k38 w A0_6 x0.f4.length x0.f4) (hc0_6 : x0.f4.length ≤ c0_6) (hr0_7 : Kd.C X.k40 w A0_7 x0.f5.length x0.f5) (hc0_7 : x0.f5.length ≤ c0_7) :
    Calls Try.prog 6 #[.agg #[.int .i64 x0.f0, .int .i64 x0.f1.f0, .int .i64 x0.f1.f1, .int .i64 x0.f2.f0, .int .i64 x0.f2.f1, .int .i64 x0.f3, .slice A0_6 x0.f4.length c0_6, .slice A0_7 x0.f5.length c0_7, .bool x0.f6], .int .i64 x1] w fun e w' => e = .returned (.bool true) ∧ Below w.heap.size w w' := by
  obtain ⟨k, hk⟩ := Pure.pure_CommandWhole x0 x1 q0 q1
  exact X.althinglaw05_CommandWhole.calls k x0.f0 x0.f1.f0 x0.f1.f1 x0.f2.f0 x0.f2.f1 x0.f3 (fun k_ => k_ < w.heap.size) A0_6 c0_6 x0.f4 (fun k_ => k_ < w.heap.size) A0_7 c0_7 x0.f5 x0.f6 x1 true w (Kd.V_mk hc0_6 (Kd.C_F X.k38_heap hr0_6)) (Kd.V_mk hc0_7 (Kd.C_F X.k40_heap hr0_7)) hk
set_option maxRecDepth 100000 in
theorem lifted (os : Os) (started : os.Started) (H : Type) (enc : TypeId × Value → H) :
    ReturnsInHanded {} Try.checked os 6 .any (Rows.commandWholeSpec.pre6 enc Try.prog Try.f6 Rows.commandWholeRow.domain false) (Rows.commandWholeSpec.post enc Try.prog Try.f6 false true false false) := by
  refine returnsInHanded_of_change_sized (C := Try.checked) own started (by kernel_rfl) Try.func6
    (ChangeSpec.witness6 (enc := enc) (C := Try.checked) false ⟨#[], #[(.agg #[(.int .i64 0), (.int .i64 0), (.int .i64 0), (.int .i64 0), (.int .i64 0), (.int .i64 0), (.slice none 0 0), (.slice none 0 0), (.bool false)]), (.int .i64 0)], []⟩ 8 (by kernel_rfl) (by kernel_rfl) (by kernel_rfl) (by kernel_rfl)) ?_
  intro W base args ds gs before hval0 hW hcnd hsz0 _
  have hsz : (DataW.weightsEach Try.prog (Try.f6.params.toList ++ Rows.commandWholeSpec.plain.varTypes Try.prog) (ds ++ gs)).all (· ≤ reachBytes) = true := hsz0
  have hval : ∀ (j : Nat) t v, Try.f6.params[j]? = some t → args[j]? = some v → Value.okWide Try.prog W .any base t v := hval0
  have hW' := hW
  obtain ⟨p, q, hA0, hV, rfl, hfz, hnd⟩ := hW
  have hA : DataW.TrodAll enc Try.prog W 0 (fun _ => true) true Try.f6.params.toList args.toList ds p := hA0
  rw [Try.params6] at hA hval hsz
  obtain ⟨v0, vs0, d0, ds0, p0, q0, hargs, rfl, rfl, h0, r0⟩ := trodAll_cons hA
  obtain ⟨v1, vs1, d1, ds1, p1, q1, rfl, rfl, rfl, h1, r1⟩ := trodAll_cons r0
  obtain ⟨rfl, rfl, rfl⟩ := trodAll_nil r1
  obtain rfl : args = #[v0, v1] := by cases args; simp_all
  obtain ⟨rfl, rfl⟩ := trodVars_none hV
  have k0 := h0
  have lt0 : ∀ x ∈ p0, x.block < W.heap.size := by obtain ⟨m, hm⟩ := k0; exact DataW.trod_lt m _ _ _ hm
  obtain ⟨u0, hf0⟩ := h0
  obtain ⟨x0, hK0, g0⟩ := opn29 u0 _ _ hf0
  obtain ⟨cs0, rfl⟩ := agg_of_okWide Try.underlying29 rfl (hval 0 29 v0 rfl rfl)
  obtain ⟨A0_6, c0_6, A0_7, c0_7, e0, l0_6, C0_6, l0_7, C0_7⟩ := X.k29_open hK0
  obtain rfl := Array.toList_inj.1 (show cs0.toList = (#[.int .i64 x0.f0, .int .i64 x0.f1.f0, .int .i64 x0.f1.f1, .int .i64 x0.f2.f0, .int .i64 x0.f2.f1, .int .i64 x0.f3, .slice A0_6 x0.f4.length c0_6, .slice A0_7 x0.f5.length c0_7, .bool x0.f6] : Array Value).toList from e0)
  obtain ⟨a1, rfl, rfl, rfl, w1⟩ := open_int Try.underlying3 (hval 1 3 v1 rfl rfl) h1
  clear hA0 hval0 hsz0 hsz
  refine (walk x0 A0_6 c0_6 A0_7 c0_7 a1 W g0 (by have h_ := w1; simp [Lit.wf, IntKind.min, IntKind.max, IntKind.signed, IntKind.bits] at h_; unfold inI64; omega) C0_6 l0_6 C0_7 l0_7).mono fun e W' ⟨he, bel⟩ => ?_
  subst he
  exact ⟨_, rfl, _, _, _, [], _, [], hW', trodAll_mk1 (shut_bool Try.underlying4 _), (trodAll_cons_mk (Below.trod laidOut (by kernel_rfl) (of_decide_eq_true (by kernel_rfl)) k0 bel lt0) (trodAll_cons_mk (shut_int Try.underlying3 w1) trodAll_mk0)), rfl, bel.frame _, fun h => by cases h⟩
theorem and_tt {a b : Bool} (h : a = true) (k : b = true) : (a && b) = true := by rw [h, k]; rfl
set_option maxHeartbeats 8000000 in
theorem joined : joinedFacts Try.pinned.checked.prog 6 Try.f6 Rows.commandWholeSpec Rows.commandWholeRow = true := by
  unfold joinedFacts
  repeat' with_reducible refine and_tt ?_ ?_
  all_goals as_aux_lemma => kernel_rfl
theorem over : Rows.commandWholeRow.holds Try.pinned (OpenSpec.ofChange Rows.commandWholeSpec) :=
  OpenClaim.holds_of_wide 6 Try.f6 rfl rfl rfl rfl rfl rfl rfl ⟨rfl, rfl, rfl, rfl, rfl⟩ rfl rfl rfl rfl rfl (by kernel_rfl) Try.func6 joined
    (of_decide_eq_true (by kernel_rfl)) (by unfold Func.isWrapper; first | (rw [if_pos (by decide +kernel)]; kernel_rfl) | (rw [if_neg (by decide +kernel)]; exact ⟨rfl, rfl⟩))
    (fun os started H enc _ => lifted os started H enc)
theorem proved : Rows.CommandWholeSaid := over
#print axioms proved
end Go.Proofs.Ytnjeeedndnfglaa.commandWhole
namespace Go.Proofs.Ytnjeeedndnfglaa
/-- The row, under a short name, for the claim. -/
theorem commandWhole_holds : Rows.CommandWholeSaid := commandWhole.proved
end Go.Proofs.Ytnjeeedndnfglaa
