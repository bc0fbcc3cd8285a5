/- CommandParts holds for every input: the row, out of the walk and the plain law. -/
import Derived.Test.YtnjeeedndnfglaaBPAR8
import Derived.Test.YtnjeeedndnfglaaRows
import Derived.WalkKit
import Derived.ProofKit
import Derived.OpenShut
import Derived.ShutString
import Derived.ChangeOld
import Derived.Below
import Derived.SizedLaws
import Derived.Carry
namespace Go.Proofs.Ytnjeeedndnfglaa.commandParts
open Go.ChangeShapes Go.WideShapes Go.ChangeAt Go.RowKit Go.Proofs.YtnjeeedndnfglaaW.PrintWords Go.Proofs.YtnjeeedndnfglaaW.PrintLast Go.Proofs.YtnjeeedndnfglaaW.PrintMore
open Go.ChangeMaps (open_string shut_string)
set_option linter.unusedVariables false
set_option linter.unusedSimpArgs false
theorem own : ownKnob Try.prog.godebug = none := by kernel_rfl
theorem laidOut : laidOutB Try.prog = true := by kernel_rfl
theorem walk (x0 : X.S29) (A0_6 : Option Addr) (c0_6 : Nat) (A0_7 : Option Addr) (c0_7 : Nat) (x1 : Int) (x2 : Int) (x3 : Bool) (w : World) (q0 : q29 x0) (q1 : inI64 x1) (q2 : inI64 x2) (q3 : inAny x3) (hr0_6 : Kd.C X.k38 w A0_6 x0.f4.length x0.f4) (hc0_6 : x0.f4.length ≤ c0_6) (hr0_7 : Kd.C X.k40 w A0_7 x0.f5.length x0.f5) (hc0_7 : x0.f5.length ≤ c0_7) :
    Calls Try.prog 7 #[.agg #[.int .i64 x0.f0, .int .i64 x0.f1.f0, .int .i64 x0.f1.f1, .int .i64 x0.f2.f0, .int .i64 x0.f2.f1, .int .i64 x0.f3, .slice A0_6 x0.f4.length c0_6, .slice A0_7 x0.f5.length c0_7, .bool x0.f6], .int .i64 x1, .int .i64 x2, .bool x3] w fun e w' => e = .returned (.bool true) ∧ Below w.heap.size w w' := by
  obtain ⟨k, hk⟩ := Pure.pure_CommandParts x0 x1 x2 x3 q0 q1 q2 q3
  exact X.althinglaw05_CommandParts.calls k x0.f0 x0.f1.f0 x0.f1.f1 x0.f2.f0 x0.f2.f1 x0.f3 (fun k_ => k_ < w.heap.size) A0_6 c0_6 x0.f4 (fun k_ => k_ < w.heap.size) A0_7 c0_7 x0.f5 x0.f6 x1 x2 x3 true w (Kd.V_mk hc0_6 (Kd.C_F X.k38_heap hr0_6)) (Kd.V_mk hc0_7 (Kd.C_F X.k40_heap hr0_7)) hk
set_option maxRecDepth 100000 in
theorem lifted (os : Os) (started : os.Started) (H : Type) (enc : TypeId × Value → H) :
    ReturnsInHanded {} Try.checked os 7 .any (Rows.commandPartsSpec.pre6 enc Try.prog Try.f7 Rows.commandPartsRow.domain false) (Rows.commandPartsSpec.post enc Try.prog Try.f7 false true false false) := by
  refine returnsInHanded_of_change_sized (C := Try.checked) own started (by kernel_rfl) Try.func7
    (ChangeSpec.witness6 (enc := enc) (C := Try.checked) false ⟨#[], #[(.agg #[(.int .i64 0), (.int .i64 0), (.int .i64 0), (.int .i64 0), (.int .i64 0), (.int .i64 0), (.slice none 0 0), (.slice none 0 0), (.bool false)]), (.int .i64 0), (.int .i64 0), (.bool false)], []⟩ 8 (by kernel_rfl) (by kernel_rfl) (by kernel_rfl) (by kernel_rfl)) ?_
  intro W base args ds gs before hval0 hW hcnd hsz0 _
  have hsz : (DataW.weightsEach Try.prog (Try.f7.params.toList ++ Rows.commandPartsSpec.plain.varTypes Try.prog) (ds ++ gs)).all (· ≤ reachBytes) = true := hsz0
  have hval : ∀ (j : Nat) t v, Try.f7.params[j]? = some t → args[j]? = some v → Value.okWide Try.prog W .any base t v := hval0
  have hW' := hW
  obtain ⟨p, q, hA0, hV, rfl, hfz, hnd⟩ := hW
  have hA : DataW.TrodAll enc Try.prog W 0 (fun _ => true) true Try.f7.params.toList args.toList ds p := hA0
  rw [Try.params7] at hA hval hsz
  obtain ⟨v0, vs0, d0, ds0, p0, q0, hargs, rfl, rfl, h0, r0⟩ := trodAll_cons hA
  obtain ⟨v1, vs1, d1, ds1, p1, q1, rfl, rfl, rfl, h1, r1⟩ := trodAll_cons r0
  obtain ⟨v2, vs2, d2, ds2, p2, q2, rfl, rfl, rfl, h2, r2⟩ := trodAll_cons r1
  obtain ⟨v3, vs3, d3, ds3, p3, q3, rfl, rfl, rfl, h3, r3⟩ := trodAll_cons r2
  obtain ⟨rfl, rfl, rfl⟩ := trodAll_nil r3
  obtain rfl : args = #[v0, v1, v2, v3] := by cases args; simp_all
  obtain ⟨rfl, rfl⟩ := trodVars_none hV
  have k0 := h0
  have lt0 : ∀ x ∈ p0, x.block < W.heap.size := by obtain ⟨m, hm⟩ := k0; exact DataW.trod_lt m _ _ _ hm
  obtain ⟨u0, hf0⟩ := h0
  obtain ⟨x0, hK0, g0⟩ := opn29 u0 _ _ hf0
  obtain ⟨cs0, rfl⟩ := agg_of_okWide Try.underlying29 rfl (hval 0 29 v0 rfl rfl)
  obtain ⟨A0_6, c0_6, A0_7, c0_7, e0, l0_6, C0_6, l0_7, C0_7⟩ := X.k29_open hK0
  obtain rfl := Array.toList_inj.1 (show cs0.toList = (#[.int .i64 x0.f0, .int .i64 x0.f1.f0, .int .i64 x0.f1.f1, .int .i64 x0.f2.f0, .int .i64 x0.f2.f1, .int .i64 x0.f3, .slice A0_6 x0.f4.length c0_6, .slice A0_7 x0.f5.length c0_7, .bool x0.f6] : Array Value).toList from e0)
  obtain ⟨a1, rfl, rfl, rfl, w1⟩ := open_int Try.underlying3 (hval 1 3 v1 rfl rfl) h1
  obtain ⟨a2, rfl, rfl, rfl, w2⟩ := open_int Try.underlying3 (hval 2 3 v2 rfl rfl) h2
  obtain ⟨a3, rfl, rfl, rfl⟩ := open_bool Try.underlying4 (hval 3 4 v3 rfl rfl) h3
  clear hA0 hval0 hsz0 hsz
  refine (walk x0 A0_6 c0_6 A0_7 c0_7 a1 a2 a3 W g0 (by have h_ := w1; simp [Lit.wf, IntKind.min, IntKind.max, IntKind.signed, IntKind.bits] at h_; unfold inI64; omega) (by have h_ := w2; simp [Lit.wf, IntKind.min, IntKind.max, IntKind.signed, IntKind.bits] at h_; unfold inI64; omega) trivial C0_6 l0_6 C0_7 l0_7).mono fun e W' ⟨he, bel⟩ => ?_
  subst he
  exact ⟨_, rfl, _, _, _, [], _, [], hW', trodAll_mk1 (shut_bool Try.underlying4 _), (trodAll_cons_mk (Below.trod laidOut (by kernel_rfl) (of_decide_eq_true (by kernel_rfl)) k0 bel lt0) (trodAll_cons_mk (shut_int Try.underlying3 w1) (trodAll_cons_mk (shut_int Try.underlying3 w2) (trodAll_cons_mk (shut_bool Try.underlying4 _) trodAll_mk0)))), rfl, bel.frame _, fun h => by cases h⟩
theorem and_tt {a b : Bool} (h : a = true) (k : b = true) : (a && b) = true := by rw [h, k]; rfl
set_option maxHeartbeats 8000000 in
theorem joined : joinedFacts Try.pinned.checked.prog 7 Try.f7 Rows.commandPartsSpec Rows.commandPartsRow = true := by
  unfold joinedFacts
  repeat' with_reducible refine and_tt ?_ ?_
  all_goals as_aux_lemma => kernel_rfl
theorem over : Rows.commandPartsRow.holds Try.pinned (OpenSpec.ofChange Rows.commandPartsSpec) :=
  OpenClaim.holds_of_wide 7 Try.f7 rfl rfl rfl rfl rfl rfl rfl ⟨rfl, rfl, rfl, rfl, rfl⟩ rfl rfl rfl rfl rfl (by kernel_rfl) Try.func7 joined
    (of_decide_eq_true (by kernel_rfl)) (by unfold Func.isWrapper; first | (rw [if_pos (by decide +kernel)]; kernel_rfl) | (rw [if_neg (by decide +kernel)]; exact ⟨rfl, rfl⟩))
    (fun os started H enc _ => lifted os started H enc)
theorem proved : Rows.CommandPartsSaid := over
#print axioms proved
end Go.Proofs.Ytnjeeedndnfglaa.commandParts
namespace Go.Proofs.Ytnjeeedndnfglaa
/-- The row, under a short name, for the claim. -/
theorem commandParts_holds : Rows.CommandPartsSaid := commandParts.proved
end Go.Proofs.Ytnjeeedndnfglaa
