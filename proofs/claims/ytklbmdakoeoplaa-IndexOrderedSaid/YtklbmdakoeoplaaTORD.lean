/- IndexOrdered holds for every input: the row, out of the walk and the plain law. -/
import Derived.Test.YtklbmdakoeoplaaBORD7
import Derived.Test.YtklbmdakoeoplaaRows
import Derived.WalkKit
import Derived.ProofKit
import Derived.OpenShut
import Derived.ShutString
import Derived.ChangeOld
import Derived.Below
import Derived.SizedLaws
import Derived.Carry
namespace Go.Proofs.Ytklbmdakoeoplaa.indexOrdered
open Go.ChangeShapes Go.WideShapes Go.ChangeAt Go.RowKit Go.Proofs.YtklbmdakoeoplaaW.PrintWords Go.Proofs.YtklbmdakoeoplaaW.PrintLast Go.Proofs.YtklbmdakoeoplaaW.PrintMore
open Go.ChangeMaps (open_string shut_string)
set_option linter.unusedVariables false
set_option linter.unusedSimpArgs false
theorem own : ownKnob Try.prog.godebug = none := by kernel_rfl
theorem laidOut : laidOutB Try.prog = true := by kernel_rfl
theorem walk (x0 : X.S44) (A0_13 : Option Addr) (c0_13 : Nat) (A0_14 : Option Addr) (c0_14 : Nat) (x1 : X.S44) (A1_13 : Option Addr) (c1_13 : Nat) (A1_14 : Option Addr) (c1_14 : Nat) (w : World) (q0 : q44 x0) (q1 : q44 x1) (hr0_13 : Kd.C X.k61 w A0_13 x0.f4.f4.length x0.f4.f4) (hc0_13 : x0.f4.f4.length ≤ c0_13) (hr0_14 : Kd.C X.k46 w A0_14 x0.f4.f5.length x0.f4.f5) (hc0_14 : x0.f4.f5.length ≤ c0_14) (hr1_13 : Kd.C X.k61 w A1_13 x1.f4.f4.length x1.f4.f4) (hc1_13 : x1.f4.f4.length ≤ c1_13) (hr1_14 : Kd.C X.k46 w A1_14 x1.f4.f5.length x1.f4.f5) (hc1_14 : x1.f4.f5.length ≤ c1_14) :
    Calls Try.prog 9 #[.agg #[.int .i64 x0.f0.f0, .int .i64 x0.f0.f1, .int .i64 x0.f1, .int .i64 x0.f2.f0, .int .i64 x0.f2.f1, .int .i64 x0.f3.f0, .int .i64 x0.f3.f1, .int .i64 x0.f4.f0, .int .i64 x0.f4.f1.f0, .int .i64 x0.f4.f1.f1, .int .i64 x0.f4.f2.f0, .int .i64 x0.f4.f2.f1, .int .i64 x0.f4.f3, .slice A0_13 x0.f4.f4.length c0_13, .slice A0_14 x0.f4.f5.length c0_14, .bool x0.f4.f6, .int .i64 x0.f5, .int .i64 x0.f6.f0, .int .i64 x0.f6.f1, .int .i64 x0.f6.f2, .int .i64 x0.f6.f3, .int .i64 x0.f6.f4, .int .i64 x0.f6.f5, .int .i64 x0.f6.f6, .bool x0.f7], .agg #[.int .i64 x1.f0.f0, .int .i64 x1.f0.f1, .int .i64 x1.f1, .int .i64 x1.f2.f0, .int .i64 x1.f2.f1, .int .i64 x1.f3.f0, .int .i64 x1.f3.f1, .int .i64 x1.f4.f0, .int .i64 x1.f4.f1.f0, .int .i64 x1.f4.f1.f1, .int .i64 x1.f4.f2.f0, .int .i64 x1.f4.f2.f1, .int .i64 x1.f4.f3, .slice A1_13 x1.f4.f4.length c1_13, .slice A1_14 x1.f4.f5.length c1_14, .bool x1.f4.f6, .int .i64 x1.f5, .int .i64 x1.f6.f0, .int .i64 x1.f6.f1, .int .i64 x1.f6.f2, .int .i64 x1.f6.f3, .int .i64 x1.f6.f4, .int .i64 x1.f6.f5, .int .i64 x1.f6.f6, .bool x1.f7]] w fun e w' => e = .returned (.bool true) ∧ Below w.heap.size w w' := by
  obtain ⟨k, hk⟩ := Pure.pure_IndexOrdered x0 x1 q0 q1
  exact X.althinglaw11_IndexOrdered.calls k x0.f0.f0 x0.f0.f1 x0.f1 x0.f2.f0 x0.f2.f1 x0.f3.f0 x0.f3.f1 x0.f4.f0 x0.f4.f1.f0 x0.f4.f1.f1 x0.f4.f2.f0 x0.f4.f2.f1 x0.f4.f3 (fun k_ => k_ < w.heap.size) A0_13 c0_13 x0.f4.f4 (fun k_ => k_ < w.heap.size) A0_14 c0_14 x0.f4.f5 x0.f4.f6 x0.f5 x0.f6.f0 x0.f6.f1 x0.f6.f2 x0.f6.f3 x0.f6.f4 x0.f6.f5 x0.f6.f6 x0.f7 x1.f0.f0 x1.f0.f1 x1.f1 x1.f2.f0 x1.f2.f1 x1.f3.f0 x1.f3.f1 x1.f4.f0 x1.f4.f1.f0 x1.f4.f1.f1 x1.f4.f2.f0 x1.f4.f2.f1 x1.f4.f3 (fun k_ => k_ < w.heap.size) A1_13 c1_13 x1.f4.f4 (fun k_ => k_ < w.heap.size) A1_14 c1_14 x1.f4.f5 x1.f4.f6 x1.f5 x1.f6.f0 x1.f6.f1 x1.f6.f2 x1.f6.f3 x1.f6.f4 x1.f6.f5 x1.f6.f6 x1.f7 true w (Kd.V_mk hc0_13 (Kd.C_F X.k61_heap hr0_13)) (Kd.V_mk hc0_14 (Kd.C_F X.k46_heap hr0_14)) (Kd.V_mk hc1_13 (Kd.C_F X.k61_heap hr1_13)) (Kd.V_mk hc1_14 (Kd.C_F X.k46_heap hr1_14)) hk
set_option maxRecDepth 100000 in
theorem lifted (os : Os) (started : os.Started) (H : Type) (enc : TypeId × Value → H) :
    ReturnsInHanded {} Try.checked os 9 .any (Rows.indexOrderedSpec.pre6 enc Try.prog Try.f9 Rows.indexOrderedRow.domain false) (Rows.indexOrderedSpec.post enc Try.prog Try.f9 false true false false) := by
  refine returnsInHanded_of_change_sized (C := Try.checked) own started (by kernel_rfl) Try.func9
    (ChangeSpec.witness6 (enc := enc) (C := Try.checked) false ⟨#[], #[(.agg #[(.int .i64 0), (.int .i64 0), (.int .i64 0), (.int .i64 0), (.int .i64 0), (.int .i64 0), (.int .i64 0), (.int .i64 0), (.int .i64 0), (.int .i64 0), (.int .i64 0), (.int .i64 0), (.int .i64 0), (.slice none 0 0), (.slice none 0 0), (.bool false), (.int .i64 0), (.int .i64 0), (.int .i64 0), (.int .i64 0), (.int .i64 0), (.int .i64 0), (.int .i64 0), (.int .i64 0), (.bool false)]), (.agg #[(.int .i64 0), (.int .i64 0), (.int .i64 0), (.int .i64 0), (.int .i64 0), (.int .i64 0), (.int .i64 0), (.int .i64 0), (.int .i64 0), (.int .i64 0), (.int .i64 0), (.int .i64 0), (.int .i64 0), (.slice none 0 0), (.slice none 0 0), (.bool false), (.int .i64 0), (.int .i64 0), (.int .i64 0), (.int .i64 0), (.int .i64 0), (.int .i64 0), (.int .i64 0), (.int .i64 0), (.bool false)])], []⟩ 8 (by kernel_rfl) (by kernel_rfl) (by kernel_rfl) (by kernel_rfl)) ?_
  intro W base args ds gs before hval0 hW hcnd hsz0 _
  have hsz : (DataW.weightsEach Try.prog (Try.f9.params.toList ++ Rows.indexOrderedSpec.plain.varTypes Try.prog) (ds ++ gs)).all (· ≤ reachBytes) = true := hsz0
  have hval : ∀ (j : Nat) t v, Try.f9.params[j]? = some t → args[j]? = some v → Value.okWide Try.prog W .any base t v := hval0
  have hW' := hW
  obtain ⟨p, q, hA0, hV, rfl, hfz, hnd⟩ := hW
  have hA : DataW.TrodAll enc Try.prog W 0 (fun _ => true) true Try.f9.params.toList args.toList ds p := hA0
  rw [Try.params9] at hA hval hsz
  obtain ⟨v0, vs0, d0, ds0, p0, q0, hargs, rfl, rfl, h0, r0⟩ := trodAll_cons hA
  obtain ⟨v1, vs1, d1, ds1, p1, q1, rfl, rfl, rfl, h1, r1⟩ := trodAll_cons r0
  obtain ⟨rfl, rfl, rfl⟩ := trodAll_nil r1
  obtain rfl : args = #[v0, v1] := by cases args; simp_all
  obtain ⟨rfl, rfl⟩ := trodVars_none hV
  have k0 := h0
  have lt0 : ∀ x ∈ p0, x.block < W.heap.size := by obtain ⟨m, hm⟩ := k0; exact DataW.trod_lt m _ _ _ hm
  obtain ⟨u0, hf0⟩ := h0
  obtain ⟨x0, hK0, g0⟩ := opn44 u0 _ _ hf0
  obtain ⟨cs0, rfl⟩ := agg_of_okWide Try.underlying44 rfl (hval 0 44 v0 rfl rfl)
  obtain ⟨A0_13, c0_13, A0_14, c0_14, e0, l0_13, C0_13, l0_14, C0_14⟩ := X.k44_open hK0
  obtain rfl := Array.toList_inj.1 (show cs0.toList = (#[.int .i64 x0.f0.f0, .int .i64 x0.f0.f1, .int .i64 x0.f1, .int .i64 x0.f2.f0, .int .i64 x0.f2.f1, .int .i64 x0.f3.f0, .int .i64 x0.f3.f1, .int .i64 x0.f4.f0, .int .i64 x0.f4.f1.f0, .int .i64 x0.f4.f1.f1, .int .i64 x0.f4.f2.f0, .int .i64 x0.f4.f2.f1, .int .i64 x0.f4.f3, .slice A0_13 x0.f4.f4.length c0_13, .slice A0_14 x0.f4.f5.length c0_14, .bool x0.f4.f6, .int .i64 x0.f5, .int .i64 x0.f6.f0, .int .i64 x0.f6.f1, .int .i64 x0.f6.f2, .int .i64 x0.f6.f3, .int .i64 x0.f6.f4, .int .i64 x0.f6.f5, .int .i64 x0.f6.f6, .bool x0.f7] : Array Value).toList from e0)
  have k1 := h1
  have lt1 : ∀ x ∈ p1, x.block < W.heap.size := by obtain ⟨m, hm⟩ := k1; exact DataW.trod_lt m _ _ _ hm
  obtain ⟨u1, hf1⟩ := h1
  obtain ⟨x1, hK1, g1⟩ := opn44 u1 _ _ hf1
  obtain ⟨cs1, rfl⟩ := agg_of_okWide Try.underlying44 rfl (hval 1 44 v1 rfl rfl)
  obtain ⟨A1_13, c1_13, A1_14, c1_14, e1, l1_13, C1_13, l1_14, C1_14⟩ := X.k44_open hK1
  obtain rfl := Array.toList_inj.1 (show cs1.toList = (#[.int .i64 x1.f0.f0, .int .i64 x1.f0.f1, .int .i64 x1.f1, .int .i64 x1.f2.f0, .int .i64 x1.f2.f1, .int .i64 x1.f3.f0, .int .i64 x1.f3.f1, .int .i64 x1.f4.f0, .int .i64 x1.f4.f1.f0, .int .i64 x1.f4.f1.f1, .int .i64 x1.f4.f2.f0, .int .i64 x1.f4.f2.f1, .int .i64 x1.f4.f3, .slice A1_13 x1.f4.f4.length c1_13, .slice A1_14 x1.f4.f5.length c1_14, .bool x1.f4.f6, .int .i64 x1.f5, .int .i64 x1.f6.f0, .int .i64 x1.f6.f1, .int .i64 x1.f6.f2, .int .i64 x1.f6.f3, .int .i64 x1.f6.f4, .int .i64 x1.f6.f5, .int .i64 x1.f6.f6, .bool x1.f7] : Array Value).toList from e1)
  clear hA0 hval0 hsz0 hsz
  refine (walk x0 A0_13 c0_13 A0_14 c0_14 x1 A1_13 c1_13 A1_14 c1_14 W g0 g1 C0_13 l0_13 C0_14 l0_14 C1_13 l1_13 C1_14 l1_14).mono fun e W' ⟨he, bel⟩ => ?_
  subst he
  exact ⟨_, rfl, _, _, _, [], _, [], hW', trodAll_mk1 (shut_bool Try.underlying4 _), (trodAll_cons_mk (Below.trod laidOut (by kernel_rfl) (of_decide_eq_true (by kernel_rfl)) k0 bel lt0) (trodAll_cons_mk (Below.trod laidOut (by kernel_rfl) (of_decide_eq_true (by kernel_rfl)) k1 bel lt1) trodAll_mk0)), rfl, bel.frame _, fun h => by cases h⟩
theorem and_tt {a b : Bool} (h : a = true) (k : b = true) : (a && b) = true := by rw [h, k]; rfl
set_option maxHeartbeats 8000000 in
theorem joined : joinedFacts Try.pinned.checked.prog 9 Try.f9 Rows.indexOrderedSpec Rows.indexOrderedRow = true := by
  unfold joinedFacts
  repeat' with_reducible refine and_tt ?_ ?_
  all_goals as_aux_lemma => kernel_rfl
theorem over : Rows.indexOrderedRow.holds Try.pinned (OpenSpec.ofChange Rows.indexOrderedSpec) :=
  OpenClaim.holds_of_wide 9 Try.f9 rfl rfl rfl rfl rfl rfl rfl ⟨rfl, rfl, rfl, rfl, rfl⟩ rfl rfl rfl rfl rfl (by kernel_rfl) Try.func9 joined
    (of_decide_eq_true (by kernel_rfl)) (by unfold Func.isWrapper; first | (rw [if_pos (by decide +kernel)]; kernel_rfl) | (rw [if_neg (by decide +kernel)]; exact ⟨rfl, rfl⟩))
    (fun os started H enc _ => lifted os started H enc)
theorem proved : Rows.IndexOrderedSaid := over
#print axioms proved
end Go.Proofs.Ytklbmdakoeoplaa.indexOrdered
namespace Go.Proofs.Ytklbmdakoeoplaa
/-- The row, under a short name, for the claim. -/
theorem indexOrdered_holds : Rows.IndexOrderedSaid := indexOrdered.proved
end Go.Proofs.Ytklbmdakoeoplaa
