/- IndexSlots holds for every input: the row, out of the walk and the plain law. -/
import Derived.Test.YtklbmdakoeoplaaBSLO6
import Derived.Test.YtklbmdakoeoplaaRows
import Derived.WalkKit
import Derived.ProofKit
import Derived.OpenShut
import Derived.ShutString
import Derived.ChangeOld
import Derived.Below
import Derived.SizedLaws
import Derived.Carry
namespace Go.Proofs.Ytklbmdakoeoplaa.indexSlots
open Go.ChangeShapes Go.WideShapes Go.ChangeAt Go.RowKit Go.Proofs.YtklbmdakoeoplaaW.PrintWords Go.Proofs.YtklbmdakoeoplaaW.PrintLast Go.Proofs.YtklbmdakoeoplaaW.PrintMore
open Go.ChangeMaps (open_string shut_string)
set_option linter.unusedVariables false
set_option linter.unusedSimpArgs false
theorem own : ownKnob Try.prog.godebug = none := by kernel_rfl
theorem laidOut : laidOutB Try.prog = true := by kernel_rfl
theorem walk (A0 : Option Addr) (c0 : Nat) (x0 : List (X.S44)) (x1 : X.S44) (A1_13 : Option Addr) (c1_13 : Nat) (A1_14 : Option Addr) (c1_14 : Nat) (x2 : Int) (w : World) (q0 : (inAll q44) x0) (q1 : q44 x1) (q2 : inI64 x2) (hr0 : Kd.C X.k44 w A0 x0.length x0) (hc0 : x0.length ≤ c0) (hr1_13 : Kd.C X.k61 w A1_13 x1.f4.f4.length x1.f4.f4) (hc1_13 : x1.f4.f4.length ≤ c1_13) (hr1_14 : Kd.C X.k46 w A1_14 x1.f4.f5.length x1.f4.f5) (hc1_14 : x1.f4.f5.length ≤ c1_14) :
    Calls Try.prog 6 #[.slice A0 x0.length c0, .agg #[.int .i64 x1.f0.f0, .int .i64 x1.f0.f1, .int .i64 x1.f1, .int .i64 x1.f2.f0, .int .i64 x1.f2.f1, .int .i64 x1.f3.f0, .int .i64 x1.f3.f1, .int .i64 x1.f4.f0, .int .i64 x1.f4.f1.f0, .int .i64 x1.f4.f1.f1, .int .i64 x1.f4.f2.f0, .int .i64 x1.f4.f2.f1, .int .i64 x1.f4.f3, .slice A1_13 x1.f4.f4.length c1_13, .slice A1_14 x1.f4.f5.length c1_14, .bool x1.f4.f6, .int .i64 x1.f5, .int .i64 x1.f6.f0, .int .i64 x1.f6.f1, .int .i64 x1.f6.f2, .int .i64 x1.f6.f3, .int .i64 x1.f6.f4, .int .i64 x1.f6.f5, .int .i64 x1.f6.f6, .bool x1.f7], .int .i64 x2] w fun e w' => e = .returned (.bool true) ∧ Below w.heap.size w w' := by
  obtain ⟨k, hk⟩ := Pure.pure_IndexSlots x0 x1 x2 q0 q1 q2
  exact X.althinglaw11_IndexSlots.calls k A0 c0 x0 x1.f0.f0 x1.f0.f1 x1.f1 x1.f2.f0 x1.f2.f1 x1.f3.f0 x1.f3.f1 x1.f4.f0 x1.f4.f1.f0 x1.f4.f1.f1 x1.f4.f2.f0 x1.f4.f2.f1 x1.f4.f3 (fun k_ => k_ < w.heap.size) A1_13 c1_13 x1.f4.f4 (fun k_ => k_ < w.heap.size) A1_14 c1_14 x1.f4.f5 x1.f4.f6 x1.f5 x1.f6.f0 x1.f6.f1 x1.f6.f2 x1.f6.f3 x1.f6.f4 x1.f6.f5 x1.f6.f6 x1.f7 x2 true w hr0 hc0 (Kd.V_mk hc1_13 (Kd.C_F X.k61_heap hr1_13)) (Kd.V_mk hc1_14 (Kd.C_F X.k46_heap hr1_14)) hk
set_option maxRecDepth 100000 in
theorem lifted (os : Os) (started : os.Started) (H : Type) (enc : TypeId × Value → H) :
    ReturnsInHanded {} Try.checked os 6 .any (Rows.indexSlotsSpec.pre6 enc Try.prog Try.f6 Rows.indexSlotsRow.domain false) (Rows.indexSlotsSpec.post enc Try.prog Try.f6 false true false false) := by
  refine returnsInHanded_of_change_sized (C := Try.checked) own started (by kernel_rfl) Try.func6
    (ChangeSpec.witness6 (enc := enc) (C := Try.checked) false ⟨#[], #[(.slice none 0 0), (.agg #[(.int .i64 0), (.int .i64 0), (.int .i64 0), (.int .i64 0), (.int .i64 0), (.int .i64 0), (.int .i64 0), (.int .i64 0), (.int .i64 0), (.int .i64 0), (.int .i64 0), (.int .i64 0), (.int .i64 0), (.slice none 0 0), (.slice none 0 0), (.bool false), (.int .i64 0), (.int .i64 0), (.int .i64 0), (.int .i64 0), (.int .i64 0), (.int .i64 0), (.int .i64 0), (.int .i64 0), (.bool false)]), (.int .i64 0)], []⟩ 8 (by kernel_rfl) (by kernel_rfl) (by kernel_rfl) (by kernel_rfl)) ?_
  intro W base args ds gs before hval0 hW hcnd hsz0 _
  have hsz : (DataW.weightsEach Try.prog (Try.f6.params.toList ++ Rows.indexSlotsSpec.plain.varTypes Try.prog) (ds ++ gs)).all (· ≤ reachBytes) = true := hsz0
  have hval : ∀ (j : Nat) t v, Try.f6.params[j]? = some t → args[j]? = some v → Value.okWide Try.prog W .any base t v := hval0
  have hW' := hW
  obtain ⟨p, q, hA0, hV, rfl, hfz, hnd⟩ := hW
  have hA : DataW.TrodAll enc Try.prog W 0 (fun _ => true) true Try.f6.params.toList args.toList ds p := hA0
  rw [Try.params6] at hA hval hsz
  obtain ⟨v0, vs0, d0, ds0, p0, q0, hargs, rfl, rfl, h0, r0⟩ := trodAll_cons hA
  obtain ⟨v1, vs1, d1, ds1, p1, q1, rfl, rfl, rfl, h1, r1⟩ := trodAll_cons r0
  obtain ⟨v2, vs2, d2, ds2, p2, q2, rfl, rfl, rfl, h2, r2⟩ := trodAll_cons r1
  obtain ⟨rfl, rfl, rfl⟩ := trodAll_nil r2
  obtain rfl : args = #[v0, v1, v2] := by cases args; simp_all
  obtain ⟨rfl, rfl⟩ := trodVars_none hV
  have k0 := h0
  have lt0 : ∀ x ∈ p0, x.block < W.heap.size := by obtain ⟨m, hm⟩ := k0; exact DataW.trod_lt m _ _ _ hm
  obtain ⟨u0, hf0⟩ := h0
  obtain ⟨x0, hK0, g0⟩ := (Opn.slice Try.underlying22 (by kernel_rfl) opn44) u0 _ _ hf0
  obtain ⟨a0, len0, cap0, rfl⟩ := okWide_slice Try.underlying22 (hval 0 22 v0 rfl rfl)
  obtain ⟨A0, c0, e0, l0, C0⟩ := hK0
  simp [Value.cells] at e0
  obtain ⟨rfl, rfl, rfl⟩ := e0
  have k1 := h1
  have lt1 : ∀ x ∈ p1, x.block < W.heap.size := by obtain ⟨m, hm⟩ := k1; exact DataW.trod_lt m _ _ _ hm
  obtain ⟨u1, hf1⟩ := h1
  obtain ⟨x1, hK1, g1⟩ := opn44 u1 _ _ hf1
  obtain ⟨cs1, rfl⟩ := agg_of_okWide Try.underlying44 rfl (hval 1 44 v1 rfl rfl)
  obtain ⟨A1_13, c1_13, A1_14, c1_14, e1, l1_13, C1_13, l1_14, C1_14⟩ := X.k44_open hK1
  obtain rfl := Array.toList_inj.1 (show cs1.toList = (#[.int .i64 x1.f0.f0, .int .i64 x1.f0.f1, .int .i64 x1.f1, .int .i64 x1.f2.f0, .int .i64 x1.f2.f1, .int .i64 x1.f3.f0, .int .i64 x1.f3.f1, .int .i64 x1.f4.f0, .int .i64 x1.f4.f1.f0, .int .i64 x1.f4.f1.f1, .int .i64 x1.f4.f2.f0, .int .i64 x1.f4.f2.f1, .int .i64 x1.f4.f3, .slice A1_13 x1.f4.f4.length c1_13, .slice A1_14 x1.f4.f5.length c1_14, .bool x1.f4.f6, .int .i64 x1.f5, .int .i64 x1.f6.f0, .int .i64 x1.f6.f1, .int .i64 x1.f6.f2, .int .i64 x1.f6.f3, .int .i64 x1.f6.f4, .int .i64 x1.f6.f5, .int .i64 x1.f6.f6, .bool x1.f7] : Array Value).toList from e1)
  obtain ⟨a2, rfl, rfl, rfl, w2⟩ := open_int Try.underlying3 (hval 2 3 v2 rfl rfl) h2
  clear hA0 hval0 hsz0 hsz
  refine (walk a0 cap0 x0 x1 A1_13 c1_13 A1_14 c1_14 a2 W g0 g1 (by have h_ := w2; simp [Lit.wf, IntKind.min, IntKind.max, IntKind.signed, IntKind.bits] at h_; unfold inI64; omega) C0 l0 C1_13 l1_13 C1_14 l1_14).mono fun e W' ⟨he, bel⟩ => ?_
  subst he
  exact ⟨_, rfl, _, _, _, [], _, [], hW', trodAll_mk1 (shut_bool Try.underlying4 _), (trodAll_cons_mk (Below.trod laidOut (by kernel_rfl) (of_decide_eq_true (by kernel_rfl)) k0 bel lt0) (trodAll_cons_mk (Below.trod laidOut (by kernel_rfl) (of_decide_eq_true (by kernel_rfl)) k1 bel lt1) (trodAll_cons_mk (shut_int Try.underlying3 w2) trodAll_mk0))), rfl, bel.frame _, fun h => by cases h⟩
theorem and_tt {a b : Bool} (h : a = true) (k : b = true) : (a && b) = true := by rw [h, k]; rfl
set_option maxHeartbeats 8000000 in
theorem joined : joinedFacts Try.pinned.checked.prog 6 Try.f6 Rows.indexSlotsSpec Rows.indexSlotsRow = true := by
  unfold joinedFacts
  repeat' with_reducible refine and_tt ?_ ?_
  all_goals as_aux_lemma => kernel_rfl
theorem over : Rows.indexSlotsRow.holds Try.pinned (OpenSpec.ofChange Rows.indexSlotsSpec) :=
  OpenClaim.holds_of_wide 6 Try.f6 rfl rfl rfl rfl rfl rfl rfl ⟨rfl, rfl, rfl, rfl, rfl⟩ rfl rfl rfl rfl rfl (by kernel_rfl) Try.func6 joined
    (of_decide_eq_true (by kernel_rfl)) (by unfold Func.isWrapper; first | (rw [if_pos (by decide +kernel)]; kernel_rfl) | (rw [if_neg (by decide +kernel)]; exact ⟨rfl, rfl⟩))
    (fun os started H enc _ => lifted os started H enc)
theorem proved : Rows.IndexSlotsSaid := over
#print axioms proved
end Go.Proofs.Ytklbmdakoeoplaa.indexSlots
namespace Go.Proofs.Ytklbmdakoeoplaa
/-- The row, under a short name, for the claim. -/
theorem indexSlots_holds : Rows.IndexSlotsSaid := indexSlots.proved
end Go.Proofs.Ytklbmdakoeoplaa
