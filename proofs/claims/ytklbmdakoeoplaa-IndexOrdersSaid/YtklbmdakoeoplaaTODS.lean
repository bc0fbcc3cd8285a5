/- IndexOrders holds for every input: the row, out of the walk and the plain law. -/
import Derived.Test.YtklbmdakoeoplaaBODS7
import Derived.Test.YtklbmdakoeoplaaRows
import Derived.WalkKit
import Derived.ProofKit
import Derived.OpenShut
import Derived.ShutString
import Derived.ChangeOld
import Derived.Below
import Derived.SizedLaws
import Derived.Carry
namespace Go.Proofs.Ytklbmdakoeoplaa.indexOrders
open Go.ChangeShapes Go.WideShapes Go.ChangeAt Go.RowKit Go.Proofs.YtklbmdakoeoplaaW.PrintWords Go.Proofs.YtklbmdakoeoplaaW.PrintLast Go.Proofs.YtklbmdakoeoplaaW.PrintMore
open Go.ChangeMaps (open_string shut_string)
set_option linter.unusedVariables false
set_option linter.unusedSimpArgs false
theorem own : ownKnob Try.prog.godebug = none := by kernel_rfl
theorem laidOut : laidOutB Try.prog = true := by kernel_rfl
theorem walk (A0 : Option Addr) (c0 : Nat) (x0 : List (X.S44)) (x1 : X.S24) (x2 : X.S32) (A2_6 : Option Addr) (c2_6 : Nat) (A2_7 : Option Addr) (c2_7 : Nat) (w : World) (q0 : (inAll q44) x0) (q1 : q24 x1) (q2 : q32 x2) (hr0 : Kd.C X.k44 w A0 x0.length x0) (hc0 : x0.length ≤ c0) (hr2_6 : Kd.C X.k61 w A2_6 x2.f4.length x2.f4) (hc2_6 : x2.f4.length ≤ c2_6) (hr2_7 : Kd.C X.k46 w A2_7 x2.f5.length x2.f5) (hc2_7 : x2.f5.length ≤ c2_7) :
    Calls Try.prog 8 #[.slice A0 x0.length c0, .agg #[.int .i64 x1.f0, .int .i64 x1.f1], .agg #[.int .i64 x2.f0, .int .i64 x2.f1.f0, .int .i64 x2.f1.f1, .int .i64 x2.f2.f0, .int .i64 x2.f2.f1, .int .i64 x2.f3, .slice A2_6 x2.f4.length c2_6, .slice A2_7 x2.f5.length c2_7, .bool x2.f6]] w fun e w' => e = .returned (.bool true) ∧ Below w.heap.size w w' := by
  obtain ⟨k, hk⟩ := Pure.pure_IndexOrders x0 x1 x2 q0 q1 q2
  exact X.althinglaw11_IndexOrders.calls k A0 c0 x0 x1.f0 x1.f1 x2.f0 x2.f1.f0 x2.f1.f1 x2.f2.f0 x2.f2.f1 x2.f3 (fun k_ => k_ < w.heap.size) A2_6 c2_6 x2.f4 (fun k_ => k_ < w.heap.size) A2_7 c2_7 x2.f5 x2.f6 true w hr0 hc0 (Kd.V_mk hc2_6 (Kd.C_F X.k61_heap hr2_6)) (Kd.V_mk hc2_7 (Kd.C_F X.k46_heap hr2_7)) hk
set_option maxRecDepth 100000 in
theorem lifted (os : Os) (started : os.Started) (H : Type) (enc : TypeId × Value → H) :
    ReturnsInHanded {} Try.checked os 8 .any (Rows.indexOrdersSpec.pre6 enc Try.prog Try.f8 Rows.indexOrdersRow.domain false) (Rows.indexOrdersSpec.post enc Try.prog Try.f8 false true false false) := by
  refine returnsInHanded_of_change_sized (C := Try.checked) own started (by kernel_rfl) Try.func8
    (ChangeSpec.witness6 (enc := enc) (C := Try.checked) false ⟨#[], #[(.slice none 0 0), (.agg #[(.int .i64 0), (.int .i64 0)]), (.agg #[(.int .i64 0), (.int .i64 0), (.int .i64 0), (.int .i64 0), (.int .i64 0), (.int .i64 0), (.slice none 0 0), (.slice none 0 0), (.bool false)])], []⟩ 8 (by kernel_rfl) (by kernel_rfl) (by kernel_rfl) (by kernel_rfl)) ?_
  intro W base args ds gs before hval0 hW hcnd hsz0 _
  have hsz : (DataW.weightsEach Try.prog (Try.f8.params.toList ++ Rows.indexOrdersSpec.plain.varTypes Try.prog) (ds ++ gs)).all (· ≤ reachBytes) = true := hsz0
  have hval : ∀ (j : Nat) t v, Try.f8.params[j]? = some t → args[j]? = some v → Value.okWide Try.prog W .any base t v := hval0
  have hW' := hW
  obtain ⟨p, q, hA0, hV, rfl, hfz, hnd⟩ := hW
  have hA : DataW.TrodAll enc Try.prog W 0 (fun _ => true) true Try.f8.params.toList args.toList ds p := hA0
  rw [Try.params8] at hA hval hsz
  obtain ⟨v0, vs0, d0, ds0, p0, q0, hargs, rfl, rfl, h0, r0⟩ := trodAll_cons hA
  obtain ⟨v1, vs1, d1, ds1, p1, q1, rfl, rfl, rfl, h1, r1⟩ := trodAll_cons r0
  obtain ⟨v2, vs2, d2, ds2, p2, q2, rfl, rfl, rfl, h2, r2⟩ := trodAll_cons r1
  obtain ⟨rfl, rfl, rfl⟩ := trodAll_nil r2
  obtain rfl : args = #[v0, v1, v2] := by cases args; simp_all
  obtain ⟨rfl, rfl⟩ := trodVars_none hV
  have k0 := h0
  have lt0 : ∀ x ∈ p0, x.block < W.heap.size := by obtain ⟨m, hm⟩ := k0; exact DataW.trod_lt m _ _ _ hm
  obtain ⟨u0, hf0⟩ := h0
  obtain ⟨x0, hK0, g0⟩ := (Opn.slice Try.underlying22 (by kernel_rfl) opn44) u0 _ _ hf0
  obtain ⟨a0, len0, cap0, rfl⟩ := okWide_slice Try.underlying22 (hval 0 22 v0 rfl rfl)
  obtain ⟨A0, c0, e0, l0, C0⟩ := hK0
  simp [Value.cells] at e0
  obtain ⟨rfl, rfl, rfl⟩ := e0
  have k1 := h1
  have lt1 : ∀ x ∈ p1, x.block < W.heap.size := by obtain ⟨m, hm⟩ := k1; exact DataW.trod_lt m _ _ _ hm
  obtain ⟨u1, hf1⟩ := h1
  obtain ⟨x1, hK1, g1⟩ := opn24 u1 _ _ hf1
  obtain ⟨cs1, rfl⟩ := agg_of_okWide Try.underlying24 rfl (hval 1 24 v1 rfl rfl)
  have e1 := X.k24_open hK1
  obtain rfl := Array.toList_inj.1 (show cs1.toList = (#[.int .i64 x1.f0, .int .i64 x1.f1] : Array Value).toList from e1)
  have k2 := h2
  have lt2 : ∀ x ∈ p2, x.block < W.heap.size := by obtain ⟨m, hm⟩ := k2; exact DataW.trod_lt m _ _ _ hm
  obtain ⟨u2, hf2⟩ := h2
  obtain ⟨x2, hK2, g2⟩ := opn32 u2 _ _ hf2
  obtain ⟨cs2, rfl⟩ := agg_of_okWide Try.underlying32 rfl (hval 2 32 v2 rfl rfl)
  obtain ⟨A2_6, c2_6, A2_7, c2_7, e2, l2_6, C2_6, l2_7, C2_7⟩ := X.k32_open hK2
  obtain rfl := Array.toList_inj.1 (show cs2.toList = (#[.int .i64 x2.f0, .int .i64 x2.f1.f0, .int .i64 x2.f1.f1, .int .i64 x2.f2.f0, .int .i64 x2.f2.f1, .int .i64 x2.f3, .slice A2_6 x2.f4.length c2_6, .slice A2_7 x2.f5.length c2_7, .bool x2.f6] : Array Value).toList from e2)
  clear hA0 hval0 hsz0 hsz
  refine (walk a0 cap0 x0 x1 x2 A2_6 c2_6 A2_7 c2_7 W g0 g1 g2 C0 l0 C2_6 l2_6 C2_7 l2_7).mono fun e W' ⟨he, bel⟩ => ?_
  subst he
  exact ⟨_, rfl, _, _, _, [], _, [], hW', trodAll_mk1 (shut_bool Try.underlying4 _), (trodAll_cons_mk (Below.trod laidOut (by kernel_rfl) (of_decide_eq_true (by kernel_rfl)) k0 bel lt0) (trodAll_cons_mk (Below.trod laidOut (by kernel_rfl) (of_decide_eq_true (by kernel_rfl)) k1 bel lt1) (trodAll_cons_mk (Below.trod laidOut (by kernel_rfl) (of_decide_eq_true (by kernel_rfl)) k2 bel lt2) trodAll_mk0))), rfl, bel.frame _, fun h => by cases h⟩
theorem and_tt {a b : Bool} (h : a = true) (k : b = true) : (a && b) = true := by rw [h, k]; rfl
set_option maxHeartbeats 8000000 in
theorem joined : joinedFacts Try.pinned.checked.prog 8 Try.f8 Rows.indexOrdersSpec Rows.indexOrdersRow = true := by
  unfold joinedFacts
  repeat' with_reducible refine and_tt ?_ ?_
  all_goals as_aux_lemma => kernel_rfl
theorem over : Rows.indexOrdersRow.holds Try.pinned (OpenSpec.ofChange Rows.indexOrdersSpec) :=
  OpenClaim.holds_of_wide 8 Try.f8 rfl rfl rfl rfl rfl rfl rfl ⟨rfl, rfl, rfl, rfl, rfl⟩ rfl rfl rfl rfl rfl (by kernel_rfl) Try.func8 joined
    (of_decide_eq_true (by kernel_rfl)) (by unfold Func.isWrapper; first | (rw [if_pos (by decide +kernel)]; kernel_rfl) | (rw [if_neg (by decide +kernel)]; exact ⟨rfl, rfl⟩))
    (fun os started H enc _ => lifted os started H enc)
theorem proved : Rows.IndexOrdersSaid := over
#print axioms proved
end Go.Proofs.Ytklbmdakoeoplaa.indexOrders
namespace Go.Proofs.Ytklbmdakoeoplaa
/-- The row, under a short name, for the claim. -/
theorem indexOrders_holds : Rows.IndexOrdersSaid := indexOrders.proved
end Go.Proofs.Ytklbmdakoeoplaa
