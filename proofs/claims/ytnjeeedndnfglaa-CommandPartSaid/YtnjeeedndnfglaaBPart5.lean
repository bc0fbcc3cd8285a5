/- What the claim Part leans on: texts joined by bundle.py, a program of ours; the words cut down to what is used. -/
import Derived.Test.YtnjeeedndnfglaaBPart4
import Derived.Lib.RuneCountTail
import Derived.Lib.TrimU
import Derived.Lib.OthersKept
section
namespace Go.Proofs.Ytnjeeedndnfglaa.X
open Go.RowKit Go.Proofs.YtnjeeedndnfglaaW.PrintWords Go.Proofs.YtnjeeedndnfglaaW.PrintLast Go.Proofs.YtnjeeedndnfglaaW.PrintMore
attribute [local go_sem] max2_int min2_int max_two min_two max_three min_three max_four min_four   -- for this text's walks alone
set_option linter.unusedVariables false
set_option linter.unusedSimpArgs false
attribute [local go_sem high] eqA23 eqA25 eqA38 eqA40
/-! ### althingref05_Same: function 11 -/
mutual
def althingref05_Same.j0 : Nat → Bool → Int → Int → Int → Int → Int → Int → List (S38) → List (S40) → Bool → Int → Int → Int → Int → Int → Int → List (S38) → List (S40) → Bool → Option (Bool)
 | 0, _, _, _, _, _, _, _, _, _, _, _, _, _, _, _, _, _, _, _ => none
 | k + 1, x57, x280000, x280001, x280002, x280003, x280004, x280005, x280006, x280007, x280008, x281000, x281001, x281002, x281003, x281004, x281005, x281006, x281007, x281008 => if x57 = true then (some false) else (althingref05_Same.l0 k 0 x280000 x280001 x280002 x280003 x280004 x280005 x280006 x280007 x280008 x281000 x281001 x281002 x281003 x281004 x281005 x281006 x281007 x281008)
def althingref05_Same.l0 : Nat → Int → Int → Int → Int → Int → Int → Int → List (S38) → List (S40) → Bool → Int → Int → Int → Int → Int → Int → List (S38) → List (S40) → Bool → Option (Bool)
 | 0, _, _, _, _, _, _, _, _, _, _, _, _, _, _, _, _, _, _, _ => none
 | k + 1, x5, x280000, x280001, x280002, x280003, x280004, x280005, x280006, x280007, x280008, x281000, x281001, x281002, x281003, x281004, x281005, x281006, x281007, x281008 => if x5 < (x280006.length : Int) then (if 0 ≤ x5 then (if x5 < (x281006.length : Int) then (if (!((((rd_T38 x280006 x5).f0).toList) == (((rd_T38 x281006 x5).f0).toList)) || ((!(((rd_T38 x280006 x5).f1.f0) == ((rd_T38 x281006 x5).f1.f0)) || (!(((rd_T38 x280006 x5).f1.f1) == ((rd_T38 x281006 x5).f1.f1)))))) = true then (some false) else (althingref05_Same.l0 k (wrap64 (x5 + 1)) x280000 x280001 x280002 x280003 x280004 x280005 x280006 x280007 x280008 x281000 x281001 x281002 x281003 x281004 x281005 x281006 x281007 x281008)) else (none)) else (none)) else (althingref05_Same.l1 k 0 x280000 x280001 x280002 x280003 x280004 x280005 x280006 x280007 x280008 x281000 x281001 x281002 x281003 x281004 x281005 x281006 x281007 x281008)
def althingref05_Same.l1 : Nat → Int → Int → Int → Int → Int → Int → Int → List (S38) → List (S40) → Bool → Int → Int → Int → Int → Int → Int → List (S38) → List (S40) → Bool → Option (Bool)
 | 0, _, _, _, _, _, _, _, _, _, _, _, _, _, _, _, _, _, _, _ => none
 | k + 1, x6, x280000, x280001, x280002, x280003, x280004, x280005, x280006, x280007, x280008, x281000, x281001, x281002, x281003, x281004, x281005, x281006, x281007, x281008 => if x6 < (x280007.length : Int) then (if 0 ≤ x6 then (if x6 < (x281007.length : Int) then (if (!((((rd_T40 x280007 x6).f0).toList) == (((rd_T40 x281007 x6).f0).toList)) || (!((((rd_T40 x280007 x6).f1).toList) == (((rd_T40 x281007 x6).f1).toList)))) = true then (some false) else (althingref05_Same.l1 k (wrap64 (x6 + 1)) x280000 x280001 x280002 x280003 x280004 x280005 x280006 x280007 x280008 x281000 x281001 x281002 x281003 x281004 x281005 x281006 x281007 x281008)) else (none)) else (none)) else (some true)
end
def althingref05_Same.f (k : Nat) (a0_0 : Int) (a0_1 : Int) (a0_2 : Int) (a0_3 : Int) (a0_4 : Int) (a0_5 : Int) (l0_6 : List (S38)) (l0_7 : List (S40)) (a0_8 : Bool) (a1_0 : Int) (a1_1 : Int) (a1_2 : Int) (a1_3 : Int) (a1_4 : Int) (a1_5 : Int) (l1_6 : List (S38)) (l1_7 : List (S40)) (a1_8 : Bool) : Option (Bool) := if a0_0 = a1_0 then (if (!(a0_1 == a1_1) || (!(a0_2 == a1_2))) = true then (althingref05_Same.j0 k true a0_0 a0_1 a0_2 a0_3 a0_4 a0_5 l0_6 l0_7 a0_8 a1_0 a1_1 a1_2 a1_3 a1_4 a1_5 l1_6 l1_7 a1_8) else (if (!(a0_3 == a1_3) || (!(a0_4 == a1_4))) = true then (althingref05_Same.j0 k true a0_0 a0_1 a0_2 a0_3 a0_4 a0_5 l0_6 l0_7 a0_8 a1_0 a1_1 a1_2 a1_3 a1_4 a1_5 l1_6 l1_7 a1_8) else (if a0_5 = a1_5 then (if (a0_8 != a1_8) = true then (althingref05_Same.j0 k true a0_0 a0_1 a0_2 a0_3 a0_4 a0_5 l0_6 l0_7 a0_8 a1_0 a1_1 a1_2 a1_3 a1_4 a1_5 l1_6 l1_7 a1_8) else (if (l0_6.length : Int) = (l1_6.length : Int) then (althingref05_Same.j0 k ((l0_7.length : Int) != (l1_7.length : Int)) a0_0 a0_1 a0_2 a0_3 a0_4 a0_5 l0_6 l0_7 a0_8 a1_0 a1_1 a1_2 a1_3 a1_4 a1_5 l1_6 l1_7 a1_8) else (althingref05_Same.j0 k true a0_0 a0_1 a0_2 a0_3 a0_4 a0_5 l0_6 l0_7 a0_8 a1_0 a1_1 a1_2 a1_3 a1_4 a1_5 l1_6 l1_7 a1_8))) else (althingref05_Same.j0 k true a0_0 a0_1 a0_2 a0_3 a0_4 a0_5 l0_6 l0_7 a0_8 a1_0 a1_1 a1_2 a1_3 a1_4 a1_5 l1_6 l1_7 a1_8)))) else (althingref05_Same.j0 k true a0_0 a0_1 a0_2 a0_3 a0_4 a0_5 l0_6 l0_7 a0_8 a1_0 a1_1 a1_2 a1_3 a1_4 a1_5 l1_6 l1_7 a1_8)
theorem althingref05_Same.mono_l : ∀ k, (∀ y0 y1 y2 y3 y4 y5 y6 y7 y8 y9 y10 y11 y12 y13 y14 y15 y16 y17 y18, LeO (althingref05_Same.j0 k y0 y1 y2 y3 y4 y5 y6 y7 y8 y9 y10 y11 y12 y13 y14 y15 y16 y17 y18) (althingref05_Same.j0 (k + 1) y0 y1 y2 y3 y4 y5 y6 y7 y8 y9 y10 y11 y12 y13 y14 y15 y16 y17 y18)) ∧ (∀ y0 y1 y2 y3 y4 y5 y6 y7 y8 y9 y10 y11 y12 y13 y14 y15 y16 y17 y18, LeO (althingref05_Same.l0 k y0 y1 y2 y3 y4 y5 y6 y7 y8 y9 y10 y11 y12 y13 y14 y15 y16 y17 y18) (althingref05_Same.l0 (k + 1) y0 y1 y2 y3 y4 y5 y6 y7 y8 y9 y10 y11 y12 y13 y14 y15 y16 y17 y18)) ∧ (∀ y0 y1 y2 y3 y4 y5 y6 y7 y8 y9 y10 y11 y12 y13 y14 y15 y16 y17 y18, LeO (althingref05_Same.l1 k y0 y1 y2 y3 y4 y5 y6 y7 y8 y9 y10 y11 y12 y13 y14 y15 y16 y17 y18) (althingref05_Same.l1 (k + 1) y0 y1 y2 y3 y4 y5 y6 y7 y8 y9 y10 y11 y12 y13 y14 y15 y16 y17 y18))
 | 0 => ⟨fun _ _ _ _ _ _ _ _ _ _ _ _ _ _ _ _ _ _ _ r h => by simp [althingref05_Same.j0] at h, fun _ _ _ _ _ _ _ _ _ _ _ _ _ _ _ _ _ _ _ r h => by simp [althingref05_Same.l0] at h, fun _ _ _ _ _ _ _ _ _ _ _ _ _ _ _ _ _ _ _ r h => by simp [althingref05_Same.l1] at h⟩
 | k + 1 => by
  obtain ⟨ih0, ih1, ih2⟩ := althingref05_Same.mono_l k
  refine ⟨?_, ?_, ?_⟩
  · intro y0 y1 y2 y3 y4 y5 y6 y7 y8 y9 y10 y11 y12 y13 y14 y15 y16 y17 y18
    unfold althingref05_Same.j0
    repeat' first
    | (with_reducible exact ih0 _ _ _ _ _ _ _ _ _ _ _ _ _ _ _ _ _ _ _)
    | (with_reducible exact ih1 _ _ _ _ _ _ _ _ _ _ _ _ _ _ _ _ _ _ _)
    | (with_reducible exact ih2 _ _ _ _ _ _ _ _ _ _ _ _ _ _ _ _ _ _ _)
    | (with_reducible exact LeO.refl _)
    | (with_reducible exact LeO.none _)
    | (with_reducible refine LeO.ite ?_ ?_)
    | (with_reducible refine LeO.bind ?_ (fun _ => ?_))
    | exact ih0 _ _ _ _ _ _ _ _ _ _ _ _ _ _ _ _ _ _ _
    | exact ih1 _ _ _ _ _ _ _ _ _ _ _ _ _ _ _ _ _ _ _
    | exact ih2 _ _ _ _ _ _ _ _ _ _ _ _ _ _ _ _ _ _ _
    | exact LeO.none _
    | refine LeO.ite ?_ ?_
    | refine LeO.bind ?_ (fun _ => ?_)
  · intro y0 y1 y2 y3 y4 y5 y6 y7 y8 y9 y10 y11 y12 y13 y14 y15 y16 y17 y18
    unfold althingref05_Same.l0
    repeat' first
    | (with_reducible exact ih0 _ _ _ _ _ _ _ _ _ _ _ _ _ _ _ _ _ _ _)
    | (with_reducible exact ih1 _ _ _ _ _ _ _ _ _ _ _ _ _ _ _ _ _ _ _)
    | (with_reducible exact ih2 _ _ _ _ _ _ _ _ _ _ _ _ _ _ _ _ _ _ _)
    | (with_reducible exact LeO.refl _)
    | (with_reducible exact LeO.none _)
    | (with_reducible refine LeO.ite ?_ ?_)
    | (with_reducible refine LeO.bind ?_ (fun _ => ?_))
    | exact ih0 _ _ _ _ _ _ _ _ _ _ _ _ _ _ _ _ _ _ _
    | exact ih1 _ _ _ _ _ _ _ _ _ _ _ _ _ _ _ _ _ _ _
    | exact ih2 _ _ _ _ _ _ _ _ _ _ _ _ _ _ _ _ _ _ _
    | exact LeO.none _
    | refine LeO.ite ?_ ?_
    | refine LeO.bind ?_ (fun _ => ?_)
  · intro y0 y1 y2 y3 y4 y5 y6 y7 y8 y9 y10 y11 y12 y13 y14 y15 y16 y17 y18
    unfold althingref05_Same.l1
    repeat' first
    | (with_reducible exact ih0 _ _ _ _ _ _ _ _ _ _ _ _ _ _ _ _ _ _ _)
    | (with_reducible exact ih1 _ _ _ _ _ _ _ _ _ _ _ _ _ _ _ _ _ _ _)
    | (with_reducible exact ih2 _ _ _ _ _ _ _ _ _ _ _ _ _ _ _ _ _ _ _)
    | (with_reducible exact LeO.refl _)
    | (with_reducible exact LeO.none _)
    | (with_reducible refine LeO.ite ?_ ?_)
    | (with_reducible refine LeO.bind ?_ (fun _ => ?_))
    | exact ih0 _ _ _ _ _ _ _ _ _ _ _ _ _ _ _ _ _ _ _
    | exact ih1 _ _ _ _ _ _ _ _ _ _ _ _ _ _ _ _ _ _ _
    | exact ih2 _ _ _ _ _ _ _ _ _ _ _ _ _ _ _ _ _ _ _
    | exact LeO.none _
    | refine LeO.ite ?_ ?_
    | refine LeO.bind ?_ (fun _ => ?_)
theorem althingref05_Same.mono : ∀ a0 a1 a2 a3 a4 a5 a6 a7 a8 a9 a10 a11 a12 a13 a14 a15 a16 a17 k, LeO (althingref05_Same.f k a0 a1 a2 a3 a4 a5 a6 a7 a8 a9 a10 a11 a12 a13 a14 a15 a16 a17) (althingref05_Same.f (k + 1) a0 a1 a2 a3 a4 a5 a6 a7 a8 a9 a10 a11 a12 a13 a14 a15 a16 a17) := by
 intro a0 a1 a2 a3 a4 a5 a6 a7 a8 a9 a10 a11 a12 a13 a14 a15 a16 a17 k
 obtain ⟨ih0, ih1, ih2⟩ := althingref05_Same.mono_l k
 unfold althingref05_Same.f
 repeat' first
  | (with_reducible exact ih0 _ _ _ _ _ _ _ _ _ _ _ _ _ _ _ _ _ _ _)
  | (with_reducible exact ih1 _ _ _ _ _ _ _ _ _ _ _ _ _ _ _ _ _ _ _)
  | (with_reducible exact ih2 _ _ _ _ _ _ _ _ _ _ _ _ _ _ _ _ _ _ _)
  | (with_reducible exact LeO.refl _)
  | (with_reducible exact LeO.none _)
  | (with_reducible refine LeO.ite ?_ ?_)
  | (with_reducible refine LeO.bind ?_ (fun _ => ?_))
  | exact ih0 _ _ _ _ _ _ _ _ _ _ _ _ _ _ _ _ _ _ _
  | exact ih1 _ _ _ _ _ _ _ _ _ _ _ _ _ _ _ _ _ _ _
  | exact ih2 _ _ _ _ _ _ _ _ _ _ _ _ _ _ _ _ _ _ _
  | exact LeO.none _
  | refine LeO.ite ?_ ?_
  | refine LeO.bind ?_ (fun _ => ?_)
set_option maxHeartbeats 8000000 in
set_option maxRecDepth 100000 in
theorem althingref05_Same.calls (k : Nat) (a0_0 : Int) (a0_1 : Int) (a0_2 : Int) (a0_3 : Int) (a0_4 : Int) (a0_5 : Int) (A0_6 : Option Addr) (c0_6 : Nat) (l0_6 : List (S38)) (A0_7 : Option Addr) (c0_7 : Nat) (l0_7 : List (S40)) (a0_8 : Bool) (a1_0 : Int) (a1_1 : Int) (a1_2 : Int) (a1_3 : Int) (a1_4 : Int) (a1_5 : Int) (A1_6 : Option Addr) (c1_6 : Nat) (l1_6 : List (S38)) (A1_7 : Option Addr) (c1_7 : Nat) (l1_7 : List (S40)) (a1_8 : Bool) (r : Bool) (w : World) (hr0_6 : Kd.C k38 w A0_6 l0_6.length l0_6) (hc0_6 : l0_6.length ≤ c0_6) (hr0_7 : Kd.C k40 w A0_7 l0_7.length l0_7) (hc0_7 : l0_7.length ≤ c0_7) (hr1_6 : Kd.C k38 w A1_6 l1_6.length l1_6) (hc1_6 : l1_6.length ≤ c1_6) (hr1_7 : Kd.C k40 w A1_7 l1_7.length l1_7) (hc1_7 : l1_7.length ≤ c1_7) (h : althingref05_Same.f k a0_0 a0_1 a0_2 a0_3 a0_4 a0_5 l0_6 l0_7 a0_8 a1_0 a1_1 a1_2 a1_3 a1_4 a1_5 l1_6 l1_7 a1_8 = some r) :
 Calls Try.prog 11 #[.agg #[.int .i64 a0_0, .int .i64 a0_1, .int .i64 a0_2, .int .i64 a0_3, .int .i64 a0_4, .int .i64 a0_5, .slice A0_6 l0_6.length c0_6, .slice A0_7 l0_7.length c0_7, .bool a0_8], .agg #[.int .i64 a1_0, .int .i64 a1_1, .int .i64 a1_2, .int .i64 a1_3, .int .i64 a1_4, .int .i64 a1_5, .slice A1_6 l1_6.length c1_6, .slice A1_7 l1_7.length c1_7, .bool a1_8]] w fun e w' => e = .returned (.bool r) ∧ Below w.heap.size w w' := by
 have hu29 := Try.underlying29
 have hu23 := Try.underlying23
 have hu25 := Try.underlying25
 have hu38 := Try.underlying38
 have hu40 := Try.underlying40
 have HR0_6 := Aside0.mk hr0_6
 have HC0_6 := Aside0.mk hc0_6
 clear hr0_6 hc0_6
 have HR0_7 := Aside0.mk hr0_7
 have HC0_7 := Aside0.mk hc0_7
 clear hr0_7 hc0_7
 have HR1_6 := Aside0.mk hr1_6
 have HC1_6 := Aside0.mk hc1_6
 clear hr1_6 hc1_6
 have HR1_7 := Aside0.mk hr1_7
 have HC1_7 := Aside0.mk hc1_7
 clear hr1_7 hc1_7
 have HB := Aside0.mk (Below.refl w.heap.size w)
 have H : (if a0_0 = a1_0 then (if (!(a0_1 == a1_1) || (!(a0_2 == a1_2))) = true then (althingref05_Same.j0 k true a0_0 a0_1 a0_2 a0_3 a0_4 a0_5 l0_6 l0_7 a0_8 a1_0 a1_1 a1_2 a1_3 a1_4 a1_5 l1_6 l1_7 a1_8) else (if (!(a0_3 == a1_3) || (!(a0_4 == a1_4))) = true then (althingref05_Same.j0 k true a0_0 a0_1 a0_2 a0_3 a0_4 a0_5 l0_6 l0_7 a0_8 a1_0 a1_1 a1_2 a1_3 a1_4 a1_5 l1_6 l1_7 a1_8) else (if a0_5 = a1_5 then (if (a0_8 != a1_8) = true then (althingref05_Same.j0 k true a0_0 a0_1 a0_2 a0_3 a0_4 a0_5 l0_6 l0_7 a0_8 a1_0 a1_1 a1_2 a1_3 a1_4 a1_5 l1_6 l1_7 a1_8) else (if (l0_6.length : Int) = (l1_6.length : Int) then (althingref05_Same.j0 k ((l0_7.length : Int) != (l1_7.length : Int)) a0_0 a0_1 a0_2 a0_3 a0_4 a0_5 l0_6 l0_7 a0_8 a1_0 a1_1 a1_2 a1_3 a1_4 a1_5 l1_6 l1_7 a1_8) else (althingref05_Same.j0 k true a0_0 a0_1 a0_2 a0_3 a0_4 a0_5 l0_6 l0_7 a0_8 a1_0 a1_1 a1_2 a1_3 a1_4 a1_5 l1_6 l1_7 a1_8))) else (althingref05_Same.j0 k true a0_0 a0_1 a0_2 a0_3 a0_4 a0_5 l0_6 l0_7 a0_8 a1_0 a1_1 a1_2 a1_3 a1_4 a1_5 l1_6 l1_7 a1_8)))) else (althingref05_Same.j0 k true a0_0 a0_1 a0_2 a0_3 a0_4 a0_5 l0_6 l0_7 a0_8 a1_0 a1_1 a1_2 a1_3 a1_4 a1_5 l1_6 l1_7 a1_8)) = some r := h
 clear h
 have HC3 := Aside0.mk H
 clear H
 go_enter Try.func11, Try.ntmps11
 go_upto_region 1 with (first | ((with_reducible refine gate_dst (N := 2) rfl ?_); (try (refine gate_guard (by rfl) ?_; dsimp only)); refine box_event ?hg (N := 2) ?hd (cs := #[.int .i64 a0_0, .int .i64 a0_1, .int .i64 a0_2, .int .i64 a0_3, .int .i64 a0_4, .int .i64 a0_5, .slice A0_6 l0_6.length c0_6, .slice A0_7 l0_7.length c0_7, .bool a0_8]) (t := 29) ?hr ?_; (case hd => rfl); (case hg => rfl); (case hr => first | (go_simp; done) | (go_simp; rfl)); intro gb279 hg w4 hbox hb; have n0_ := Aside0.mk (below_step (by repeat (first | (with_reducible first | exact HB.out | apply below_alloc | apply pw_below_drewN | apply below_drew1) | exact HB.out)) hb); have n1_ := Aside0.mk (hbox); have n2_ := Aside0.mk ((by rw [hg]; exact (below_size (by repeat (first | (with_reducible first | exact HB.out | apply below_alloc | apply pw_below_drewN | apply below_drew1) | exact HB.out))) : w.heap.size ≤ gb279)); have n3_ := Aside0.mk ((by rw [hg]; exact (below_size (by repeat (first | (with_reducible first | exact HB.out | apply below_alloc | apply pw_below_drewN | apply below_drew1) | exact HB.out))) : w.heap.size ≤ gb279)); clear HB; have HB := n0_; have BK279 := n1_; have GW279 := n2_; have GE279 := n3_; clear n0_ n1_ n2_ n3_; clear hb hbox hg) | ((with_reducible refine gate_dst (N := 3) rfl ?_); (try (refine gate_guard (by rfl) ?_; dsimp only)); refine box_event ?hg (N := 3) ?hd (cs := #[.int .i64 a1_0, .int .i64 a1_1, .int .i64 a1_2, .int .i64 a1_3, .int .i64 a1_4, .int .i64 a1_5, .slice A1_6 l1_6.length c1_6, .slice A1_7 l1_7.length c1_7, .bool a1_8]) (t := 29) ?hr ?_; (case hd => rfl); (case hg => rfl); (case hr => first | (go_simp; done) | (go_simp; rfl)); intro gb280 hg w5 hbox hb; have n0_ := Aside0.mk (blk_below (g := gb279) (o := .cells #[.int .i64 a0_0, .int .i64 a0_1, .int .i64 a0_2, .int .i64 a0_3, .int .i64 a0_4, .int .i64 a0_5, .slice A0_6 l0_6.length c0_6, .slice A0_7 l0_7.length c0_7, .bool a0_8] 29 (0, 0)) (by (with_reducible repeat (first | refine blk_drewN ?_ _ | refine blk_drew ?_ | refine blk_alloc ?_ _)); exact BK279.out) hb); have n1_ := Aside0.mk (below_step (by repeat (first | (with_reducible first | exact HB.out | apply below_alloc | apply pw_below_drewN | apply below_drew1 | refine below_set ?_ GE279.out) | exact HB.out)) hb); have n2_ := Aside0.mk (hbox); have n3_ := Aside0.mk ((by rw [hg]; exact (below_size (by repeat (first | (with_reducible first | exact HB.out | apply below_alloc | apply pw_below_drewN | apply below_drew1 | refine below_set ?_ GE279.out) | exact HB.out))) : w.heap.size ≤ gb280)); have n4_ := Aside0.mk ((by rw [hg]; exact (below_size (by repeat (first | (with_reducible first | exact HB.out | apply below_alloc | apply pw_below_drewN | apply below_drew1 | refine below_set ?_ GE279.out) | exact HB.out))) : w.heap.size ≤ gb280)); have n5_ := Aside0.mk ((by rw [hg]; exact Nat.ne_of_lt (blk_lt (g := gb279) (o := .cells #[.int .i64 a0_0, .int .i64 a0_1, .int .i64 a0_2, .int .i64 a0_3, .int .i64 a0_4, .int .i64 a0_5, .slice A0_6 l0_6.length c0_6, .slice A0_7 l0_7.length c0_7, .bool a0_8] 29 (0, 0)) (by (with_reducible repeat (first | refine blk_drewN ?_ _ | refine blk_drew ?_ | refine blk_alloc ?_ _)); exact BK279.out)) : gb279 ≠ gb280)); have n6_ := Aside0.mk ((by rw [hg]; exact Nat.ne_of_gt (blk_lt (g := gb279) (o := .cells #[.int .i64 a0_0, .int .i64 a0_1, .int .i64 a0_2, .int .i64 a0_3, .int .i64 a0_4, .int .i64 a0_5, .slice A0_6 l0_6.length c0_6, .slice A0_7 l0_7.length c0_7, .bool a0_8] 29 (0, 0)) (by (with_reducible repeat (first | refine blk_drewN ?_ _ | refine blk_drew ?_ | refine blk_alloc ?_ _)); exact BK279.out)) : gb280 ≠ gb279)); clear BK279; clear HB; have BK279 := n0_; have HB := n1_; have BK280 := n2_; have GW280 := n3_; have GE280 := n4_; have NB279_280 := n5_; have NB280_279 := n6_; clear n0_ n1_ n2_ n3_ n4_ n5_ n6_; clear hb hbox hg))
 repeat (go_quiet (first | ((with_reducible refine gate_dst (N := 2) rfl ?_); (try (refine gate_guard (by rfl) ?_; dsimp only)); refine box_event ?hg (N := 2) ?hd (cs := #[.int .i64 a0_0, .int .i64 a0_1, .int .i64 a0_2, .int .i64 a0_3, .int .i64 a0_4, .int .i64 a0_5, .slice A0_6 l0_6.length c0_6, .slice A0_7 l0_7.length c0_7, .bool a0_8]) (t := 29) ?hr ?_; (case hd => rfl); (case hg => rfl); (case hr => first | (go_simp; done) | (go_simp; rfl)); intro gb279 hg w4 hbox hb; have n0_ := Aside0.mk (below_step (by repeat (first | (with_reducible first | exact HB.out | apply below_alloc | apply pw_below_drewN | apply below_drew1) | exact HB.out)) hb); have n1_ := Aside0.mk (hbox); have n2_ := Aside0.mk ((by rw [hg]; exact (below_size (by repeat (first | (with_reducible first | exact HB.out | apply below_alloc | apply pw_below_drewN | apply below_drew1) | exact HB.out))) : w.heap.size ≤ gb279)); have n3_ := Aside0.mk ((by rw [hg]; exact (below_size (by repeat (first | (with_reducible first | exact HB.out | apply below_alloc | apply pw_below_drewN | apply below_drew1) | exact HB.out))) : w.heap.size ≤ gb279)); clear HB; have HB := n0_; have BK279 := n1_; have GW279 := n2_; have GE279 := n3_; clear n0_ n1_ n2_ n3_; clear hb hbox hg) | ((with_reducible refine gate_dst (N := 3) rfl ?_); (try (refine gate_guard (by rfl) ?_; dsimp only)); refine box_event ?hg (N := 3) ?hd (cs := #[.int .i64 a1_0, .int .i64 a1_1, .int .i64 a1_2, .int .i64 a1_3, .int .i64 a1_4, .int .i64 a1_5, .slice A1_6 l1_6.length c1_6, .slice A1_7 l1_7.length c1_7, .bool a1_8]) (t := 29) ?hr ?_; (case hd => rfl); (case hg => rfl); (case hr => first | (go_simp; done) | (go_simp; rfl)); intro gb280 hg w5 hbox hb; have n0_ := Aside0.mk (blk_below (g := gb279) (o := .cells #[.int .i64 a0_0, .int .i64 a0_1, .int .i64 a0_2, .int .i64 a0_3, .int .i64 a0_4, .int .i64 a0_5, .slice A0_6 l0_6.length c0_6, .slice A0_7 l0_7.length c0_7, .bool a0_8] 29 (0, 0)) (by (with_reducible repeat (first | refine blk_drewN ?_ _ | refine blk_drew ?_ | refine blk_alloc ?_ _)); exact BK279.out) hb); have n1_ := Aside0.mk (below_step (by repeat (first | (with_reducible first | exact HB.out | apply below_alloc | apply pw_below_drewN | apply below_drew1 | refine below_set ?_ GE279.out) | exact HB.out)) hb); have n2_ := Aside0.mk (hbox); have n3_ := Aside0.mk ((by rw [hg]; exact (below_size (by repeat (first | (with_reducible first | exact HB.out | apply below_alloc | apply pw_below_drewN | apply below_drew1 | refine below_set ?_ GE279.out) | exact HB.out))) : w.heap.size ≤ gb280)); have n4_ := Aside0.mk ((by rw [hg]; exact (below_size (by repeat (first | (with_reducible first | exact HB.out | apply below_alloc | apply pw_below_drewN | apply below_drew1 | refine below_set ?_ GE279.out) | exact HB.out))) : w.heap.size ≤ gb280)); have n5_ := Aside0.mk ((by rw [hg]; exact Nat.ne_of_lt (blk_lt (g := gb279) (o := .cells #[.int .i64 a0_0, .int .i64 a0_1, .int .i64 a0_2, .int .i64 a0_3, .int .i64 a0_4, .int .i64 a0_5, .slice A0_6 l0_6.length c0_6, .slice A0_7 l0_7.length c0_7, .bool a0_8] 29 (0, 0)) (by (with_reducible repeat (first | refine blk_drewN ?_ _ | refine blk_drew ?_ | refine blk_alloc ?_ _)); exact BK279.out)) : gb279 ≠ gb280)); have n6_ := Aside0.mk ((by rw [hg]; exact Nat.ne_of_gt (blk_lt (g := gb279) (o := .cells #[.int .i64 a0_0, .int .i64 a0_1, .int .i64 a0_2, .int .i64 a0_3, .int .i64 a0_4, .int .i64 a0_5, .slice A0_6 l0_6.length c0_6, .slice A0_7 l0_7.length c0_7, .bool a0_8] 29 (0, 0)) (by (with_reducible repeat (first | refine blk_drewN ?_ _ | refine blk_drew ?_ | refine blk_alloc ?_ _)); exact BK279.out)) : gb280 ≠ gb279)); clear BK279; clear HB; have BK279 := n0_; have HB := n1_; have BK280 := n2_; have GW280 := n3_; have GE280 := n4_; have NB279_280 := n5_; have NB280_279 := n6_; clear n0_ n1_ n2_ n3_ n4_ n5_ n6_; clear hb hbox hg)); go_upto_region 1 with (first | ((with_reducible refine gate_dst (N := 2) rfl ?_); (try (refine gate_guard (by rfl) ?_; dsimp only)); refine box_event ?hg (N := 2) ?hd (cs := #[.int .i64 a0_0, .int .i64 a0_1, .int .i64 a0_2, .int .i64 a0_3, .int .i64 a0_4, .int .i64 a0_5, .slice A0_6 l0_6.length c0_6, .slice A0_7 l0_7.length c0_7, .bool a0_8]) (t := 29) ?hr ?_; (case hd => rfl); (case hg => rfl); (case hr => first | (go_simp; done) | (go_simp; rfl)); intro gb279 hg w4 hbox hb; have n0_ := Aside0.mk (below_step (by repeat (first | (with_reducible first | exact HB.out | apply below_alloc | apply pw_below_drewN | apply below_drew1) | exact HB.out)) hb); have n1_ := Aside0.mk (hbox); have n2_ := Aside0.mk ((by rw [hg]; exact (below_size (by repeat (first | (with_reducible first | exact HB.out | apply below_alloc | apply pw_below_drewN | apply below_drew1) | exact HB.out))) : w.heap.size ≤ gb279)); have n3_ := Aside0.mk ((by rw [hg]; exact (below_size (by repeat (first | (with_reducible first | exact HB.out | apply below_alloc | apply pw_below_drewN | apply below_drew1) | exact HB.out))) : w.heap.size ≤ gb279)); clear HB; have HB := n0_; have BK279 := n1_; have GW279 := n2_; have GE279 := n3_; clear n0_ n1_ n2_ n3_; clear hb hbox hg) | ((with_reducible refine gate_dst (N := 3) rfl ?_); (try (refine gate_guard (by rfl) ?_; dsimp only)); refine box_event ?hg (N := 3) ?hd (cs := #[.int .i64 a1_0, .int .i64 a1_1, .int .i64 a1_2, .int .i64 a1_3, .int .i64 a1_4, .int .i64 a1_5, .slice A1_6 l1_6.length c1_6, .slice A1_7 l1_7.length c1_7, .bool a1_8]) (t := 29) ?hr ?_; (case hd => rfl); (case hg => rfl); (case hr => first | (go_simp; done) | (go_simp; rfl)); intro gb280 hg w5 hbox hb; have n0_ := Aside0.mk (blk_below (g := gb279) (o := .cells #[.int .i64 a0_0, .int .i64 a0_1, .int .i64 a0_2, .int .i64 a0_3, .int .i64 a0_4, .int .i64 a0_5, .slice A0_6 l0_6.length c0_6, .slice A0_7 l0_7.length c0_7, .bool a0_8] 29 (0, 0)) (by (with_reducible repeat (first | refine blk_drewN ?_ _ | refine blk_drew ?_ | refine blk_alloc ?_ _)); exact BK279.out) hb); have n1_ := Aside0.mk (below_step (by repeat (first | (with_reducible first | exact HB.out | apply below_alloc | apply pw_below_drewN | apply below_drew1 | refine below_set ?_ GE279.out) | exact HB.out)) hb); have n2_ := Aside0.mk (hbox); have n3_ := Aside0.mk ((by rw [hg]; exact (below_size (by repeat (first | (with_reducible first | exact HB.out | apply below_alloc | apply pw_below_drewN | apply below_drew1 | refine below_set ?_ GE279.out) | exact HB.out))) : w.heap.size ≤ gb280)); have n4_ := Aside0.mk ((by rw [hg]; exact (below_size (by repeat (first | (with_reducible first | exact HB.out | apply below_alloc | apply pw_below_drewN | apply below_drew1 | refine below_set ?_ GE279.out) | exact HB.out))) : w.heap.size ≤ gb280)); have n5_ := Aside0.mk ((by rw [hg]; exact Nat.ne_of_lt (blk_lt (g := gb279) (o := .cells #[.int .i64 a0_0, .int .i64 a0_1, .int .i64 a0_2, .int .i64 a0_3, .int .i64 a0_4, .int .i64 a0_5, .slice A0_6 l0_6.length c0_6, .slice A0_7 l0_7.length c0_7, .bool a0_8] 29 (0, 0)) (by (with_reducible repeat (first | refine blk_drewN ?_ _ | refine blk_drew ?_ | refine blk_alloc ?_ _)); exact BK279.out)) : gb279 ≠ gb280)); have n6_ := Aside0.mk ((by rw [hg]; exact Nat.ne_of_gt (blk_lt (g := gb279) (o := .cells #[.int .i64 a0_0, .int .i64 a0_1, .int .i64 a0_2, .int .i64 a0_3, .int .i64 a0_4, .int .i64 a0_5, .slice A0_6 l0_6.length c0_6, .slice A0_7 l0_7.length c0_7, .bool a0_8] 29 (0, 0)) (by (with_reducible repeat (first | refine blk_drewN ?_ _ | refine blk_drew ?_ | refine blk_alloc ?_ _)); exact BK279.out)) : gb280 ≠ gb279)); clear BK279; clear HB; have BK279 := n0_; have HB := n1_; have BK280 := n2_; have GW280 := n3_; have GE280 := n4_; have NB279_280 := n5_; have NB280_279 := n6_; clear n0_ n1_ n2_ n3_ n4_ n5_ n6_; clear hb hbox hg)))
 (try simp only [Act.put, List.setIfInBounds_toArray, List.set_cons_zero, List.set_cons_succ])
 go_cut [57] (fun v57 wc => ∃ (kq : Nat) (x57_2 : Bool), v57 = .bool x57_2 ∧ Aside0 (althingref05_Same.j0 kq x57_2 a0_0 a0_1 a0_2 a0_3 a0_4 a0_5 l0_6 l0_7 a0_8 a1_0 a1_1 a1_2 a1_3 a1_4 a1_5 l1_6 l1_7 a1_8 = some r) ∧ Aside0 (kq ≤ k) ∧ Aside0 (wc.heap[gb279]? = some (.cells #[.int .i64 a0_0, .int .i64 a0_1, .int .i64 a0_2, .int .i64 a0_3, .int .i64 a0_4, .int .i64 a0_5, (.slice A0_6 l0_6.length c0_6), (.slice A0_7 l0_7.length c0_7), .bool a0_8] 29 (0, 0))) ∧ Aside0 (wc.heap[gb280]? = some (.cells #[.int .i64 a1_0, .int .i64 a1_1, .int .i64 a1_2, .int .i64 a1_3, .int .i64 a1_4, .int .i64 a1_5, (.slice A1_6 l1_6.length c1_6), (.slice A1_7 l1_7.length c1_7), .bool a1_8] 29 (0, 0))) ∧ Aside0 (Below w.heap.size w wc))
 case first =>
  have H := HC3.out
  clear HC3
  by_cases c6 : a0_0 = a1_0
  · rw [if_pos c6] at H
    have c6b0 : (a0_0 == a1_0) = true := beq_iff_eq.mpr c6
    have c6b1 : (a0_0 != a1_0) = false := bne_eq_false_iff_eq.mpr c6
    clear c6
    (first | rw [c6b0] | (simp only [i64_w, i32_w]; rw [c6b0]) | skip)
    by_cases c7 : (!(a0_1 == a1_1) || (!(a0_2 == a1_2))) = true
    · rw [if_pos c7] at H
      have c7b0 : (!(a0_1 == a1_1) || (!(a0_2 == a1_2))) = true := c7
      clear c7
      have H' := Aside0.mk H
      clear H
      have hnb8 := NB279_280.out
      have hnc8 := NB280_279.out
      have hcz9_0 : w5.cell? ⟨gb279, 0, none⟩ = some (.int .i64 a0_0) := (blk_cell BK279.out 0).trans rfl
      have hcz9_1 : w5.cell? ⟨gb279, 1, none⟩ = some (.int .i64 a0_1) := (blk_cell BK279.out 1).trans rfl
      have hcz9_2 : w5.cell? ⟨gb279, 2, none⟩ = some (.int .i64 a0_2) := (blk_cell BK279.out 2).trans rfl
      have hcz9_3 : w5.cell? ⟨gb279, 3, none⟩ = some (.int .i64 a0_3) := (blk_cell BK279.out 3).trans rfl
      have hcz9_4 : w5.cell? ⟨gb279, 4, none⟩ = some (.int .i64 a0_4) := (blk_cell BK279.out 4).trans rfl
      have hcz9_5 : w5.cell? ⟨gb279, 5, none⟩ = some (.int .i64 a0_5) := (blk_cell BK279.out 5).trans rfl
      have hcz9_6 : w5.cell? ⟨gb279, 6, none⟩ = some (.slice A0_6 l0_6.length c0_6) := (blk_cell BK279.out 6).trans rfl
      have hcz9_7 : w5.cell? ⟨gb279, 7, none⟩ = some (.slice A0_7 l0_7.length c0_7) := (blk_cell BK279.out 7).trans rfl
      have hcz9_8 : w5.cell? ⟨gb279, 8, none⟩ = some (.bool a0_8) := (blk_cell BK279.out 8).trans rfl
      have hfz9_0 := blk_frozen BK279.out 0
      have hfz9_1 := blk_frozen BK279.out 1
      have hfz9_2 := blk_frozen BK279.out 2
      have hfz9_3 := blk_frozen BK279.out 3
      have hfz9_4 := blk_frozen BK279.out 4
      have hfz9_5 := blk_frozen BK279.out 5
      have hfz9_6 := blk_frozen BK279.out 6
      have hfz9_7 := blk_frozen BK279.out 7
      have hfz9_8 := blk_frozen BK279.out 8
      have hcz10_0 : w5.cell? ⟨gb280, 0, none⟩ = some (.int .i64 a1_0) := (blk_cell BK280.out 0).trans rfl
      have hcz10_1 : w5.cell? ⟨gb280, 1, none⟩ = some (.int .i64 a1_1) := (blk_cell BK280.out 1).trans rfl
      have hcz10_2 : w5.cell? ⟨gb280, 2, none⟩ = some (.int .i64 a1_2) := (blk_cell BK280.out 2).trans rfl
      have hcz10_3 : w5.cell? ⟨gb280, 3, none⟩ = some (.int .i64 a1_3) := (blk_cell BK280.out 3).trans rfl
      have hcz10_4 : w5.cell? ⟨gb280, 4, none⟩ = some (.int .i64 a1_4) := (blk_cell BK280.out 4).trans rfl
      have hcz10_5 : w5.cell? ⟨gb280, 5, none⟩ = some (.int .i64 a1_5) := (blk_cell BK280.out 5).trans rfl
      have hcz10_6 : w5.cell? ⟨gb280, 6, none⟩ = some (.slice A1_6 l1_6.length c1_6) := (blk_cell BK280.out 6).trans rfl
      have hcz10_7 : w5.cell? ⟨gb280, 7, none⟩ = some (.slice A1_7 l1_7.length c1_7) := (blk_cell BK280.out 7).trans rfl
      have hcz10_8 : w5.cell? ⟨gb280, 8, none⟩ = some (.bool a1_8) := (blk_cell BK280.out 8).trans rfl
      have hfz10_0 := blk_frozen BK280.out 0
      have hfz10_1 := blk_frozen BK280.out 1
      have hfz10_2 := blk_frozen BK280.out 2
      have hfz10_3 := blk_frozen BK280.out 3
      have hfz10_4 := blk_frozen BK280.out 4
      have hfz10_5 := blk_frozen BK280.out 5
      have hfz10_6 := blk_frozen BK280.out 6
      have hfz10_7 := blk_frozen BK280.out 7
      have hfz10_8 := blk_frozen BK280.out 8
      go_wp2
      repeat (go_quiet (fail); try go_wp2)
      go_meet
      case rel => exact ⟨_, (true), (by first | rfl | (simp; done) | (simp [*]; done)), H', ⟨by first | omega | exact Nat.le_refl _⟩, ⟨by (with_reducible repeat (first | refine blk_drewN ?_ _ | refine blk_drew ?_ | refine blk_alloc ?_ _)); exact BK279.out⟩, ⟨by (with_reducible repeat (first | refine blk_drewN ?_ _ | refine blk_drew ?_ | refine blk_alloc ?_ _)); exact BK280.out⟩, ⟨by repeat (first | (with_reducible first | exact HB.out | apply below_alloc | apply pw_below_drewN | apply below_drew1 | refine below_set ?_ GE279.out | refine below_set ?_ GE280.out) | exact HB.out)⟩⟩
    · rw [if_neg c7] at H
      have c7b0 : (!(a0_1 == a1_1) || (!(a0_2 == a1_2))) = false := by simpa using c7
      clear c7
      by_cases c11 : (!(a0_3 == a1_3) || (!(a0_4 == a1_4))) = true
      · rw [if_pos c11] at H
        have c11b0 : (!(a0_3 == a1_3) || (!(a0_4 == a1_4))) = true := c11
        clear c11
        have H' := Aside0.mk H
        clear H
        have hnb12 := NB279_280.out
        have hnc12 := NB280_279.out
        have hcz13_0 : w5.cell? ⟨gb279, 0, none⟩ = some (.int .i64 a0_0) := (blk_cell BK279.out 0).trans rfl
        have hcz13_1 : w5.cell? ⟨gb279, 1, none⟩ = some (.int .i64 a0_1) := (blk_cell BK279.out 1).trans rfl
        have hcz13_2 : w5.cell? ⟨gb279, 2, none⟩ = some (.int .i64 a0_2) := (blk_cell BK279.out 2).trans rfl
        have hcz13_3 : w5.cell? ⟨gb279, 3, none⟩ = some (.int .i64 a0_3) := (blk_cell BK279.out 3).trans rfl
        have hcz13_4 : w5.cell? ⟨gb279, 4, none⟩ = some (.int .i64 a0_4) := (blk_cell BK279.out 4).trans rfl
        have hcz13_5 : w5.cell? ⟨gb279, 5, none⟩ = some (.int .i64 a0_5) := (blk_cell BK279.out 5).trans rfl
        have hcz13_6 : w5.cell? ⟨gb279, 6, none⟩ = some (.slice A0_6 l0_6.length c0_6) := (blk_cell BK279.out 6).trans rfl
        have hcz13_7 : w5.cell? ⟨gb279, 7, none⟩ = some (.slice A0_7 l0_7.length c0_7) := (blk_cell BK279.out 7).trans rfl
        have hcz13_8 : w5.cell? ⟨gb279, 8, none⟩ = some (.bool a0_8) := (blk_cell BK279.out 8).trans rfl
        have hfz13_0 := blk_frozen BK279.out 0
        have hfz13_1 := blk_frozen BK279.out 1
        have hfz13_2 := blk_frozen BK279.out 2
        have hfz13_3 := blk_frozen BK279.out 3
        have hfz13_4 := blk_frozen BK279.out 4
        have hfz13_5 := blk_frozen BK279.out 5
        have hfz13_6 := blk_frozen BK279.out 6
        have hfz13_7 := blk_frozen BK279.out 7
        have hfz13_8 := blk_frozen BK279.out 8
        have hcz14_0 : w5.cell? ⟨gb280, 0, none⟩ = some (.int .i64 a1_0) := (blk_cell BK280.out 0).trans rfl
        have hcz14_1 : w5.cell? ⟨gb280, 1, none⟩ = some (.int .i64 a1_1) := (blk_cell BK280.out 1).trans rfl
        have hcz14_2 : w5.cell? ⟨gb280, 2, none⟩ = some (.int .i64 a1_2) := (blk_cell BK280.out 2).trans rfl
        have hcz14_3 : w5.cell? ⟨gb280, 3, none⟩ = some (.int .i64 a1_3) := (blk_cell BK280.out 3).trans rfl
        have hcz14_4 : w5.cell? ⟨gb280, 4, none⟩ = some (.int .i64 a1_4) := (blk_cell BK280.out 4).trans rfl
        have hcz14_5 : w5.cell? ⟨gb280, 5, none⟩ = some (.int .i64 a1_5) := (blk_cell BK280.out 5).trans rfl
        have hcz14_6 : w5.cell? ⟨gb280, 6, none⟩ = some (.slice A1_6 l1_6.length c1_6) := (blk_cell BK280.out 6).trans rfl
        have hcz14_7 : w5.cell? ⟨gb280, 7, none⟩ = some (.slice A1_7 l1_7.length c1_7) := (blk_cell BK280.out 7).trans rfl
        have hcz14_8 : w5.cell? ⟨gb280, 8, none⟩ = some (.bool a1_8) := (blk_cell BK280.out 8).trans rfl
        have hfz14_0 := blk_frozen BK280.out 0
        have hfz14_1 := blk_frozen BK280.out 1
        have hfz14_2 := blk_frozen BK280.out 2
        have hfz14_3 := blk_frozen BK280.out 3
        have hfz14_4 := blk_frozen BK280.out 4
        have hfz14_5 := blk_frozen BK280.out 5
        have hfz14_6 := blk_frozen BK280.out 6
        have hfz14_7 := blk_frozen BK280.out 7
        have hfz14_8 := blk_frozen BK280.out 8
        go_wp2
        repeat (go_quiet (fail); try go_wp2)
        go_meet
        case rel => exact ⟨_, (true), (by first | rfl | (simp; done) | (simp [*]; done)), H', ⟨by first | omega | exact Nat.le_refl _⟩, ⟨by (with_reducible repeat (first | refine blk_drewN ?_ _ | refine blk_drew ?_ | refine blk_alloc ?_ _)); exact BK279.out⟩, ⟨by (with_reducible repeat (first | refine blk_drewN ?_ _ | refine blk_drew ?_ | refine blk_alloc ?_ _)); exact BK280.out⟩, ⟨by repeat (first | (with_reducible first | exact HB.out | apply below_alloc | apply pw_below_drewN | apply below_drew1 | refine below_set ?_ GE279.out | refine below_set ?_ GE280.out) | exact HB.out)⟩⟩
      · rw [if_neg c11] at H
        have c11b0 : (!(a0_3 == a1_3) || (!(a0_4 == a1_4))) = false := by simpa using c11
        clear c11
        by_cases c15 : a0_5 = a1_5
        · rw [if_pos c15] at H
          have c15b0 : (a0_5 == a1_5) = true := beq_iff_eq.mpr c15
          have c15b1 : (a0_5 != a1_5) = false := bne_eq_false_iff_eq.mpr c15
          clear c15
          by_cases c16 : (a0_8 != a1_8) = true
          · rw [if_pos c16] at H
            have c16b0 : (a0_8 != a1_8) = true := c16
            (try (have c16b1 : decide (a0_8 = a1_8) = false := by simpa using c16))
            (try (have c16b2 : (a0_8 == a1_8) = false := by simpa using c16))
            (try (have c16b3 : ¬ (a0_8 = a1_8) := by simpa using c16))
            clear c16
            have H' := Aside0.mk H
            clear H
            have hnb17 := NB279_280.out
            have hnc17 := NB280_279.out
            have hcz18_0 : w5.cell? ⟨gb279, 0, none⟩ = some (.int .i64 a0_0) := (blk_cell BK279.out 0).trans rfl
            have hcz18_1 : w5.cell? ⟨gb279, 1, none⟩ = some (.int .i64 a0_1) := (blk_cell BK279.out 1).trans rfl
            have hcz18_2 : w5.cell? ⟨gb279, 2, none⟩ = some (.int .i64 a0_2) := (blk_cell BK279.out 2).trans rfl
            have hcz18_3 : w5.cell? ⟨gb279, 3, none⟩ = some (.int .i64 a0_3) := (blk_cell BK279.out 3).trans rfl
            have hcz18_4 : w5.cell? ⟨gb279, 4, none⟩ = some (.int .i64 a0_4) := (blk_cell BK279.out 4).trans rfl
            have hcz18_5 : w5.cell? ⟨gb279, 5, none⟩ = some (.int .i64 a0_5) := (blk_cell BK279.out 5).trans rfl
            have hcz18_6 : w5.cell? ⟨gb279, 6, none⟩ = some (.slice A0_6 l0_6.length c0_6) := (blk_cell BK279.out 6).trans rfl
            have hcz18_7 : w5.cell? ⟨gb279, 7, none⟩ = some (.slice A0_7 l0_7.length c0_7) := (blk_cell BK279.out 7).trans rfl
            have hcz18_8 : w5.cell? ⟨gb279, 8, none⟩ = some (.bool a0_8) := (blk_cell BK279.out 8).trans rfl
            have hfz18_0 := blk_frozen BK279.out 0
            have hfz18_1 := blk_frozen BK279.out 1
            have hfz18_2 := blk_frozen BK279.out 2
            have hfz18_3 := blk_frozen BK279.out 3
            have hfz18_4 := blk_frozen BK279.out 4
            have hfz18_5 := blk_frozen BK279.out 5
            have hfz18_6 := blk_frozen BK279.out 6
            have hfz18_7 := blk_frozen BK279.out 7
            have hfz18_8 := blk_frozen BK279.out 8
            have hcz19_0 : w5.cell? ⟨gb280, 0, none⟩ = some (.int .i64 a1_0) := (blk_cell BK280.out 0).trans rfl
            have hcz19_1 : w5.cell? ⟨gb280, 1, none⟩ = some (.int .i64 a1_1) := (blk_cell BK280.out 1).trans rfl
            have hcz19_2 : w5.cell? ⟨gb280, 2, none⟩ = some (.int .i64 a1_2) := (blk_cell BK280.out 2).trans rfl
            have hcz19_3 : w5.cell? ⟨gb280, 3, none⟩ = some (.int .i64 a1_3) := (blk_cell BK280.out 3).trans rfl
            have hcz19_4 : w5.cell? ⟨gb280, 4, none⟩ = some (.int .i64 a1_4) := (blk_cell BK280.out 4).trans rfl
            have hcz19_5 : w5.cell? ⟨gb280, 5, none⟩ = some (.int .i64 a1_5) := (blk_cell BK280.out 5).trans rfl
            have hcz19_6 : w5.cell? ⟨gb280, 6, none⟩ = some (.slice A1_6 l1_6.length c1_6) := (blk_cell BK280.out 6).trans rfl
            have hcz19_7 : w5.cell? ⟨gb280, 7, none⟩ = some (.slice A1_7 l1_7.length c1_7) := (blk_cell BK280.out 7).trans rfl
            have hcz19_8 : w5.cell? ⟨gb280, 8, none⟩ = some (.bool a1_8) := (blk_cell BK280.out 8).trans rfl
            have hfz19_0 := blk_frozen BK280.out 0
            have hfz19_1 := blk_frozen BK280.out 1
            have hfz19_2 := blk_frozen BK280.out 2
            have hfz19_3 := blk_frozen BK280.out 3
            have hfz19_4 := blk_frozen BK280.out 4
            have hfz19_5 := blk_frozen BK280.out 5
            have hfz19_6 := blk_frozen BK280.out 6
            have hfz19_7 := blk_frozen BK280.out 7
            have hfz19_8 := blk_frozen BK280.out 8
            go_wp2
            repeat (go_quiet (fail); try go_wp2)
            go_meet
            case rel => exact ⟨_, (true), (by first | rfl | (simp; done) | (simp [*]; done)), H', ⟨by first | omega | exact Nat.le_refl _⟩, ⟨by (with_reducible repeat (first | refine blk_drewN ?_ _ | refine blk_drew ?_ | refine blk_alloc ?_ _)); exact BK279.out⟩, ⟨by (with_reducible repeat (first | refine blk_drewN ?_ _ | refine blk_drew ?_ | refine blk_alloc ?_ _)); exact BK280.out⟩, ⟨by repeat (first | (with_reducible first | exact HB.out | apply below_alloc | apply pw_below_drewN | apply below_drew1 | refine below_set ?_ GE279.out | refine below_set ?_ GE280.out) | exact HB.out)⟩⟩
          · rw [if_neg c16] at H
            have c16b0 : (a0_8 != a1_8) = false := by simpa using c16
            (try (have c16b1 : decide (a0_8 = a1_8) = true := by simpa using c16))
            (try (have c16b2 : (a0_8 == a1_8) = true := by simpa using c16))
            clear c16
            by_cases c20 : (l0_6.length : Int) = (l1_6.length : Int)
            · rw [if_pos c20] at H
              have c20b0 : ((l0_6.length : Int) == (l1_6.length : Int)) = true := beq_iff_eq.mpr c20
              have c20b1 : ((l0_6.length : Int) != (l1_6.length : Int)) = false := bne_eq_false_iff_eq.mpr c20
              have c20b2 : (l0_6.length == l1_6.length) = true := by first | simpa using c20 | (simp at c20 ⊢; omega)
              clear c20
              have H' := Aside0.mk H
              clear H
              have hnb21 := NB279_280.out
              have hnc21 := NB280_279.out
              have hcz22_0 : w5.cell? ⟨gb279, 0, none⟩ = some (.int .i64 a0_0) := (blk_cell BK279.out 0).trans rfl
              have hcz22_1 : w5.cell? ⟨gb279, 1, none⟩ = some (.int .i64 a0_1) := (blk_cell BK279.out 1).trans rfl
              have hcz22_2 : w5.cell? ⟨gb279, 2, none⟩ = some (.int .i64 a0_2) := (blk_cell BK279.out 2).trans rfl
              have hcz22_3 : w5.cell? ⟨gb279, 3, none⟩ = some (.int .i64 a0_3) := (blk_cell BK279.out 3).trans rfl
              have hcz22_4 : w5.cell? ⟨gb279, 4, none⟩ = some (.int .i64 a0_4) := (blk_cell BK279.out 4).trans rfl
              have hcz22_5 : w5.cell? ⟨gb279, 5, none⟩ = some (.int .i64 a0_5) := (blk_cell BK279.out 5).trans rfl
              have hcz22_6 : w5.cell? ⟨gb279, 6, none⟩ = some (.slice A0_6 l0_6.length c0_6) := (blk_cell BK279.out 6).trans rfl
              have hcz22_7 : w5.cell? ⟨gb279, 7, none⟩ = some (.slice A0_7 l0_7.length c0_7) := (blk_cell BK279.out 7).trans rfl
              have hcz22_8 : w5.cell? ⟨gb279, 8, none⟩ = some (.bool a0_8) := (blk_cell BK279.out 8).trans rfl
              have hfz22_0 := blk_frozen BK279.out 0
              have hfz22_1 := blk_frozen BK279.out 1
              have hfz22_2 := blk_frozen BK279.out 2
              have hfz22_3 := blk_frozen BK279.out 3
              have hfz22_4 := blk_frozen BK279.out 4
              have hfz22_5 := blk_frozen BK279.out 5
              have hfz22_6 := blk_frozen BK279.out 6
              have hfz22_7 := blk_frozen BK279.out 7
              have hfz22_8 := blk_frozen BK279.out 8
              have hcz23_0 : w5.cell? ⟨gb280, 0, none⟩ = some (.int .i64 a1_0) := (blk_cell BK280.out 0).trans rfl
              have hcz23_1 : w5.cell? ⟨gb280, 1, none⟩ = some (.int .i64 a1_1) := (blk_cell BK280.out 1).trans rfl
              have hcz23_2 : w5.cell? ⟨gb280, 2, none⟩ = some (.int .i64 a1_2) := (blk_cell BK280.out 2).trans rfl
              have hcz23_3 : w5.cell? ⟨gb280, 3, none⟩ = some (.int .i64 a1_3) := (blk_cell BK280.out 3).trans rfl
              have hcz23_4 : w5.cell? ⟨gb280, 4, none⟩ = some (.int .i64 a1_4) := (blk_cell BK280.out 4).trans rfl
              have hcz23_5 : w5.cell? ⟨gb280, 5, none⟩ = some (.int .i64 a1_5) := (blk_cell BK280.out 5).trans rfl
              have hcz23_6 : w5.cell? ⟨gb280, 6, none⟩ = some (.slice A1_6 l1_6.length c1_6) := (blk_cell BK280.out 6).trans rfl
              have hcz23_7 : w5.cell? ⟨gb280, 7, none⟩ = some (.slice A1_7 l1_7.length c1_7) := (blk_cell BK280.out 7).trans rfl
              have hcz23_8 : w5.cell? ⟨gb280, 8, none⟩ = some (.bool a1_8) := (blk_cell BK280.out 8).trans rfl
              have hfz23_0 := blk_frozen BK280.out 0
              have hfz23_1 := blk_frozen BK280.out 1
              have hfz23_2 := blk_frozen BK280.out 2
              have hfz23_3 := blk_frozen BK280.out 3
              have hfz23_4 := blk_frozen BK280.out 4
              have hfz23_5 := blk_frozen BK280.out 5
              have hfz23_6 := blk_frozen BK280.out 6
              have hfz23_7 := blk_frozen BK280.out 7
              have hfz23_8 := blk_frozen BK280.out 8
              go_wp2
              repeat (go_quiet (fail); try go_wp2)
              go_meet
              case rel => exact ⟨_, (((l0_7.length : Int) != (l1_7.length : Int))), (by first | rfl | (simp; done) | (simp [*]; done)), H', ⟨by first | omega | exact Nat.le_refl _⟩, ⟨by (with_reducible repeat (first | refine blk_drewN ?_ _ | refine blk_drew ?_ | refine blk_alloc ?_ _)); exact BK279.out⟩, ⟨by (with_reducible repeat (first | refine blk_drewN ?_ _ | refine blk_drew ?_ | refine blk_alloc ?_ _)); exact BK280.out⟩, ⟨by repeat (first | (with_reducible first | exact HB.out | apply below_alloc | apply pw_below_drewN | apply below_drew1 | refine below_set ?_ GE279.out | refine below_set ?_ GE280.out) | exact HB.out)⟩⟩
            · rw [if_neg c20] at H
              have c20b0 : ((l0_6.length : Int) == (l1_6.length : Int)) = false := beq_eq_false_iff_ne.mpr c20
              have c20b1 : ((l0_6.length : Int) != (l1_6.length : Int)) = true := bne_iff_ne.mpr c20
              have c20b2 : (l0_6.length == l1_6.length) = false := by first | simpa using c20 | (simp at c20 ⊢; omega)
              have H' := Aside0.mk H
              clear H
              have hnb24 := NB279_280.out
              have hnc24 := NB280_279.out
              have hcz25_0 : w5.cell? ⟨gb279, 0, none⟩ = some (.int .i64 a0_0) := (blk_cell BK279.out 0).trans rfl
              have hcz25_1 : w5.cell? ⟨gb279, 1, none⟩ = some (.int .i64 a0_1) := (blk_cell BK279.out 1).trans rfl
              have hcz25_2 : w5.cell? ⟨gb279, 2, none⟩ = some (.int .i64 a0_2) := (blk_cell BK279.out 2).trans rfl
              have hcz25_3 : w5.cell? ⟨gb279, 3, none⟩ = some (.int .i64 a0_3) := (blk_cell BK279.out 3).trans rfl
              have hcz25_4 : w5.cell? ⟨gb279, 4, none⟩ = some (.int .i64 a0_4) := (blk_cell BK279.out 4).trans rfl
              have hcz25_5 : w5.cell? ⟨gb279, 5, none⟩ = some (.int .i64 a0_5) := (blk_cell BK279.out 5).trans rfl
              have hcz25_6 : w5.cell? ⟨gb279, 6, none⟩ = some (.slice A0_6 l0_6.length c0_6) := (blk_cell BK279.out 6).trans rfl
              have hcz25_7 : w5.cell? ⟨gb279, 7, none⟩ = some (.slice A0_7 l0_7.length c0_7) := (blk_cell BK279.out 7).trans rfl
              have hcz25_8 : w5.cell? ⟨gb279, 8, none⟩ = some (.bool a0_8) := (blk_cell BK279.out 8).trans rfl
              have hfz25_0 := blk_frozen BK279.out 0
              have hfz25_1 := blk_frozen BK279.out 1
              have hfz25_2 := blk_frozen BK279.out 2
              have hfz25_3 := blk_frozen BK279.out 3
              have hfz25_4 := blk_frozen BK279.out 4
              have hfz25_5 := blk_frozen BK279.out 5
              have hfz25_6 := blk_frozen BK279.out 6
              have hfz25_7 := blk_frozen BK279.out 7
              have hfz25_8 := blk_frozen BK279.out 8
              have hcz26_0 : w5.cell? ⟨gb280, 0, none⟩ = some (.int .i64 a1_0) := (blk_cell BK280.out 0).trans rfl
              have hcz26_1 : w5.cell? ⟨gb280, 1, none⟩ = some (.int .i64 a1_1) := (blk_cell BK280.out 1).trans rfl
              have hcz26_2 : w5.cell? ⟨gb280, 2, none⟩ = some (.int .i64 a1_2) := (blk_cell BK280.out 2).trans rfl
              have hcz26_3 : w5.cell? ⟨gb280, 3, none⟩ = some (.int .i64 a1_3) := (blk_cell BK280.out 3).trans rfl
              have hcz26_4 : w5.cell? ⟨gb280, 4, none⟩ = some (.int .i64 a1_4) := (blk_cell BK280.out 4).trans rfl
              have hcz26_5 : w5.cell? ⟨gb280, 5, none⟩ = some (.int .i64 a1_5) := (blk_cell BK280.out 5).trans rfl
              have hcz26_6 : w5.cell? ⟨gb280, 6, none⟩ = some (.slice A1_6 l1_6.length c1_6) := (blk_cell BK280.out 6).trans rfl
              have hcz26_7 : w5.cell? ⟨gb280, 7, none⟩ = some (.slice A1_7 l1_7.length c1_7) := (blk_cell BK280.out 7).trans rfl
              have hcz26_8 : w5.cell? ⟨gb280, 8, none⟩ = some (.bool a1_8) := (blk_cell BK280.out 8).trans rfl
              have hfz26_0 := blk_frozen BK280.out 0
              have hfz26_1 := blk_frozen BK280.out 1
              have hfz26_2 := blk_frozen BK280.out 2
              have hfz26_3 := blk_frozen BK280.out 3
              have hfz26_4 := blk_frozen BK280.out 4
              have hfz26_5 := blk_frozen BK280.out 5
              have hfz26_6 := blk_frozen BK280.out 6
              have hfz26_7 := blk_frozen BK280.out 7
              have hfz26_8 := blk_frozen BK280.out 8
              go_wp2
              repeat (go_quiet (fail); try go_wp2)
              go_meet
              case rel => exact ⟨_, (true), (by first | rfl | (simp; done) | (simp [*]; done)), H', ⟨by first | omega | exact Nat.le_refl _⟩, ⟨by (with_reducible repeat (first | refine blk_drewN ?_ _ | refine blk_drew ?_ | refine blk_alloc ?_ _)); exact BK279.out⟩, ⟨by (with_reducible repeat (first | refine blk_drewN ?_ _ | refine blk_drew ?_ | refine blk_alloc ?_ _)); exact BK280.out⟩, ⟨by repeat (first | (with_reducible first | exact HB.out | apply below_alloc | apply pw_below_drewN | apply below_drew1 | refine below_set ?_ GE279.out | refine below_set ?_ GE280.out) | exact HB.out)⟩⟩
        · rw [if_neg c15] at H
          have c15b0 : (a0_5 == a1_5) = false := beq_eq_false_iff_ne.mpr c15
          have c15b1 : (a0_5 != a1_5) = true := bne_iff_ne.mpr c15
          have H' := Aside0.mk H
          clear H
          have hnb27 := NB279_280.out
          have hnc27 := NB280_279.out
          have hcz28_0 : w5.cell? ⟨gb279, 0, none⟩ = some (.int .i64 a0_0) := (blk_cell BK279.out 0).trans rfl
          have hcz28_1 : w5.cell? ⟨gb279, 1, none⟩ = some (.int .i64 a0_1) := (blk_cell BK279.out 1).trans rfl
          have hcz28_2 : w5.cell? ⟨gb279, 2, none⟩ = some (.int .i64 a0_2) := (blk_cell BK279.out 2).trans rfl
          have hcz28_3 : w5.cell? ⟨gb279, 3, none⟩ = some (.int .i64 a0_3) := (blk_cell BK279.out 3).trans rfl
          have hcz28_4 : w5.cell? ⟨gb279, 4, none⟩ = some (.int .i64 a0_4) := (blk_cell BK279.out 4).trans rfl
          have hcz28_5 : w5.cell? ⟨gb279, 5, none⟩ = some (.int .i64 a0_5) := (blk_cell BK279.out 5).trans rfl
          have hcz28_6 : w5.cell? ⟨gb279, 6, none⟩ = some (.slice A0_6 l0_6.length c0_6) := (blk_cell BK279.out 6).trans rfl
          have hcz28_7 : w5.cell? ⟨gb279, 7, none⟩ = some (.slice A0_7 l0_7.length c0_7) := (blk_cell BK279.out 7).trans rfl
          have hcz28_8 : w5.cell? ⟨gb279, 8, none⟩ = some (.bool a0_8) := (blk_cell BK279.out 8).trans rfl
          have hfz28_0 := blk_frozen BK279.out 0
          have hfz28_1 := blk_frozen BK279.out 1
          have hfz28_2 := blk_frozen BK279.out 2
          have hfz28_3 := blk_frozen BK279.out 3
          have hfz28_4 := blk_frozen BK279.out 4
          have hfz28_5 := blk_frozen BK279.out 5
          have hfz28_6 := blk_frozen BK279.out 6
          have hfz28_7 := blk_frozen BK279.out 7
          have hfz28_8 := blk_frozen BK279.out 8
          have hcz29_0 : w5.cell? ⟨gb280, 0, none⟩ = some (.int .i64 a1_0) := (blk_cell BK280.out 0).trans rfl
          have hcz29_1 : w5.cell? ⟨gb280, 1, none⟩ = some (.int .i64 a1_1) := (blk_cell BK280.out 1).trans rfl
          have hcz29_2 : w5.cell? ⟨gb280, 2, none⟩ = some (.int .i64 a1_2) := (blk_cell BK280.out 2).trans rfl
          have hcz29_3 : w5.cell? ⟨gb280, 3, none⟩ = some (.int .i64 a1_3) := (blk_cell BK280.out 3).trans rfl
          have hcz29_4 : w5.cell? ⟨gb280, 4, none⟩ = some (.int .i64 a1_4) := (blk_cell BK280.out 4).trans rfl
          have hcz29_5 : w5.cell? ⟨gb280, 5, none⟩ = some (.int .i64 a1_5) := (blk_cell BK280.out 5).trans rfl
          have hcz29_6 : w5.cell? ⟨gb280, 6, none⟩ = some (.slice A1_6 l1_6.length c1_6) := (blk_cell BK280.out 6).trans rfl
          have hcz29_7 : w5.cell? ⟨gb280, 7, none⟩ = some (.slice A1_7 l1_7.length c1_7) := (blk_cell BK280.out 7).trans rfl
          have hcz29_8 : w5.cell? ⟨gb280, 8, none⟩ = some (.bool a1_8) := (blk_cell BK280.out 8).trans rfl
          have hfz29_0 := blk_frozen BK280.out 0
          have hfz29_1 := blk_frozen BK280.out 1
          have hfz29_2 := blk_frozen BK280.out 2
          have hfz29_3 := blk_frozen BK280.out 3
          have hfz29_4 := blk_frozen BK280.out 4
          have hfz29_5 := blk_frozen BK280.out 5
          have hfz29_6 := blk_frozen BK280.out 6
          have hfz29_7 := blk_frozen BK280.out 7
          have hfz29_8 := blk_frozen BK280.out 8
          go_wp2
          repeat (go_quiet (fail); try go_wp2)
          go_meet
          case rel => exact ⟨_, (true), (by first | rfl | (simp; done) | (simp [*]; done)), H', ⟨by first | omega | exact Nat.le_refl _⟩, ⟨by (with_reducible repeat (first | refine blk_drewN ?_ _ | refine blk_drew ?_ | refine blk_alloc ?_ _)); exact BK279.out⟩, ⟨by (with_reducible repeat (first | refine blk_drewN ?_ _ | refine blk_drew ?_ | refine blk_alloc ?_ _)); exact BK280.out⟩, ⟨by repeat (first | (with_reducible first | exact HB.out | apply below_alloc | apply pw_below_drewN | apply below_drew1 | refine below_set ?_ GE279.out | refine below_set ?_ GE280.out) | exact HB.out)⟩⟩
  · rw [if_neg c6] at H
    have c6b0 : (a0_0 == a1_0) = false := beq_eq_false_iff_ne.mpr c6
    have c6b1 : (a0_0 != a1_0) = true := bne_iff_ne.mpr c6
    (first | rw [c6b0] | (simp only [i64_w, i32_w]; rw [c6b0]) | skip)
    have H' := Aside0.mk H
    clear H
    have hnb30 := NB279_280.out
    have hnc30 := NB280_279.out
    have hcz31_0 : w5.cell? ⟨gb279, 0, none⟩ = some (.int .i64 a0_0) := (blk_cell BK279.out 0).trans rfl
    have hcz31_1 : w5.cell? ⟨gb279, 1, none⟩ = some (.int .i64 a0_1) := (blk_cell BK279.out 1).trans rfl
    have hcz31_2 : w5.cell? ⟨gb279, 2, none⟩ = some (.int .i64 a0_2) := (blk_cell BK279.out 2).trans rfl
    have hcz31_3 : w5.cell? ⟨gb279, 3, none⟩ = some (.int .i64 a0_3) := (blk_cell BK279.out 3).trans rfl
    have hcz31_4 : w5.cell? ⟨gb279, 4, none⟩ = some (.int .i64 a0_4) := (blk_cell BK279.out 4).trans rfl
    have hcz31_5 : w5.cell? ⟨gb279, 5, none⟩ = some (.int .i64 a0_5) := (blk_cell BK279.out 5).trans rfl
    have hcz31_6 : w5.cell? ⟨gb279, 6, none⟩ = some (.slice A0_6 l0_6.length c0_6) := (blk_cell BK279.out 6).trans rfl
    have hcz31_7 : w5.cell? ⟨gb279, 7, none⟩ = some (.slice A0_7 l0_7.length c0_7) := (blk_cell BK279.out 7).trans rfl
    have hcz31_8 : w5.cell? ⟨gb279, 8, none⟩ = some (.bool a0_8) := (blk_cell BK279.out 8).trans rfl
    have hfz31_0 := blk_frozen BK279.out 0
    have hfz31_1 := blk_frozen BK279.out 1
    have hfz31_2 := blk_frozen BK279.out 2
    have hfz31_3 := blk_frozen BK279.out 3
    have hfz31_4 := blk_frozen BK279.out 4
    have hfz31_5 := blk_frozen BK279.out 5
    have hfz31_6 := blk_frozen BK279.out 6
    have hfz31_7 := blk_frozen BK279.out 7
    have hfz31_8 := blk_frozen BK279.out 8
    have hcz32_0 : w5.cell? ⟨gb280, 0, none⟩ = some (.int .i64 a1_0) := (blk_cell BK280.out 0).trans rfl
    have hcz32_1 : w5.cell? ⟨gb280, 1, none⟩ = some (.int .i64 a1_1) := (blk_cell BK280.out 1).trans rfl
    have hcz32_2 : w5.cell? ⟨gb280, 2, none⟩ = some (.int .i64 a1_2) := (blk_cell BK280.out 2).trans rfl
    have hcz32_3 : w5.cell? ⟨gb280, 3, none⟩ = some (.int .i64 a1_3) := (blk_cell BK280.out 3).trans rfl
    have hcz32_4 : w5.cell? ⟨gb280, 4, none⟩ = some (.int .i64 a1_4) := (blk_cell BK280.out 4).trans rfl
    have hcz32_5 : w5.cell? ⟨gb280, 5, none⟩ = some (.int .i64 a1_5) := (blk_cell BK280.out 5).trans rfl
    have hcz32_6 : w5.cell? ⟨gb280, 6, none⟩ = some (.slice A1_6 l1_6.length c1_6) := (blk_cell BK280.out 6).trans rfl
    have hcz32_7 : w5.cell? ⟨gb280, 7, none⟩ = some (.slice A1_7 l1_7.length c1_7) := (blk_cell BK280.out 7).trans rfl
    have hcz32_8 : w5.cell? ⟨gb280, 8, none⟩ = some (.bool a1_8) := (blk_cell BK280.out 8).trans rfl
    have hfz32_0 := blk_frozen BK280.out 0
    have hfz32_1 := blk_frozen BK280.out 1
    have hfz32_2 := blk_frozen BK280.out 2
    have hfz32_3 := blk_frozen BK280.out 3
    have hfz32_4 := blk_frozen BK280.out 4
    have hfz32_5 := blk_frozen BK280.out 5
    have hfz32_6 := blk_frozen BK280.out 6
    have hfz32_7 := blk_frozen BK280.out 7
    have hfz32_8 := blk_frozen BK280.out 8
    go_wp2
    repeat (go_quiet (fail); try go_wp2)
    go_meet
    case rel => exact ⟨_, (true), (by first | rfl | (simp; done) | (simp [*]; done)), H', ⟨by first | omega | exact Nat.le_refl _⟩, ⟨by (with_reducible repeat (first | refine blk_drewN ?_ _ | refine blk_drew ?_ | refine blk_alloc ?_ _)); exact BK279.out⟩, ⟨by (with_reducible repeat (first | refine blk_drewN ?_ _ | refine blk_drew ?_ | refine blk_alloc ?_ _)); exact BK280.out⟩, ⟨by repeat (first | (with_reducible first | exact HB.out | apply below_alloc | apply pw_below_drewN | apply below_drew1 | refine below_set ?_ GE279.out | refine below_set ?_ GE280.out) | exact HB.out)⟩⟩
 case rest =>
  clear HC3
  try clear c1
  try clear c2
  try clear p2
  try clear c3
  try clear c6
  try clear c6b0
  try clear c6b1
  try clear c7
  try clear c7b0
  try clear c8
  try clear c11
  try clear c11b0
  try clear c12
  try clear c15
  try clear c15b0
  try clear c15b1
  try clear c16
  try clear c16b0
  try clear c16b1
  try clear c16b2
  try clear c17
  try clear c20
  try clear c20b0
  try clear c20b1
  try clear c20b2
  try clear c21
  try clear c24
  try clear c27
  try clear c30
  try clear hcz10_0
  try clear hcz10_1
  try clear hcz10_2
  try clear hcz10_3
  try clear hcz10_4
  try clear hcz10_5
  try clear hcz10_6
  try clear hcz10_7
  try clear hcz10_8
  try clear hcz13_0
  try clear hcz13_1
  try clear hcz13_2
  try clear hcz13_3
  try clear hcz13_4
  try clear hcz13_5
  try clear hcz13_6
  try clear hcz13_7
  try clear hcz13_8
  try clear hcz14_0
  try clear hcz14_1
  try clear hcz14_2
  try clear hcz14_3
  try clear hcz14_4
  try clear hcz14_5
  try clear hcz14_6
  try clear hcz14_7
  try clear hcz14_8
  try clear hcz18_0
  try clear hcz18_1
  try clear hcz18_2
  try clear hcz18_3
  try clear hcz18_4
  try clear hcz18_5
  try clear hcz18_6
  try clear hcz18_7
  try clear hcz18_8
  try clear hcz19_0
  try clear hcz19_1
  try clear hcz19_2
  try clear hcz19_3
  try clear hcz19_4
  try clear hcz19_5
  try clear hcz19_6
  try clear hcz19_7
  try clear hcz19_8
  try clear hcz22_0
  try clear hcz22_1
  try clear hcz22_2
  try clear hcz22_3
  try clear hcz22_4
  try clear hcz22_5
  try clear hcz22_6
  try clear hcz22_7
  try clear hcz22_8
  try clear hcz23_0
  try clear hcz23_1
  try clear hcz23_2
  try clear hcz23_3
  try clear hcz23_4
  try clear hcz23_5
  try clear hcz23_6
  try clear hcz23_7
  try clear hcz23_8
  try clear hcz25_0
  try clear hcz25_1
  try clear hcz25_2
  try clear hcz25_3
  try clear hcz25_4
  try clear hcz25_5
  try clear hcz25_6
  try clear hcz25_7
  try clear hcz25_8
  try clear hcz26_0
  try clear hcz26_1
  try clear hcz26_2
  try clear hcz26_3
  try clear hcz26_4
  try clear hcz26_5
  try clear hcz26_6
  try clear hcz26_7
  try clear hcz26_8
  try clear hcz28_0
  try clear hcz28_1
  try clear hcz28_2
  try clear hcz28_3
  try clear hcz28_4
  try clear hcz28_5
  try clear hcz28_6
  try clear hcz28_7
  try clear hcz28_8
  try clear hcz29_0
  try clear hcz29_1
  try clear hcz29_2
  try clear hcz29_3
  try clear hcz29_4
  try clear hcz29_5
  try clear hcz29_6
  try clear hcz29_7
  try clear hcz29_8
  try clear hcz31_0
  try clear hcz31_1
  try clear hcz31_2
  try clear hcz31_3
  try clear hcz31_4
  try clear hcz31_5
  try clear hcz31_6
  try clear hcz31_7
  try clear hcz31_8
  try clear hcz32_0
  try clear hcz32_1
  try clear hcz32_2
  try clear hcz32_3
  try clear hcz32_4
  try clear hcz32_5
  try clear hcz32_6
  try clear hcz32_7
  try clear hcz32_8
  try clear hcz9_0
  try clear hcz9_1
  try clear hcz9_2
  try clear hcz9_3
  try clear hcz9_4
  try clear hcz9_5
  try clear hcz9_6
  try clear hcz9_7
  try clear hcz9_8
  try clear hfz10_0
  try clear hfz10_1
  try clear hfz10_2
  try clear hfz10_3
  try clear hfz10_4
  try clear hfz10_5
  try clear hfz10_6
  try clear hfz10_7
  try clear hfz10_8
  try clear hfz13_0
  try clear hfz13_1
  try clear hfz13_2
  try clear hfz13_3
  try clear hfz13_4
  try clear hfz13_5
  try clear hfz13_6
  try clear hfz13_7
  try clear hfz13_8
  try clear hfz14_0
  try clear hfz14_1
  try clear hfz14_2
  try clear hfz14_3
  try clear hfz14_4
  try clear hfz14_5
  try clear hfz14_6
  try clear hfz14_7
  try clear hfz14_8
  try clear hfz18_0
  try clear hfz18_1
  try clear hfz18_2
  try clear hfz18_3
  try clear hfz18_4
  try clear hfz18_5
  try clear hfz18_6
  try clear hfz18_7
  try clear hfz18_8
  try clear hfz19_0
  try clear hfz19_1
  try clear hfz19_2
  try clear hfz19_3
  try clear hfz19_4
  try clear hfz19_5
  try clear hfz19_6
  try clear hfz19_7
  try clear hfz19_8
  try clear hfz22_0
  try clear hfz22_1
  try clear hfz22_2
  try clear hfz22_3
  try clear hfz22_4
  try clear hfz22_5
  try clear hfz22_6
  try clear hfz22_7
  try clear hfz22_8
  try clear hfz23_0
  try clear hfz23_1
  try clear hfz23_2
  try clear hfz23_3
  try clear hfz23_4
  try clear hfz23_5
  try clear hfz23_6
  try clear hfz23_7
  try clear hfz23_8
  try clear hfz25_0
  try clear hfz25_1
  try clear hfz25_2
  try clear hfz25_3
  try clear hfz25_4
  try clear hfz25_5
  try clear hfz25_6
  try clear hfz25_7
  try clear hfz25_8
  try clear hfz26_0
  try clear hfz26_1
  try clear hfz26_2
  try clear hfz26_3
  try clear hfz26_4
  try clear hfz26_5
  try clear hfz26_6
  try clear hfz26_7
  try clear hfz26_8
  try clear hfz28_0
  try clear hfz28_1
  try clear hfz28_2
  try clear hfz28_3
  try clear hfz28_4
  try clear hfz28_5
  try clear hfz28_6
  try clear hfz28_7
  try clear hfz28_8
  try clear hfz29_0
  try clear hfz29_1
  try clear hfz29_2
  try clear hfz29_3
  try clear hfz29_4
  try clear hfz29_5
  try clear hfz29_6
  try clear hfz29_7
  try clear hfz29_8
  try clear hfz31_0
  try clear hfz31_1
  try clear hfz31_2
  try clear hfz31_3
  try clear hfz31_4
  try clear hfz31_5
  try clear hfz31_6
  try clear hfz31_7
  try clear hfz31_8
  try clear hfz32_0
  try clear hfz32_1
  try clear hfz32_2
  try clear hfz32_3
  try clear hfz32_4
  try clear hfz32_5
  try clear hfz32_6
  try clear hfz32_7
  try clear hfz32_8
  try clear hfz9_0
  try clear hfz9_1
  try clear hfz9_2
  try clear hfz9_3
  try clear hfz9_4
  try clear hfz9_5
  try clear hfz9_6
  try clear hfz9_7
  try clear hfz9_8
  obtain ⟨kq, x57_2, rfl, HA, HJ2, BK279, BK280, HB⟩ := hcut
  cases kq with
  | zero => exact absurd HA.out (by simp [althingref05_Same.j0])
  | succ kj2 =>
   have H := HA.out
   clear HA
   simp only [althingref05_Same.j0] at H
   by_cases c33 : x57_2 = true
   · subst c33
     have H1 : (some false) = some r := by rw [if_pos rfl] at H; exact H
     clear H
     have H := H1
     clear H1
     obtain rfl := Option.some.inj H
     go_wp2
     repeat (go_quiet (fail); try go_wp2)
     go_ret
     exact ⟨by first | rfl | (simp [errW_none, errW_some] <;> rfl) | (simp [*, errW_none, errW_some] <;> rfl), by repeat (first | (with_reducible first | exact HB.out | apply below_alloc | apply pw_below_drewN | apply below_drew1 | refine below_set ?_ GE279.out | refine below_set ?_ GE280.out) | exact HB.out)⟩
   · replace c33 := Bool.eq_false_iff.mpr c33
     subst c33
     have H1 : (althingref05_Same.l0 kj2 0 a0_0 a0_1 a0_2 a0_3 a0_4 a0_5 l0_6 l0_7 a0_8 a1_0 a1_1 a1_2 a1_3 a1_4 a1_5 l1_6 l1_7 a1_8) = some r := by rw [if_neg (show ¬ (false = true) by decide)] at H; exact H
     clear H
     have H := H1
     clear H1
     have H' := Aside0.mk H
     clear H
     go_wp2
     repeat (go_quiet (fail); try go_wp2)
     go_loopg [5] kj2 (fun kq v5 w' => ∃ (x5_2 : Int), v5 = .int .i64 x5_2 ∧ Aside0 (althingref05_Same.l0 kq x5_2 a0_0 a0_1 a0_2 a0_3 a0_4 a0_5 l0_6 l0_7 a0_8 a1_0 a1_1 a1_2 a1_3 a1_4 a1_5 l1_6 l1_7 a1_8 = some r) ∧ Aside0 (kq ≤ kj2) ∧ Aside0 (w'.heap[gb279]? = some (.cells #[.int .i64 a0_0, .int .i64 a0_1, .int .i64 a0_2, .int .i64 a0_3, .int .i64 a0_4, .int .i64 a0_5, (.slice A0_6 l0_6.length c0_6), (.slice A0_7 l0_7.length c0_7), .bool a0_8] 29 (0, 0))) ∧ Aside0 (w'.heap[gb280]? = some (.cells #[.int .i64 a1_0, .int .i64 a1_1, .int .i64 a1_2, .int .i64 a1_3, .int .i64 a1_4, .int .i64 a1_5, (.slice A1_6 l1_6.length c1_6), (.slice A1_7 l1_7.length c1_7), .bool a1_8] 29 (0, 0))) ∧ Aside0 (Below w.heap.size w w'))
     case atStart => exact ⟨(0), (by first | rfl | (simp; done) | (simp [*]; done)), H', ⟨Nat.le_refl _⟩, ⟨by (with_reducible repeat (first | refine blk_drewN ?_ _ | refine blk_drew ?_ | refine blk_alloc ?_ _)); exact BK279.out⟩, ⟨by (with_reducible repeat (first | refine blk_drewN ?_ _ | refine blk_drew ?_ | refine blk_alloc ?_ _)); exact BK280.out⟩, ⟨by repeat (first | (with_reducible first | exact HB.out | apply below_alloc | apply pw_below_drewN | apply below_drew1 | refine below_set ?_ GE279.out | refine below_set ?_ GE280.out) | exact HB.out)⟩⟩
     case round =>
      clear H'
      try clear c1
      try clear c2
      try clear p2
      try clear c3
      try clear c6
      try clear c6b0
      try clear c6b1
      try clear c7
      try clear c7b0
      try clear c8
      try clear c11
      try clear c11b0
      try clear c12
      try clear c15
      try clear c15b0
      try clear c15b1
      try clear c16
      try clear c16b0
      try clear c16b1
      try clear c16b2
      try clear c17
      try clear c20
      try clear c20b0
      try clear c20b1
      try clear c20b2
      try clear c21
      try clear c24
      try clear c27
      try clear c30
      try clear c33
      try clear hcz10_0
      try clear hcz10_1
      try clear hcz10_2
      try clear hcz10_3
      try clear hcz10_4
      try clear hcz10_5
      try clear hcz10_6
      try clear hcz10_7
      try clear hcz10_8
      try clear hcz13_0
      try clear hcz13_1
      try clear hcz13_2
      try clear hcz13_3
      try clear hcz13_4
      try clear hcz13_5
      try clear hcz13_6
      try clear hcz13_7
      try clear hcz13_8
      try clear hcz14_0
      try clear hcz14_1
      try clear hcz14_2
      try clear hcz14_3
      try clear hcz14_4
      try clear hcz14_5
      try clear hcz14_6
      try clear hcz14_7
      try clear hcz14_8
      try clear hcz18_0
      try clear hcz18_1
      try clear hcz18_2
      try clear hcz18_3
      try clear hcz18_4
      try clear hcz18_5
      try clear hcz18_6
      try clear hcz18_7
      try clear hcz18_8
      try clear hcz19_0
      try clear hcz19_1
      try clear hcz19_2
      try clear hcz19_3
      try clear hcz19_4
      try clear hcz19_5
      try clear hcz19_6
      try clear hcz19_7
      try clear hcz19_8
      try clear hcz22_0
      try clear hcz22_1
      try clear hcz22_2
      try clear hcz22_3
      try clear hcz22_4
      try clear hcz22_5
      try clear hcz22_6
      try clear hcz22_7
      try clear hcz22_8
      try clear hcz23_0
      try clear hcz23_1
      try clear hcz23_2
      try clear hcz23_3
      try clear hcz23_4
      try clear hcz23_5
      try clear hcz23_6
      try clear hcz23_7
      try clear hcz23_8
      try clear hcz25_0
      try clear hcz25_1
      try clear hcz25_2
      try clear hcz25_3
      try clear hcz25_4
      try clear hcz25_5
      try clear hcz25_6
      try clear hcz25_7
      try clear hcz25_8
      try clear hcz26_0
      try clear hcz26_1
      try clear hcz26_2
      try clear hcz26_3
      try clear hcz26_4
      try clear hcz26_5
      try clear hcz26_6
      try clear hcz26_7
      try clear hcz26_8
      try clear hcz28_0
      try clear hcz28_1
      try clear hcz28_2
      try clear hcz28_3
      try clear hcz28_4
      try clear hcz28_5
      try clear hcz28_6
      try clear hcz28_7
      try clear hcz28_8
      try clear hcz29_0
      try clear hcz29_1
      try clear hcz29_2
      try clear hcz29_3
      try clear hcz29_4
      try clear hcz29_5
      try clear hcz29_6
      try clear hcz29_7
      try clear hcz29_8
      try clear hcz31_0
      try clear hcz31_1
      try clear hcz31_2
      try clear hcz31_3
      try clear hcz31_4
      try clear hcz31_5
      try clear hcz31_6
      try clear hcz31_7
      try clear hcz31_8
      try clear hcz32_0
      try clear hcz32_1
      try clear hcz32_2
      try clear hcz32_3
      try clear hcz32_4
      try clear hcz32_5
      try clear hcz32_6
      try clear hcz32_7
      try clear hcz32_8
      try clear hcz9_0
      try clear hcz9_1
      try clear hcz9_2
      try clear hcz9_3
      try clear hcz9_4
      try clear hcz9_5
      try clear hcz9_6
      try clear hcz9_7
      try clear hcz9_8
      try clear hfz10_0
      try clear hfz10_1
      try clear hfz10_2
      try clear hfz10_3
      try clear hfz10_4
      try clear hfz10_5
      try clear hfz10_6
      try clear hfz10_7
      try clear hfz10_8
      try clear hfz13_0
      try clear hfz13_1
      try clear hfz13_2
      try clear hfz13_3
      try clear hfz13_4
      try clear hfz13_5
      try clear hfz13_6
      try clear hfz13_7
      try clear hfz13_8
      try clear hfz14_0
      try clear hfz14_1
      try clear hfz14_2
      try clear hfz14_3
      try clear hfz14_4
      try clear hfz14_5
      try clear hfz14_6
      try clear hfz14_7
      try clear hfz14_8
      try clear hfz18_0
      try clear hfz18_1
      try clear hfz18_2
      try clear hfz18_3
      try clear hfz18_4
      try clear hfz18_5
      try clear hfz18_6
      try clear hfz18_7
      try clear hfz18_8
      try clear hfz19_0
      try clear hfz19_1
      try clear hfz19_2
      try clear hfz19_3
      try clear hfz19_4
      try clear hfz19_5
      try clear hfz19_6
      try clear hfz19_7
      try clear hfz19_8
      try clear hfz22_0
      try clear hfz22_1
      try clear hfz22_2
      try clear hfz22_3
      try clear hfz22_4
      try clear hfz22_5
      try clear hfz22_6
      try clear hfz22_7
      try clear hfz22_8
      try clear hfz23_0
      try clear hfz23_1
      try clear hfz23_2
      try clear hfz23_3
      try clear hfz23_4
      try clear hfz23_5
      try clear hfz23_6
      try clear hfz23_7
      try clear hfz23_8
      try clear hfz25_0
      try clear hfz25_1
      try clear hfz25_2
      try clear hfz25_3
      try clear hfz25_4
      try clear hfz25_5
      try clear hfz25_6
      try clear hfz25_7
      try clear hfz25_8
      try clear hfz26_0
      try clear hfz26_1
      try clear hfz26_2
      try clear hfz26_3
      try clear hfz26_4
      try clear hfz26_5
      try clear hfz26_6
      try clear hfz26_7
      try clear hfz26_8
      try clear hfz28_0
      try clear hfz28_1
      try clear hfz28_2
      try clear hfz28_3
      try clear hfz28_4
      try clear hfz28_5
      try clear hfz28_6
      try clear hfz28_7
      try clear hfz28_8
      try clear hfz29_0
      try clear hfz29_1
      try clear hfz29_2
      try clear hfz29_3
      try clear hfz29_4
      try clear hfz29_5
      try clear hfz29_6
      try clear hfz29_7
      try clear hfz29_8
      try clear hfz31_0
      try clear hfz31_1
      try clear hfz31_2
      try clear hfz31_3
      try clear hfz31_4
      try clear hfz31_5
      try clear hfz31_6
      try clear hfz31_7
      try clear hfz31_8
      try clear hfz32_0
      try clear hfz32_1
      try clear hfz32_2
      try clear hfz32_3
      try clear hfz32_4
      try clear hfz32_5
      try clear hfz32_6
      try clear hfz32_7
      try clear hfz32_8
      try clear hfz9_0
      try clear hfz9_1
      try clear hfz9_2
      try clear hfz9_3
      try clear hfz9_4
      try clear hfz9_5
      try clear hfz9_6
      try clear hfz9_7
      try clear hfz9_8
      try clear p2
      (try clear BK279); (try clear BK280)
      obtain ⟨x5_2, rfl, HA, HK2, BK279, BK280, HB⟩ := hrel
      cases gk with
      | zero => exact absurd HA.out (by simp [althingref05_Same.l0])
      | succ k2 =>
       have H := HA.out
       clear HA
       simp only [althingref05_Same.l0] at H
       by_cases c34 : x5_2 < (l0_6.length : Int)
       · rw [if_pos c34] at H
         have c34b0 : decide (x5_2 < (l0_6.length : Int)) = true := decide_eq_true c34
         clear c34
         by_cases c35 : 0 ≤ x5_2
         · rw [if_pos c35] at H
           have c35b0 : decide (0 ≤ x5_2) = true := decide_eq_true c35
           clear c35
           by_cases c36 : x5_2 < (l1_6.length : Int)
           · rw [if_pos c36] at H
             have c36b0 : decide (x5_2 < (l1_6.length : Int)) = true := decide_eq_true c36
             clear c36
             by_cases c37 : (!((((rd_T38 l0_6 x5_2).f0).toList) == (((rd_T38 l1_6 x5_2).f0).toList)) || ((!(((rd_T38 l0_6 x5_2).f1.f0) == ((rd_T38 l1_6 x5_2).f1.f0)) || (!(((rd_T38 l0_6 x5_2).f1.f1) == ((rd_T38 l1_6 x5_2).f1.f1)))))) = true
             · rw [if_pos c37] at H
               have c37b0 : (!((((rd_T38 l0_6 x5_2).f0).toList) == (((rd_T38 l1_6 x5_2).f0).toList)) || ((!(((rd_T38 l0_6 x5_2).f1.f0) == ((rd_T38 l1_6 x5_2).f1.f0)) || (!(((rd_T38 l0_6 x5_2).f1.f1) == ((rd_T38 l1_6 x5_2).f1.f1)))))) = true := c37
               clear c37
               obtain rfl := Option.some.inj H
               have hnb38 := NB279_280.out
               have hnc38 := NB280_279.out
               have hcz39_0 : wr.cell? ⟨gb279, 0, none⟩ = some (.int .i64 a0_0) := (blk_cell BK279.out 0).trans rfl
               have hcz39_1 : wr.cell? ⟨gb279, 1, none⟩ = some (.int .i64 a0_1) := (blk_cell BK279.out 1).trans rfl
               have hcz39_2 : wr.cell? ⟨gb279, 2, none⟩ = some (.int .i64 a0_2) := (blk_cell BK279.out 2).trans rfl
               have hcz39_3 : wr.cell? ⟨gb279, 3, none⟩ = some (.int .i64 a0_3) := (blk_cell BK279.out 3).trans rfl
               have hcz39_4 : wr.cell? ⟨gb279, 4, none⟩ = some (.int .i64 a0_4) := (blk_cell BK279.out 4).trans rfl
               have hcz39_5 : wr.cell? ⟨gb279, 5, none⟩ = some (.int .i64 a0_5) := (blk_cell BK279.out 5).trans rfl
               have hcz39_6 : wr.cell? ⟨gb279, 6, none⟩ = some (.slice A0_6 l0_6.length c0_6) := (blk_cell BK279.out 6).trans rfl
               have hcz39_7 : wr.cell? ⟨gb279, 7, none⟩ = some (.slice A0_7 l0_7.length c0_7) := (blk_cell BK279.out 7).trans rfl
               have hcz39_8 : wr.cell? ⟨gb279, 8, none⟩ = some (.bool a0_8) := (blk_cell BK279.out 8).trans rfl
               have hfz39_0 := blk_frozen BK279.out 0
               have hfz39_1 := blk_frozen BK279.out 1
               have hfz39_2 := blk_frozen BK279.out 2
               have hfz39_3 := blk_frozen BK279.out 3
               have hfz39_4 := blk_frozen BK279.out 4
               have hfz39_5 := blk_frozen BK279.out 5
               have hfz39_6 := blk_frozen BK279.out 6
               have hfz39_7 := blk_frozen BK279.out 7
               have hfz39_8 := blk_frozen BK279.out 8
               have p281 : 0 ≤ (x5_2 : Int) := of_decide_eq_true (by first | (with_reducible assumption) | assumption)
               have q281 : x5_2 < (l0_6.length : Int) := of_decide_eq_true (by first | (with_reducible assumption) | assumption)
               obtain ⟨ad281, e281, hx281_0, hx281_1, hx281_2⟩ := at_T38 HR0_6.out x5_2 p281 q281
               cases e281
               replace hx281_0 := (HB.out.cell (World.block_lt_of_cell? w _ hx281_0)).trans hx281_0
               replace hx281_1 := (HB.out.cell (World.block_lt_of_cell? w _ hx281_1)).trans hx281_1
               replace hx281_2 := (HB.out.cell (World.block_lt_of_cell? w _ hx281_2)).trans hx281_2
               replace p281 := eq_true p281
               replace q281 := eq_true q281
               have hcz40_0 : wr.cell? ⟨gb280, 0, none⟩ = some (.int .i64 a1_0) := (blk_cell BK280.out 0).trans rfl
               have hcz40_1 : wr.cell? ⟨gb280, 1, none⟩ = some (.int .i64 a1_1) := (blk_cell BK280.out 1).trans rfl
               have hcz40_2 : wr.cell? ⟨gb280, 2, none⟩ = some (.int .i64 a1_2) := (blk_cell BK280.out 2).trans rfl
               have hcz40_3 : wr.cell? ⟨gb280, 3, none⟩ = some (.int .i64 a1_3) := (blk_cell BK280.out 3).trans rfl
               have hcz40_4 : wr.cell? ⟨gb280, 4, none⟩ = some (.int .i64 a1_4) := (blk_cell BK280.out 4).trans rfl
               have hcz40_5 : wr.cell? ⟨gb280, 5, none⟩ = some (.int .i64 a1_5) := (blk_cell BK280.out 5).trans rfl
               have hcz40_6 : wr.cell? ⟨gb280, 6, none⟩ = some (.slice A1_6 l1_6.length c1_6) := (blk_cell BK280.out 6).trans rfl
               have hcz40_7 : wr.cell? ⟨gb280, 7, none⟩ = some (.slice A1_7 l1_7.length c1_7) := (blk_cell BK280.out 7).trans rfl
               have hcz40_8 : wr.cell? ⟨gb280, 8, none⟩ = some (.bool a1_8) := (blk_cell BK280.out 8).trans rfl
               have hfz40_0 := blk_frozen BK280.out 0
               have hfz40_1 := blk_frozen BK280.out 1
               have hfz40_2 := blk_frozen BK280.out 2
               have hfz40_3 := blk_frozen BK280.out 3
               have hfz40_4 := blk_frozen BK280.out 4
               have hfz40_5 := blk_frozen BK280.out 5
               have hfz40_6 := blk_frozen BK280.out 6
               have hfz40_7 := blk_frozen BK280.out 7
               have hfz40_8 := blk_frozen BK280.out 8
               have p282 : 0 ≤ (x5_2 : Int) := of_decide_eq_true (by first | (with_reducible assumption) | assumption)
               have q282 : x5_2 < (l1_6.length : Int) := of_decide_eq_true (by first | (with_reducible assumption) | assumption)
               obtain ⟨ad282, e282, hx282_0, hx282_1, hx282_2⟩ := at_T38 HR1_6.out x5_2 p282 q282
               cases e282
               replace hx282_0 := (HB.out.cell (World.block_lt_of_cell? w _ hx282_0)).trans hx282_0
               replace hx282_1 := (HB.out.cell (World.block_lt_of_cell? w _ hx282_1)).trans hx282_1
               replace hx282_2 := (HB.out.cell (World.block_lt_of_cell? w _ hx282_2)).trans hx282_2
               replace p282 := eq_true p282
               replace q282 := eq_true q282
               go_wp2
               repeat (go_quiet (fail); try go_wp2)
               go_ret
               exact ⟨by first | rfl | (simp [errW_none, errW_some] <;> rfl) | (simp [*, errW_none, errW_some] <;> rfl), by repeat (first | (with_reducible first | exact HB.out | apply below_alloc | apply pw_below_drewN | apply below_drew1 | refine below_set ?_ GE279.out | refine below_set ?_ GE280.out) | exact HB.out)⟩
             · rw [if_neg c37] at H
               have c37b0 : (!((((rd_T38 l0_6 x5_2).f0).toList) == (((rd_T38 l1_6 x5_2).f0).toList)) || ((!(((rd_T38 l0_6 x5_2).f1.f0) == ((rd_T38 l1_6 x5_2).f1.f0)) || (!(((rd_T38 l0_6 x5_2).f1.f1) == ((rd_T38 l1_6 x5_2).f1.f1)))))) = false := by simpa using c37
               clear c37
               have H' := Aside0.mk H
               clear H
               have hnb41 := NB279_280.out
               have hnc41 := NB280_279.out
               have hcz42_0 : wr.cell? ⟨gb279, 0, none⟩ = some (.int .i64 a0_0) := (blk_cell BK279.out 0).trans rfl
               have hcz42_1 : wr.cell? ⟨gb279, 1, none⟩ = some (.int .i64 a0_1) := (blk_cell BK279.out 1).trans rfl
               have hcz42_2 : wr.cell? ⟨gb279, 2, none⟩ = some (.int .i64 a0_2) := (blk_cell BK279.out 2).trans rfl
               have hcz42_3 : wr.cell? ⟨gb279, 3, none⟩ = some (.int .i64 a0_3) := (blk_cell BK279.out 3).trans rfl
               have hcz42_4 : wr.cell? ⟨gb279, 4, none⟩ = some (.int .i64 a0_4) := (blk_cell BK279.out 4).trans rfl
               have hcz42_5 : wr.cell? ⟨gb279, 5, none⟩ = some (.int .i64 a0_5) := (blk_cell BK279.out 5).trans rfl
               have hcz42_6 : wr.cell? ⟨gb279, 6, none⟩ = some (.slice A0_6 l0_6.length c0_6) := (blk_cell BK279.out 6).trans rfl
               have hcz42_7 : wr.cell? ⟨gb279, 7, none⟩ = some (.slice A0_7 l0_7.length c0_7) := (blk_cell BK279.out 7).trans rfl
               have hcz42_8 : wr.cell? ⟨gb279, 8, none⟩ = some (.bool a0_8) := (blk_cell BK279.out 8).trans rfl
               have hfz42_0 := blk_frozen BK279.out 0
               have hfz42_1 := blk_frozen BK279.out 1
               have hfz42_2 := blk_frozen BK279.out 2
               have hfz42_3 := blk_frozen BK279.out 3
               have hfz42_4 := blk_frozen BK279.out 4
               have hfz42_5 := blk_frozen BK279.out 5
               have hfz42_6 := blk_frozen BK279.out 6
               have hfz42_7 := blk_frozen BK279.out 7
               have hfz42_8 := blk_frozen BK279.out 8
               have p281 : 0 ≤ (x5_2 : Int) := of_decide_eq_true (by first | (with_reducible assumption) | assumption)
               have q281 : x5_2 < (l0_6.length : Int) := of_decide_eq_true (by first | (with_reducible assumption) | assumption)
               obtain ⟨ad281, e281, hx281_0, hx281_1, hx281_2⟩ := at_T38 HR0_6.out x5_2 p281 q281
               cases e281
               replace hx281_0 := (HB.out.cell (World.block_lt_of_cell? w _ hx281_0)).trans hx281_0
               replace hx281_1 := (HB.out.cell (World.block_lt_of_cell? w _ hx281_1)).trans hx281_1
               replace hx281_2 := (HB.out.cell (World.block_lt_of_cell? w _ hx281_2)).trans hx281_2
               replace p281 := eq_true p281
               replace q281 := eq_true q281
               have hcz43_0 : wr.cell? ⟨gb280, 0, none⟩ = some (.int .i64 a1_0) := (blk_cell BK280.out 0).trans rfl
               have hcz43_1 : wr.cell? ⟨gb280, 1, none⟩ = some (.int .i64 a1_1) := (blk_cell BK280.out 1).trans rfl
               have hcz43_2 : wr.cell? ⟨gb280, 2, none⟩ = some (.int .i64 a1_2) := (blk_cell BK280.out 2).trans rfl
               have hcz43_3 : wr.cell? ⟨gb280, 3, none⟩ = some (.int .i64 a1_3) := (blk_cell BK280.out 3).trans rfl
               have hcz43_4 : wr.cell? ⟨gb280, 4, none⟩ = some (.int .i64 a1_4) := (blk_cell BK280.out 4).trans rfl
               have hcz43_5 : wr.cell? ⟨gb280, 5, none⟩ = some (.int .i64 a1_5) := (blk_cell BK280.out 5).trans rfl
               have hcz43_6 : wr.cell? ⟨gb280, 6, none⟩ = some (.slice A1_6 l1_6.length c1_6) := (blk_cell BK280.out 6).trans rfl
               have hcz43_7 : wr.cell? ⟨gb280, 7, none⟩ = some (.slice A1_7 l1_7.length c1_7) := (blk_cell BK280.out 7).trans rfl
               have hcz43_8 : wr.cell? ⟨gb280, 8, none⟩ = some (.bool a1_8) := (blk_cell BK280.out 8).trans rfl
               have hfz43_0 := blk_frozen BK280.out 0
               have hfz43_1 := blk_frozen BK280.out 1
               have hfz43_2 := blk_frozen BK280.out 2
               have hfz43_3 := blk_frozen BK280.out 3
               have hfz43_4 := blk_frozen BK280.out 4
               have hfz43_5 := blk_frozen BK280.out 5
               have hfz43_6 := blk_frozen BK280.out 6
               have hfz43_7 := blk_frozen BK280.out 7
               have hfz43_8 := blk_frozen BK280.out 8
               have p282 : 0 ≤ (x5_2 : Int) := of_decide_eq_true (by first | (with_reducible assumption) | assumption)
               have q282 : x5_2 < (l1_6.length : Int) := of_decide_eq_true (by first | (with_reducible assumption) | assumption)
               obtain ⟨ad282, e282, hx282_0, hx282_1, hx282_2⟩ := at_T38 HR1_6.out x5_2 p282 q282
               cases e282
               replace hx282_0 := (HB.out.cell (World.block_lt_of_cell? w _ hx282_0)).trans hx282_0
               replace hx282_1 := (HB.out.cell (World.block_lt_of_cell? w _ hx282_1)).trans hx282_1
               replace hx282_2 := (HB.out.cell (World.block_lt_of_cell? w _ hx282_2)).trans hx282_2
               replace p282 := eq_true p282
               replace q282 := eq_true q282
               go_wp2
               repeat (go_quiet (fail); try go_wp2)
               go_roundg k2
               case measure => have := HJ2.out; have := HK2.out; omega
               case rel => exact ⟨(wrap64 (x5_2 + 1)), (by first | rfl | (simp; done) | (simp [*]; done)), H', ⟨by have := HJ2.out; have := HK2.out; omega⟩, ⟨by (with_reducible repeat (first | refine blk_drewN ?_ _ | refine blk_drew ?_ | refine blk_alloc ?_ _)); exact BK279.out⟩, ⟨by (with_reducible repeat (first | refine blk_drewN ?_ _ | refine blk_drew ?_ | refine blk_alloc ?_ _)); exact BK280.out⟩, ⟨by repeat (first | (with_reducible first | exact HB.out | apply below_alloc | apply pw_below_drewN | apply below_drew1 | refine below_set ?_ GE279.out | refine below_set ?_ GE280.out) | exact HB.out)⟩⟩
           · rw [if_neg c36] at H
             exact absurd H (by simp)
         · rw [if_neg c35] at H
           exact absurd H (by simp)
       · rw [if_neg c34] at H
         have c34b0 : decide (x5_2 < (l0_6.length : Int)) = false := decide_eq_false c34
         clear c34
         have H' := Aside0.mk H
         clear H
         have hnb44 := NB279_280.out
         have hnc44 := NB280_279.out
         have hcz45_0 : wr.cell? ⟨gb279, 0, none⟩ = some (.int .i64 a0_0) := (blk_cell BK279.out 0).trans rfl
         have hcz45_1 : wr.cell? ⟨gb279, 1, none⟩ = some (.int .i64 a0_1) := (blk_cell BK279.out 1).trans rfl
         have hcz45_2 : wr.cell? ⟨gb279, 2, none⟩ = some (.int .i64 a0_2) := (blk_cell BK279.out 2).trans rfl
         have hcz45_3 : wr.cell? ⟨gb279, 3, none⟩ = some (.int .i64 a0_3) := (blk_cell BK279.out 3).trans rfl
         have hcz45_4 : wr.cell? ⟨gb279, 4, none⟩ = some (.int .i64 a0_4) := (blk_cell BK279.out 4).trans rfl
         have hcz45_5 : wr.cell? ⟨gb279, 5, none⟩ = some (.int .i64 a0_5) := (blk_cell BK279.out 5).trans rfl
         have hcz45_6 : wr.cell? ⟨gb279, 6, none⟩ = some (.slice A0_6 l0_6.length c0_6) := (blk_cell BK279.out 6).trans rfl
         have hcz45_7 : wr.cell? ⟨gb279, 7, none⟩ = some (.slice A0_7 l0_7.length c0_7) := (blk_cell BK279.out 7).trans rfl
         have hcz45_8 : wr.cell? ⟨gb279, 8, none⟩ = some (.bool a0_8) := (blk_cell BK279.out 8).trans rfl
         have hfz45_0 := blk_frozen BK279.out 0
         have hfz45_1 := blk_frozen BK279.out 1
         have hfz45_2 := blk_frozen BK279.out 2
         have hfz45_3 := blk_frozen BK279.out 3
         have hfz45_4 := blk_frozen BK279.out 4
         have hfz45_5 := blk_frozen BK279.out 5
         have hfz45_6 := blk_frozen BK279.out 6
         have hfz45_7 := blk_frozen BK279.out 7
         have hfz45_8 := blk_frozen BK279.out 8
         go_wp2
         repeat (go_quiet (fail); try go_wp2)
         go_loopg [6] k2 (fun kq v6 w' => ∃ (x6_3 : Int), v6 = .int .i64 x6_3 ∧ Aside0 (althingref05_Same.l1 kq x6_3 a0_0 a0_1 a0_2 a0_3 a0_4 a0_5 l0_6 l0_7 a0_8 a1_0 a1_1 a1_2 a1_3 a1_4 a1_5 l1_6 l1_7 a1_8 = some r) ∧ Aside0 (kq ≤ k2) ∧ Aside0 (w'.heap[gb279]? = some (.cells #[.int .i64 a0_0, .int .i64 a0_1, .int .i64 a0_2, .int .i64 a0_3, .int .i64 a0_4, .int .i64 a0_5, (.slice A0_6 l0_6.length c0_6), (.slice A0_7 l0_7.length c0_7), .bool a0_8] 29 (0, 0))) ∧ Aside0 (w'.heap[gb280]? = some (.cells #[.int .i64 a1_0, .int .i64 a1_1, .int .i64 a1_2, .int .i64 a1_3, .int .i64 a1_4, .int .i64 a1_5, (.slice A1_6 l1_6.length c1_6), (.slice A1_7 l1_7.length c1_7), .bool a1_8] 29 (0, 0))) ∧ Aside0 (Below w.heap.size w w'))
         case atStart => exact ⟨(0), (by first | rfl | (simp; done) | (simp [*]; done)), H', ⟨Nat.le_refl _⟩, ⟨by (with_reducible repeat (first | refine blk_drewN ?_ _ | refine blk_drew ?_ | refine blk_alloc ?_ _)); exact BK279.out⟩, ⟨by (with_reducible repeat (first | refine blk_drewN ?_ _ | refine blk_drew ?_ | refine blk_alloc ?_ _)); exact BK280.out⟩, ⟨by repeat (first | (with_reducible first | exact HB.out | apply below_alloc | apply pw_below_drewN | apply below_drew1 | refine below_set ?_ GE279.out | refine below_set ?_ GE280.out) | exact HB.out)⟩⟩
         case round =>
          clear H'
          try clear c1
          try clear c2
          try clear p2
          try clear q2
          try clear hx2
          try clear c3
          try clear c4
          try clear c6
          try clear c6b0
          try clear c6b1
          try clear p6
          try clear c7
          try clear c7b0
          try clear c8
          try clear c11
          try clear c11b0
          try clear c12
          try clear c15
          try clear c15b0
          try clear c15b1
          try clear c16
          try clear c16b0
          try clear c16b1
          try clear c16b2
          try clear c17
          try clear c20
          try clear c20b0
          try clear c20b1
          try clear c20b2
          try clear c21
          try clear c24
          try clear c27
          try clear p28
          try clear q28
          try clear hx28
          try clear c30
          try clear c33
          try clear c34
          try clear c34b0
          try clear c35
          try clear c35b0
          try clear c36
          try clear c36b0
          try clear c37
          try clear c37b0
          try clear c38
          try clear c41
          try clear c44
          try clear hcz10_0
          try clear hcz10_1
          try clear hcz10_2
          try clear hcz10_3
          try clear hcz10_4
          try clear hcz10_5
          try clear hcz10_6
          try clear hcz10_7
          try clear hcz10_8
          try clear hcz13_0
          try clear hcz13_1
          try clear hcz13_2
          try clear hcz13_3
          try clear hcz13_4
          try clear hcz13_5
          try clear hcz13_6
          try clear hcz13_7
          try clear hcz13_8
          try clear hcz14_0
          try clear hcz14_1
          try clear hcz14_2
          try clear hcz14_3
          try clear hcz14_4
          try clear hcz14_5
          try clear hcz14_6
          try clear hcz14_7
          try clear hcz14_8
          try clear hcz18_0
          try clear hcz18_1
          try clear hcz18_2
          try clear hcz18_3
          try clear hcz18_4
          try clear hcz18_5
          try clear hcz18_6
          try clear hcz18_7
          try clear hcz18_8
          try clear hcz19_0
          try clear hcz19_1
          try clear hcz19_2
          try clear hcz19_3
          try clear hcz19_4
          try clear hcz19_5
          try clear hcz19_6
          try clear hcz19_7
          try clear hcz19_8
          try clear hcz22_0
          try clear hcz22_1
          try clear hcz22_2
          try clear hcz22_3
          try clear hcz22_4
          try clear hcz22_5
          try clear hcz22_6
          try clear hcz22_7
          try clear hcz22_8
          try clear hcz23_0
          try clear hcz23_1
          try clear hcz23_2
          try clear hcz23_3
          try clear hcz23_4
          try clear hcz23_5
          try clear hcz23_6
          try clear hcz23_7
          try clear hcz23_8
          try clear hcz25_0
          try clear hcz25_1
          try clear hcz25_2
          try clear hcz25_3
          try clear hcz25_4
          try clear hcz25_5
          try clear hcz25_6
          try clear hcz25_7
          try clear hcz25_8
          try clear hcz26_0
          try clear hcz26_1
          try clear hcz26_2
          try clear hcz26_3
          try clear hcz26_4
          try clear hcz26_5
          try clear hcz26_6
          try clear hcz26_7
          try clear hcz26_8
          try clear hcz28_0
          try clear hcz28_1
          try clear hcz28_2
          try clear hcz28_3
          try clear hcz28_4
          try clear hcz28_5
          try clear hcz28_6
          try clear hcz28_7
          try clear hcz28_8
          try clear hcz29_0
          try clear hcz29_1
          try clear hcz29_2
          try clear hcz29_3
          try clear hcz29_4
          try clear hcz29_5
          try clear hcz29_6
          try clear hcz29_7
          try clear hcz29_8
          try clear hcz31_0
          try clear hcz31_1
          try clear hcz31_2
          try clear hcz31_3
          try clear hcz31_4
          try clear hcz31_5
          try clear hcz31_6
          try clear hcz31_7
          try clear hcz31_8
          try clear hcz32_0
          try clear hcz32_1
          try clear hcz32_2
          try clear hcz32_3
          try clear hcz32_4
          try clear hcz32_5
          try clear hcz32_6
          try clear hcz32_7
          try clear hcz32_8
          try clear hcz39_0
          try clear hcz39_1
          try clear hcz39_2
          try clear hcz39_3
          try clear hcz39_4
          try clear hcz39_5
          try clear hcz39_6
          try clear hcz39_7
          try clear hcz39_8
          try clear hcz40_0
          try clear hcz40_1
          try clear hcz40_2
          try clear hcz40_3
          try clear hcz40_4
          try clear hcz40_5
          try clear hcz40_6
          try clear hcz40_7
          try clear hcz40_8
          try clear hcz42_0
          try clear hcz42_1
          try clear hcz42_2
          try clear hcz42_3
          try clear hcz42_4
          try clear hcz42_5
          try clear hcz42_6
          try clear hcz42_7
          try clear hcz42_8
          try clear hcz43_0
          try clear hcz43_1
          try clear hcz43_2
          try clear hcz43_3
          try clear hcz43_4
          try clear hcz43_5
          try clear hcz43_6
          try clear hcz43_7
          try clear hcz43_8
          try clear hcz45_0
          try clear hcz45_1
          try clear hcz45_2
          try clear hcz45_3
          try clear hcz45_4
          try clear hcz45_5
          try clear hcz45_6
          try clear hcz45_7
          try clear hcz45_8
          try clear hcz9_0
          try clear hcz9_1
          try clear hcz9_2
          try clear hcz9_3
          try clear hcz9_4
          try clear hcz9_5
          try clear hcz9_6
          try clear hcz9_7
          try clear hcz9_8
          try clear hfz10_0
          try clear hfz10_1
          try clear hfz10_2
          try clear hfz10_3
          try clear hfz10_4
          try clear hfz10_5
          try clear hfz10_6
          try clear hfz10_7
          try clear hfz10_8
          try clear hfz13_0
          try clear hfz13_1
          try clear hfz13_2
          try clear hfz13_3
          try clear hfz13_4
          try clear hfz13_5
          try clear hfz13_6
          try clear hfz13_7
          try clear hfz13_8
          try clear hfz14_0
          try clear hfz14_1
          try clear hfz14_2
          try clear hfz14_3
          try clear hfz14_4
          try clear hfz14_5
          try clear hfz14_6
          try clear hfz14_7
          try clear hfz14_8
          try clear hfz18_0
          try clear hfz18_1
          try clear hfz18_2
          try clear hfz18_3
          try clear hfz18_4
          try clear hfz18_5
          try clear hfz18_6
          try clear hfz18_7
          try clear hfz18_8
          try clear hfz19_0
          try clear hfz19_1
          try clear hfz19_2
          try clear hfz19_3
          try clear hfz19_4
          try clear hfz19_5
          try clear hfz19_6
          try clear hfz19_7
          try clear hfz19_8
          try clear hfz22_0
          try clear hfz22_1
          try clear hfz22_2
          try clear hfz22_3
          try clear hfz22_4
          try clear hfz22_5
          try clear hfz22_6
          try clear hfz22_7
          try clear hfz22_8
          try clear hfz23_0
          try clear hfz23_1
          try clear hfz23_2
          try clear hfz23_3
          try clear hfz23_4
          try clear hfz23_5
          try clear hfz23_6
          try clear hfz23_7
          try clear hfz23_8
          try clear hfz25_0
          try clear hfz25_1
          try clear hfz25_2
          try clear hfz25_3
          try clear hfz25_4
          try clear hfz25_5
          try clear hfz25_6
          try clear hfz25_7
          try clear hfz25_8
          try clear hfz26_0
          try clear hfz26_1
          try clear hfz26_2
          try clear hfz26_3
          try clear hfz26_4
          try clear hfz26_5
          try clear hfz26_6
          try clear hfz26_7
          try clear hfz26_8
          try clear hfz28_0
          try clear hfz28_1
          try clear hfz28_2
          try clear hfz28_3
          try clear hfz28_4
          try clear hfz28_5
          try clear hfz28_6
          try clear hfz28_7
          try clear hfz28_8
          try clear hfz29_0
          try clear hfz29_1
          try clear hfz29_2
          try clear hfz29_3
          try clear hfz29_4
          try clear hfz29_5
          try clear hfz29_6
          try clear hfz29_7
          try clear hfz29_8
          try clear hfz31_0
          try clear hfz31_1
          try clear hfz31_2
          try clear hfz31_3
          try clear hfz31_4
          try clear hfz31_5
          try clear hfz31_6
          try clear hfz31_7
          try clear hfz31_8
          try clear hfz32_0
          try clear hfz32_1
          try clear hfz32_2
          try clear hfz32_3
          try clear hfz32_4
          try clear hfz32_5
          try clear hfz32_6
          try clear hfz32_7
          try clear hfz32_8
          try clear hfz39_0
          try clear hfz39_1
          try clear hfz39_2
          try clear hfz39_3
          try clear hfz39_4
          try clear hfz39_5
          try clear hfz39_6
          try clear hfz39_7
          try clear hfz39_8
          try clear hfz40_0
          try clear hfz40_1
          try clear hfz40_2
          try clear hfz40_3
          try clear hfz40_4
          try clear hfz40_5
          try clear hfz40_6
          try clear hfz40_7
          try clear hfz40_8
          try clear hfz42_0
          try clear hfz42_1
          try clear hfz42_2
          try clear hfz42_3
          try clear hfz42_4
          try clear hfz42_5
          try clear hfz42_6
          try clear hfz42_7
          try clear hfz42_8
          try clear hfz43_0
          try clear hfz43_1
          try clear hfz43_2
          try clear hfz43_3
          try clear hfz43_4
          try clear hfz43_5
          try clear hfz43_6
          try clear hfz43_7
          try clear hfz43_8
          try clear hfz45_0
          try clear hfz45_1
          try clear hfz45_2
          try clear hfz45_3
          try clear hfz45_4
          try clear hfz45_5
          try clear hfz45_6
          try clear hfz45_7
          try clear hfz45_8
          try clear hfz9_0
          try clear hfz9_1
          try clear hfz9_2
          try clear hfz9_3
          try clear hfz9_4
          try clear hfz9_5
          try clear hfz9_6
          try clear hfz9_7
          try clear hfz9_8
          try clear hx281_0
          try clear hx281_1
          try clear hx281_2
          try clear hx282_0
          try clear hx282_1
          try clear hx282_2
          try clear p2
          try clear p281
          try clear p282
          try clear q281
          try clear q282
          (try clear BK279); (try clear BK280)
          obtain ⟨x6_3, rfl, HA, HK3, BK279, BK280, HB⟩ := hrel
          cases gk with
          | zero => exact absurd HA.out (by simp [althingref05_Same.l1])
          | succ k3 =>
           have H := HA.out
           clear HA
           simp only [althingref05_Same.l1] at H
           by_cases c46 : x6_3 < (l0_7.length : Int)
           · rw [if_pos c46] at H
             have c46b0 : decide (x6_3 < (l0_7.length : Int)) = true := decide_eq_true c46
             clear c46
             by_cases c47 : 0 ≤ x6_3
             · rw [if_pos c47] at H
               have c47b0 : decide (0 ≤ x6_3) = true := decide_eq_true c47
               clear c47
               by_cases c48 : x6_3 < (l1_7.length : Int)
               · rw [if_pos c48] at H
                 have c48b0 : decide (x6_3 < (l1_7.length : Int)) = true := decide_eq_true c48
                 clear c48
                 by_cases c49 : (!((((rd_T40 l0_7 x6_3).f0).toList) == (((rd_T40 l1_7 x6_3).f0).toList)) || (!((((rd_T40 l0_7 x6_3).f1).toList) == (((rd_T40 l1_7 x6_3).f1).toList)))) = true
                 · rw [if_pos c49] at H
                   have c49b0 : (!((((rd_T40 l0_7 x6_3).f0).toList) == (((rd_T40 l1_7 x6_3).f0).toList)) || (!((((rd_T40 l0_7 x6_3).f1).toList) == (((rd_T40 l1_7 x6_3).f1).toList)))) = true := c49
                   clear c49
                   obtain rfl := Option.some.inj H
                   have hnb50 := NB279_280.out
                   have hnc50 := NB280_279.out
                   have hcz51_0 : wr.cell? ⟨gb279, 0, none⟩ = some (.int .i64 a0_0) := (blk_cell BK279.out 0).trans rfl
                   have hcz51_1 : wr.cell? ⟨gb279, 1, none⟩ = some (.int .i64 a0_1) := (blk_cell BK279.out 1).trans rfl
                   have hcz51_2 : wr.cell? ⟨gb279, 2, none⟩ = some (.int .i64 a0_2) := (blk_cell BK279.out 2).trans rfl
                   have hcz51_3 : wr.cell? ⟨gb279, 3, none⟩ = some (.int .i64 a0_3) := (blk_cell BK279.out 3).trans rfl
                   have hcz51_4 : wr.cell? ⟨gb279, 4, none⟩ = some (.int .i64 a0_4) := (blk_cell BK279.out 4).trans rfl
                   have hcz51_5 : wr.cell? ⟨gb279, 5, none⟩ = some (.int .i64 a0_5) := (blk_cell BK279.out 5).trans rfl
                   have hcz51_6 : wr.cell? ⟨gb279, 6, none⟩ = some (.slice A0_6 l0_6.length c0_6) := (blk_cell BK279.out 6).trans rfl
                   have hcz51_7 : wr.cell? ⟨gb279, 7, none⟩ = some (.slice A0_7 l0_7.length c0_7) := (blk_cell BK279.out 7).trans rfl
                   have hcz51_8 : wr.cell? ⟨gb279, 8, none⟩ = some (.bool a0_8) := (blk_cell BK279.out 8).trans rfl
                   have hfz51_0 := blk_frozen BK279.out 0
                   have hfz51_1 := blk_frozen BK279.out 1
                   have hfz51_2 := blk_frozen BK279.out 2
                   have hfz51_3 := blk_frozen BK279.out 3
                   have hfz51_4 := blk_frozen BK279.out 4
                   have hfz51_5 := blk_frozen BK279.out 5
                   have hfz51_6 := blk_frozen BK279.out 6
                   have hfz51_7 := blk_frozen BK279.out 7
                   have hfz51_8 := blk_frozen BK279.out 8
                   have p283 : 0 ≤ (x6_3 : Int) := of_decide_eq_true (by first | (with_reducible assumption) | assumption)
                   have q283 : x6_3 < (l0_7.length : Int) := of_decide_eq_true (by first | (with_reducible assumption) | assumption)
                   obtain ⟨ad283, e283, hx283_0, hx283_1⟩ := at_T40 HR0_7.out x6_3 p283 q283
                   cases e283
                   replace hx283_0 := (HB.out.cell (World.block_lt_of_cell? w _ hx283_0)).trans hx283_0
                   replace hx283_1 := (HB.out.cell (World.block_lt_of_cell? w _ hx283_1)).trans hx283_1
                   replace p283 := eq_true p283
                   replace q283 := eq_true q283
                   have hcz52_0 : wr.cell? ⟨gb280, 0, none⟩ = some (.int .i64 a1_0) := (blk_cell BK280.out 0).trans rfl
                   have hcz52_1 : wr.cell? ⟨gb280, 1, none⟩ = some (.int .i64 a1_1) := (blk_cell BK280.out 1).trans rfl
                   have hcz52_2 : wr.cell? ⟨gb280, 2, none⟩ = some (.int .i64 a1_2) := (blk_cell BK280.out 2).trans rfl
                   have hcz52_3 : wr.cell? ⟨gb280, 3, none⟩ = some (.int .i64 a1_3) := (blk_cell BK280.out 3).trans rfl
                   have hcz52_4 : wr.cell? ⟨gb280, 4, none⟩ = some (.int .i64 a1_4) := (blk_cell BK280.out 4).trans rfl
                   have hcz52_5 : wr.cell? ⟨gb280, 5, none⟩ = some (.int .i64 a1_5) := (blk_cell BK280.out 5).trans rfl
                   have hcz52_6 : wr.cell? ⟨gb280, 6, none⟩ = some (.slice A1_6 l1_6.length c1_6) := (blk_cell BK280.out 6).trans rfl
                   have hcz52_7 : wr.cell? ⟨gb280, 7, none⟩ = some (.slice A1_7 l1_7.length c1_7) := (blk_cell BK280.out 7).trans rfl
                   have hcz52_8 : wr.cell? ⟨gb280, 8, none⟩ = some (.bool a1_8) := (blk_cell BK280.out 8).trans rfl
                   have hfz52_0 := blk_frozen BK280.out 0
                   have hfz52_1 := blk_frozen BK280.out 1
                   have hfz52_2 := blk_frozen BK280.out 2
                   have hfz52_3 := blk_frozen BK280.out 3
                   have hfz52_4 := blk_frozen BK280.out 4
                   have hfz52_5 := blk_frozen BK280.out 5
                   have hfz52_6 := blk_frozen BK280.out 6
                   have hfz52_7 := blk_frozen BK280.out 7
                   have hfz52_8 := blk_frozen BK280.out 8
                   have p284 : 0 ≤ (x6_3 : Int) := of_decide_eq_true (by first | (with_reducible assumption) | assumption)
                   have q284 : x6_3 < (l1_7.length : Int) := of_decide_eq_true (by first | (with_reducible assumption) | assumption)
                   obtain ⟨ad284, e284, hx284_0, hx284_1⟩ := at_T40 HR1_7.out x6_3 p284 q284
                   cases e284
                   replace hx284_0 := (HB.out.cell (World.block_lt_of_cell? w _ hx284_0)).trans hx284_0
                   replace hx284_1 := (HB.out.cell (World.block_lt_of_cell? w _ hx284_1)).trans hx284_1
                   replace p284 := eq_true p284
                   replace q284 := eq_true q284
                   go_wp2
                   repeat (go_quiet (fail); try go_wp2)
                   go_ret
                   exact ⟨by first | rfl | (simp [errW_none, errW_some] <;> rfl) | (simp [*, errW_none, errW_some] <;> rfl), by repeat (first | (with_reducible first | exact HB.out | apply below_alloc | apply pw_below_drewN | apply below_drew1 | refine below_set ?_ GE279.out | refine below_set ?_ GE280.out) | exact HB.out)⟩
                 · rw [if_neg c49] at H
                   have c49b0 : (!((((rd_T40 l0_7 x6_3).f0).toList) == (((rd_T40 l1_7 x6_3).f0).toList)) || (!((((rd_T40 l0_7 x6_3).f1).toList) == (((rd_T40 l1_7 x6_3).f1).toList)))) = false := by simpa using c49
                   clear c49
                   have H' := Aside0.mk H
                   clear H
                   have hnb53 := NB279_280.out
                   have hnc53 := NB280_279.out
                   have hcz54_0 : wr.cell? ⟨gb279, 0, none⟩ = some (.int .i64 a0_0) := (blk_cell BK279.out 0).trans rfl
                   have hcz54_1 : wr.cell? ⟨gb279, 1, none⟩ = some (.int .i64 a0_1) := (blk_cell BK279.out 1).trans rfl
                   have hcz54_2 : wr.cell? ⟨gb279, 2, none⟩ = some (.int .i64 a0_2) := (blk_cell BK279.out 2).trans rfl
                   have hcz54_3 : wr.cell? ⟨gb279, 3, none⟩ = some (.int .i64 a0_3) := (blk_cell BK279.out 3).trans rfl
                   have hcz54_4 : wr.cell? ⟨gb279, 4, none⟩ = some (.int .i64 a0_4) := (blk_cell BK279.out 4).trans rfl
                   have hcz54_5 : wr.cell? ⟨gb279, 5, none⟩ = some (.int .i64 a0_5) := (blk_cell BK279.out 5).trans rfl
                   have hcz54_6 : wr.cell? ⟨gb279, 6, none⟩ = some (.slice A0_6 l0_6.length c0_6) := (blk_cell BK279.out 6).trans rfl
                   have hcz54_7 : wr.cell? ⟨gb279, 7, none⟩ = some (.slice A0_7 l0_7.length c0_7) := (blk_cell BK279.out 7).trans rfl
                   have hcz54_8 : wr.cell? ⟨gb279, 8, none⟩ = some (.bool a0_8) := (blk_cell BK279.out 8).trans rfl
                   have hfz54_0 := blk_frozen BK279.out 0
                   have hfz54_1 := blk_frozen BK279.out 1
                   have hfz54_2 := blk_frozen BK279.out 2
                   have hfz54_3 := blk_frozen BK279.out 3
                   have hfz54_4 := blk_frozen BK279.out 4
                   have hfz54_5 := blk_frozen BK279.out 5
                   have hfz54_6 := blk_frozen BK279.out 6
                   have hfz54_7 := blk_frozen BK279.out 7
                   have hfz54_8 := blk_frozen BK279.out 8
                   have p283 : 0 ≤ (x6_3 : Int) := of_decide_eq_true (by first | (with_reducible assumption) | assumption)
                   have q283 : x6_3 < (l0_7.length : Int) := of_decide_eq_true (by first | (with_reducible assumption) | assumption)
                   obtain ⟨ad283, e283, hx283_0, hx283_1⟩ := at_T40 HR0_7.out x6_3 p283 q283
                   cases e283
                   replace hx283_0 := (HB.out.cell (World.block_lt_of_cell? w _ hx283_0)).trans hx283_0
                   replace hx283_1 := (HB.out.cell (World.block_lt_of_cell? w _ hx283_1)).trans hx283_1
                   replace p283 := eq_true p283
                   replace q283 := eq_true q283
                   have hcz55_0 : wr.cell? ⟨gb280, 0, none⟩ = some (.int .i64 a1_0) := (blk_cell BK280.out 0).trans rfl
                   have hcz55_1 : wr.cell? ⟨gb280, 1, none⟩ = some (.int .i64 a1_1) := (blk_cell BK280.out 1).trans rfl
                   have hcz55_2 : wr.cell? ⟨gb280, 2, none⟩ = some (.int .i64 a1_2) := (blk_cell BK280.out 2).trans rfl
                   have hcz55_3 : wr.cell? ⟨gb280, 3, none⟩ = some (.int .i64 a1_3) := (blk_cell BK280.out 3).trans rfl
                   have hcz55_4 : wr.cell? ⟨gb280, 4, none⟩ = some (.int .i64 a1_4) := (blk_cell BK280.out 4).trans rfl
                   have hcz55_5 : wr.cell? ⟨gb280, 5, none⟩ = some (.int .i64 a1_5) := (blk_cell BK280.out 5).trans rfl
                   have hcz55_6 : wr.cell? ⟨gb280, 6, none⟩ = some (.slice A1_6 l1_6.length c1_6) := (blk_cell BK280.out 6).trans rfl
                   have hcz55_7 : wr.cell? ⟨gb280, 7, none⟩ = some (.slice A1_7 l1_7.length c1_7) := (blk_cell BK280.out 7).trans rfl
                   have hcz55_8 : wr.cell? ⟨gb280, 8, none⟩ = some (.bool a1_8) := (blk_cell BK280.out 8).trans rfl
                   have hfz55_0 := blk_frozen BK280.out 0
                   have hfz55_1 := blk_frozen BK280.out 1
                   have hfz55_2 := blk_frozen BK280.out 2
                   have hfz55_3 := blk_frozen BK280.out 3
                   have hfz55_4 := blk_frozen BK280.out 4
                   have hfz55_5 := blk_frozen BK280.out 5
                   have hfz55_6 := blk_frozen BK280.out 6
                   have hfz55_7 := blk_frozen BK280.out 7
                   have hfz55_8 := blk_frozen BK280.out 8
                   have p284 : 0 ≤ (x6_3 : Int) := of_decide_eq_true (by first | (with_reducible assumption) | assumption)
                   have q284 : x6_3 < (l1_7.length : Int) := of_decide_eq_true (by first | (with_reducible assumption) | assumption)
                   obtain ⟨ad284, e284, hx284_0, hx284_1⟩ := at_T40 HR1_7.out x6_3 p284 q284
                   cases e284
                   replace hx284_0 := (HB.out.cell (World.block_lt_of_cell? w _ hx284_0)).trans hx284_0
                   replace hx284_1 := (HB.out.cell (World.block_lt_of_cell? w _ hx284_1)).trans hx284_1
                   replace p284 := eq_true p284
                   replace q284 := eq_true q284
                   go_wp2
                   repeat (go_quiet (fail); try go_wp2)
                   go_roundg k3
                   case measure => have := HJ2.out; have := HK2.out; have := HK3.out; omega
                   case rel => exact ⟨(wrap64 (x6_3 + 1)), (by first | rfl | (simp; done) | (simp [*]; done)), H', ⟨by have := HJ2.out; have := HK2.out; have := HK3.out; omega⟩, ⟨by (with_reducible repeat (first | refine blk_drewN ?_ _ | refine blk_drew ?_ | refine blk_alloc ?_ _)); exact BK279.out⟩, ⟨by (with_reducible repeat (first | refine blk_drewN ?_ _ | refine blk_drew ?_ | refine blk_alloc ?_ _)); exact BK280.out⟩, ⟨by repeat (first | (with_reducible first | exact HB.out | apply below_alloc | apply pw_below_drewN | apply below_drew1 | refine below_set ?_ GE279.out | refine below_set ?_ GE280.out) | exact HB.out)⟩⟩
               · rw [if_neg c48] at H
                 exact absurd H (by simp)
             · rw [if_neg c47] at H
               exact absurd H (by simp)
           · rw [if_neg c46] at H
             have c46b0 : decide (x6_3 < (l0_7.length : Int)) = false := decide_eq_false c46
             clear c46
             obtain rfl := Option.some.inj H
             have hnb56 := NB279_280.out
             have hnc56 := NB280_279.out
             have hcz57_0 : wr.cell? ⟨gb279, 0, none⟩ = some (.int .i64 a0_0) := (blk_cell BK279.out 0).trans rfl
             have hcz57_1 : wr.cell? ⟨gb279, 1, none⟩ = some (.int .i64 a0_1) := (blk_cell BK279.out 1).trans rfl
             have hcz57_2 : wr.cell? ⟨gb279, 2, none⟩ = some (.int .i64 a0_2) := (blk_cell BK279.out 2).trans rfl
             have hcz57_3 : wr.cell? ⟨gb279, 3, none⟩ = some (.int .i64 a0_3) := (blk_cell BK279.out 3).trans rfl
             have hcz57_4 : wr.cell? ⟨gb279, 4, none⟩ = some (.int .i64 a0_4) := (blk_cell BK279.out 4).trans rfl
             have hcz57_5 : wr.cell? ⟨gb279, 5, none⟩ = some (.int .i64 a0_5) := (blk_cell BK279.out 5).trans rfl
             have hcz57_6 : wr.cell? ⟨gb279, 6, none⟩ = some (.slice A0_6 l0_6.length c0_6) := (blk_cell BK279.out 6).trans rfl
             have hcz57_7 : wr.cell? ⟨gb279, 7, none⟩ = some (.slice A0_7 l0_7.length c0_7) := (blk_cell BK279.out 7).trans rfl
             have hcz57_8 : wr.cell? ⟨gb279, 8, none⟩ = some (.bool a0_8) := (blk_cell BK279.out 8).trans rfl
             have hfz57_0 := blk_frozen BK279.out 0
             have hfz57_1 := blk_frozen BK279.out 1
             have hfz57_2 := blk_frozen BK279.out 2
             have hfz57_3 := blk_frozen BK279.out 3
             have hfz57_4 := blk_frozen BK279.out 4
             have hfz57_5 := blk_frozen BK279.out 5
             have hfz57_6 := blk_frozen BK279.out 6
             have hfz57_7 := blk_frozen BK279.out 7
             have hfz57_8 := blk_frozen BK279.out 8
             go_wp2
             repeat (go_quiet (fail); try go_wp2)
             go_ret
             exact ⟨by first | rfl | (simp [errW_none, errW_some] <;> rfl) | (simp [*, errW_none, errW_some] <;> rfl), by repeat (first | (with_reducible first | exact HB.out | apply below_alloc | apply pw_below_drewN | apply below_drew1 | refine below_set ?_ GE279.out | refine below_set ?_ GE280.out) | exact HB.out)⟩
end Go.Proofs.Ytnjeeedndnfglaa.X
end
section
namespace Go.Proofs.Ytnjeeedndnfglaa.Keys
open Go.RowKit
set_option linter.unusedSimpArgs false
set_option linter.unusedVariables false
theorem width_le (s : ByteArray) (pos : Nat) (h : pos < s.size) : pos + (Utf8.decode s pos).2 ≤ s.size := by
  rw [Lib.decode_at]
  have : (Lib.decodeN (s.size - pos) (s.get! pos).toNat (s.get! (pos + 1)).toNat (s.get! (pos + 2)).toNat (s.get! (pos + 3)).toNat).2 ≤ s.size - pos := by
    generalize (s.get! pos).toNat = b0
    generalize (s.get! (pos + 1)).toNat = b1
    generalize (s.get! (pos + 2)).toNat = b2
    generalize (s.get! (pos + 3)).toNat = b3
    unfold Lib.decodeN
    (repeat' split) <;> simp only <;> omega
  omega
/-- The runes from place pos on, b of them at most. -/
def rns (s : ByteArray) : Nat → Nat → List Int
  | 0, _ => []
  | b + 1, pos => if pos < s.size then ((Utf8.decode s pos).1 : Int) :: rns s b (pos + (Utf8.decode s pos).2) else []
def runes (s : ByteArray) : List Int := rns s s.size 0
theorem rns_end (s : ByteArray) (b pos : Nat) (h : ¬ pos < s.size) : rns s b pos = [] := by cases b <;> simp [rns, h]
theorem rns_len (s : ByteArray) : ∀ b pos, (rns s b pos).length ≤ s.size - pos
  | 0, _ => by simp [rns]
  | b + 1, pos => by
    unfold rns
    split
    · have := rns_len s b (pos + (Utf8.decode s pos).2)
      have := Lib.width_pos s pos
      simp only [List.length_cons]; omega
    · simp
theorem rns_range (s : ByteArray) : ∀ b pos, ∀ x ∈ rns s b pos, 0 ≤ x ∧ x ≤ 1114111
  | 0, _ => by simp [rns]
  | b + 1, pos => by
    unfold rns
    split
    · intro x hx
      rcases List.mem_cons.1 hx with rfl | hx
      · have := Lib.rune_le s pos; omega
      · exact rns_range s b _ x hx
    · simp
theorem runes_len (s : ByteArray) : (runes s).length ≤ s.size := by have := rns_len s s.size 0; unfold runes; omega
theorem runes_at (s : ByteArray) (i : Nat) : 0 ≤ (runes s).getD i 0 ∧ (runes s).getD i 0 ≤ 1114111 := by
  by_cases h : i < (runes s).length
  · have e : (runes s).getD i 0 = (runes s)[i] := by simp [List.getD_eq_getElem?_getD, h]
    rw [e]
    exact rns_range s s.size 0 _ (List.getElem_mem h)
  · have e : (runes s).getD i 0 = 0 := by simp [List.getD_eq_getElem?_getD, Nat.le_of_not_lt h]
    rw [e]; omega
def wsum (l : List Int) : Nat → Int
  | 0 => 0
  | k + 1 => wsum l k + ((k : Int) + 1) * l.getD k 0
def weight (s : ByteArray) : Int := wsum (runes s) (runes s).length
theorem wterm (k : Nat) (c : Int) (hk : k < 2000) (hc : 0 ≤ c ∧ c ≤ 1114111) : 0 ≤ ((k : Int) + 1) * c ∧ ((k : Int) + 1) * c ≤ 2228222000 := by
  refine ⟨Int.mul_nonneg (by omega) hc.1, ?_⟩
  calc ((k : Int) + 1) * c ≤ 2000 * c := Int.mul_le_mul_of_nonneg_right (by omega) hc.1
    _ ≤ 2228222000 := by omega
theorem wsum_range (l : List Int) (hl : ∀ i, 0 ≤ l.getD i 0 ∧ l.getD i 0 ≤ 1114111) : ∀ k, k ≤ 2000 → 0 ≤ wsum l k ∧ wsum l k ≤ 2228222000 * (k : Int)
  | 0, _ => by simp [wsum]
  | k + 1, h => by
    have ih := wsum_range l hl k (by omega)
    have ht := wterm k (l.getD k 0) (by omega) (hl k)
    unfold wsum
    omega
theorem weight_range (s : ByteArray) (hs : s.size ≤ 2000) : 0 ≤ weight s ∧ weight s ≤ 4456444000000 := by
  have hl := runes_len s
  have := wsum_range (runes s) (runes_at s) (runes s).length (by omega)
  unfold weight
  omega
end Go.Proofs.Ytnjeeedndnfglaa.Keys
end
section
namespace Go.Proofs.Ytnjeeedndnfglaa.Keys
open Go.RowKit Go.Proofs.YtnjeeedndnfglaaW.PrintWords Go.Proofs.YtnjeeedndnfglaaW.PrintLast Go.Proofs.YtnjeeedndnfglaaW.PrintMore Go.Proofs.Ytnjeeedndnfglaa.X
set_option linter.unusedSimpArgs false
set_option linter.unusedVariables false
theorem own_iter {w : World} {B e size n : Nat} {v : Value} {xs : List Value} {k : Nat} {s : ByteArray} {pos : Nat} (h : w.ownsRow B e size v n xs) (hk : w.heap[k]? = some (.stringIter s pos)) (pos' : Nat) : (w.iterAt k s pos').ownsRow B e size v n xs := by
  refine ⟨h.1, ?_⟩
  rcases h.2 with h0 | ⟨g, cap, cur, hv, hb, hg, rest⟩
  · exact .inl h0
  · refine .inr ⟨g, cap, cur, hv, hb, ?_, rest⟩
    rw [Lib.iterAt_other _ _ _ _ _ (fun e => by subst e; rw [hk] at hg; cases hg)]
    exact hg
theorem own_low {w : World} {B B' e size n : Nat} {v : Value} {xs : List Value} (h : w.ownsRow B e size v n xs) (hB : B' ≤ B) : w.ownsRow B' e size v n xs := by
  refine ⟨h.1, ?_⟩
  rcases h.2 with h0 | ⟨g, cap, cur, hv, hb, rest⟩
  · exact .inl h0
  · exact .inr ⟨g, cap, cur, hv, by omega, rest⟩
theorem own_cellsI {w : World} {base : Nat} {e : TypeId} {v : Value} {xs : List Int} (k : IntKind) (h : w.ownsRow base e 1 v xs.length (xs.map (Value.int k))) :
    ∃ A c, v = .slice A xs.length c ∧ ∀ j, j < xs.length → ∃ ad : Addr, A = some ad ∧ w.cell? (ad.add j) = some (.int k (xs.getD j 0)) ∧ ad.block < w.heap.size ∧ (ad.add j).block = ad.block := by
  rcases h.2 with ⟨rfl, h0⟩ | ⟨g, cap, cur, rfl, hg, hh, hn, _, hc, ht⟩
  · exact ⟨none, 0, by rw [h0], fun j hj => by omega⟩
  · refine ⟨_, cap, rfl, fun j hj => ⟨_, rfl, ?_⟩⟩
    have hj2 : j < cur.toList.length := by rw [Array.length_toList]; omega
    have e1 : (cur.toList.take (xs.length * 1))[j]? = (xs.map (Value.int k))[j]? := by rw [ht]
    rw [List.getElem?_take, if_pos (by omega), List.getElem?_map] at e1
    have e2 : xs[j]? = some (xs.getD j 0) := by simp [List.getD_eq_getElem?_getD, hj]
    rw [e2] at e1
    have h3 : w.cell? ⟨g, j, none⟩ = some (.int k (xs.getD j 0)) := by simp [World.cell?, hh]; simpa using e1
    have ha : (⟨g, 0, none⟩ : Addr).add j = ⟨g, j, none⟩ := by unfold Addr.add; split <;> simp_all
    rw [ha]
    exact ⟨h3, World.block_lt_of_cell? w ⟨g, j, none⟩ h3, rfl⟩
set_option maxRecDepth 1000000 in
set_option maxHeartbeats 4000000 in
theorem runes_any (s : ByteArray) (hs : s.size ≤ 2000) (w : World) :
    Calls Try.prog 59 #[.string s] w fun e w' => ∃ v, e = .returned v ∧ w'.ownsRow w.heap.size 21 1 v (runes s).length ((runes s).map (Value.int .i32)) ∧ Below w.heap.size w w' := by
  have hi : (Try.prog.info? 21).map (fun i => (i.zero, i.size, i.bytes)) = some (some (.int .i32 0), 1, 4) := by kernel_rfl
  have HI := Lib.hid hi
  clear hi
  go_enter Try.func59, Try.ntmps59
  go_wp2
  go_loopw [3] (fun v wr => ∃ (pos b : Nat) (acc : List Int), wr.heap[w.heap.size]? = some (.stringIter s pos) ∧ pos ≤ s.size ∧ acc.length ≤ pos ∧ s.size ≤ pos + b ∧ Hid (acc ++ rns s b pos = runes s) ∧ Hid (wr.ownsRow (w.heap.size + 1) 21 1 v acc.length (acc.map (Value.int .i32))) ∧ Hid (Below w.heap.size w wr)) (fun _ wr => s.size - wr.iterPos w.heap.size)
  case atStart => exact ⟨0, s.size, [], World.iter_heap w s 0, by omega, by simp, by omega, Lib.hid rfl, Lib.hid (own_none _ _ _ _), Lib.hid ((Below.refl _ w).alloc (Nat.le_refl _) _)⟩
  case round =>
    obtain ⟨pos, b, acc, hit, hpos, hacc, hfu, HL, HO, HB⟩ := hrel
    by_cases hps : pos < s.size
    · obtain ⟨b, rfl⟩ : ∃ b', b = b' + 1 := ⟨b - 1, by omega⟩
      have hnx : ∀ ty, (Instr.next (.pointer (some ⟨w.heap.size, 0, none⟩)) true ty).run Try.prog wr = _ := fun ty => Lib.run_next_any_at wr w.heap.size s pos ty hit hps
      have hwd := Lib.width_pos s pos
      have hwl := width_le s pos hps
      have hL2 := HL.out
      rw [rns, if_pos hps] at hL2
      obtain ⟨R, hR⟩ : ∃ R, (Utf8.decode s pos).1 = R := ⟨_, rfl⟩
      obtain ⟨K, hK⟩ : ∃ K, (Utf8.decode s pos).2 = K := ⟨_, rfl⟩
      rw [hR, hK] at hnx hL2
      rw [hK] at hwd hwl
      have HL3 := Lib.hid hL2
      have hit2 := Lib.iterAt_heap wr w.heap.size s pos (pos + K) hit
      have hbw2 := Lib.below_iterAt HB.out (k := w.heap.size) (Nat.le_refl _) s (pos + K)
      have hown2 := own_iter HO.out hit (pos + K)
      have hip : wr.iterPos w.heap.size = pos := by simp [World.iterPos, hit]
      clear hL2 hR hK HL HO HB hit
      obtain ⟨W, hWd⟩ : ∃ W, wr.iterAt w.heap.size s (pos + K) = W := ⟨_, rfl⟩
      rw [hWd] at hnx hit2 hbw2 hown2
      have HB2 := Lib.hid hbw2
      have HO2 := Lib.hid hown2
      have hsz2 : w.heap.size + 1 ≤ W.heap.size := (Array.getElem?_eq_some_iff.1 hit2).1
      clear hbw2 hown2
      go_wp2_with (at_builtin; refine append_one (w0 := W) (w.heap.size + 1) rfl (.tmp 11) (.tmp 13) 76 21 (.int .i32 0) 1 4 rfl Try.underlying76 HI.out rfl (by decide) (by decide) _ _ _ [.int .i32 (R : Int)] rfl rfl rfl (by simp [Value.oneCell']) HO2.out (Below.refl _ _) hsz2 (by omega) ?_; intro v1 w2 hown3 hb3 hs2; have HO3 := Lib.hid hown3; have HB3 := Lib.hid hb3; clear hown3 hb3)
      go_roundw
      case rel => exact ⟨pos + K, b, acc ++ [(R : Int)], (HB3.out.block _ (by omega)).trans hit2, hwl, (by simp only [List.length_append, List.length_singleton]; omega), (by omega), Lib.hid (by rw [List.append_assoc]; exact HL3.out), Lib.hid (by simpa using HO3.out), Lib.hid (HB2.out.trans (HB3.out.mono (by omega)))⟩
      case measure =>
        have : w2.iterPos w.heap.size = pos + K := by rw [World.iterPos, (HB3.out.block _ (by omega)).trans hit2]
        rw [hip, this]; omega
    · have hnx : ∀ ty, (Instr.next (.pointer (some ⟨w.heap.size, 0, none⟩)) true ty).run Try.prog wr = _ := fun ty => Lib.run_next_end_at wr w.heap.size s pos ty hit hps
      have hL2 := HL.out
      rw [rns_end s b pos hps, List.append_nil] at hL2
      subst hL2
      go_wp2
      go_ret
      exact ⟨_, rfl, own_low HO.out (by omega), HB.out⟩
theorem runes_len' (s : ByteArray) : Hid ((runes s).length ≤ s.size) := Lib.hid (runes_len s)
set_option maxRecDepth 1000000 in
set_option maxHeartbeats 4000000 in
theorem weight_any (s : ByteArray) (hs : s.size ≤ 2000) (x : Int) (hx : x = weight s) (w : World) :
    Calls Try.prog 52 #[.string s] w fun e w' => e = .returned (.int .i64 x) ∧ Below w.heap.size w w' := by
  have hl := runes_len s
  have HX := Lib.hid hx
  clear hx
  go_enter Try.func52, Try.ntmps52
  go_wp2_with (go_at_call 59; refine (runes_any s hs _).mono ?_; rintro e w2 ⟨v, rfl, hown, hb2⟩; obtain ⟨A, c, rfl, hcs⟩ := own_cellsI .i32 hown; have KC := Lib.hid hcs; have HB := Lib.hid hb2; clear hown hcs hb2)
  have HX2 : Hid (x = wsum (runes s) (runes s).length) := Lib.hid (by rw [HX.out]; rfl)
  have HR := Lib.hid (runes_at s)
  clear HX
  generalize runes s = l at hl KC HX2 HR
  obtain ⟨L, hL⟩ : ∃ L, l.length = L := ⟨_, rfl⟩
  rw [hL] at KC hl HX2
  rw [hL]
  clear hL
  go_loopw [3, 9] (fun n i wr => ∃ j : Nat, j ≤ L ∧ i = .int .i64 j ∧ n = .int .i64 (wsum l j) ∧ Hid (Below w2.heap.size w2 wr)) (fun _ i _ => L - (intOf i).toNat)
  case atStart => exact ⟨0, by omega, rfl, rfl, Lib.hid (Below.refl _ _)⟩
  case round =>
    obtain ⟨j, hj, rfl, rfl, hb⟩ := hrel
    by_cases hlt : j < L
    · obtain ⟨ad, rfl, hc1, hk1, ha1⟩ := KC.out j hlt
      have hcell : wr.cell? (ad.add j) = some (.int .i32 (l.getD j 0)) := by
        rw [hb.out.cell (p := ad.add j) (by rw [ha1]; exact hk1), hc1]
      have hr := HR.out j
      have hsum := wsum_range l HR.out j (by omega)
      have hterm := wterm j (l.getD j 0) (by omega) hr
      have hstep : wsum l (j + 1) = wsum l j + ((j : Int) + 1) * l.getD j 0 := rfl
      clear hc1 hk1 ha1
      generalize l.getD j 0 = z at hcell hr hterm hstep
      obtain ⟨y, hy⟩ : ∃ y : Int, y = ((j : Int) + 1) * z := ⟨_, rfl⟩
      rw [← hy] at hterm hstep
      have HY := Lib.hid hy
      have HST := Lib.hid hstep
      clear hy hstep
      go_wp2
      go_roundw
      case rel => exact ⟨j + 1, by omega, by go_num, by rw [HST.out]; simp only [go_sem, wrap64, IntKind.wrap_i64]; rw [← HY.out]; congr 1; omega, hb⟩
      case measure => simp [intOf]; omega
    · have e : j = L := by omega
      subst e
      go_wp2
      go_ret
      exact ⟨ret_int HX2.out.symm, HB.out.trans (hb.out.mono HB.out.size)⟩
/-- May a text be a key? -/
def okKey (s : ByteArray) : Bool := decide (1 ≤ s.size ∧ s.size ≤ 8)
theorem right_is (s : ByteArray) (x : Bool) (hx : x = okKey s) (w : World) :
    Calls Try.prog 51 #[.string s] w fun e w' => e = .returned (.bool x) ∧ Below w.heap.size w w' := by
  refine (keys_Right.calls s x w ?_).mono fun e w' h => ⟨h.1, h.2.below⟩
  unfold keys_Right.f
  rw [hx]; unfold okKey
  split
  · rw [Option.some.injEq, decide_eq_decide]; omega
  · simp; omega
def shardN (s : ByteArray) (m : Int) : Int := if okKey s = true ∧ 1 ≤ m ∧ m ≤ 4 then weight s % m else 0
def shardE (s : ByteArray) (m : Int) : Int := if okKey s = true ∧ 1 ≤ m ∧ m ≤ 4 then 0 else 1
theorem ret_two {a b c d : Int} {k k' : IntKind} (h : a = b) (h' : c = d) : Ending.returned (.tuple #[.int k a, .int k' c]) = .returned (.tuple #[.int k b, .int k' d]) := by rw [h, h']
theorem ok_size {s : ByteArray} (h : okKey s = true) : s.size ≤ 2000 := by
  have := of_decide_eq_true h
  omega
set_option maxRecDepth 1000000 in
set_option maxHeartbeats 4000000 in
theorem shard_is (s : ByteArray) (m : Int) (n e : Int) (hn : n = shardN s m) (he : e = shardE s m) (w : World) :
    Calls Try.prog 35 #[.string s, .int .i64 m] w fun x w' => x = .returned (.tuple #[.int .i64 n, .int .i64 e]) ∧ Below w.heap.size w w' := by
  cases hk : okKey s with
  | false =>
    have hn0 : n = 0 := by rw [hn]; simp [shardN, hk]
    have he0 : e = 1 := by rw [he]; simp [shardE, hk]
    subst hn0 he0
    clear hn he
    go_enter Try.func35, Try.ntmps35
    go_wp2_with (go_at_call 51; refine (right_is s false hk.symm _).mono ?_; rintro e w1 ⟨rfl, hb⟩)
    go_ret2
    exact ⟨rfl, hb⟩
  | true =>
    have hs := ok_size hk
    by_cases h1 : m < 1
    · have hn0 : n = 0 := by rw [hn]; unfold shardN; rw [if_neg (by omega)]
      have he0 : e = 1 := by rw [he]; unfold shardE; rw [if_neg (by omega)]
      have d1 : decide (m < 1) = true := decide_eq_true h1
      subst hn0 he0
      clear hn he
      go_enter Try.func35, Try.ntmps35
      go_wp2_with (go_at_call 51; refine (right_is s true hk.symm _).mono ?_; rintro e w1 ⟨rfl, hb⟩)
      go_ret2
      exact ⟨rfl, hb⟩
    · have d1 : decide (m < 1) = false := decide_eq_false h1
      by_cases h4 : 4 < m
      · have hn0 : n = 0 := by rw [hn]; unfold shardN; rw [if_neg (by omega)]
        have he0 : e = 1 := by rw [he]; unfold shardE; rw [if_neg (by omega)]
        have d4 : decide (4 < m) = true := decide_eq_true h4
        subst hn0 he0
        clear hn he
        go_enter Try.func35, Try.ntmps35
        go_wp2_with (go_at_call 51; refine (right_is s true hk.symm _).mono ?_; rintro e w1 ⟨rfl, hb⟩)
        go_ret2
        exact ⟨rfl, hb⟩
      · have d4 : decide (4 < m) = false := decide_eq_false h4
        have hw := weight_range s hs
        obtain ⟨W, hW⟩ : ∃ W : Int, W = weight s := ⟨_, rfl⟩
        have hn0 : n = W % m := by rw [hn, hW]; unfold shardN; rw [if_pos ⟨hk, by omega, by omega⟩]
        have he0 : e = 0 := by rw [he]; unfold shardE; rw [if_pos ⟨hk, by omega, by omega⟩]
        rw [← hW] at hw
        have HW := Lib.hid hW
        have HN := Lib.hid hn0
        have hm0 : ¬ m = 0 := by omega
        subst he0
        clear hn he hn0 hW
        go_enter Try.func35, Try.ntmps35
        go_wp2_with (first | (go_at_call 51; refine (right_is s true hk.symm _).mono ?_; rintro e w1 ⟨rfl, hb⟩) | (go_at_call 52; refine (weight_any s hs W HW.out _).mono ?_; rintro e w2 ⟨rfl, hb2⟩))
        go_ret2
        exact ⟨ret_two HN.out.symm rfl, hb.trans (hb2.mono hb.size)⟩
theorem ab_weight : weight ⟨#[97, 98]⟩ = 293 := by decide
end Go.Proofs.Ytnjeeedndnfglaa.Keys
end
section
namespace Go.Proofs.Ytnjeeedndnfglaa.X
open Go.RowKit Go.Proofs.Ytnjeeedndnfglaa.Keys Go.Proofs.YtnjeeedndnfglaaW.PrintWords Go.Proofs.YtnjeeedndnfglaaW.PrintLast Go.Proofs.YtnjeeedndnfglaaW.PrintMore
set_option linter.unusedVariables false
def keys_Runes.f (a0 : ByteArray) : Option (List Int) := if a0.size ≤ 2000 then some (runes a0) else none
theorem keys_Runes.calls (a0 : ByteArray) (r : List Int) (w : World) (h : keys_Runes.f a0 = some r) :
    Calls Try.prog 59 #[.string a0] w fun e w' => ∃ v0_ : Value, e = .returned (v0_) ∧ Kd.R (Kd.int .i32) 21 w' w.heap.size (fun _ => True) v0_ r ∧ Below w.heap.size w w' := by
  unfold keys_Runes.f at h
  by_cases hs : a0.size ≤ 2000
  · rw [if_pos hs] at h
    obtain rfl := Option.some.inj h
    refine (runes_any a0 hs w).mono ?_
    rintro e w' ⟨v, rfl, ho, hB⟩
    exact ⟨v, rfl, Kd.R_of_own ho (fun _ _ => trivial), hB⟩
  · rw [if_neg hs] at h; cases h
def keys_Weight.f (a0 : ByteArray) : Option Int := if a0.size ≤ 2000 then some (weight a0) else none
theorem keys_Weight.calls (a0 : ByteArray) (r : Int) (w : World) (h : keys_Weight.f a0 = some r) :
    Calls Try.prog 52 #[.string a0] w fun e w' => e = .returned (.int .i64 r) ∧ Below w.heap.size w w' := by
  unfold keys_Weight.f at h
  by_cases hs : a0.size ≤ 2000
  · rw [if_pos hs] at h
    exact weight_any a0 hs r (Option.some.inj h).symm w
  · rw [if_neg hs] at h; cases h
def keys_Shard.f (a0 : ByteArray) (a1 : Int) : Option (Int × Int) := some (shardN a0 a1, shardE a0 a1)
theorem keys_Shard.calls (a0 : ByteArray) (a1 : Int) (r1 : Int) (r2 : Int) (w : World) (h : keys_Shard.f a0 a1 = some (r1, r2)) :
    Calls Try.prog 35 #[.string a0, .int .i64 a1] w fun e w' => e = .returned (.tuple #[.int .i64 r1, .int .i64 r2]) ∧ Below w.heap.size w w' := by
  injection h with h; injection h with h1 h2
  exact shard_is a0 a1 r1 r2 h1.symm h2.symm w
end Go.Proofs.Ytnjeeedndnfglaa.X
end
section
namespace Go.Proofs.Ytnjeeedndnfglaa.X
open Go.RowKit Go.Proofs.Ytnjeeedndnfglaa.Keys Go.Proofs.YtnjeeedndnfglaaW.PrintWords Go.Proofs.YtnjeeedndnfglaaW.PrintLast Go.Proofs.YtnjeeedndnfglaaW.PrintMore
set_option linter.unusedVariables false
set_option linter.unusedSimpArgs false
def command_Part_1.f (a0 : ByteArray) (a1 : Int) (a2 : Int) : Option (Bool) := some (decide (shardE a0 a1 = 0) && decide (shardN a0 a1 = a2))
set_option maxHeartbeats 2000000 in
theorem command_Part_1.calls {g1 g2 : Nat} (a0 : ByteArray) (a1 : Int) (a2 : Int) (r : Bool) (w : World)
    (hg1 : CapC w g1 0 (.int .i64 a1)) (hg2 : CapC w g2 0 (.int .i64 a2)) (h : command_Part_1.f a0 a1 a2 = some r) :
    Calls Try.prog 34 #[.string a0, .pointer (some ⟨g1, 0, none⟩), .pointer (some ⟨g2, 0, none⟩)] w fun e w' => e = .returned (.bool r) ∧ Below w.heap.size w w' := by
  have H1 := Aside0.mk hg1
  have H2 := Aside0.mk hg2
  obtain rfl := Option.some.inj h
  have c1 : w.cell? ⟨g1, 0, none⟩ = some (.int .i64 a1) := hg1.cell
  have c2 : w.cell? ⟨g2, 0, none⟩ = some (.int .i64 a2) := hg2.cell
  have f1 := hg1.frozen
  have f2 := hg2.frozen
  clear h hg1 hg2
  go_enter Try.func34, Try.ntmps34
  go_wp2_with (go_at_call 35; refine (keys_Shard.calls a0 a1 (shardN a0 a1) (shardE a0 a1) _ rfl).mono ?_; rintro e w1 ⟨rfl, hb⟩; have c3 : w1.cell? ⟨g2, 0, none⟩ = some (.int .i64 a2) := (H2.out.below hb).cell; have f3 := (H2.out.below hb).frozen)
  all_goals (go_ret; refine ⟨?_, hb⟩; first | rfl | (simp [*]; done) | (simp [*]; rfl))
end Go.Proofs.Ytnjeeedndnfglaa.X
end
