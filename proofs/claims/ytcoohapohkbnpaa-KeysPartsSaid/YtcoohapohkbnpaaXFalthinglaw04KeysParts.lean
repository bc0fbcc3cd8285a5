/- Printed by xprint.py, a program of ours that drives the kit's print. -/
import Derived.Test.YtcoohapohkbnpaaX0
import Derived.Test.YtcoohapohkbnpaaXFalthinglaw04Few
import Derived.Test.YtcoohapohkbnpaaXFalthinglaw04awake
import Derived.Test.YtcoohapohkbnpaaXFalthinglaw04same
import Derived.Test.YtcoohapohkbnpaaXFkeysRights
import Derived.Test.YtcoohapohkbnpaaXFalthingref04Rights
import Derived.Test.YtcoohapohkbnpaaXFkeysMask
import Derived.Test.YtcoohapohkbnpaaXFkeysOf
import Derived.Test.YtcoohapohkbnpaaKeysJ
import Derived.Test.YtcoohapohkbnpaaKeysM
namespace Go.Proofs.Ytcoohapohkbnpaa.X
open Go.RowKit Go.Proofs.YtcoohapohkbnpaaW.PrintWords Go.Proofs.YtcoohapohkbnpaaW.PrintLast Go.Proofs.YtcoohapohkbnpaaW.PrintMore
attribute [local go_sem] max2_int min2_int max_two min_two max_three min_three max_four min_four   -- for this text's walks alone
set_option linter.unusedVariables false
set_option linter.unusedSimpArgs false

/-! ### althinglaw04_KeysParts: function 5 -/
mutual
def althinglaw04_KeysParts.j0 : Nat → List ByteArray → Int → Bool → Option (Bool)
  | 0, _, _, _ => none
  | k + 1, x0, x1, x25 => if x25 = true then ((althinglaw04_awake.f).bind fun t235 => (some t235)) else ((keys_Mask.f k x0 x1).bind fun bt236 => (althinglaw04_KeysParts.l0 k x0 x1 ([] : List ByteArray) bt236.1 bt236.2 x1 0))
def althinglaw04_KeysParts.l0 : Nat → List ByteArray → Int → List ByteArray → Int → Int → Int → Int → Option (Bool)
  | 0, _, _, _, _, _, _, _ => none
  | k + 1, x0, x1, x5, x6, x7, x33, x34 => if x34 < x33 then ((keys_Of.f k x0 x34 x1).bind fun t240 => (if 0 ≤ x34 then (if ((decide ((t240.length : Int) > 0)) != ((Go.bits .and .i64 (shr .i64 x6 x34) 1) == 1)) = true then (althinglaw04_KeysParts.j2 k x0 x1 x5 x6 x7 t240 x33 x34 true) else ((keys_Rights.f k t240).bind fun t243 => (althinglaw04_KeysParts.j2 k x0 x1 x5 x6 x7 t240 x33 x34 (!t243)))) else (none))) else (if x7 = 0 then ((althinglaw04_same.f k x5 x0).bind fun t238 => (if t238 = true then ((althinglaw04_awake.f).bind fun t239 => (some t239)) else (none))) else (none))
def althinglaw04_KeysParts.j2 : Nat → List ByteArray → Int → List ByteArray → Int → Int → List ByteArray → Int → Int → Bool → Option (Bool)
  | 0, _, _, _, _, _, _, _, _, _ => none
  | k + 1, x0, x1, x5, x6, x7, x9, x33, x34, x54 => if x54 = true then (none) else ((keys_Meet.f x5 x9).bind fun t244 => (if t244 = true then (none) else ((keys_Join.f x5 x9).bind fun t245 => (althinglaw04_KeysParts.l0 k x0 x1 t245 x6 x7 x33 (wrap64 (x34 + 1))))))
end
def althinglaw04_KeysParts.f (k : Nat) (l0 : List ByteArray) (a1 : Int) : Option (Bool) := (althinglaw04_Few.f k l0).bind fun t233 => (if t233 = true then ((althingref04_Rights.f k l0).bind fun t234 => (if t234 = true then (if a1 < 1 then (althinglaw04_KeysParts.j0 k l0 a1 true) else (althinglaw04_KeysParts.j0 k l0 a1 (decide (a1 > 4)))) else (althinglaw04_KeysParts.j0 k l0 a1 true))) else (althinglaw04_KeysParts.j0 k l0 a1 true))
theorem althinglaw04_KeysParts.mono_l : ∀ k, (∀ y0 y1 y2, LeO (althinglaw04_KeysParts.j0 k y0 y1 y2) (althinglaw04_KeysParts.j0 (k + 1) y0 y1 y2)) ∧ (∀ y0 y1 y2 y3 y4 y5 y6, LeO (althinglaw04_KeysParts.l0 k y0 y1 y2 y3 y4 y5 y6) (althinglaw04_KeysParts.l0 (k + 1) y0 y1 y2 y3 y4 y5 y6)) ∧ (∀ y0 y1 y2 y3 y4 y5 y6 y7 y8, LeO (althinglaw04_KeysParts.j2 k y0 y1 y2 y3 y4 y5 y6 y7 y8) (althinglaw04_KeysParts.j2 (k + 1) y0 y1 y2 y3 y4 y5 y6 y7 y8))
  | 0 => ⟨fun _ _ _ r h => by simp [althinglaw04_KeysParts.j0] at h, fun _ _ _ _ _ _ _ r h => by simp [althinglaw04_KeysParts.l0] at h, fun _ _ _ _ _ _ _ _ _ r h => by simp [althinglaw04_KeysParts.j2] at h⟩
  | k + 1 => by
    obtain ⟨ih0, ih1, ih2⟩ := althinglaw04_KeysParts.mono_l k
    refine ⟨?_, ?_, ?_⟩
    · intro y0 y1 y2
      unfold althinglaw04_KeysParts.j0
      repeat' first
      | (with_reducible exact ih0 _ _ _)
      | (with_reducible exact ih1 _ _ _ _ _ _ _)
      | (with_reducible exact ih2 _ _ _ _ _ _ _ _ _)
      | (with_reducible exact althinglaw04_Few.mono _ _)
      | (with_reducible exact althinglaw04_same.mono _ _ _)
      | (with_reducible exact althingref04_Rights.mono _ _)
      | (with_reducible exact keys_Mask.mono _ _ _)
      | (with_reducible exact keys_Of.mono _ _ _ _)
      | (with_reducible exact keys_Rights.mono _ _)
      | (with_reducible exact LeO.refl _)
      | (with_reducible exact LeO.none _)
      | (with_reducible refine LeO.ite ?_ ?_)
      | (with_reducible refine LeO.bind ?_ (fun _ => ?_))
      | exact ih0 _ _ _
      | exact ih1 _ _ _ _ _ _ _
      | exact ih2 _ _ _ _ _ _ _ _ _
      | exact althinglaw04_Few.mono _ _
      | exact althinglaw04_same.mono _ _ _
      | exact althingref04_Rights.mono _ _
      | exact keys_Mask.mono _ _ _
      | exact keys_Of.mono _ _ _ _
      | exact keys_Rights.mono _ _
      | exact LeO.none _
      | refine LeO.ite ?_ ?_
      | refine LeO.bind ?_ (fun _ => ?_)
    · intro y0 y1 y2 y3 y4 y5 y6
      unfold althinglaw04_KeysParts.l0
      repeat' first
      | (with_reducible exact ih0 _ _ _)
      | (with_reducible exact ih1 _ _ _ _ _ _ _)
      | (with_reducible exact ih2 _ _ _ _ _ _ _ _ _)
      | (with_reducible exact althinglaw04_Few.mono _ _)
      | (with_reducible exact althinglaw04_same.mono _ _ _)
      | (with_reducible exact althingref04_Rights.mono _ _)
      | (with_reducible exact keys_Mask.mono _ _ _)
      | (with_reducible exact keys_Of.mono _ _ _ _)
      | (with_reducible exact keys_Rights.mono _ _)
      | (with_reducible exact LeO.refl _)
      | (with_reducible exact LeO.none _)
      | (with_reducible refine LeO.ite ?_ ?_)
      | (with_reducible refine LeO.bind ?_ (fun _ => ?_))
      | exact ih0 _ _ _
      | exact ih1 _ _ _ _ _ _ _
      | exact ih2 _ _ _ _ _ _ _ _ _
      | exact althinglaw04_Few.mono _ _
      | exact althinglaw04_same.mono _ _ _
      | exact althingref04_Rights.mono _ _
      | exact keys_Mask.mono _ _ _
      | exact keys_Of.mono _ _ _ _
      | exact keys_Rights.mono _ _
      | exact LeO.none _
      | refine LeO.ite ?_ ?_
      | refine LeO.bind ?_ (fun _ => ?_)
    · intro y0 y1 y2 y3 y4 y5 y6 y7 y8
      unfold althinglaw04_KeysParts.j2
      repeat' first
      | (with_reducible exact ih0 _ _ _)
      | (with_reducible exact ih1 _ _ _ _ _ _ _)
      | (with_reducible exact ih2 _ _ _ _ _ _ _ _ _)
      | (with_reducible exact althinglaw04_Few.mono _ _)
      | (with_reducible exact althinglaw04_same.mono _ _ _)
      | (with_reducible exact althingref04_Rights.mono _ _)
      | (with_reducible exact keys_Mask.mono _ _ _)
      | (with_reducible exact keys_Of.mono _ _ _ _)
      | (with_reducible exact keys_Rights.mono _ _)
      | (with_reducible exact LeO.refl _)
      | (with_reducible exact LeO.none _)
      | (with_reducible refine LeO.ite ?_ ?_)
      | (with_reducible refine LeO.bind ?_ (fun _ => ?_))
      | exact ih0 _ _ _
      | exact ih1 _ _ _ _ _ _ _
      | exact ih2 _ _ _ _ _ _ _ _ _
      | exact althinglaw04_Few.mono _ _
      | exact althinglaw04_same.mono _ _ _
      | exact althingref04_Rights.mono _ _
      | exact keys_Mask.mono _ _ _
      | exact keys_Of.mono _ _ _ _
      | exact keys_Rights.mono _ _
      | exact LeO.none _
      | refine LeO.ite ?_ ?_
      | refine LeO.bind ?_ (fun _ => ?_)
theorem althinglaw04_KeysParts.mono : ∀ a0 a1 k, LeO (althinglaw04_KeysParts.f k a0 a1) (althinglaw04_KeysParts.f (k + 1) a0 a1) := by
  intro a0 a1 k
  obtain ⟨ih0, ih1, ih2⟩ := althinglaw04_KeysParts.mono_l k
  unfold althinglaw04_KeysParts.f
  repeat' first
      | (with_reducible exact ih0 _ _ _)
      | (with_reducible exact ih1 _ _ _ _ _ _ _)
      | (with_reducible exact ih2 _ _ _ _ _ _ _ _ _)
      | (with_reducible exact althinglaw04_Few.mono _ _)
      | (with_reducible exact althinglaw04_same.mono _ _ _)
      | (with_reducible exact althingref04_Rights.mono _ _)
      | (with_reducible exact keys_Mask.mono _ _ _)
      | (with_reducible exact keys_Of.mono _ _ _ _)
      | (with_reducible exact keys_Rights.mono _ _)
      | (with_reducible exact LeO.refl _)
      | (with_reducible exact LeO.none _)
      | (with_reducible refine LeO.ite ?_ ?_)
      | (with_reducible refine LeO.bind ?_ (fun _ => ?_))
      | exact ih0 _ _ _
      | exact ih1 _ _ _ _ _ _ _
      | exact ih2 _ _ _ _ _ _ _ _ _
      | exact althinglaw04_Few.mono _ _
      | exact althinglaw04_same.mono _ _ _
      | exact althingref04_Rights.mono _ _
      | exact keys_Mask.mono _ _ _
      | exact keys_Of.mono _ _ _ _
      | exact keys_Rights.mono _ _
      | exact LeO.none _
      | refine LeO.ite ?_ ?_
      | refine LeO.bind ?_ (fun _ => ?_)
set_option maxHeartbeats 8000000 in
set_option maxRecDepth 100000 in
theorem althinglaw04_KeysParts.calls (k : Nat) (A0 : Option Addr) (c0 : Nat) (l0 : List ByteArray) (a1 : Int) (r : Bool) (w : World) (hr0 : Kd.C Kd.string w A0 l0.length l0) (hc0 : l0.length ≤ c0) (h : althinglaw04_KeysParts.f k l0 a1 = some r) :
    Calls Try.prog 5 #[.slice A0 l0.length c0, .int .i64 a1] w fun e w' => e = .returned (.bool r) ∧ Below w.heap.size w w' := by
  have HR0 := Aside0.mk hr0
  have HC0 := Aside0.mk hc0
  clear hr0 hc0
  have HB := Aside0.mk (Below.refl w.heap.size w)
  have H : ((althinglaw04_Few.f k l0).bind fun t233 => (if t233 = true then ((althingref04_Rights.f k l0).bind fun t234 => (if t234 = true then (if a1 < 1 then (althinglaw04_KeysParts.j0 k l0 a1 true) else (althinglaw04_KeysParts.j0 k l0 a1 (decide (a1 > 4)))) else (althinglaw04_KeysParts.j0 k l0 a1 true))) else (althinglaw04_KeysParts.j0 k l0 a1 true))) = some r := h
  clear h
  have HC3 := Aside0.mk H
  clear H
  go_enter Try.func5, Try.ntmps5
  go_upto_region 1 with (fail)
  go_cut [25] (fun v25 wc => ∃ (kq : Nat) (x25_2 : Bool), v25 = .bool x25_2 ∧ Aside0 (althinglaw04_KeysParts.j0 kq l0 a1 x25_2 = some r) ∧ Aside0 (kq ≤ k) ∧ Aside0 (Below w.heap.size w wc))
  case first =>
    have H := HC3.out
    clear HC3
    replace H := Option.bind_eq_some_iff.mp H
    obtain ⟨t233, A40, H⟩ := H
    replace H : (if t233 = true then ((althingref04_Rights.f k l0).bind fun t234 => (if t234 = true then (if a1 < 1 then (althinglaw04_KeysParts.j0 k l0 a1 true) else (althinglaw04_KeysParts.j0 k l0 a1 (decide (a1 > 4)))) else (althinglaw04_KeysParts.j0 k l0 a1 true))) else (althinglaw04_KeysParts.j0 k l0 a1 true)) = some r := H
    have A4 := Aside0.mk A40
    clear A40
    by_cases c5 : t233 = true
    · subst c5
      have H1 : ((althingref04_Rights.f k l0).bind fun t234 => (if t234 = true then (if a1 < 1 then (althinglaw04_KeysParts.j0 k l0 a1 true) else (althinglaw04_KeysParts.j0 k l0 a1 (decide (a1 > 4)))) else (althinglaw04_KeysParts.j0 k l0 a1 true))) = some r := by rw [if_pos rfl] at H; exact H
      clear H
      have H := H1
      clear H1
      replace H := Option.bind_eq_some_iff.mp H
      obtain ⟨t234, A60, H⟩ := H
      replace H : (if t234 = true then (if a1 < 1 then (althinglaw04_KeysParts.j0 k l0 a1 true) else (althinglaw04_KeysParts.j0 k l0 a1 (decide (a1 > 4)))) else (althinglaw04_KeysParts.j0 k l0 a1 true)) = some r := H
      have A6 := Aside0.mk A60
      clear A60
      by_cases c7 : t234 = true
      · subst c7
        have H1 : (if a1 < 1 then (althinglaw04_KeysParts.j0 k l0 a1 true) else (althinglaw04_KeysParts.j0 k l0 a1 (decide (a1 > 4)))) = some r := by rw [if_pos rfl] at H; exact H
        clear H
        have H := H1
        clear H1
        by_cases c8 : a1 < 1
        · rw [if_pos c8] at H
          have c8b0 : decide (a1 < 1) = true := decide_eq_true c8
          clear c8
          (first | rw [c8b0] | (simp only [i64_w, i32_w]; rw [c8b0]) | skip)
          have H' := Aside0.mk H
          clear H
          go_wp2_with (first | ((with_reducible refine gate_callee (f := 6) rfl ?_); refine goesL_ (some 11) rfl rfl Try.func6 (by kernel_rfl) rfl #[.slice A0 l0.length c0] rfl (by (try simp only [List.map_toArray, List.map_cons, List.map_nil]); first | done | rfl | (simp only [List.length_drop, List.length_take]; rfl)) ?_; (with_reducible refine (althinglaw04_Few.calls k _ _ l0 true _ ?side1 ?side2 A4.out).mono ?_); (case side1 => repeat (first | exact (Kd.C_below HR0.out HB.out) | (with_reducible refine Kd.C_alloc ?_ _) | (with_reducible refine Kd.C_drewN ?_ _) | (with_reducible refine Kd.C_drew ?_))); (case side2 => exact HC0.out); rintro e w' ⟨rfl, ⟨nd, rfl⟩⟩; refine ⟨_, rfl, ?_⟩) | (go_at_call 14; (with_reducible refine (althingref04_Rights.calls k _ _ l0 true _ ?side1 ?side2 A6.out).mono ?_); (case side1 => repeat (first | exact (Kd.C_below HR0.out (by repeat (first | (with_reducible first | exact HB.out | apply below_alloc | apply pw_below_drewN | apply below_drew1) | exact HB.out))) | (with_reducible refine Kd.C_alloc ?_ _) | (with_reducible refine Kd.C_drewN ?_ _) | (with_reducible refine Kd.C_drew ?_))); (case side2 => exact HC0.out); rintro e w' ⟨rfl, ⟨nd, rfl⟩⟩))
          go_meet
          case rel => exact ⟨_, (true), (by first | rfl | (simp; done) | (simp [*]; done)), H', ⟨by first | omega | exact Nat.le_refl _⟩, ⟨by repeat (first | (with_reducible first | exact HB.out | apply below_alloc | apply pw_below_drewN | apply below_drew1) | exact HB.out)⟩⟩
        · rw [if_neg c8] at H
          have c8b0 : decide (a1 < 1) = false := decide_eq_false c8
          clear c8
          (first | rw [c8b0] | (simp only [i64_w, i32_w]; rw [c8b0]) | skip)
          have H' := Aside0.mk H
          clear H
          go_wp2_with (first | ((with_reducible refine gate_callee (f := 6) rfl ?_); refine goesL_ (some 11) rfl rfl Try.func6 (by kernel_rfl) rfl #[.slice A0 l0.length c0] rfl (by (try simp only [List.map_toArray, List.map_cons, List.map_nil]); first | done | rfl | (simp only [List.length_drop, List.length_take]; rfl)) ?_; (with_reducible refine (althinglaw04_Few.calls k _ _ l0 true _ ?side1 ?side2 A4.out).mono ?_); (case side1 => repeat (first | exact (Kd.C_below HR0.out HB.out) | (with_reducible refine Kd.C_alloc ?_ _) | (with_reducible refine Kd.C_drewN ?_ _) | (with_reducible refine Kd.C_drew ?_))); (case side2 => exact HC0.out); rintro e w' ⟨rfl, ⟨nd, rfl⟩⟩; refine ⟨_, rfl, ?_⟩) | (go_at_call 14; (with_reducible refine (althingref04_Rights.calls k _ _ l0 true _ ?side1 ?side2 A6.out).mono ?_); (case side1 => repeat (first | exact (Kd.C_below HR0.out (by repeat (first | (with_reducible first | exact HB.out | apply below_alloc | apply pw_below_drewN | apply below_drew1) | exact HB.out))) | (with_reducible refine Kd.C_alloc ?_ _) | (with_reducible refine Kd.C_drewN ?_ _) | (with_reducible refine Kd.C_drew ?_))); (case side2 => exact HC0.out); rintro e w' ⟨rfl, ⟨nd, rfl⟩⟩))
          go_meet
          case rel => exact ⟨_, (decide (a1 > 4)), (by first | rfl | (simp; done) | (simp [*]; done)), H', ⟨by first | omega | exact Nat.le_refl _⟩, ⟨by repeat (first | (with_reducible first | exact HB.out | apply below_alloc | apply pw_below_drewN | apply below_drew1) | exact HB.out)⟩⟩
      · replace c7 := Bool.eq_false_iff.mpr c7
        subst c7
        have H1 : (althinglaw04_KeysParts.j0 k l0 a1 true) = some r := by rw [if_neg (show ¬ (false = true) by decide)] at H; exact H
        clear H
        have H := H1
        clear H1
        have H' := Aside0.mk H
        clear H
        go_wp2_with (first | ((with_reducible refine gate_callee (f := 6) rfl ?_); refine goesL_ (some 11) rfl rfl Try.func6 (by kernel_rfl) rfl #[.slice A0 l0.length c0] rfl (by (try simp only [List.map_toArray, List.map_cons, List.map_nil]); first | done | rfl | (simp only [List.length_drop, List.length_take]; rfl)) ?_; (with_reducible refine (althinglaw04_Few.calls k _ _ l0 true _ ?side1 ?side2 A4.out).mono ?_); (case side1 => repeat (first | exact (Kd.C_below HR0.out HB.out) | (with_reducible refine Kd.C_alloc ?_ _) | (with_reducible refine Kd.C_drewN ?_ _) | (with_reducible refine Kd.C_drew ?_))); (case side2 => exact HC0.out); rintro e w' ⟨rfl, ⟨nd, rfl⟩⟩; refine ⟨_, rfl, ?_⟩) | (go_at_call 14; (with_reducible refine (althingref04_Rights.calls k _ _ l0 false _ ?side1 ?side2 A6.out).mono ?_); (case side1 => repeat (first | exact (Kd.C_below HR0.out (by repeat (first | (with_reducible first | exact HB.out | apply below_alloc | apply pw_below_drewN | apply below_drew1) | exact HB.out))) | (with_reducible refine Kd.C_alloc ?_ _) | (with_reducible refine Kd.C_drewN ?_ _) | (with_reducible refine Kd.C_drew ?_))); (case side2 => exact HC0.out); rintro e w' ⟨rfl, ⟨nd, rfl⟩⟩))
        go_meet
        case rel => exact ⟨_, (true), (by first | rfl | (simp; done) | (simp [*]; done)), H', ⟨by first | omega | exact Nat.le_refl _⟩, ⟨by repeat (first | (with_reducible first | exact HB.out | apply below_alloc | apply pw_below_drewN | apply below_drew1) | exact HB.out)⟩⟩
    · replace c5 := Bool.eq_false_iff.mpr c5
      subst c5
      have H1 : (althinglaw04_KeysParts.j0 k l0 a1 true) = some r := by rw [if_neg (show ¬ (false = true) by decide)] at H; exact H
      clear H
      have H := H1
      clear H1
      have H' := Aside0.mk H
      clear H
      go_wp2_with (first | ((with_reducible refine gate_callee (f := 6) rfl ?_); refine goesL_ (some 11) rfl rfl Try.func6 (by kernel_rfl) rfl #[.slice A0 l0.length c0] rfl (by (try simp only [List.map_toArray, List.map_cons, List.map_nil]); first | done | rfl | (simp only [List.length_drop, List.length_take]; rfl)) ?_; (with_reducible refine (althinglaw04_Few.calls k _ _ l0 false _ ?side1 ?side2 A4.out).mono ?_); (case side1 => repeat (first | exact (Kd.C_below HR0.out HB.out) | (with_reducible refine Kd.C_alloc ?_ _) | (with_reducible refine Kd.C_drewN ?_ _) | (with_reducible refine Kd.C_drew ?_))); (case side2 => exact HC0.out); rintro e w' ⟨rfl, ⟨nd, rfl⟩⟩; refine ⟨_, rfl, ?_⟩))
      go_meet
      case rel => exact ⟨_, (true), (by first | rfl | (simp; done) | (simp [*]; done)), H', ⟨by first | omega | exact Nat.le_refl _⟩, ⟨by repeat (first | (with_reducible first | exact HB.out | apply below_alloc | apply pw_below_drewN | apply below_drew1) | exact HB.out)⟩⟩
  case rest =>
    clear HC3
    try clear p2
    try clear c5
    try clear c6
    try clear c7
    try clear c8
    try clear c8b0
    obtain ⟨kq, x25_2, rfl, HA, HJ2, HB⟩ := hcut
    cases kq with
    | zero => exact absurd HA.out (by simp [althinglaw04_KeysParts.j0])
    | succ kj2 =>
      have H := HA.out
      clear HA
      simp only [althinglaw04_KeysParts.j0] at H
      by_cases c9 : x25_2 = true
      · subst c9
        have H1 : ((althinglaw04_awake.f).bind fun t235 => (some t235)) = some r := by rw [if_pos rfl] at H; exact H
        clear H
        have H := H1
        clear H1
        replace H := Option.bind_eq_some_iff.mp H
        obtain ⟨t235, A100, H⟩ := H
        replace H : (some t235) = some r := H
        have A10 := Aside0.mk A100
        clear A100
        obtain rfl := Option.some.inj H
        go_wp2_with (first | ((with_reducible refine gate_callee (f := 7) rfl ?_); refine goesL_ (some 26) rfl rfl Try.func7 (by kernel_rfl) rfl #[] rfl (by (try simp only [List.map_toArray, List.map_cons, List.map_nil]); first | done | rfl | (simp only [List.length_drop, List.length_take]; rfl)) ?_; (with_reducible refine (althinglaw04_awake.calls  t235 _ A10.out).mono ?_); rintro e w11 ⟨rfl, hb⟩; refine ⟨_, rfl, ?_⟩; have n0_ := Aside0.mk (below_step (by repeat (first | (with_reducible first | exact HB.out | apply below_alloc | apply pw_below_drewN | apply below_drew1) | exact HB.out)) hb); clear HB; have HB := n0_; clear n0_; (try clear hb); (try clear hb2); (try clear hk); (try clear hi)))
        go_ret
        exact ⟨by first | rfl | (simp [errW_none, errW_some] <;> rfl) | (simp [*, errW_none, errW_some] <;> rfl), by repeat (first | (with_reducible first | exact HB.out | apply below_alloc | apply pw_below_drewN | apply below_drew1) | exact HB.out)⟩
      · replace c9 := Bool.eq_false_iff.mpr c9
        subst c9
        have H1 : ((keys_Mask.f kj2 l0 a1).bind fun bt236 => (althinglaw04_KeysParts.l0 kj2 l0 a1 ([] : List ByteArray) bt236.1 bt236.2 a1 0)) = some r := by rw [if_neg (show ¬ (false = true) by decide)] at H; exact H
        clear H
        have H := H1
        clear H1
        replace H := Option.bind_eq_some_iff.mp H
        obtain ⟨⟨t236, t237⟩, A120, H⟩ := H
        replace H : (althinglaw04_KeysParts.l0 kj2 l0 a1 ([] : List ByteArray) t236 t237 a1 0) = some r := H
        have A12 := Aside0.mk A120
        clear A120
        have H' := Aside0.mk H
        clear H
        go_wp2_with (first | ((with_reducible refine gate_callee (f := 15) rfl ?_); refine goesL_ (some 30) rfl rfl Try.func15 (by kernel_rfl) rfl #[.slice A0 l0.length c0, .int .i64 a1] rfl (by (try simp only [List.map_toArray, List.map_cons, List.map_nil]); first | done | rfl | (simp only [List.length_drop, List.length_take]; rfl)) ?_; (with_reducible refine (keys_Mask.calls kj2 _ _ l0 a1 t236 t237 _ ?side1 ?side2 A12.out).mono ?_); (case side1 => repeat (first | exact (Kd.C_below HR0.out HB.out) | (with_reducible refine Kd.C_alloc ?_ _) | (with_reducible refine Kd.C_drewN ?_ _) | (with_reducible refine Kd.C_drew ?_))); (case side2 => exact HC0.out); rintro e w13 ⟨rfl, hb⟩; refine ⟨_, rfl, ?_⟩; have n0_ := Aside0.mk (below_step (by repeat (first | (with_reducible first | exact HB.out | apply below_alloc | apply pw_below_drewN | apply below_drew1) | exact HB.out)) hb); clear HB; have HB := n0_; clear n0_; (try clear hb); (try clear hb2); (try clear hk); (try clear hi)))
        go_loopg [5, 34] kj2 (fun kq v5 v34 w' => ∃ (x5_2 : List ByteArray) (x34_2 : Int), v34 = .int .i64 x34_2 ∧ Aside0 (althinglaw04_KeysParts.l0 kq l0 a1 x5_2 t236 t237 a1 x34_2 = some r) ∧ Aside0 (kq ≤ kj2) ∧ Aside0 (Kd.R Kd.string 9 w' w.heap.size (fun _ => True) v5 x5_2) ∧ Aside0 (Below w.heap.size w w'))
        case atStart => exact ⟨(([] : List ByteArray)), (0), (by first | rfl | (simp; done) | (simp [*]; done)), H', ⟨Nat.le_refl _⟩, ⟨by first | exact Kd.R_nil _ _ _ _ _ | exact Kd.N_nil _ _ _ _ _ | exact Kd.V_nil _ _ _ _ _ | exact Kd.Q_nil _ _ _ _ _ | exact Kd.S_nil _ _ _ _ _⟩, ⟨by repeat (first | (with_reducible first | exact HB.out | apply below_alloc | apply pw_below_drewN | apply below_drew1) | exact HB.out)⟩⟩
        case round =>
          clear H'
          try clear c1
          try clear p2
          try clear c5
          try clear c6
          try clear c7
          try clear c8
          try clear c8b0
          try clear c9
          try clear p2
          obtain ⟨x5_2, x34_2, rfl, HA, HK2, HO_5, HB⟩ := hrel
          cases gk with
          | zero => exact absurd HA.out (by simp [althinglaw04_KeysParts.l0])
          | succ k2 =>
            have H := HA.out
            clear HA
            simp only [althinglaw04_KeysParts.l0] at H
            by_cases c14 : x34_2 < a1
            · rw [if_pos c14] at H
              have c14b0 : decide (x34_2 < a1) = true := decide_eq_true c14
              clear c14
              replace H := Option.bind_eq_some_iff.mp H
              obtain ⟨t240, A150, H⟩ := H
              replace H : (if 0 ≤ x34_2 then (if ((decide ((t240.length : Int) > 0)) != ((Go.bits .and .i64 (shr .i64 t236 x34_2) 1) == 1)) = true then (althinglaw04_KeysParts.j2 k2 l0 a1 x5_2 t236 t237 t240 a1 x34_2 true) else ((keys_Rights.f k2 t240).bind fun t243 => (althinglaw04_KeysParts.j2 k2 l0 a1 x5_2 t236 t237 t240 a1 x34_2 (!t243)))) else (none)) = some r := H
              have A15 := Aside0.mk A150
              clear A150
              have HC16 := Aside0.mk H
              clear H
              go_upto_region 9 with (first | ((with_reducible refine gate_callee (f := 16) rfl ?_); refine goesL_ (some 40) rfl rfl Try.func16 (by kernel_rfl) rfl #[.slice A0 l0.length c0, .int .i64 x34_2, .int .i64 a1] rfl (by (try simp only [List.map_toArray, List.map_cons, List.map_nil]); first | done | rfl | (simp only [List.length_drop, List.length_take]; rfl)) ?_; (with_reducible refine (keys_Of.calls k2 _ _ l0 x34_2 a1 t240 _ ?side1 ?side2 A15.out).mono ?_); (case side1 => repeat (first | exact (Kd.C_below HR0.out HB.out) | (with_reducible refine Kd.C_alloc ?_ _) | (with_reducible refine Kd.C_drewN ?_ _) | (with_reducible refine Kd.C_drew ?_))); (case side2 => exact HC0.out); rintro e w17 ⟨v241, rfl, ho0, hb⟩; refine ⟨_, rfl, ?_⟩; have n0_ := Aside0.mk (Kd.R_elder' (by (with_reducible repeat (first | apply Kd.R_alloc | apply Kd.R_drewN | apply Kd.R_drew)); exact HO_5.out) (Kd.R_base ho0) hb); have n1_ := Aside0.mk (Kd.R_lower (Kd.R_new' ho0 (Kd.R_lt (by (with_reducible repeat (first | apply Kd.R_alloc | apply Kd.R_drewN | apply Kd.R_drew)); exact HO_5.out))) (below_size (by repeat (first | (with_reducible first | exact HB.out | apply below_alloc | apply pw_below_drewN | apply below_drew1) | exact HB.out)))); have n2_ := Aside0.mk (below_step (by repeat (first | (with_reducible first | exact HB.out | apply below_alloc | apply pw_below_drewN | apply below_drew1) | exact HB.out)) hb); clear HO_5; clear HB; have HO_5 := n0_; have HO242 := n1_; have HB := n2_; clear n0_ n1_ n2_; (try clear hb); (try clear hb2); (try clear hk); (try clear hi); (try clear ho0)))
              (try simp only [Act.put, List.setIfInBounds_toArray, List.set_cons_zero, List.set_cons_succ])
              go_cut [54] (fun v54 wc => ∃ (kq : Nat) (x54_15 : Bool), v54 = .bool x54_15 ∧ Aside0 (althinglaw04_KeysParts.j2 kq l0 a1 x5_2 t236 t237 t240 a1 x34_2 x54_15 = some r) ∧ Aside0 (kq ≤ k2) ∧ Aside0 (Kd.R Kd.string 9 wc w.heap.size (fun k_ => some k_ ≠ (v241 : Value).ownBlock) u5 x5_2) ∧ Aside0 (Kd.R Kd.string 9 wc w.heap.size (fun k_ => some k_ ≠ (u5 : Value).ownBlock) v241 t240) ∧ Aside0 (Below w.heap.size w wc))
              case first =>
                have H := HC16.out
                clear HC16
                by_cases c18 : 0 ≤ x34_2
                · rw [if_pos c18] at H
                  have c18b0 := eq_true c18
                  have c18b1 : decide (0 ≤ x34_2) = true := decide_eq_true c18
                  clear c18
                  obtain ⟨ji19, hji19⟩ : ∃ j_ : Int, (shr .i64 t236 x34_2) = j_ := ⟨_, rfl⟩
                  replace H : (if ((decide ((t240.length : Int) > 0)) != ((Go.bits .and .i64 (ji19) 1) == 1)) = true then (althinglaw04_KeysParts.j2 k2 l0 a1 x5_2 t236 t237 t240 a1 x34_2 true) else ((keys_Rights.f k2 t240).bind fun t243 => (althinglaw04_KeysParts.j2 k2 l0 a1 x5_2 t236 t237 t240 a1 x34_2 (!t243)))) = some r := by first | (rw [hji19] at H; exact H) | (simp only [hji19] at H ⊢; exact H)
                  have hji19_ : (t236 / 2 ^ min x34_2.toNat 64) = ji19 := hji19
                  have hji19z : x34_2 ≤ 64 → (t236 / 2 ^ x34_2.toNat) = ji19 := shr_small hji19
                  by_cases c20 : ((decide ((t240.length : Int) > 0)) != ((Go.bits .and .i64 (ji19) 1) == 1)) = true
                  · rw [if_pos c20] at H
                    have c20b0 : ((decide ((t240.length : Int) > 0)) != ((Go.bits .and .i64 (ji19) 1) == 1)) = true := c20
                    (try (have c20b1 : decide ((decide (0 < t240.length)) = ((Go.bits .and .i64 (ji19) 1) == 1)) = false := by simpa using c20))
                    (try (have c20b2 : ((decide (0 < t240.length)) == ((Go.bits .and .i64 (ji19) 1) == 1)) = false := by simpa using c20))
                    (try (have c20b3 : ¬ ((decide (0 < t240.length)) = ((Go.bits .and .i64 (ji19) 1) == 1)) := by simpa using c20))
                    (try (have c20b4 : decide ((decide ((t240.length : Int) > 0)) = ((Go.bits .and .i64 (ji19) 1) == 1)) = false := by simpa using c20))
                    (try (have c20b5 : ((decide ((t240.length : Int) > 0)) == ((Go.bits .and .i64 (ji19) 1) == 1)) = false := by simpa using c20))
                    (try (have c20b6 : ¬ ((decide ((t240.length : Int) > 0)) = ((Go.bits .and .i64 (ji19) 1) == 1)) := by simpa using c20))
                    clear c20
                    (first | rw [c20b0] | (simp only [i64_w, i32_w]; rw [c20b0]) | skip)
                    have H' := Aside0.mk H
                    clear H
                    obtain ⟨Ao21, co21, eo21⟩ := Kd.R_slice HO242.out
                    subst eo21
                    go_wp2
                    go_meet
                    case rel => exact ⟨_, (true), (by first | rfl | (simp; done) | (simp [*]; done)), H', ⟨by have := HJ2.out; have := HK2.out; first | omega | exact Nat.le_refl _⟩, ⟨by (with_reducible repeat (first | apply Kd.R_alloc | apply Kd.R_drewN | apply Kd.R_drew)); exact Kd.R_mono HO_5.out (fun _ hk => hk.2)⟩, ⟨by (with_reducible repeat (first | apply Kd.R_alloc | apply Kd.R_drewN | apply Kd.R_drew)); exact Kd.R_mono HO242.out (fun _ hk => hk.2)⟩, ⟨by repeat (first | (with_reducible first | exact HB.out | apply below_alloc | apply pw_below_drewN | apply below_drew1) | exact HB.out)⟩⟩
                  · rw [if_neg c20] at H
                    have c20b0 : ((decide ((t240.length : Int) > 0)) != ((Go.bits .and .i64 (ji19) 1) == 1)) = false := by simpa using c20
                    (try (have c20b1 : decide ((decide (0 < t240.length)) = ((Go.bits .and .i64 (ji19) 1) == 1)) = true := by simpa using c20))
                    (try (have c20b2 : ((decide (0 < t240.length)) == ((Go.bits .and .i64 (ji19) 1) == 1)) = true := by simpa using c20))
                    (try (have c20b3 : decide ((decide ((t240.length : Int) > 0)) = ((Go.bits .and .i64 (ji19) 1) == 1)) = true := by simpa using c20))
                    (try (have c20b4 : ((decide ((t240.length : Int) > 0)) == ((Go.bits .and .i64 (ji19) 1) == 1)) = true := by simpa using c20))
                    clear c20
                    (first | rw [c20b0] | (simp only [i64_w, i32_w]; rw [c20b0]) | skip)
                    replace H := Option.bind_eq_some_iff.mp H
                    obtain ⟨t243, A220, H⟩ := H
                    replace H : (althinglaw04_KeysParts.j2 k2 l0 a1 x5_2 t236 t237 t240 a1 x34_2 (!t243)) = some r := H
                    have A22 := Aside0.mk A220
                    clear A220
                    have H' := Aside0.mk H
                    clear H
                    obtain ⟨Ao23, co23, eo23⟩ := Kd.R_slice HO242.out
                    subst eo23
                    go_wp2_with (first | (go_at_call 13; (with_reducible refine (keys_Rights.calls k2 _ _ t240 t243 _ ?side1 ?side2 A22.out).mono ?_); (case side1 => repeat (first | exact (Kd.R_reads' HO242.out).2.2 | (with_reducible refine Kd.C_alloc ?_ _) | (with_reducible refine Kd.C_drewN ?_ _) | (with_reducible refine Kd.C_drew ?_))); (case side2 => exact (Kd.R_reads' HO242.out).2.1); rintro e w' ⟨rfl, ⟨nd, rfl⟩⟩))
                    go_meet
                    case rel => exact ⟨_, (!t243), (by first | rfl | (simp; done) | (simp [*]; done)), H', ⟨by have := HJ2.out; have := HK2.out; first | omega | exact Nat.le_refl _⟩, ⟨by (with_reducible repeat (first | apply Kd.R_alloc | apply Kd.R_drewN | apply Kd.R_drew)); exact Kd.R_mono HO_5.out (fun _ hk => hk.2)⟩, ⟨by (with_reducible repeat (first | apply Kd.R_alloc | apply Kd.R_drewN | apply Kd.R_drew)); exact Kd.R_mono HO242.out (fun _ hk => hk.2)⟩, ⟨by repeat (first | (with_reducible first | exact HB.out | apply below_alloc | apply pw_below_drewN | apply below_drew1) | exact HB.out)⟩⟩
                · rw [if_neg c18] at H
                  exact absurd H (by simp)
              case rest =>
                clear HC16
                try clear c1
                try clear c2
                try clear p2
                try clear c5
                try clear c6
                try clear c7
                try clear c8
                try clear c8b0
                try clear c9
                try clear c14
                try clear c14b0
                try clear c15
                try clear c16
                try clear c18
                try clear c18b0
                try clear c18b1
                try clear c20
                try clear c20b0
                try clear c20b1
                try clear c20b2
                try clear p2
                obtain ⟨kq, x54_15, rfl, HA, HJ15, HO_5, HO_9, HB⟩ := hcut
                cases kq with
                | zero => exact absurd HA.out (by simp [althinglaw04_KeysParts.j2])
                | succ kj15 =>
                  have H := HA.out
                  clear HA
                  simp only [althinglaw04_KeysParts.j2] at H
                  by_cases c24 : x54_15 = true
                  · subst c24
                    have H1 : (none) = some r := by rw [if_pos rfl] at H; exact H
                    clear H
                    have H := H1
                    clear H1
                    exact absurd H (by simp)
                  · replace c24 := Bool.eq_false_iff.mpr c24
                    subst c24
                    have H1 : ((keys_Meet.f x5_2 t240).bind fun t244 => (if t244 = true then (none) else ((keys_Join.f x5_2 t240).bind fun t245 => (althinglaw04_KeysParts.l0 kj15 l0 a1 t245 t236 t237 a1 (wrap64 (x34_2 + 1)))))) = some r := by rw [if_neg (show ¬ (false = true) by decide)] at H; exact H
                    clear H
                    have H := H1
                    clear H1
                    replace H := Option.bind_eq_some_iff.mp H
                    obtain ⟨t244, A250, H⟩ := H
                    replace H : (if t244 = true then (none) else ((keys_Join.f x5_2 t240).bind fun t245 => (althinglaw04_KeysParts.l0 kj15 l0 a1 t245 t236 t237 a1 (wrap64 (x34_2 + 1))))) = some r := H
                    have A25 := Aside0.mk A250
                    clear A250
                    by_cases c26 : t244 = true
                    · subst c26
                      have H1 : (none) = some r := by rw [if_pos rfl] at H; exact H
                      clear H
                      have H := H1
                      clear H1
                      exact absurd H (by simp)
                    · replace c26 := Bool.eq_false_iff.mpr c26
                      subst c26
                      have H1 : ((keys_Join.f x5_2 t240).bind fun t245 => (althinglaw04_KeysParts.l0 kj15 l0 a1 t245 t236 t237 a1 (wrap64 (x34_2 + 1)))) = some r := by rw [if_neg (show ¬ (false = true) by decide)] at H; exact H
                      clear H
                      have H := H1
                      clear H1
                      replace H := Option.bind_eq_some_iff.mp H
                      obtain ⟨t245, A270, H⟩ := H
                      replace H : (althinglaw04_KeysParts.l0 kj15 l0 a1 t245 t236 t237 a1 (wrap64 (x34_2 + 1))) = some r := H
                      have A27 := Aside0.mk A270
                      clear A270
                      have H' := Aside0.mk H
                      clear H
                      obtain ⟨Ao28, co28, eo28⟩ := Kd.R_slice HO_5.out
                      subst eo28
                      obtain ⟨Ao29, co29, eo29⟩ := Kd.R_slice HO_9.out
                      subst eo29
                      go_wp2_with (first | ((with_reducible refine gate_callee (f := 12) rfl ?_); refine goesL_ (some 57) rfl rfl Try.func12 (by kernel_rfl) rfl #[.slice Ao28 x5_2.length co28, .slice Ao29 t240.length co29] rfl (by (try simp only [List.map_toArray, List.map_cons, List.map_nil]); first | done | rfl | (simp only [List.length_drop, List.length_take]; rfl)) ?_; (with_reducible refine (keys_Meet.calls _ _ x5_2 _ _ t240 false _ ?side1 ?side2 ?side3 ?side4 A25.out).mono ?_); (case side1 => repeat (first | exact (Kd.R_reads' HO_5.out).2.2 | (with_reducible refine Kd.C_alloc ?_ _) | (with_reducible refine Kd.C_drewN ?_ _) | (with_reducible refine Kd.C_drew ?_))); (case side2 => exact (Kd.R_reads' HO_5.out).2.1); (case side3 => repeat (first | exact (Kd.R_reads' HO_9.out).2.2 | (with_reducible refine Kd.C_alloc ?_ _) | (with_reducible refine Kd.C_drewN ?_ _) | (with_reducible refine Kd.C_drew ?_))); (case side4 => exact (Kd.R_reads' HO_9.out).2.1); rintro e w30 ⟨rfl, hb⟩; refine ⟨_, rfl, ?_⟩; have n0_ := Aside0.mk (Kd.R_below (by (with_reducible repeat (first | apply Kd.R_alloc | apply Kd.R_drewN | apply Kd.R_drew)); exact HO_5.out) hb); have n1_ := Aside0.mk (Kd.R_below (by (with_reducible repeat (first | apply Kd.R_alloc | apply Kd.R_drewN | apply Kd.R_drew)); exact HO_9.out) hb); have n2_ := Aside0.mk (below_step (by repeat (first | (with_reducible first | exact HB.out | apply below_alloc | apply pw_below_drewN | apply below_drew1) | exact HB.out)) hb); clear HO_5; clear HO_9; clear HB; have HO_5 := n0_; have HO_9 := n1_; have HB := n2_; clear n0_ n1_ n2_; (try clear hb); (try clear hb2); (try clear hk); (try clear hi)) | ((with_reducible refine gate_callee (f := 8) rfl ?_); refine goesL_ (some 60) rfl rfl Try.func8 (by kernel_rfl) rfl #[.slice Ao28 x5_2.length co28, .slice Ao29 t240.length co29] rfl (by (try simp only [List.map_toArray, List.map_cons, List.map_nil]); first | done | rfl | (simp only [List.length_drop, List.length_take]; rfl)) ?_; (with_reducible refine (keys_Join.calls _ _ x5_2 _ _ t240 t245 _ ?side1 ?side2 ?side3 ?side4 A27.out).mono ?_); (case side1 => repeat (first | exact (Kd.R_reads' HO_5.out).2.2 | (with_reducible refine Kd.C_alloc ?_ _) | (with_reducible refine Kd.C_drewN ?_ _) | (with_reducible refine Kd.C_drew ?_))); (case side2 => exact (Kd.R_reads' HO_5.out).2.1); (case side3 => repeat (first | exact (Kd.R_reads' HO_9.out).2.2 | (with_reducible refine Kd.C_alloc ?_ _) | (with_reducible refine Kd.C_drewN ?_ _) | (with_reducible refine Kd.C_drew ?_))); (case side4 => exact (Kd.R_reads' HO_9.out).2.1); rintro e w31 ⟨v246, rfl, ho0, hb⟩; refine ⟨_, rfl, ?_⟩; have n0_ := Aside0.mk (Kd.R_elder' (by (with_reducible repeat (first | apply Kd.R_alloc | apply Kd.R_drewN | apply Kd.R_drew)); exact HO_5.out) (Kd.R_base ho0) hb); have n1_ := Aside0.mk (Kd.R_elder' (by (with_reducible repeat (first | apply Kd.R_alloc | apply Kd.R_drewN | apply Kd.R_drew)); exact HO_9.out) (Kd.R_base ho0) hb); have n2_ := Aside0.mk (Kd.R_lower (Kd.R_new' (Kd.R_new' ho0 (Kd.R_lt (by (with_reducible repeat (first | apply Kd.R_alloc | apply Kd.R_drewN | apply Kd.R_drew)); exact HO_5.out))) (Kd.R_lt (by (with_reducible repeat (first | apply Kd.R_alloc | apply Kd.R_drewN | apply Kd.R_drew)); exact HO_9.out))) (below_size (by repeat (first | (with_reducible first | exact HB.out | apply below_alloc | apply pw_below_drewN | apply below_drew1) | exact HB.out)))); have n3_ := Aside0.mk (below_step (by repeat (first | (with_reducible first | exact HB.out | apply below_alloc | apply pw_below_drewN | apply below_drew1) | exact HB.out)) hb); clear HO_5; clear HO_9; clear HB; have HO_5 := n0_; have HO_9 := n1_; have HO247 := n2_; have HB := n3_; clear n0_ n1_ n2_ n3_; (try clear hb); (try clear hb2); (try clear hk); (try clear hi); (try clear ho0)))
                      go_roundg kj15
                      case measure => have := HJ2.out; have := HK2.out; have := HJ15.out; omega
                      case rel => exact ⟨(t245), (wrap64 (x34_2 + 1)), (by first | rfl | (simp; done) | (simp [*]; done)), H', ⟨by have := HJ2.out; have := HK2.out; have := HJ15.out; omega⟩, ⟨by (with_reducible repeat (first | apply Kd.R_alloc | apply Kd.R_drewN | apply Kd.R_drew)); exact Kd.R_mono HO247.out (fun _ hk => trivial)⟩, ⟨by repeat (first | (with_reducible first | exact HB.out | apply below_alloc | apply pw_below_drewN | apply below_drew1) | exact HB.out)⟩⟩
            · rw [if_neg c14] at H
              have c14b0 : decide (x34_2 < a1) = false := decide_eq_false c14
              clear c14
              by_cases c32 : t237 = 0
              · rw [if_pos c32] at H
                have c32b0 : (t237 == 0) = true := beq_iff_eq.mpr c32
                have c32b1 : (t237 != 0) = false := bne_eq_false_iff_eq.mpr c32
                clear c32
                replace H := Option.bind_eq_some_iff.mp H
                obtain ⟨t238, A330, H⟩ := H
                replace H : (if t238 = true then ((althinglaw04_awake.f).bind fun t239 => (some t239)) else (none)) = some r := H
                have A33 := Aside0.mk A330
                clear A330
                by_cases c34 : t238 = true
                · subst c34
                  have H1 : ((althinglaw04_awake.f).bind fun t239 => (some t239)) = some r := by rw [if_pos rfl] at H; exact H
                  clear H
                  have H := H1
                  clear H1
                  replace H := Option.bind_eq_some_iff.mp H
                  obtain ⟨t239, A350, H⟩ := H
                  replace H : (some t239) = some r := H
                  have A35 := Aside0.mk A350
                  clear A350
                  obtain rfl := Option.some.inj H
                  obtain ⟨Ao36, co36, eo36⟩ := Kd.R_slice HO_5.out
                  subst eo36
                  go_wp2_with (first | (go_at_call 9; (with_reducible refine (althinglaw04_same.calls k2 _ _ x5_2 _ _ l0 true _ ?side1 ?side2 ?side3 ?side4 A33.out).mono ?_); (case side1 => repeat (first | exact (Kd.R_reads' HO_5.out).2.2 | (with_reducible refine Kd.C_alloc ?_ _) | (with_reducible refine Kd.C_drewN ?_ _) | (with_reducible refine Kd.C_drew ?_))); (case side2 => exact (Kd.R_reads' HO_5.out).2.1); (case side3 => repeat (first | exact (Kd.C_below HR0.out HB.out) | (with_reducible refine Kd.C_alloc ?_ _) | (with_reducible refine Kd.C_drewN ?_ _) | (with_reducible refine Kd.C_drew ?_))); (case side4 => exact HC0.out); rintro e w' ⟨rfl, ⟨nd, rfl⟩⟩) | (go_at_call 7; (with_reducible refine (althinglaw04_awake.calls  t239 _ A35.out).mono ?_); rintro e w37 ⟨rfl, hb⟩; have n0_ := Aside0.mk (Kd.R_below (by (with_reducible repeat (first | apply Kd.R_alloc | apply Kd.R_drewN | apply Kd.R_drew)); exact HO_5.out) hb); have n1_ := Aside0.mk (below_step (by repeat (first | (with_reducible first | exact HB.out | apply below_alloc | apply pw_below_drewN | apply below_drew1) | exact HB.out)) hb); clear HO_5; clear HB; have HO_5 := n0_; have HB := n1_; clear n0_ n1_; (try clear hb); (try clear hb2); (try clear hk); (try clear hi)))
                  go_ret
                  exact ⟨by first | rfl | (simp [errW_none, errW_some] <;> rfl) | (simp [*, errW_none, errW_some] <;> rfl), by repeat (first | (with_reducible first | exact HB.out | apply below_alloc | apply pw_below_drewN | apply below_drew1) | exact HB.out)⟩
                · replace c34 := Bool.eq_false_iff.mpr c34
                  subst c34
                  have H1 : (none) = some r := by rw [if_neg (show ¬ (false = true) by decide)] at H; exact H
                  clear H
                  have H := H1
                  clear H1
                  exact absurd H (by simp)
              · rw [if_neg c32] at H
                exact absurd H (by simp)

end Go.Proofs.Ytcoohapohkbnpaa.X
