-- PRINTED BY print.sh 35421559b90ae4d0a3588c463048766b98c2df88dd9212a6774a882060cdf62d: not written by this session
import Derived.Test.YticadmfpeepciaaPKeysShardsx0
import Derived.Test.YticadmfpeepciaaPKeysShardsx1
namespace Go.Proofs.Yticadmfpeepciaa.PKeysShards
open Go.RowKit Go.Proofs.YticadmfpeepciaaW.PrintWords Go.Proofs.YticadmfpeepciaaW.PrintLast Go.Proofs.YticadmfpeepciaaW.PrintMore
attribute [local go_sem] max2_int min2_int max_two min_two max_three min_three max_four min_four   -- for this text's walks alone
set_option linter.unusedVariables false
set_option linter.unusedSimpArgs false

/-! ### althingref04_first: function 71 -/
mutual
def althingref04_first.j0 : Nat → ByteArray → Int → Bool → Option (Int × Int)
  | 0, _, _, _ => none
  | k + 1, x0, x4, x22 => if x22 = true then (if 1 < (x0.size : Int) then (some (wrap64 ((wrap64 ((wrap64 ((wrap64 (x4 - 192)) * 64)) + (wrap64 (bt x0 1)))) - 128), 2)) else (none)) else (if x4 = 224 then (althingref04_first.j1 k x0 x4 160 191) else (althingref04_first.j1 k x0 x4 128 191))
def althingref04_first.j1 : Nat → ByteArray → Int → Int → Int → Option (Int × Int)
  | 0, _, _, _, _ => none
  | k + 1, x0, x4, x5, x6 => if x4 = 237 then (althingref04_first.j2 k x0 x4 x5 159) else (althingref04_first.j2 k x0 x4 x5 x6)
def althingref04_first.j2 : Nat → ByteArray → Int → Int → Int → Option (Int × Int)
  | 0, _, _, _, _ => none
  | k + 1, x0, x4, x5, x6 => if x4 ≥ 224 then (if x4 ≤ 239 then ((althingref04_tail.f x0 1 x5 x6).bind fun t103 => (if t103 = true then ((althingref04_tail.f x0 2 128 191).bind fun t104 => (althingref04_first.j3 k x0 x4 t104)) else (althingref04_first.j3 k x0 x4 false))) else (althingref04_first.j3 k x0 x4 false)) else (althingref04_first.j3 k x0 x4 false)
def althingref04_first.j3 : Nat → ByteArray → Int → Bool → Option (Int × Int)
  | 0, _, _, _ => none
  | k + 1, x0, x4, x50 => if x50 = true then (if 1 < (x0.size : Int) then (if 2 < (x0.size : Int) then (some (wrap64 ((wrap64 ((wrap64 ((wrap64 ((wrap64 (x4 - 224)) * 4096)) + (wrap64 ((wrap64 ((wrap64 (bt x0 1)) - 128)) * 64)))) + (wrap64 (bt x0 2)))) - 128), 3)) else (none)) else (none)) else (if x4 = 240 then (althingref04_first.j4 k x0 x4 144 191) else (althingref04_first.j4 k x0 x4 128 191))
def althingref04_first.j4 : Nat → ByteArray → Int → Int → Int → Option (Int × Int)
  | 0, _, _, _, _ => none
  | k + 1, x0, x4, x5, x6 => if x4 = 244 then (althingref04_first.j5 k x0 x4 x5 143) else (althingref04_first.j5 k x0 x4 x5 x6)
def althingref04_first.j5 : Nat → ByteArray → Int → Int → Int → Option (Int × Int)
  | 0, _, _, _, _ => none
  | k + 1, x0, x4, x5, x6 => if x4 ≥ 240 then (if x4 ≤ 244 then ((althingref04_tail.f x0 1 x5 x6).bind fun t105 => (if t105 = true then ((althingref04_tail.f x0 2 128 191).bind fun t106 => (if t106 = true then ((althingref04_tail.f x0 3 128 191).bind fun t107 => (if t107 = true then (if 1 < (x0.size : Int) then (if 2 < (x0.size : Int) then (if 3 < (x0.size : Int) then (some (wrap64 ((wrap64 ((wrap64 ((wrap64 ((wrap64 ((wrap64 (x4 - 240)) * 262144)) + (wrap64 ((wrap64 ((wrap64 (bt x0 1)) - 128)) * 4096)))) + (wrap64 ((wrap64 ((wrap64 (bt x0 2)) - 128)) * 64)))) + (wrap64 (bt x0 3)))) - 128), 4)) else (none)) else (none)) else (none)) else (some (65533, 1)))) else (some (65533, 1)))) else (some (65533, 1)))) else (some (65533, 1))) else (some (65533, 1))
end
def althingref04_first.f (k : Nat) (a0 : ByteArray) : Option (Int × Int) := if 0 < (a0.size : Int) then (if (wrap64 (bt a0 0)) < 128 then (some (wrap64 (bt a0 0), 1)) else (if (wrap64 (bt a0 0)) ≥ 194 then (if (wrap64 (bt a0 0)) ≤ 223 then ((althingref04_tail.f a0 1 128 191).bind fun t102 => (althingref04_first.j0 k a0 (wrap64 (bt a0 0)) t102)) else (althingref04_first.j0 k a0 (wrap64 (bt a0 0)) false)) else (althingref04_first.j0 k a0 (wrap64 (bt a0 0)) false))) else (none)
theorem althingref04_first.mono_l : ∀ k, (∀ y0 y1 y2, LeO (althingref04_first.j0 k y0 y1 y2) (althingref04_first.j0 (k + 1) y0 y1 y2)) ∧ (∀ y0 y1 y2 y3, LeO (althingref04_first.j1 k y0 y1 y2 y3) (althingref04_first.j1 (k + 1) y0 y1 y2 y3)) ∧ (∀ y0 y1 y2 y3, LeO (althingref04_first.j2 k y0 y1 y2 y3) (althingref04_first.j2 (k + 1) y0 y1 y2 y3)) ∧ (∀ y0 y1 y2, LeO (althingref04_first.j3 k y0 y1 y2) (althingref04_first.j3 (k + 1) y0 y1 y2)) ∧ (∀ y0 y1 y2 y3, LeO (althingref04_first.j4 k y0 y1 y2 y3) (althingref04_first.j4 (k + 1) y0 y1 y2 y3)) ∧ (∀ y0 y1 y2 y3, LeO (althingref04_first.j5 k y0 y1 y2 y3) (althingref04_first.j5 (k + 1) y0 y1 y2 y3))
  | 0 => ⟨fun _ _ _ r h => by simp [althingref04_first.j0] at h, fun _ _ _ _ r h => by simp [althingref04_first.j1] at h, fun _ _ _ _ r h => by simp [althingref04_first.j2] at h, fun _ _ _ r h => by simp [althingref04_first.j3] at h, fun _ _ _ _ r h => by simp [althingref04_first.j4] at h, fun _ _ _ _ r h => by simp [althingref04_first.j5] at h⟩
  | k + 1 => by
    obtain ⟨ih0, ih1, ih2, ih3, ih4, ih5⟩ := althingref04_first.mono_l k
    refine ⟨?_, ?_, ?_, ?_, ?_, ?_⟩
    · intro y0 y1 y2
      unfold althingref04_first.j0
      repeat' first
      | (with_reducible exact ih0 _ _ _)
      | (with_reducible exact ih1 _ _ _ _)
      | (with_reducible exact ih2 _ _ _ _)
      | (with_reducible exact ih3 _ _ _)
      | (with_reducible exact ih4 _ _ _ _)
      | (with_reducible exact ih5 _ _ _ _)
      | (with_reducible exact LeO.refl _)
      | (with_reducible exact LeO.none _)
      | (with_reducible refine LeO.ite ?_ ?_)
      | (with_reducible refine LeO.bind ?_ (fun _ => ?_))
      | exact ih0 _ _ _
      | exact ih1 _ _ _ _
      | exact ih2 _ _ _ _
      | exact ih3 _ _ _
      | exact ih4 _ _ _ _
      | exact ih5 _ _ _ _
      | exact LeO.none _
      | refine LeO.ite ?_ ?_
      | refine LeO.bind ?_ (fun _ => ?_)
    · intro y0 y1 y2 y3
      unfold althingref04_first.j1
      repeat' first
      | (with_reducible exact ih0 _ _ _)
      | (with_reducible exact ih1 _ _ _ _)
      | (with_reducible exact ih2 _ _ _ _)
      | (with_reducible exact ih3 _ _ _)
      | (with_reducible exact ih4 _ _ _ _)
      | (with_reducible exact ih5 _ _ _ _)
      | (with_reducible exact LeO.refl _)
      | (with_reducible exact LeO.none _)
      | (with_reducible refine LeO.ite ?_ ?_)
      | (with_reducible refine LeO.bind ?_ (fun _ => ?_))
      | exact ih0 _ _ _
      | exact ih1 _ _ _ _
      | exact ih2 _ _ _ _
      | exact ih3 _ _ _
      | exact ih4 _ _ _ _
      | exact ih5 _ _ _ _
      | exact LeO.none _
      | refine LeO.ite ?_ ?_
      | refine LeO.bind ?_ (fun _ => ?_)
    · intro y0 y1 y2 y3
      unfold althingref04_first.j2
      repeat' first
      | (with_reducible exact ih0 _ _ _)
      | (with_reducible exact ih1 _ _ _ _)
      | (with_reducible exact ih2 _ _ _ _)
      | (with_reducible exact ih3 _ _ _)
      | (with_reducible exact ih4 _ _ _ _)
      | (with_reducible exact ih5 _ _ _ _)
      | (with_reducible exact LeO.refl _)
      | (with_reducible exact LeO.none _)
      | (with_reducible refine LeO.ite ?_ ?_)
      | (with_reducible refine LeO.bind ?_ (fun _ => ?_))
      | exact ih0 _ _ _
      | exact ih1 _ _ _ _
      | exact ih2 _ _ _ _
      | exact ih3 _ _ _
      | exact ih4 _ _ _ _
      | exact ih5 _ _ _ _
      | exact LeO.none _
      | refine LeO.ite ?_ ?_
      | refine LeO.bind ?_ (fun _ => ?_)
    · intro y0 y1 y2
      unfold althingref04_first.j3
      repeat' first
      | (with_reducible exact ih0 _ _ _)
      | (with_reducible exact ih1 _ _ _ _)
      | (with_reducible exact ih2 _ _ _ _)
      | (with_reducible exact ih3 _ _ _)
      | (with_reducible exact ih4 _ _ _ _)
      | (with_reducible exact ih5 _ _ _ _)
      | (with_reducible exact LeO.refl _)
      | (with_reducible exact LeO.none _)
      | (with_reducible refine LeO.ite ?_ ?_)
      | (with_reducible refine LeO.bind ?_ (fun _ => ?_))
      | exact ih0 _ _ _
      | exact ih1 _ _ _ _
      | exact ih2 _ _ _ _
      | exact ih3 _ _ _
      | exact ih4 _ _ _ _
      | exact ih5 _ _ _ _
      | exact LeO.none _
      | refine LeO.ite ?_ ?_
      | refine LeO.bind ?_ (fun _ => ?_)
    · intro y0 y1 y2 y3
      unfold althingref04_first.j4
      repeat' first
      | (with_reducible exact ih0 _ _ _)
      | (with_reducible exact ih1 _ _ _ _)
      | (with_reducible exact ih2 _ _ _ _)
      | (with_reducible exact ih3 _ _ _)
      | (with_reducible exact ih4 _ _ _ _)
      | (with_reducible exact ih5 _ _ _ _)
      | (with_reducible exact LeO.refl _)
      | (with_reducible exact LeO.none _)
      | (with_reducible refine LeO.ite ?_ ?_)
      | (with_reducible refine LeO.bind ?_ (fun _ => ?_))
      | exact ih0 _ _ _
      | exact ih1 _ _ _ _
      | exact ih2 _ _ _ _
      | exact ih3 _ _ _
      | exact ih4 _ _ _ _
      | exact ih5 _ _ _ _
      | exact LeO.none _
      | refine LeO.ite ?_ ?_
      | refine LeO.bind ?_ (fun _ => ?_)
    · intro y0 y1 y2 y3
      unfold althingref04_first.j5
      repeat' first
      | (with_reducible exact ih0 _ _ _)
      | (with_reducible exact ih1 _ _ _ _)
      | (with_reducible exact ih2 _ _ _ _)
      | (with_reducible exact ih3 _ _ _)
      | (with_reducible exact ih4 _ _ _ _)
      | (with_reducible exact ih5 _ _ _ _)
      | (with_reducible exact LeO.refl _)
      | (with_reducible exact LeO.none _)
      | (with_reducible refine LeO.ite ?_ ?_)
      | (with_reducible refine LeO.bind ?_ (fun _ => ?_))
      | exact ih0 _ _ _
      | exact ih1 _ _ _ _
      | exact ih2 _ _ _ _
      | exact ih3 _ _ _
      | exact ih4 _ _ _ _
      | exact ih5 _ _ _ _
      | exact LeO.none _
      | refine LeO.ite ?_ ?_
      | refine LeO.bind ?_ (fun _ => ?_)
theorem althingref04_first.mono : ∀ a0 k, LeO (althingref04_first.f k a0) (althingref04_first.f (k + 1) a0) := by
  intro a0 k
  obtain ⟨ih0, ih1, ih2, ih3, ih4, ih5⟩ := althingref04_first.mono_l k
  unfold althingref04_first.f
  repeat' first
      | (with_reducible exact ih0 _ _ _)
      | (with_reducible exact ih1 _ _ _ _)
      | (with_reducible exact ih2 _ _ _ _)
      | (with_reducible exact ih3 _ _ _)
      | (with_reducible exact ih4 _ _ _ _)
      | (with_reducible exact ih5 _ _ _ _)
      | (with_reducible exact LeO.refl _)
      | (with_reducible exact LeO.none _)
      | (with_reducible refine LeO.ite ?_ ?_)
      | (with_reducible refine LeO.bind ?_ (fun _ => ?_))
      | exact ih0 _ _ _
      | exact ih1 _ _ _ _
      | exact ih2 _ _ _ _
      | exact ih3 _ _ _
      | exact ih4 _ _ _ _
      | exact ih5 _ _ _ _
      | exact LeO.none _
      | refine LeO.ite ?_ ?_
      | refine LeO.bind ?_ (fun _ => ?_)
set_option maxHeartbeats 8000000 in
set_option maxRecDepth 100000 in
theorem althingref04_first.calls (k : Nat) (a0 : ByteArray) (r1 : Int) (r2 : Int) (w : World) (h : althingref04_first.f k a0 = some (r1, r2)) :
    Calls Try.prog 71 #[.string a0] w fun e w' => e = .returned (.tuple #[.int .i64 r1, .int .i64 r2]) ∧ Drawn0 w w' := by
  have H : (if 0 < (a0.size : Int) then (if (wrap64 (bt a0 0)) < 128 then (some (wrap64 (bt a0 0), 1)) else (if (wrap64 (bt a0 0)) ≥ 194 then (if (wrap64 (bt a0 0)) ≤ 223 then ((althingref04_tail.f a0 1 128 191).bind fun t102 => (althingref04_first.j0 k a0 (wrap64 (bt a0 0)) t102)) else (althingref04_first.j0 k a0 (wrap64 (bt a0 0)) false)) else (althingref04_first.j0 k a0 (wrap64 (bt a0 0)) false))) else (none)) = some (r1, r2) := h
  clear h
  by_cases c2 : 0 < (a0.size : Int)
  · rw [if_pos c2] at H
    have c2b0 : decide (0 < (a0.size : Int)) = true := decide_eq_true c2
    have c2b1 : decide (0 < a0.size) = true := decide_eq_true (by omega)
    clear c2
    by_cases c4 : (wrap64 (bt a0 0)) < 128
    · rw [if_pos c4] at H
      have c4b0 : decide ((wrap64 (bt a0 0)) < 128) = true := decide_eq_true c4
      clear c4
      simp only [Option.some.injEq, Prod.mk.injEq] at H
      obtain ⟨rfl, rfl⟩ := H
      have p3 : 0 ≤ (0 : Int) := (by omega)
      have q3 : 0 < a0.size := (by have : (0 : Int) < (a0.size : Int) := of_decide_eq_true (by first | (with_reducible assumption) | assumption); omega)
      have hx3 : ∀ h : 0 < a0.size, ((a0[0]'h).toNat : Int) = bt a0 0 := bt_at a0 0
      clear p3
      have qi3 : (0 < (a0.size : Int)) = True := eq_true (of_decide_eq_true (by first | (with_reducible assumption) | assumption))
      replace q3 := eq_true q3
      go_enter Try.func71, Try.ntmps71
      go_wp2
      repeat (go_quiet (fail); try go_wp2)
      go_ret2
      exact ⟨by first | rfl | (simp; done) | (simp [*]; done), by repeat (first | exact Drawn0.refl _ | apply Drawn0.step)⟩
    · rw [if_neg c4] at H
      have c4b0 : decide ((wrap64 (bt a0 0)) < 128) = false := decide_eq_false c4
      clear c4
      have HC5 := Aside0.mk H
      clear H
      have p3 : 0 ≤ (0 : Int) := (by omega)
      have q3 : 0 < a0.size := (by have : (0 : Int) < (a0.size : Int) := of_decide_eq_true (by first | (with_reducible assumption) | assumption); omega)
      have hx3 : ∀ h : 0 < a0.size, ((a0[0]'h).toNat : Int) = bt a0 0 := bt_at a0 0
      clear p3
      have qi3 : (0 < (a0.size : Int)) = True := eq_true (of_decide_eq_true (by first | (with_reducible assumption) | assumption))
      replace q3 := eq_true q3
      go_enter Try.func71, Try.ntmps71
      go_upto_region 4 with (fail)
      repeat (go_quiet (fail); go_upto_region 4 with (fail))
      go_cut [22] (fun v22 wc => ∃ (kq : Nat) (x22_4 : Bool), v22 = .bool x22_4 ∧ Aside0 (althingref04_first.j0 kq a0 (wrap64 (bt a0 0)) x22_4 = some (r1, r2)) ∧ Aside0 (kq ≤ k) ∧ Drawn0 w wc)
      case first =>
        have H := HC5.out
        clear HC5
        by_cases c6 : (wrap64 (bt a0 0)) ≥ 194
        · rw [if_pos c6] at H
          have c6b0 : decide (194 ≤ (wrap64 (bt a0 0))) = true := decide_eq_true c6
          clear c6
          (first | rw [c6b0] | (simp only [i64_w, i32_w]; rw [c6b0]) | skip)
          by_cases c7 : (wrap64 (bt a0 0)) ≤ 223
          · rw [if_pos c7] at H
            have c7b0 : decide ((wrap64 (bt a0 0)) ≤ 223) = true := decide_eq_true c7
            clear c7
            replace H := Option.bind_eq_some_iff.mp H
            obtain ⟨t102, A80, H⟩ := H
            replace H : (althingref04_first.j0 k a0 (wrap64 (bt a0 0)) t102) = some (r1, r2) := H
            have A8 := Aside0.mk A80
            clear A80
            have H' := Aside0.mk H
            clear H
            go_wp2_with (first | (go_at_call 100; (with_reducible refine (althingref04_tail.calls a0 1 128 191 t102 _ A8.out).mono ?_); rintro e w' ⟨rfl, ⟨nd, rfl⟩⟩; (try first | exact ⟨rfl, _, World.drewN_drewN _ _ _⟩ | exact ⟨rfl, _, Eq.trans (World.drewN_drewN _ _ _) (congrArg (World.drewN _) (Nat.add_assoc _ _ _))⟩)))
            repeat (go_quiet (first | (go_at_call 100; (with_reducible refine (althingref04_tail.calls a0 1 128 191 t102 _ A8.out).mono ?_); rintro e w' ⟨rfl, ⟨nd, rfl⟩⟩; (try first | exact ⟨rfl, _, World.drewN_drewN _ _ _⟩ | exact ⟨rfl, _, Eq.trans (World.drewN_drewN _ _ _) (congrArg (World.drewN _) (Nat.add_assoc _ _ _))⟩))); try go_wp2_with (first | (go_at_call 100; (with_reducible refine (althingref04_tail.calls a0 1 128 191 t102 _ A8.out).mono ?_); rintro e w' ⟨rfl, ⟨nd, rfl⟩⟩; (try first | exact ⟨rfl, _, World.drewN_drewN _ _ _⟩ | exact ⟨rfl, _, Eq.trans (World.drewN_drewN _ _ _) (congrArg (World.drewN _) (Nat.add_assoc _ _ _))⟩))))
            go_meet
            case rel => exact ⟨_, (t102), (by first | rfl | (simp; done) | (simp [*]; done)), H', ⟨by first | omega | exact Nat.le_refl _⟩, by repeat (first | exact Drawn0.refl _ | apply Drawn0.step)⟩
          · rw [if_neg c7] at H
            have c7b0 : decide ((wrap64 (bt a0 0)) ≤ 223) = false := decide_eq_false c7
            clear c7
            have H' := Aside0.mk H
            clear H
            go_wp2
            repeat (go_quiet (fail); try go_wp2)
            go_meet
            case rel => exact ⟨_, (false), (by first | rfl | (simp; done) | (simp [*]; done)), H', ⟨by first | omega | exact Nat.le_refl _⟩, by repeat (first | exact Drawn0.refl _ | apply Drawn0.step)⟩
        · rw [if_neg c6] at H
          have c6b0 : decide (194 ≤ (wrap64 (bt a0 0))) = false := decide_eq_false c6
          clear c6
          (first | rw [c6b0] | (simp only [i64_w, i32_w]; rw [c6b0]) | skip)
          have H' := Aside0.mk H
          clear H
          go_wp2
          repeat (go_quiet (fail); try go_wp2)
          go_meet
          case rel => exact ⟨_, (false), (by first | rfl | (simp; done) | (simp [*]; done)), H', ⟨by first | omega | exact Nat.le_refl _⟩, by repeat (first | exact Drawn0.refl _ | apply Drawn0.step)⟩
      case rest =>
        clear HC5
        try clear c2
        try clear c2b0
        try clear c2b1
        try clear p2
        try clear p3
        try clear q3
        try clear hx3
        try clear qi3
        try clear c4
        try clear c4b0
        try clear c6
        try clear c6b0
        try clear p6
        try clear c7
        try clear c7b0
        try clear p3
        try clear q3
        obtain ⟨kq, x22_4, rfl, HA, HJ4, ⟨mc4, rfl⟩⟩ := hcut
        cases kq with
        | zero => exact absurd HA.out (by simp [althingref04_first.j0])
        | succ kj4 =>
          have H := HA.out
          clear HA
          simp only [althingref04_first.j0] at H
          by_cases c9 : x22_4 = true
          · subst c9
            have H1 : (if 1 < (a0.size : Int) then (some (wrap64 ((wrap64 ((wrap64 ((wrap64 ((wrap64 (bt a0 0)) - 192)) * 64)) + (wrap64 (bt a0 1)))) - 128), 2)) else (none)) = some (r1, r2) := by rw [if_pos rfl] at H; exact H
            clear H
            have H := H1
            clear H1
            by_cases c10 : 1 < (a0.size : Int)
            · rw [if_pos c10] at H
              have c10b0 : decide (1 < (a0.size : Int)) = true := decide_eq_true c10
              have c10b1 : decide (1 < a0.size) = true := decide_eq_true (by omega)
              clear c10
              simp only [Option.some.injEq, Prod.mk.injEq] at H
              obtain ⟨rfl, rfl⟩ := H
              have p11 : 0 ≤ (1 : Int) := (by omega)
              have q11 : 1 < a0.size := (by have : (1 : Int) < (a0.size : Int) := of_decide_eq_true (by first | (with_reducible assumption) | assumption); omega)
              have hx11 : ∀ h : 1 < a0.size, ((a0[1]'h).toNat : Int) = bt a0 1 := bt_at a0 1
              clear p11
              have qi11 : (1 < (a0.size : Int)) = True := eq_true (of_decide_eq_true (by first | (with_reducible assumption) | assumption))
              replace q11 := eq_true q11
              go_wp2
              repeat (go_quiet (fail); try go_wp2)
              go_ret2
              exact ⟨by first | rfl | (simp; done) | (simp [*]; done), by repeat (first | exact Drawn0.refl _ | apply Drawn0.step)⟩
            · rw [if_neg c10] at H
              exact absurd H (by simp)
          · replace c9 := Bool.eq_false_iff.mpr c9
            subst c9
            have H1 : (if (wrap64 (bt a0 0)) = 224 then (althingref04_first.j1 kj4 a0 (wrap64 (bt a0 0)) 160 191) else (althingref04_first.j1 kj4 a0 (wrap64 (bt a0 0)) 128 191)) = some (r1, r2) := by rw [if_neg (show ¬ (false = true) by decide)] at H; exact H
            clear H
            have H := H1
            clear H1
            have HC12 := Aside0.mk H
            clear H
            go_upto_if 32 with (fail)
            repeat (go_quiet (fail); go_upto_if 32 with (fail))
            go_cut [5] (fun v5 wc => ∃ (kq : Nat) (x5_11 : Int), v5 = .int .i64 x5_11 ∧ Aside0 (althingref04_first.j1 kq a0 (wrap64 (bt a0 0)) x5_11 191 = some (r1, r2)) ∧ Aside0 (kq ≤ kj4) ∧ Drawn0 w wc)
            case first =>
              have H := HC12.out
              clear HC12
              by_cases c13 : (wrap64 (bt a0 0)) = 224
              · rw [if_pos c13] at H
                have c13b0 : ((wrap64 (bt a0 0)) == 224) = true := beq_iff_eq.mpr c13
                have c13b1 : ((wrap64 (bt a0 0)) != 224) = false := bne_eq_false_iff_eq.mpr c13
                clear c13
                (first | rw [c13b0] | (simp only [i64_w, i32_w]; rw [c13b0]) | skip)
                have H' := Aside0.mk H
                clear H
                go_wp2
                repeat (go_quiet (fail); try go_wp2)
                go_meet
                case rel => exact ⟨_, (160), (by first | rfl | (simp; done) | (simp [*]; done)), H', ⟨by have := HJ4.out; first | omega | exact Nat.le_refl _⟩, by repeat (first | exact Drawn0.refl _ | apply Drawn0.step)⟩
              · rw [if_neg c13] at H
                have c13b0 : ((wrap64 (bt a0 0)) == 224) = false := beq_eq_false_iff_ne.mpr c13
                have c13b1 : ((wrap64 (bt a0 0)) != 224) = true := bne_iff_ne.mpr c13
                (first | rw [c13b0] | (simp only [i64_w, i32_w]; rw [c13b0]) | skip)
                have H' := Aside0.mk H
                clear H
                go_wp2
                repeat (go_quiet (fail); try go_wp2)
                go_meet
                case rel => exact ⟨_, (128), (by first | rfl | (simp; done) | (simp [*]; done)), H', ⟨by have := HJ4.out; first | omega | exact Nat.le_refl _⟩, by repeat (first | exact Drawn0.refl _ | apply Drawn0.step)⟩
            case rest =>
              clear HC12
              try clear c1
              try clear p1
              try clear q1
              try clear hx1
              try clear qi1
              try clear c2
              try clear c2b0
              try clear c2b1
              try clear p2
              try clear p3
              try clear q3
              try clear hx3
              try clear qi3
              try clear c4
              try clear c4b0
              try clear c6
              try clear c6b0
              try clear p6
              try clear c7
              try clear c7b0
              try clear c9
              try clear c10
              try clear c10b0
              try clear c10b1
              try clear p11
              try clear q11
              try clear hx11
              try clear qi11
              try clear c13
              try clear c13b0
              try clear c13b1
              try clear p11
              try clear p2
              try clear p3
              try clear p6
              try clear q11
              try clear q3
              obtain ⟨kq, x5_11, rfl, HA, HJ11, ⟨mc11, rfl⟩⟩ := hcut
              cases kq with
              | zero => exact absurd HA.out (by simp [althingref04_first.j1])
              | succ kj11 =>
                have H := HA.out
                clear HA
                simp only [althingref04_first.j1] at H
                have HC14 := Aside0.mk H
                clear H
                go_upto_if 34 with (fail)
                repeat (go_quiet (fail); go_upto_if 34 with (fail))
                go_cut [6] (fun v6 wc => ∃ (kq : Nat) (x6_13 : Int), v6 = .int .i64 x6_13 ∧ Aside0 (althingref04_first.j2 kq a0 (wrap64 (bt a0 0)) x5_11 x6_13 = some (r1, r2)) ∧ Aside0 (kq ≤ kj11) ∧ Drawn0 w wc)
                case first =>
                  have H := HC14.out
                  clear HC14
                  by_cases c15 : (wrap64 (bt a0 0)) = 237
                  · rw [if_pos c15] at H
                    have c15b0 : ((wrap64 (bt a0 0)) == 237) = true := beq_iff_eq.mpr c15
                    have c15b1 : ((wrap64 (bt a0 0)) != 237) = false := bne_eq_false_iff_eq.mpr c15
                    clear c15
                    (first | rw [c15b0] | (simp only [i64_w, i32_w]; rw [c15b0]) | skip)
                    have H' := Aside0.mk H
                    clear H
                    go_wp2
                    repeat (go_quiet (fail); try go_wp2)
                    go_meet
                    case rel => exact ⟨_, (159), (by first | rfl | (simp; done) | (simp [*]; done)), H', ⟨by have := HJ4.out; have := HJ11.out; first | omega | exact Nat.le_refl _⟩, by repeat (first | exact Drawn0.refl _ | apply Drawn0.step)⟩
                  · rw [if_neg c15] at H
                    have c15b0 : ((wrap64 (bt a0 0)) == 237) = false := beq_eq_false_iff_ne.mpr c15
                    have c15b1 : ((wrap64 (bt a0 0)) != 237) = true := bne_iff_ne.mpr c15
                    (first | rw [c15b0] | (simp only [i64_w, i32_w]; rw [c15b0]) | skip)
                    have H' := Aside0.mk H
                    clear H
                    go_wp2
                    repeat (go_quiet (fail); try go_wp2)
                    go_meet
                    case rel => exact ⟨_, (191), (by first | rfl | (simp; done) | (simp [*]; done)), H', ⟨by have := HJ4.out; have := HJ11.out; first | omega | exact Nat.le_refl _⟩, by repeat (first | exact Drawn0.refl _ | apply Drawn0.step)⟩
                case rest =>
                  clear HC14
                  try clear c1
                  try clear p1
                  try clear q1
                  try clear hx1
                  try clear qi1
                  try clear c2
                  try clear c2b0
                  try clear c2b1
                  try clear p2
                  try clear p3
                  try clear q3
                  try clear hx3
                  try clear qi3
                  try clear c4
                  try clear c4b0
                  try clear c6
                  try clear c6b0
                  try clear p6
                  try clear c7
                  try clear c7b0
                  try clear c9
                  try clear c10
                  try clear c10b0
                  try clear c10b1
                  try clear c11
                  try clear p11
                  try clear q11
                  try clear hx11
                  try clear qi11
                  try clear c13
                  try clear c13b0
                  try clear c13b1
                  try clear c15
                  try clear c15b0
                  try clear c15b1
                  try clear p1
                  try clear p11
                  try clear p2
                  try clear p3
                  try clear p6
                  try clear q1
                  try clear q11
                  try clear q3
                  obtain ⟨kq, x6_13, rfl, HA, HJ13, ⟨mc13, rfl⟩⟩ := hcut
                  cases kq with
                  | zero => exact absurd HA.out (by simp [althingref04_first.j2])
                  | succ kj13 =>
                    have H := HA.out
                    clear HA
                    simp only [althingref04_first.j2] at H
                    have HC16 := Aside0.mk H
                    clear H
                    go_upto_region 12 with (fail)
                    repeat (go_quiet (fail); go_upto_region 12 with (fail))
                    go_cut [50] (fun v50 wc => ∃ (kq : Nat) (x50_15 : Bool), v50 = .bool x50_15 ∧ Aside0 (althingref04_first.j3 kq a0 (wrap64 (bt a0 0)) x50_15 = some (r1, r2)) ∧ Aside0 (kq ≤ kj13) ∧ Drawn0 w wc)
                    case first =>
                      have H := HC16.out
                      clear HC16
                      by_cases c17 : (wrap64 (bt a0 0)) ≥ 224
                      · rw [if_pos c17] at H
                        have c17b0 : decide (224 ≤ (wrap64 (bt a0 0))) = true := decide_eq_true c17
                        clear c17
                        (first | rw [c17b0] | (simp only [i64_w, i32_w]; rw [c17b0]) | skip)
                        by_cases c18 : (wrap64 (bt a0 0)) ≤ 239
                        · rw [if_pos c18] at H
                          have c18b0 : decide ((wrap64 (bt a0 0)) ≤ 239) = true := decide_eq_true c18
                          clear c18
                          replace H := Option.bind_eq_some_iff.mp H
                          obtain ⟨t103, A190, H⟩ := H
                          replace H : (if t103 = true then ((althingref04_tail.f a0 2 128 191).bind fun t104 => (althingref04_first.j3 kj13 a0 (wrap64 (bt a0 0)) t104)) else (althingref04_first.j3 kj13 a0 (wrap64 (bt a0 0)) false)) = some (r1, r2) := H
                          have A19 := Aside0.mk A190
                          clear A190
                          by_cases c20 : t103 = true
                          · subst c20
                            have H1 : ((althingref04_tail.f a0 2 128 191).bind fun t104 => (althingref04_first.j3 kj13 a0 (wrap64 (bt a0 0)) t104)) = some (r1, r2) := by rw [if_pos rfl] at H; exact H
                            clear H
                            have H := H1
                            clear H1
                            replace H := Option.bind_eq_some_iff.mp H
                            obtain ⟨t104, A210, H⟩ := H
                            replace H : (althingref04_first.j3 kj13 a0 (wrap64 (bt a0 0)) t104) = some (r1, r2) := H
                            have A21 := Aside0.mk A210
                            clear A210
                            have H' := Aside0.mk H
                            clear H
                            go_wp2_with (first | (go_at_call 100; (with_reducible refine (althingref04_tail.calls a0 1 x5_11 x6_13 true _ A19.out).mono ?_); rintro e w' ⟨rfl, ⟨nd, rfl⟩⟩; (try first | exact ⟨rfl, _, World.drewN_drewN _ _ _⟩ | exact ⟨rfl, _, Eq.trans (World.drewN_drewN _ _ _) (congrArg (World.drewN _) (Nat.add_assoc _ _ _))⟩)) | (go_at_call 100; (with_reducible refine (althingref04_tail.calls a0 2 128 191 t104 _ A21.out).mono ?_); rintro e w' ⟨rfl, ⟨nd, rfl⟩⟩; (try first | exact ⟨rfl, _, World.drewN_drewN _ _ _⟩ | exact ⟨rfl, _, Eq.trans (World.drewN_drewN _ _ _) (congrArg (World.drewN _) (Nat.add_assoc _ _ _))⟩)))
                            repeat (go_quiet (first | (go_at_call 100; (with_reducible refine (althingref04_tail.calls a0 1 x5_11 x6_13 true _ A19.out).mono ?_); rintro e w' ⟨rfl, ⟨nd, rfl⟩⟩; (try first | exact ⟨rfl, _, World.drewN_drewN _ _ _⟩ | exact ⟨rfl, _, Eq.trans (World.drewN_drewN _ _ _) (congrArg (World.drewN _) (Nat.add_assoc _ _ _))⟩)) | (go_at_call 100; (with_reducible refine (althingref04_tail.calls a0 2 128 191 t104 _ A21.out).mono ?_); rintro e w' ⟨rfl, ⟨nd, rfl⟩⟩; (try first | exact ⟨rfl, _, World.drewN_drewN _ _ _⟩ | exact ⟨rfl, _, Eq.trans (World.drewN_drewN _ _ _) (congrArg (World.drewN _) (Nat.add_assoc _ _ _))⟩))); try go_wp2_with (first | (go_at_call 100; (with_reducible refine (althingref04_tail.calls a0 1 x5_11 x6_13 true _ A19.out).mono ?_); rintro e w' ⟨rfl, ⟨nd, rfl⟩⟩; (try first | exact ⟨rfl, _, World.drewN_drewN _ _ _⟩ | exact ⟨rfl, _, Eq.trans (World.drewN_drewN _ _ _) (congrArg (World.drewN _) (Nat.add_assoc _ _ _))⟩)) | (go_at_call 100; (with_reducible refine (althingref04_tail.calls a0 2 128 191 t104 _ A21.out).mono ?_); rintro e w' ⟨rfl, ⟨nd, rfl⟩⟩; (try first | exact ⟨rfl, _, World.drewN_drewN _ _ _⟩ | exact ⟨rfl, _, Eq.trans (World.drewN_drewN _ _ _) (congrArg (World.drewN _) (Nat.add_assoc _ _ _))⟩))))
                            go_meet
                            case rel => exact ⟨_, (t104), (by first | rfl | (simp; done) | (simp [*]; done)), H', ⟨by have := HJ4.out; have := HJ11.out; have := HJ13.out; first | omega | exact Nat.le_refl _⟩, by repeat (first | exact Drawn0.refl _ | apply Drawn0.step)⟩
                          · replace c20 := Bool.eq_false_iff.mpr c20
                            subst c20
                            have H1 : (althingref04_first.j3 kj13 a0 (wrap64 (bt a0 0)) false) = some (r1, r2) := by rw [if_neg (show ¬ (false = true) by decide)] at H; exact H
                            clear H
                            have H := H1
                            clear H1
                            have H' := Aside0.mk H
                            clear H
                            go_wp2_with (first | (go_at_call 100; (with_reducible refine (althingref04_tail.calls a0 1 x5_11 x6_13 false _ A19.out).mono ?_); rintro e w' ⟨rfl, ⟨nd, rfl⟩⟩; (try first | exact ⟨rfl, _, World.drewN_drewN _ _ _⟩ | exact ⟨rfl, _, Eq.trans (World.drewN_drewN _ _ _) (congrArg (World.drewN _) (Nat.add_assoc _ _ _))⟩)))
                            repeat (go_quiet (first | (go_at_call 100; (with_reducible refine (althingref04_tail.calls a0 1 x5_11 x6_13 false _ A19.out).mono ?_); rintro e w' ⟨rfl, ⟨nd, rfl⟩⟩; (try first | exact ⟨rfl, _, World.drewN_drewN _ _ _⟩ | exact ⟨rfl, _, Eq.trans (World.drewN_drewN _ _ _) (congrArg (World.drewN _) (Nat.add_assoc _ _ _))⟩))); try go_wp2_with (first | (go_at_call 100; (with_reducible refine (althingref04_tail.calls a0 1 x5_11 x6_13 false _ A19.out).mono ?_); rintro e w' ⟨rfl, ⟨nd, rfl⟩⟩; (try first | exact ⟨rfl, _, World.drewN_drewN _ _ _⟩ | exact ⟨rfl, _, Eq.trans (World.drewN_drewN _ _ _) (congrArg (World.drewN _) (Nat.add_assoc _ _ _))⟩))))
                            go_meet
                            case rel => exact ⟨_, (false), (by first | rfl | (simp; done) | (simp [*]; done)), H', ⟨by have := HJ4.out; have := HJ11.out; have := HJ13.out; first | omega | exact Nat.le_refl _⟩, by repeat (first | exact Drawn0.refl _ | apply Drawn0.step)⟩
                        · rw [if_neg c18] at H
                          have c18b0 : decide ((wrap64 (bt a0 0)) ≤ 239) = false := decide_eq_false c18
                          clear c18
                          have H' := Aside0.mk H
                          clear H
                          go_wp2
                          repeat (go_quiet (fail); try go_wp2)
                          go_meet
                          case rel => exact ⟨_, (false), (by first | rfl | (simp; done) | (simp [*]; done)), H', ⟨by have := HJ4.out; have := HJ11.out; have := HJ13.out; first | omega | exact Nat.le_refl _⟩, by repeat (first | exact Drawn0.refl _ | apply Drawn0.step)⟩
                      · rw [if_neg c17] at H
                        have c17b0 : decide (224 ≤ (wrap64 (bt a0 0))) = false := decide_eq_false c17
                        clear c17
                        (first | rw [c17b0] | (simp only [i64_w, i32_w]; rw [c17b0]) | skip)
                        have H' := Aside0.mk H
                        clear H
                        go_wp2
                        repeat (go_quiet (fail); try go_wp2)
                        go_meet
                        case rel => exact ⟨_, (false), (by first | rfl | (simp; done) | (simp [*]; done)), H', ⟨by have := HJ4.out; have := HJ11.out; have := HJ13.out; first | omega | exact Nat.le_refl _⟩, by repeat (first | exact Drawn0.refl _ | apply Drawn0.step)⟩
                    case rest =>
                      clear HC16
                      try clear c1
                      try clear p1
                      try clear q1
                      try clear hx1
                      try clear qi1
                      try clear c2
                      try clear c2b0
                      try clear c2b1
                      try clear p2
                      try clear p3
                      try clear q3
                      try clear hx3
                      try clear qi3
                      try clear c4
                      try clear c4b0
                      try clear c6
                      try clear c6b0
                      try clear p6
                      try clear c7
                      try clear c7b0
                      try clear c9
                      try clear c10
                      try clear c10b0
                      try clear c10b1
                      try clear c11
                      try clear p11
                      try clear q11
                      try clear hx11
                      try clear qi11
                      try clear c13
                      try clear c13b0
                      try clear c13b1
                      try clear c15
                      try clear c15b0
                      try clear c15b1
                      try clear c17
                      try clear c17b0
                      try clear c18
                      try clear c18b0
                      try clear c20
                      try clear p1
                      try clear p11
                      try clear p2
                      try clear p3
                      try clear p6
                      try clear q1
                      try clear q11
                      try clear q3
                      obtain ⟨kq, x50_15, rfl, HA, HJ15, ⟨mc15, rfl⟩⟩ := hcut
                      cases kq with
                      | zero => exact absurd HA.out (by simp [althingref04_first.j3])
                      | succ kj15 =>
                        have H := HA.out
                        clear HA
                        simp only [althingref04_first.j3] at H
                        by_cases c22 : x50_15 = true
                        · subst c22
                          have H1 : (if 1 < (a0.size : Int) then (if 2 < (a0.size : Int) then (some (wrap64 ((wrap64 ((wrap64 ((wrap64 ((wrap64 ((wrap64 (bt a0 0)) - 224)) * 4096)) + (wrap64 ((wrap64 ((wrap64 (bt a0 1)) - 128)) * 64)))) + (wrap64 (bt a0 2)))) - 128), 3)) else (none)) else (none)) = some (r1, r2) := by rw [if_pos rfl] at H; exact H
                          clear H
                          have H := H1
                          clear H1
                          by_cases c23 : 1 < (a0.size : Int)
                          · rw [if_pos c23] at H
                            have c23b0 : decide (1 < (a0.size : Int)) = true := decide_eq_true c23
                            have c23b1 : decide (1 < a0.size) = true := decide_eq_true (by omega)
                            clear c23
                            by_cases c25 : 2 < (a0.size : Int)
                            · rw [if_pos c25] at H
                              have c25b0 : decide (2 < (a0.size : Int)) = true := decide_eq_true c25
                              have c25b1 : decide (2 < a0.size) = true := decide_eq_true (by omega)
                              clear c25
                              simp only [Option.some.injEq, Prod.mk.injEq] at H
                              obtain ⟨rfl, rfl⟩ := H
                              have p24 : 0 ≤ (1 : Int) := (by omega)
                              have q24 : 1 < a0.size := (by have : (1 : Int) < (a0.size : Int) := of_decide_eq_true (by first | (with_reducible assumption) | assumption); omega)
                              have hx24 : ∀ h : 1 < a0.size, ((a0[1]'h).toNat : Int) = bt a0 1 := bt_at a0 1
                              clear p24
                              have qi24 : (1 < (a0.size : Int)) = True := eq_true (of_decide_eq_true (by first | (with_reducible assumption) | assumption))
                              replace q24 := eq_true q24
                              have p26 : 0 ≤ (2 : Int) := (by omega)
                              have q26 : 2 < a0.size := (by have : (2 : Int) < (a0.size : Int) := of_decide_eq_true (by first | (with_reducible assumption) | assumption); omega)
                              have hx26 : ∀ h : 2 < a0.size, ((a0[2]'h).toNat : Int) = bt a0 2 := bt_at a0 2
                              clear p26
                              have qi26 : (2 < (a0.size : Int)) = True := eq_true (of_decide_eq_true (by first | (with_reducible assumption) | assumption))
                              replace q26 := eq_true q26
                              go_wp2
                              repeat (go_quiet (fail); try go_wp2)
                              go_ret2
                              exact ⟨by first | rfl | (simp; done) | (simp [*]; done), by repeat (first | exact Drawn0.refl _ | apply Drawn0.step)⟩
                            · rw [if_neg c25] at H
                              exact absurd H (by simp)
                          · rw [if_neg c23] at H
                            exact absurd H (by simp)
                        · replace c22 := Bool.eq_false_iff.mpr c22
                          subst c22
                          have H1 : (if (wrap64 (bt a0 0)) = 240 then (althingref04_first.j4 kj15 a0 (wrap64 (bt a0 0)) 144 191) else (althingref04_first.j4 kj15 a0 (wrap64 (bt a0 0)) 128 191)) = some (r1, r2) := by rw [if_neg (show ¬ (false = true) by decide)] at H; exact H
                          clear H
                          have H := H1
                          clear H1
                          have HC27 := Aside0.mk H
                          clear H
                          go_upto_if 66 with (fail)
                          repeat (go_quiet (fail); go_upto_if 66 with (fail))
                          go_cut [5] (fun v5 wc => ∃ (kq : Nat) (x5_26 : Int), v5 = .int .i64 x5_26 ∧ Aside0 (althingref04_first.j4 kq a0 (wrap64 (bt a0 0)) x5_26 191 = some (r1, r2)) ∧ Aside0 (kq ≤ kj15) ∧ Drawn0 w wc)
                          case first =>
                            have H := HC27.out
                            clear HC27
                            by_cases c28 : (wrap64 (bt a0 0)) = 240
                            · rw [if_pos c28] at H
                              have c28b0 : ((wrap64 (bt a0 0)) == 240) = true := beq_iff_eq.mpr c28
                              have c28b1 : ((wrap64 (bt a0 0)) != 240) = false := bne_eq_false_iff_eq.mpr c28
                              clear c28
                              (first | rw [c28b0] | (simp only [i64_w, i32_w]; rw [c28b0]) | skip)
                              have H' := Aside0.mk H
                              clear H
                              go_wp2
                              repeat (go_quiet (fail); try go_wp2)
                              go_meet
                              case rel => exact ⟨_, (144), (by first | rfl | (simp; done) | (simp [*]; done)), H', ⟨by have := HJ4.out; have := HJ11.out; have := HJ13.out; have := HJ15.out; first | omega | exact Nat.le_refl _⟩, by repeat (first | exact Drawn0.refl _ | apply Drawn0.step)⟩
                            · rw [if_neg c28] at H
                              have c28b0 : ((wrap64 (bt a0 0)) == 240) = false := beq_eq_false_iff_ne.mpr c28
                              have c28b1 : ((wrap64 (bt a0 0)) != 240) = true := bne_iff_ne.mpr c28
                              (first | rw [c28b0] | (simp only [i64_w, i32_w]; rw [c28b0]) | skip)
                              have H' := Aside0.mk H
                              clear H
                              go_wp2
                              repeat (go_quiet (fail); try go_wp2)
                              go_meet
                              case rel => exact ⟨_, (128), (by first | rfl | (simp; done) | (simp [*]; done)), H', ⟨by have := HJ4.out; have := HJ11.out; have := HJ13.out; have := HJ15.out; first | omega | exact Nat.le_refl _⟩, by repeat (first | exact Drawn0.refl _ | apply Drawn0.step)⟩
                          case rest =>
                            clear HC27
                            try clear c1
                            try clear p1
                            try clear q1
                            try clear hx1
                            try clear qi1
                            try clear c2
                            try clear c2b0
                            try clear c2b1
                            try clear p2
                            try clear q2
                            try clear hx2
                            try clear qi2
                            try clear p3
                            try clear q3
                            try clear hx3
                            try clear qi3
                            try clear c4
                            try clear c4b0
                            try clear c6
                            try clear c6b0
                            try clear p6
                            try clear c7
                            try clear c7b0
                            try clear c9
                            try clear c10
                            try clear c10b0
                            try clear c10b1
                            try clear c11
                            try clear p11
                            try clear q11
                            try clear hx11
                            try clear qi11
                            try clear c13
                            try clear c13b0
                            try clear c13b1
                            try clear c15
                            try clear c15b0
                            try clear c15b1
                            try clear c17
                            try clear c17b0
                            try clear c18
                            try clear c18b0
                            try clear c20
                            try clear c22
                            try clear c23
                            try clear c23b0
                            try clear c23b1
                            try clear p24
                            try clear q24
                            try clear hx24
                            try clear qi24
                            try clear c25
                            try clear c25b0
                            try clear c25b1
                            try clear p26
                            try clear q26
                            try clear hx26
                            try clear qi26
                            try clear c28
                            try clear c28b0
                            try clear c28b1
                            try clear p1
                            try clear p11
                            try clear p2
                            try clear p24
                            try clear p26
                            try clear p3
                            try clear p6
                            try clear q1
                            try clear q11
                            try clear q24
                            try clear q26
                            try clear q3
                            obtain ⟨kq, x5_26, rfl, HA, HJ26, ⟨mc26, rfl⟩⟩ := hcut
                            cases kq with
                            | zero => exact absurd HA.out (by simp [althingref04_first.j4])
                            | succ kj26 =>
                              have H := HA.out
                              clear HA
                              simp only [althingref04_first.j4] at H
                              have HC29 := Aside0.mk H
                              clear H
                              go_upto_if 68 with (fail)
                              repeat (go_quiet (fail); go_upto_if 68 with (fail))
                              go_cut [6] (fun v6 wc => ∃ (kq : Nat) (x6_28 : Int), v6 = .int .i64 x6_28 ∧ Aside0 (althingref04_first.j5 kq a0 (wrap64 (bt a0 0)) x5_26 x6_28 = some (r1, r2)) ∧ Aside0 (kq ≤ kj26) ∧ Drawn0 w wc)
                              case first =>
                                have H := HC29.out
                                clear HC29
                                by_cases c30 : (wrap64 (bt a0 0)) = 244
                                · rw [if_pos c30] at H
                                  have c30b0 : ((wrap64 (bt a0 0)) == 244) = true := beq_iff_eq.mpr c30
                                  have c30b1 : ((wrap64 (bt a0 0)) != 244) = false := bne_eq_false_iff_eq.mpr c30
                                  clear c30
                                  (first | rw [c30b0] | (simp only [i64_w, i32_w]; rw [c30b0]) | skip)
                                  have H' := Aside0.mk H
                                  clear H
                                  go_wp2
                                  repeat (go_quiet (fail); try go_wp2)
                                  go_meet
                                  case rel => exact ⟨_, (143), (by first | rfl | (simp; done) | (simp [*]; done)), H', ⟨by have := HJ4.out; have := HJ11.out; have := HJ13.out; have := HJ15.out; have := HJ26.out; first | omega | exact Nat.le_refl _⟩, by repeat (first | exact Drawn0.refl _ | apply Drawn0.step)⟩
                                · rw [if_neg c30] at H
                                  have c30b0 : ((wrap64 (bt a0 0)) == 244) = false := beq_eq_false_iff_ne.mpr c30
                                  have c30b1 : ((wrap64 (bt a0 0)) != 244) = true := bne_iff_ne.mpr c30
                                  (first | rw [c30b0] | (simp only [i64_w, i32_w]; rw [c30b0]) | skip)
                                  have H' := Aside0.mk H
                                  clear H
                                  go_wp2
                                  repeat (go_quiet (fail); try go_wp2)
                                  go_meet
                                  case rel => exact ⟨_, (191), (by first | rfl | (simp; done) | (simp [*]; done)), H', ⟨by have := HJ4.out; have := HJ11.out; have := HJ13.out; have := HJ15.out; have := HJ26.out; first | omega | exact Nat.le_refl _⟩, by repeat (first | exact Drawn0.refl _ | apply Drawn0.step)⟩
                              case rest =>
                                clear HC29
                                try clear c1
                                try clear p1
                                try clear q1
                                try clear hx1
                                try clear qi1
                                try clear c2
                                try clear c2b0
                                try clear c2b1
                                try clear p2
                                try clear q2
                                try clear hx2
                                try clear qi2
                                try clear c3
                                try clear p3
                                try clear q3
                                try clear hx3
                                try clear qi3
                                try clear c4
                                try clear c4b0
                                try clear c6
                                try clear c6b0
                                try clear p6
                                try clear c7
                                try clear c7b0
                                try clear c9
                                try clear c10
                                try clear c10b0
                                try clear c10b1
                                try clear c11
                                try clear p11
                                try clear q11
                                try clear hx11
                                try clear qi11
                                try clear c13
                                try clear c13b0
                                try clear c13b1
                                try clear c15
                                try clear c15b0
                                try clear c15b1
                                try clear c17
                                try clear c17b0
                                try clear c18
                                try clear c18b0
                                try clear c20
                                try clear c22
                                try clear c23
                                try clear c23b0
                                try clear c23b1
                                try clear p24
                                try clear q24
                                try clear hx24
                                try clear qi24
                                try clear c25
                                try clear c25b0
                                try clear c25b1
                                try clear c26
                                try clear p26
                                try clear q26
                                try clear hx26
                                try clear qi26
                                try clear c28
                                try clear c28b0
                                try clear c28b1
                                try clear c30
                                try clear c30b0
                                try clear c30b1
                                try clear p1
                                try clear p11
                                try clear p2
                                try clear p24
                                try clear p26
                                try clear p3
                                try clear p6
                                try clear q1
                                try clear q11
                                try clear q2
                                try clear q24
                                try clear q26
                                try clear q3
                                obtain ⟨kq, x6_28, rfl, HA, HJ28, ⟨mc28, rfl⟩⟩ := hcut
                                cases kq with
                                | zero => exact absurd HA.out (by simp [althingref04_first.j5])
                                | succ kj28 =>
                                  have H := HA.out
                                  clear HA
                                  simp only [althingref04_first.j5] at H
                                  by_cases c31 : (wrap64 (bt a0 0)) ≥ 240
                                  · rw [if_pos c31] at H
                                    have c31b0 : decide (240 ≤ (wrap64 (bt a0 0))) = true := decide_eq_true c31
                                    clear c31
                                    by_cases c32 : (wrap64 (bt a0 0)) ≤ 244
                                    · rw [if_pos c32] at H
                                      have c32b0 : decide ((wrap64 (bt a0 0)) ≤ 244) = true := decide_eq_true c32
                                      clear c32
                                      replace H := Option.bind_eq_some_iff.mp H
                                      obtain ⟨t105, A330, H⟩ := H
                                      replace H : (if t105 = true then ((althingref04_tail.f a0 2 128 191).bind fun t106 => (if t106 = true then ((althingref04_tail.f a0 3 128 191).bind fun t107 => (if t107 = true then (if 1 < (a0.size : Int) then (if 2 < (a0.size : Int) then (if 3 < (a0.size : Int) then (some (wrap64 ((wrap64 ((wrap64 ((wrap64 ((wrap64 ((wrap64 ((wrap64 (bt a0 0)) - 240)) * 262144)) + (wrap64 ((wrap64 ((wrap64 (bt a0 1)) - 128)) * 4096)))) + (wrap64 ((wrap64 ((wrap64 (bt a0 2)) - 128)) * 64)))) + (wrap64 (bt a0 3)))) - 128), 4)) else (none)) else (none)) else (none)) else (some (65533, 1)))) else (some (65533, 1)))) else (some (65533, 1))) = some (r1, r2) := H
                                      have A33 := Aside0.mk A330
                                      clear A330
                                      by_cases c34 : t105 = true
                                      · subst c34
                                        have H1 : ((althingref04_tail.f a0 2 128 191).bind fun t106 => (if t106 = true then ((althingref04_tail.f a0 3 128 191).bind fun t107 => (if t107 = true then (if 1 < (a0.size : Int) then (if 2 < (a0.size : Int) then (if 3 < (a0.size : Int) then (some (wrap64 ((wrap64 ((wrap64 ((wrap64 ((wrap64 ((wrap64 ((wrap64 (bt a0 0)) - 240)) * 262144)) + (wrap64 ((wrap64 ((wrap64 (bt a0 1)) - 128)) * 4096)))) + (wrap64 ((wrap64 ((wrap64 (bt a0 2)) - 128)) * 64)))) + (wrap64 (bt a0 3)))) - 128), 4)) else (none)) else (none)) else (none)) else (some (65533, 1)))) else (some (65533, 1)))) = some (r1, r2) := by rw [if_pos rfl] at H; exact H
                                        clear H
                                        have H := H1
                                        clear H1
                                        replace H := Option.bind_eq_some_iff.mp H
                                        obtain ⟨t106, A350, H⟩ := H
                                        replace H : (if t106 = true then ((althingref04_tail.f a0 3 128 191).bind fun t107 => (if t107 = true then (if 1 < (a0.size : Int) then (if 2 < (a0.size : Int) then (if 3 < (a0.size : Int) then (some (wrap64 ((wrap64 ((wrap64 ((wrap64 ((wrap64 ((wrap64 ((wrap64 (bt a0 0)) - 240)) * 262144)) + (wrap64 ((wrap64 ((wrap64 (bt a0 1)) - 128)) * 4096)))) + (wrap64 ((wrap64 ((wrap64 (bt a0 2)) - 128)) * 64)))) + (wrap64 (bt a0 3)))) - 128), 4)) else (none)) else (none)) else (none)) else (some (65533, 1)))) else (some (65533, 1))) = some (r1, r2) := H
                                        have A35 := Aside0.mk A350
                                        clear A350
                                        by_cases c36 : t106 = true
                                        · subst c36
                                          have H1 : ((althingref04_tail.f a0 3 128 191).bind fun t107 => (if t107 = true then (if 1 < (a0.size : Int) then (if 2 < (a0.size : Int) then (if 3 < (a0.size : Int) then (some (wrap64 ((wrap64 ((wrap64 ((wrap64 ((wrap64 ((wrap64 ((wrap64 (bt a0 0)) - 240)) * 262144)) + (wrap64 ((wrap64 ((wrap64 (bt a0 1)) - 128)) * 4096)))) + (wrap64 ((wrap64 ((wrap64 (bt a0 2)) - 128)) * 64)))) + (wrap64 (bt a0 3)))) - 128), 4)) else (none)) else (none)) else (none)) else (some (65533, 1)))) = some (r1, r2) := by rw [if_pos rfl] at H; exact H
                                          clear H
                                          have H := H1
                                          clear H1
                                          replace H := Option.bind_eq_some_iff.mp H
                                          obtain ⟨t107, A370, H⟩ := H
                                          replace H : (if t107 = true then (if 1 < (a0.size : Int) then (if 2 < (a0.size : Int) then (if 3 < (a0.size : Int) then (some (wrap64 ((wrap64 ((wrap64 ((wrap64 ((wrap64 ((wrap64 ((wrap64 (bt a0 0)) - 240)) * 262144)) + (wrap64 ((wrap64 ((wrap64 (bt a0 1)) - 128)) * 4096)))) + (wrap64 ((wrap64 ((wrap64 (bt a0 2)) - 128)) * 64)))) + (wrap64 (bt a0 3)))) - 128), 4)) else (none)) else (none)) else (none)) else (some (65533, 1))) = some (r1, r2) := H
                                          have A37 := Aside0.mk A370
                                          clear A370
                                          by_cases c38 : t107 = true
                                          · subst c38
                                            have H1 : (if 1 < (a0.size : Int) then (if 2 < (a0.size : Int) then (if 3 < (a0.size : Int) then (some (wrap64 ((wrap64 ((wrap64 ((wrap64 ((wrap64 ((wrap64 ((wrap64 (bt a0 0)) - 240)) * 262144)) + (wrap64 ((wrap64 ((wrap64 (bt a0 1)) - 128)) * 4096)))) + (wrap64 ((wrap64 ((wrap64 (bt a0 2)) - 128)) * 64)))) + (wrap64 (bt a0 3)))) - 128), 4)) else (none)) else (none)) else (none)) = some (r1, r2) := by rw [if_pos rfl] at H; exact H
                                            clear H
                                            have H := H1
                                            clear H1
                                            by_cases c39 : 1 < (a0.size : Int)
                                            · rw [if_pos c39] at H
                                              have c39b0 : decide (1 < (a0.size : Int)) = true := decide_eq_true c39
                                              have c39b1 : decide (1 < a0.size) = true := decide_eq_true (by omega)
                                              clear c39
                                              by_cases c41 : 2 < (a0.size : Int)
                                              · rw [if_pos c41] at H
                                                have c41b0 : decide (2 < (a0.size : Int)) = true := decide_eq_true c41
                                                have c41b1 : decide (2 < a0.size) = true := decide_eq_true (by omega)
                                                clear c41
                                                by_cases c43 : 3 < (a0.size : Int)
                                                · rw [if_pos c43] at H
                                                  have c43b0 : decide (3 < (a0.size : Int)) = true := decide_eq_true c43
                                                  have c43b1 : decide (3 < a0.size) = true := decide_eq_true (by omega)
                                                  clear c43
                                                  simp only [Option.some.injEq, Prod.mk.injEq] at H
                                                  obtain ⟨rfl, rfl⟩ := H
                                                  go_wp2_with (first | (go_at_call 100; (with_reducible refine (althingref04_tail.calls a0 1 x5_26 x6_28 true _ A33.out).mono ?_); rintro e w' ⟨rfl, ⟨nd, rfl⟩⟩; (try first | exact ⟨rfl, _, World.drewN_drewN _ _ _⟩ | exact ⟨rfl, _, Eq.trans (World.drewN_drewN _ _ _) (congrArg (World.drewN _) (Nat.add_assoc _ _ _))⟩)) | (go_at_call 100; (with_reducible refine (althingref04_tail.calls a0 2 128 191 true _ A35.out).mono ?_); rintro e w' ⟨rfl, ⟨nd, rfl⟩⟩; (try first | exact ⟨rfl, _, World.drewN_drewN _ _ _⟩ | exact ⟨rfl, _, Eq.trans (World.drewN_drewN _ _ _) (congrArg (World.drewN _) (Nat.add_assoc _ _ _))⟩)) | (go_at_call 100; (with_reducible refine (althingref04_tail.calls a0 3 128 191 true _ A37.out).mono ?_); rintro e w' ⟨rfl, ⟨nd, rfl⟩⟩; (try first | exact ⟨rfl, _, World.drewN_drewN _ _ _⟩ | exact ⟨rfl, _, Eq.trans (World.drewN_drewN _ _ _) (congrArg (World.drewN _) (Nat.add_assoc _ _ _))⟩); have p40 : 0 ≤ (1 : Int) := (by omega); have q40 : 1 < a0.size := (by have : (1 : Int) < (a0.size : Int) := of_decide_eq_true (by first | (with_reducible assumption) | assumption); omega); have hx40 : ∀ h : 1 < a0.size, ((a0[1]'h).toNat : Int) = bt a0 1 := bt_at a0 1; clear p40; have qi40 : (1 < (a0.size : Int)) = True := eq_true (of_decide_eq_true (by first | (with_reducible assumption) | assumption)); replace q40 := eq_true q40; have p42 : 0 ≤ (2 : Int) := (by omega); have q42 : 2 < a0.size := (by have : (2 : Int) < (a0.size : Int) := of_decide_eq_true (by first | (with_reducible assumption) | assumption); omega); have hx42 : ∀ h : 2 < a0.size, ((a0[2]'h).toNat : Int) = bt a0 2 := bt_at a0 2; clear p42; have qi42 : (2 < (a0.size : Int)) = True := eq_true (of_decide_eq_true (by first | (with_reducible assumption) | assumption)); replace q42 := eq_true q42; have p44 : 0 ≤ (3 : Int) := (by omega); have q44 : 3 < a0.size := (by have : (3 : Int) < (a0.size : Int) := of_decide_eq_true (by first | (with_reducible assumption) | assumption); omega); have hx44 : ∀ h : 3 < a0.size, ((a0[3]'h).toNat : Int) = bt a0 3 := bt_at a0 3; clear p44; have qi44 : (3 < (a0.size : Int)) = True := eq_true (of_decide_eq_true (by first | (with_reducible assumption) | assumption)); replace q44 := eq_true q44))
                                                  repeat (go_quiet (first | (go_at_call 100; (with_reducible refine (althingref04_tail.calls a0 1 x5_26 x6_28 true _ A33.out).mono ?_); rintro e w' ⟨rfl, ⟨nd, rfl⟩⟩; (try first | exact ⟨rfl, _, World.drewN_drewN _ _ _⟩ | exact ⟨rfl, _, Eq.trans (World.drewN_drewN _ _ _) (congrArg (World.drewN _) (Nat.add_assoc _ _ _))⟩)) | (go_at_call 100; (with_reducible refine (althingref04_tail.calls a0 2 128 191 true _ A35.out).mono ?_); rintro e w' ⟨rfl, ⟨nd, rfl⟩⟩; (try first | exact ⟨rfl, _, World.drewN_drewN _ _ _⟩ | exact ⟨rfl, _, Eq.trans (World.drewN_drewN _ _ _) (congrArg (World.drewN _) (Nat.add_assoc _ _ _))⟩)) | (go_at_call 100; (with_reducible refine (althingref04_tail.calls a0 3 128 191 true _ A37.out).mono ?_); rintro e w' ⟨rfl, ⟨nd, rfl⟩⟩; (try first | exact ⟨rfl, _, World.drewN_drewN _ _ _⟩ | exact ⟨rfl, _, Eq.trans (World.drewN_drewN _ _ _) (congrArg (World.drewN _) (Nat.add_assoc _ _ _))⟩); have p40 : 0 ≤ (1 : Int) := (by omega); have q40 : 1 < a0.size := (by have : (1 : Int) < (a0.size : Int) := of_decide_eq_true (by first | (with_reducible assumption) | assumption); omega); have hx40 : ∀ h : 1 < a0.size, ((a0[1]'h).toNat : Int) = bt a0 1 := bt_at a0 1; clear p40; have qi40 : (1 < (a0.size : Int)) = True := eq_true (of_decide_eq_true (by first | (with_reducible assumption) | assumption)); replace q40 := eq_true q40; have p42 : 0 ≤ (2 : Int) := (by omega); have q42 : 2 < a0.size := (by have : (2 : Int) < (a0.size : Int) := of_decide_eq_true (by first | (with_reducible assumption) | assumption); omega); have hx42 : ∀ h : 2 < a0.size, ((a0[2]'h).toNat : Int) = bt a0 2 := bt_at a0 2; clear p42; have qi42 : (2 < (a0.size : Int)) = True := eq_true (of_decide_eq_true (by first | (with_reducible assumption) | assumption)); replace q42 := eq_true q42; have p44 : 0 ≤ (3 : Int) := (by omega); have q44 : 3 < a0.size := (by have : (3 : Int) < (a0.size : Int) := of_decide_eq_true (by first | (with_reducible assumption) | assumption); omega); have hx44 : ∀ h : 3 < a0.size, ((a0[3]'h).toNat : Int) = bt a0 3 := bt_at a0 3; clear p44; have qi44 : (3 < (a0.size : Int)) = True := eq_true (of_decide_eq_true (by first | (with_reducible assumption) | assumption)); replace q44 := eq_true q44)); try go_wp2_with (first | (go_at_call 100; (with_reducible refine (althingref04_tail.calls a0 1 x5_26 x6_28 true _ A33.out).mono ?_); rintro e w' ⟨rfl, ⟨nd, rfl⟩⟩; (try first | exact ⟨rfl, _, World.drewN_drewN _ _ _⟩ | exact ⟨rfl, _, Eq.trans (World.drewN_drewN _ _ _) (congrArg (World.drewN _) (Nat.add_assoc _ _ _))⟩)) | (go_at_call 100; (with_reducible refine (althingref04_tail.calls a0 2 128 191 true _ A35.out).mono ?_); rintro e w' ⟨rfl, ⟨nd, rfl⟩⟩; (try first | exact ⟨rfl, _, World.drewN_drewN _ _ _⟩ | exact ⟨rfl, _, Eq.trans (World.drewN_drewN _ _ _) (congrArg (World.drewN _) (Nat.add_assoc _ _ _))⟩)) | (go_at_call 100; (with_reducible refine (althingref04_tail.calls a0 3 128 191 true _ A37.out).mono ?_); rintro e w' ⟨rfl, ⟨nd, rfl⟩⟩; (try first | exact ⟨rfl, _, World.drewN_drewN _ _ _⟩ | exact ⟨rfl, _, Eq.trans (World.drewN_drewN _ _ _) (congrArg (World.drewN _) (Nat.add_assoc _ _ _))⟩); have p40 : 0 ≤ (1 : Int) := (by omega); have q40 : 1 < a0.size := (by have : (1 : Int) < (a0.size : Int) := of_decide_eq_true (by first | (with_reducible assumption) | assumption); omega); have hx40 : ∀ h : 1 < a0.size, ((a0[1]'h).toNat : Int) = bt a0 1 := bt_at a0 1; clear p40; have qi40 : (1 < (a0.size : Int)) = True := eq_true (of_decide_eq_true (by first | (with_reducible assumption) | assumption)); replace q40 := eq_true q40; have p42 : 0 ≤ (2 : Int) := (by omega); have q42 : 2 < a0.size := (by have : (2 : Int) < (a0.size : Int) := of_decide_eq_true (by first | (with_reducible assumption) | assumption); omega); have hx42 : ∀ h : 2 < a0.size, ((a0[2]'h).toNat : Int) = bt a0 2 := bt_at a0 2; clear p42; have qi42 : (2 < (a0.size : Int)) = True := eq_true (of_decide_eq_true (by first | (with_reducible assumption) | assumption)); replace q42 := eq_true q42; have p44 : 0 ≤ (3 : Int) := (by omega); have q44 : 3 < a0.size := (by have : (3 : Int) < (a0.size : Int) := of_decide_eq_true (by first | (with_reducible assumption) | assumption); omega); have hx44 : ∀ h : 3 < a0.size, ((a0[3]'h).toNat : Int) = bt a0 3 := bt_at a0 3; clear p44; have qi44 : (3 < (a0.size : Int)) = True := eq_true (of_decide_eq_true (by first | (with_reducible assumption) | assumption)); replace q44 := eq_true q44)))
                                                  go_ret2
                                                  exact ⟨by first | rfl | (simp; done) | (simp [*]; done), by repeat (first | exact Drawn0.refl _ | apply Drawn0.step)⟩
                                                · rw [if_neg c43] at H
                                                  exact absurd H (by simp)
                                              · rw [if_neg c41] at H
                                                exact absurd H (by simp)
                                            · rw [if_neg c39] at H
                                              exact absurd H (by simp)
                                          · replace c38 := Bool.eq_false_iff.mpr c38
                                            subst c38
                                            have H1 : (some (65533, 1)) = some (r1, r2) := by rw [if_neg (show ¬ (false = true) by decide)] at H; exact H
                                            clear H
                                            have H := H1
                                            clear H1
                                            simp only [Option.some.injEq, Prod.mk.injEq] at H
                                            obtain ⟨rfl, rfl⟩ := H
                                            go_wp2_with (first | (go_at_call 100; (with_reducible refine (althingref04_tail.calls a0 1 x5_26 x6_28 true _ A33.out).mono ?_); rintro e w' ⟨rfl, ⟨nd, rfl⟩⟩; (try first | exact ⟨rfl, _, World.drewN_drewN _ _ _⟩ | exact ⟨rfl, _, Eq.trans (World.drewN_drewN _ _ _) (congrArg (World.drewN _) (Nat.add_assoc _ _ _))⟩)) | (go_at_call 100; (with_reducible refine (althingref04_tail.calls a0 2 128 191 true _ A35.out).mono ?_); rintro e w' ⟨rfl, ⟨nd, rfl⟩⟩; (try first | exact ⟨rfl, _, World.drewN_drewN _ _ _⟩ | exact ⟨rfl, _, Eq.trans (World.drewN_drewN _ _ _) (congrArg (World.drewN _) (Nat.add_assoc _ _ _))⟩)) | (go_at_call 100; (with_reducible refine (althingref04_tail.calls a0 3 128 191 false _ A37.out).mono ?_); rintro e w' ⟨rfl, ⟨nd, rfl⟩⟩; (try first | exact ⟨rfl, _, World.drewN_drewN _ _ _⟩ | exact ⟨rfl, _, Eq.trans (World.drewN_drewN _ _ _) (congrArg (World.drewN _) (Nat.add_assoc _ _ _))⟩)))
                                            repeat (go_quiet (first | (go_at_call 100; (with_reducible refine (althingref04_tail.calls a0 1 x5_26 x6_28 true _ A33.out).mono ?_); rintro e w' ⟨rfl, ⟨nd, rfl⟩⟩; (try first | exact ⟨rfl, _, World.drewN_drewN _ _ _⟩ | exact ⟨rfl, _, Eq.trans (World.drewN_drewN _ _ _) (congrArg (World.drewN _) (Nat.add_assoc _ _ _))⟩)) | (go_at_call 100; (with_reducible refine (althingref04_tail.calls a0 2 128 191 true _ A35.out).mono ?_); rintro e w' ⟨rfl, ⟨nd, rfl⟩⟩; (try first | exact ⟨rfl, _, World.drewN_drewN _ _ _⟩ | exact ⟨rfl, _, Eq.trans (World.drewN_drewN _ _ _) (congrArg (World.drewN _) (Nat.add_assoc _ _ _))⟩)) | (go_at_call 100; (with_reducible refine (althingref04_tail.calls a0 3 128 191 false _ A37.out).mono ?_); rintro e w' ⟨rfl, ⟨nd, rfl⟩⟩; (try first | exact ⟨rfl, _, World.drewN_drewN _ _ _⟩ | exact ⟨rfl, _, Eq.trans (World.drewN_drewN _ _ _) (congrArg (World.drewN _) (Nat.add_assoc _ _ _))⟩))); try go_wp2_with (first | (go_at_call 100; (with_reducible refine (althingref04_tail.calls a0 1 x5_26 x6_28 true _ A33.out).mono ?_); rintro e w' ⟨rfl, ⟨nd, rfl⟩⟩; (try first | exact ⟨rfl, _, World.drewN_drewN _ _ _⟩ | exact ⟨rfl, _, Eq.trans (World.drewN_drewN _ _ _) (congrArg (World.drewN _) (Nat.add_assoc _ _ _))⟩)) | (go_at_call 100; (with_reducible refine (althingref04_tail.calls a0 2 128 191 true _ A35.out).mono ?_); rintro e w' ⟨rfl, ⟨nd, rfl⟩⟩; (try first | exact ⟨rfl, _, World.drewN_drewN _ _ _⟩ | exact ⟨rfl, _, Eq.trans (World.drewN_drewN _ _ _) (congrArg (World.drewN _) (Nat.add_assoc _ _ _))⟩)) | (go_at_call 100; (with_reducible refine (althingref04_tail.calls a0 3 128 191 false _ A37.out).mono ?_); rintro e w' ⟨rfl, ⟨nd, rfl⟩⟩; (try first | exact ⟨rfl, _, World.drewN_drewN _ _ _⟩ | exact ⟨rfl, _, Eq.trans (World.drewN_drewN _ _ _) (congrArg (World.drewN _) (Nat.add_assoc _ _ _))⟩))))
                                            go_ret2
                                            exact ⟨by first | rfl | (simp; done) | (simp [*]; done), by repeat (first | exact Drawn0.refl _ | apply Drawn0.step)⟩
                                        · replace c36 := Bool.eq_false_iff.mpr c36
                                          subst c36
                                          have H1 : (some (65533, 1)) = some (r1, r2) := by rw [if_neg (show ¬ (false = true) by decide)] at H; exact H
                                          clear H
                                          have H := H1
                                          clear H1
                                          simp only [Option.some.injEq, Prod.mk.injEq] at H
                                          obtain ⟨rfl, rfl⟩ := H
                                          go_wp2_with (first | (go_at_call 100; (with_reducible refine (althingref04_tail.calls a0 1 x5_26 x6_28 true _ A33.out).mono ?_); rintro e w' ⟨rfl, ⟨nd, rfl⟩⟩; (try first | exact ⟨rfl, _, World.drewN_drewN _ _ _⟩ | exact ⟨rfl, _, Eq.trans (World.drewN_drewN _ _ _) (congrArg (World.drewN _) (Nat.add_assoc _ _ _))⟩)) | (go_at_call 100; (with_reducible refine (althingref04_tail.calls a0 2 128 191 false _ A35.out).mono ?_); rintro e w' ⟨rfl, ⟨nd, rfl⟩⟩; (try first | exact ⟨rfl, _, World.drewN_drewN _ _ _⟩ | exact ⟨rfl, _, Eq.trans (World.drewN_drewN _ _ _) (congrArg (World.drewN _) (Nat.add_assoc _ _ _))⟩)))
                                          repeat (go_quiet (first | (go_at_call 100; (with_reducible refine (althingref04_tail.calls a0 1 x5_26 x6_28 true _ A33.out).mono ?_); rintro e w' ⟨rfl, ⟨nd, rfl⟩⟩; (try first | exact ⟨rfl, _, World.drewN_drewN _ _ _⟩ | exact ⟨rfl, _, Eq.trans (World.drewN_drewN _ _ _) (congrArg (World.drewN _) (Nat.add_assoc _ _ _))⟩)) | (go_at_call 100; (with_reducible refine (althingref04_tail.calls a0 2 128 191 false _ A35.out).mono ?_); rintro e w' ⟨rfl, ⟨nd, rfl⟩⟩; (try first | exact ⟨rfl, _, World.drewN_drewN _ _ _⟩ | exact ⟨rfl, _, Eq.trans (World.drewN_drewN _ _ _) (congrArg (World.drewN _) (Nat.add_assoc _ _ _))⟩))); try go_wp2_with (first | (go_at_call 100; (with_reducible refine (althingref04_tail.calls a0 1 x5_26 x6_28 true _ A33.out).mono ?_); rintro e w' ⟨rfl, ⟨nd, rfl⟩⟩; (try first | exact ⟨rfl, _, World.drewN_drewN _ _ _⟩ | exact ⟨rfl, _, Eq.trans (World.drewN_drewN _ _ _) (congrArg (World.drewN _) (Nat.add_assoc _ _ _))⟩)) | (go_at_call 100; (with_reducible refine (althingref04_tail.calls a0 2 128 191 false _ A35.out).mono ?_); rintro e w' ⟨rfl, ⟨nd, rfl⟩⟩; (try first | exact ⟨rfl, _, World.drewN_drewN _ _ _⟩ | exact ⟨rfl, _, Eq.trans (World.drewN_drewN _ _ _) (congrArg (World.drewN _) (Nat.add_assoc _ _ _))⟩))))
                                          go_ret2
                                          exact ⟨by first | rfl | (simp; done) | (simp [*]; done), by repeat (first | exact Drawn0.refl _ | apply Drawn0.step)⟩
                                      · replace c34 := Bool.eq_false_iff.mpr c34
                                        subst c34
                                        have H1 : (some (65533, 1)) = some (r1, r2) := by rw [if_neg (show ¬ (false = true) by decide)] at H; exact H
                                        clear H
                                        have H := H1
                                        clear H1
                                        simp only [Option.some.injEq, Prod.mk.injEq] at H
                                        obtain ⟨rfl, rfl⟩ := H
                                        go_wp2_with (first | (go_at_call 100; (with_reducible refine (althingref04_tail.calls a0 1 x5_26 x6_28 false _ A33.out).mono ?_); rintro e w' ⟨rfl, ⟨nd, rfl⟩⟩; (try first | exact ⟨rfl, _, World.drewN_drewN _ _ _⟩ | exact ⟨rfl, _, Eq.trans (World.drewN_drewN _ _ _) (congrArg (World.drewN _) (Nat.add_assoc _ _ _))⟩)))
                                        repeat (go_quiet (first | (go_at_call 100; (with_reducible refine (althingref04_tail.calls a0 1 x5_26 x6_28 false _ A33.out).mono ?_); rintro e w' ⟨rfl, ⟨nd, rfl⟩⟩; (try first | exact ⟨rfl, _, World.drewN_drewN _ _ _⟩ | exact ⟨rfl, _, Eq.trans (World.drewN_drewN _ _ _) (congrArg (World.drewN _) (Nat.add_assoc _ _ _))⟩))); try go_wp2_with (first | (go_at_call 100; (with_reducible refine (althingref04_tail.calls a0 1 x5_26 x6_28 false _ A33.out).mono ?_); rintro e w' ⟨rfl, ⟨nd, rfl⟩⟩; (try first | exact ⟨rfl, _, World.drewN_drewN _ _ _⟩ | exact ⟨rfl, _, Eq.trans (World.drewN_drewN _ _ _) (congrArg (World.drewN _) (Nat.add_assoc _ _ _))⟩))))
                                        go_ret2
                                        exact ⟨by first | rfl | (simp; done) | (simp [*]; done), by repeat (first | exact Drawn0.refl _ | apply Drawn0.step)⟩
                                    · rw [if_neg c32] at H
                                      have c32b0 : decide ((wrap64 (bt a0 0)) ≤ 244) = false := decide_eq_false c32
                                      clear c32
                                      simp only [Option.some.injEq, Prod.mk.injEq] at H
                                      obtain ⟨rfl, rfl⟩ := H
                                      go_wp2
                                      repeat (go_quiet (fail); try go_wp2)
                                      go_ret2
                                      exact ⟨by first | rfl | (simp; done) | (simp [*]; done), by repeat (first | exact Drawn0.refl _ | apply Drawn0.step)⟩
                                  · rw [if_neg c31] at H
                                    have c31b0 : decide (240 ≤ (wrap64 (bt a0 0))) = false := decide_eq_false c31
                                    clear c31
                                    simp only [Option.some.injEq, Prod.mk.injEq] at H
                                    obtain ⟨rfl, rfl⟩ := H
                                    go_wp2
                                    repeat (go_quiet (fail); try go_wp2)
                                    go_ret2
                                    exact ⟨by first | rfl | (simp; done) | (simp [*]; done), by repeat (first | exact Drawn0.refl _ | apply Drawn0.step)⟩
  · rw [if_neg c2] at H
    exact absurd H (by simp)

end Go.Proofs.Yticadmfpeepciaa.PKeysShards
