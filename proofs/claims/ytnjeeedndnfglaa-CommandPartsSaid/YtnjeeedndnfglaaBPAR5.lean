/- What the claim PAR leans on: texts joined by bundle.py, a program of ours; the words cut down to what is used. -/
import Derived.Test.YtnjeeedndnfglaaBPAR4
section
namespace Go.Proofs.Ytnjeeedndnfglaa.X
open Go.RowKit Go.Proofs.YtnjeeedndnfglaaW.PrintWords Go.Proofs.YtnjeeedndnfglaaW.PrintLast Go.Proofs.YtnjeeedndnfglaaW.PrintMore
attribute [local go_sem] max2_int min2_int max_two min_two max_three min_three max_four min_four   -- for this text's walks alone
set_option linter.unusedVariables false
set_option linter.unusedSimpArgs false
def althingref04_Rights.l0 : Nat → List ByteArray → Int → Option (Bool)
 | 0, _, _ => none
 | k + 1, x0, x3 => if x3 < (x0.length : Int) then (if 0 ≤ x3 then ((althingref04_Right.f (rdOf ByteArray.empty x0 x3)).bind fun t469 => (if t469 = true then (if x3 > 0 then (if 0 ≤ (wrap64 (x3 - 1)) then (if (wrap64 (x3 - 1)) < (x0.length : Int) then ((althingref04_Before.f k (rdOf ByteArray.empty x0 (wrap64 (x3 - 1))) (rdOf ByteArray.empty x0 x3)).bind fun t472 => (if t472 = true then (althingref04_Rights.l0 k x0 (wrap64 (x3 + 1))) else (some false))) else (none)) else (none)) else (althingref04_Rights.l0 k x0 (wrap64 (x3 + 1)))) else (some false))) else (none)) else (some (decide ((x0.length : Int) ≤ 8)))
def althingref04_Rights.f (k : Nat) (l0 : List ByteArray) : Option (Bool) := althingref04_Rights.l0 k l0 0
set_option maxHeartbeats 40000000 in
set_option maxRecDepth 100000 in
theorem althingref04_Rights.calls (k : Nat) (A0 : Option Addr) (c0 : Nat) (l0 : List ByteArray) (r : Bool) (w : World) (hr0 : Kd.C Kd.string w A0 l0.length l0) (hc0 : l0.length ≤ c0) (h : althingref04_Rights.f k l0 = some r) :
 Calls Try.prog 39 #[.slice A0 l0.length c0] w fun e w' => e = .returned (.bool r) ∧ Drawn0 w w' := by
 have HR0 := Aside0.mk hr0
 have HC0 := Aside0.mk hc0
 clear hr0 hc0
 have H : (althingref04_Rights.l0 k l0 0) = some r := h
 clear h
 have H' := Aside0.mk H
 clear H
 go_enter Try.func39, Try.ntmps39
 go_wp2
 repeat (go_quiet (fail); try go_wp2)
 go_loopg [3] k (fun kq v3 w' => ∃ (x3_1 : Int), v3 = .int .i64 x3_1 ∧ Aside0 (althingref04_Rights.l0 kq l0 x3_1 = some r) ∧ Aside0 (kq ≤ k) ∧ Drawn0 w w')
 case atStart => exact ⟨(0), sm_, H', ⟨Nat.le_refl _⟩, by repeat (first | exact Drawn0.refl _ | apply Drawn0.step)⟩
 case round =>
  clear H'
  obtain ⟨x3_1, rfl, HA, HK1, ⟨m1, rfl⟩⟩ := hrel
  cases gk with
  | zero => exact absurd HA.out (by simp [althingref04_Rights.l0])
  | succ k1 =>
   have H := HA.out
   clear HA
   simp only [althingref04_Rights.l0] at H
   by_cases c2 : x3_1 < (l0.length : Int)
   · rw [if_pos c2] at H
     have c2b0 : decide (x3_1 < (l0.length : Int)) = true := decide_eq_true c2
     clear c2
     by_cases c3 : 0 ≤ x3_1
     · rw [if_pos c3] at H
       have c3b0 : decide (0 ≤ x3_1) = true := decide_eq_true c3
       clear c3
       obtain ⟨t469, A4, H⟩ := bs_ H
       by_cases c5 : t469 = true
       · subst c5
         rw [if_pos rfl] at H
         by_cases c6 : x3_1 > 0
         · rw [if_pos c6] at H
           have c6b0 : decide (0 < x3_1) = true := decide_eq_true c6
           clear c6
           obtain ⟨ji7, hji7⟩ : ∃ j_ : Int, (wrap64 (x3_1 - 1)) = j_ := ⟨_, rfl⟩
           replace H : (if 0 ≤ (ji7) then (if (ji7) < (l0.length : Int) then ((althingref04_Before.f k1 (rdOf ByteArray.empty l0 (ji7)) (rdOf ByteArray.empty l0 x3_1)).bind fun t472 => (if t472 = true then (althingref04_Rights.l0 k1 l0 (wrap64 (x3_1 + 1))) else (some false))) else (none)) else (none)) = some r := by first | (rw [hji7] at H; exact H) | (simp only [hji7] at H ⊢; exact H)
           (try rw [hji7] at A4)
           have hji7w : (IntKind.i64.wrap (x3_1 - 1)) = ji7 := (i64_w _).trans hji7
           by_cases c8 : 0 ≤ (ji7)
           · rw [if_pos c8] at H
             have c8b0 : decide (0 ≤ (ji7)) = true := decide_eq_true c8
             clear c8
             by_cases c9 : (ji7) < (l0.length : Int)
             · rw [if_pos c9] at H
               have c9b0 : decide ((ji7) < (l0.length : Int)) = true := decide_eq_true c9
               clear c9
               obtain ⟨t472, A10, H⟩ := bs_ H
               by_cases c11 : t472 = true
               · subst c11
                 rw [if_pos rfl] at H
                 have H' := Aside0.mk H
                 clear H
                 have p468 : 0 ≤ (x3_1 : Int) := of_decide_eq_true (by first | (with_reducible assumption) | assumption)
                 have q468 : x3_1 < (l0.length : Int) := of_decide_eq_true (by first | (with_reducible assumption) | assumption)
                 obtain ⟨ad468, e468, hx468_0⟩ := Kd.at_string HR0.out x3_1 p468 q468
                 cases e468
                 replace p468 := eq_true p468
                 replace q468 := eq_true q468
                 have hq0 := True.intro
                 repeat ((first | clear hq0 | go_quiet (first | (go_at_call 54; (with_reducible refine (althingref04_Right.calls (rdOf ByteArray.empty l0 x3_1) true _ A4.out).mono ?_); rintro e w' ⟨rfl, ⟨nd, rfl⟩⟩; (try first | exact ⟨rfl, _, World.drewN_drewN _ _ _⟩ | exact ⟨rfl, _, Eq.trans (World.drewN_drewN _ _ _) (congrArg (World.drewN _) (Nat.add_assoc _ _ _))⟩); have p470 : 0 ≤ ((ji7) : Int) := of_decide_eq_true (by first | (with_reducible assumption) | assumption); have q470 : (ji7) < (l0.length : Int) := of_decide_eq_true (by first | (with_reducible assumption) | assumption); obtain ⟨ad470, e470, hx470_0⟩ := Kd.at_string HR0.out (ji7) p470 q470; obtain rfl : ad468 = ad470 := (by injection e470); replace p470 := eq_true p470; replace q470 := eq_true q470; have p471 : 0 ≤ (x3_1 : Int) := of_decide_eq_true (by first | (with_reducible assumption) | assumption); have q471 : x3_1 < (l0.length : Int) := of_decide_eq_true (by first | (with_reducible assumption) | assumption); obtain ⟨ad471, e471, hx471_0⟩ := Kd.at_string HR0.out x3_1 p471 q471; obtain rfl : ad468 = ad471 := (by injection e471); replace p471 := eq_true p471; replace q471 := eq_true q471) | (go_at_call 41; (with_reducible refine (althingref04_Before.calls k1 (rdOf ByteArray.empty l0 (ji7)) (rdOf ByteArray.empty l0 x3_1) true _ A10.out).mono ?_); rintro e w' ⟨rfl, ⟨nd, rfl⟩⟩; (try first | exact ⟨rfl, _, World.drewN_drewN _ _ _⟩ | exact ⟨rfl, _, Eq.trans (World.drewN_drewN _ _ _) (congrArg (World.drewN _) (Nat.add_assoc _ _ _))⟩)))); try go_wp2_with (first | (go_at_call 54; (with_reducible refine (althingref04_Right.calls (rdOf ByteArray.empty l0 x3_1) true _ A4.out).mono ?_); rintro e w' ⟨rfl, ⟨nd, rfl⟩⟩; (try first | exact ⟨rfl, _, World.drewN_drewN _ _ _⟩ | exact ⟨rfl, _, Eq.trans (World.drewN_drewN _ _ _) (congrArg (World.drewN _) (Nat.add_assoc _ _ _))⟩); have p470 : 0 ≤ ((ji7) : Int) := of_decide_eq_true (by first | (with_reducible assumption) | assumption); have q470 : (ji7) < (l0.length : Int) := of_decide_eq_true (by first | (with_reducible assumption) | assumption); obtain ⟨ad470, e470, hx470_0⟩ := Kd.at_string HR0.out (ji7) p470 q470; obtain rfl : ad468 = ad470 := (by injection e470); replace p470 := eq_true p470; replace q470 := eq_true q470; have p471 : 0 ≤ (x3_1 : Int) := of_decide_eq_true (by first | (with_reducible assumption) | assumption); have q471 : x3_1 < (l0.length : Int) := of_decide_eq_true (by first | (with_reducible assumption) | assumption); obtain ⟨ad471, e471, hx471_0⟩ := Kd.at_string HR0.out x3_1 p471 q471; obtain rfl : ad468 = ad471 := (by injection e471); replace p471 := eq_true p471; replace q471 := eq_true q471) | (go_at_call 41; (with_reducible refine (althingref04_Before.calls k1 (rdOf ByteArray.empty l0 (ji7)) (rdOf ByteArray.empty l0 x3_1) true _ A10.out).mono ?_); rintro e w' ⟨rfl, ⟨nd, rfl⟩⟩; (try first | exact ⟨rfl, _, World.drewN_drewN _ _ _⟩ | exact ⟨rfl, _, Eq.trans (World.drewN_drewN _ _ _) (congrArg (World.drewN _) (Nat.add_assoc _ _ _))⟩))))
                 go_roundg k1
                 case measure => have := HK1.out; omega
                 case rel => exact ⟨(wrap64 (x3_1 + 1)), sm_, H', ⟨by have := HK1.out; omega⟩, by repeat (first | exact Drawn0.refl _ | apply Drawn0.step)⟩
               · replace c11 := Bool.eq_false_iff.mpr c11
                 subst c11
                 rw [if_neg (show ¬ (false = true) by decide)] at H
                 obtain rfl := Option.some.inj H
                 have p468 : 0 ≤ (x3_1 : Int) := of_decide_eq_true (by first | (with_reducible assumption) | assumption)
                 have q468 : x3_1 < (l0.length : Int) := of_decide_eq_true (by first | (with_reducible assumption) | assumption)
                 obtain ⟨ad468, e468, hx468_0⟩ := Kd.at_string HR0.out x3_1 p468 q468
                 cases e468
                 replace p468 := eq_true p468
                 replace q468 := eq_true q468
                 have hq0 := True.intro
                 repeat ((first | clear hq0 | go_quiet (first | (go_at_call 54; (with_reducible refine (althingref04_Right.calls (rdOf ByteArray.empty l0 x3_1) true _ A4.out).mono ?_); rintro e w' ⟨rfl, ⟨nd, rfl⟩⟩; (try first | exact ⟨rfl, _, World.drewN_drewN _ _ _⟩ | exact ⟨rfl, _, Eq.trans (World.drewN_drewN _ _ _) (congrArg (World.drewN _) (Nat.add_assoc _ _ _))⟩); have p470 : 0 ≤ ((ji7) : Int) := of_decide_eq_true (by first | (with_reducible assumption) | assumption); have q470 : (ji7) < (l0.length : Int) := of_decide_eq_true (by first | (with_reducible assumption) | assumption); obtain ⟨ad470, e470, hx470_0⟩ := Kd.at_string HR0.out (ji7) p470 q470; obtain rfl : ad468 = ad470 := (by injection e470); replace p470 := eq_true p470; replace q470 := eq_true q470; have p471 : 0 ≤ (x3_1 : Int) := of_decide_eq_true (by first | (with_reducible assumption) | assumption); have q471 : x3_1 < (l0.length : Int) := of_decide_eq_true (by first | (with_reducible assumption) | assumption); obtain ⟨ad471, e471, hx471_0⟩ := Kd.at_string HR0.out x3_1 p471 q471; obtain rfl : ad468 = ad471 := (by injection e471); replace p471 := eq_true p471; replace q471 := eq_true q471) | (go_at_call 41; (with_reducible refine (althingref04_Before.calls k1 (rdOf ByteArray.empty l0 (ji7)) (rdOf ByteArray.empty l0 x3_1) false _ A10.out).mono ?_); rintro e w' ⟨rfl, ⟨nd, rfl⟩⟩; (try first | exact ⟨rfl, _, World.drewN_drewN _ _ _⟩ | exact ⟨rfl, _, Eq.trans (World.drewN_drewN _ _ _) (congrArg (World.drewN _) (Nat.add_assoc _ _ _))⟩)))); try go_wp2_with (first | (go_at_call 54; (with_reducible refine (althingref04_Right.calls (rdOf ByteArray.empty l0 x3_1) true _ A4.out).mono ?_); rintro e w' ⟨rfl, ⟨nd, rfl⟩⟩; (try first | exact ⟨rfl, _, World.drewN_drewN _ _ _⟩ | exact ⟨rfl, _, Eq.trans (World.drewN_drewN _ _ _) (congrArg (World.drewN _) (Nat.add_assoc _ _ _))⟩); have p470 : 0 ≤ ((ji7) : Int) := of_decide_eq_true (by first | (with_reducible assumption) | assumption); have q470 : (ji7) < (l0.length : Int) := of_decide_eq_true (by first | (with_reducible assumption) | assumption); obtain ⟨ad470, e470, hx470_0⟩ := Kd.at_string HR0.out (ji7) p470 q470; obtain rfl : ad468 = ad470 := (by injection e470); replace p470 := eq_true p470; replace q470 := eq_true q470; have p471 : 0 ≤ (x3_1 : Int) := of_decide_eq_true (by first | (with_reducible assumption) | assumption); have q471 : x3_1 < (l0.length : Int) := of_decide_eq_true (by first | (with_reducible assumption) | assumption); obtain ⟨ad471, e471, hx471_0⟩ := Kd.at_string HR0.out x3_1 p471 q471; obtain rfl : ad468 = ad471 := (by injection e471); replace p471 := eq_true p471; replace q471 := eq_true q471) | (go_at_call 41; (with_reducible refine (althingref04_Before.calls k1 (rdOf ByteArray.empty l0 (ji7)) (rdOf ByteArray.empty l0 x3_1) false _ A10.out).mono ?_); rintro e w' ⟨rfl, ⟨nd, rfl⟩⟩; (try first | exact ⟨rfl, _, World.drewN_drewN _ _ _⟩ | exact ⟨rfl, _, Eq.trans (World.drewN_drewN _ _ _) (congrArg (World.drewN _) (Nat.add_assoc _ _ _))⟩))))
                 go_ret
                 exact ⟨by first | rfl | (simp; done) | (simp only [← hji7] <;> (first | rfl | (simp; done))) | (simp [*]; done) | (subst_vars; simp only [mx_eq, mn_eq]; done), by repeat (first | exact Drawn0.refl _ | apply Drawn0.step)⟩
             · rw [if_neg c9] at H
               exact absurd H (by simp)
           · rw [if_neg c8] at H
             exact absurd H (by simp)
         · rw [if_neg c6] at H
           have c6b0 : decide (0 < x3_1) = false := decide_eq_false c6
           clear c6
           have H' := Aside0.mk H
           clear H
           have p468 : 0 ≤ (x3_1 : Int) := of_decide_eq_true (by first | (with_reducible assumption) | assumption)
           have q468 : x3_1 < (l0.length : Int) := of_decide_eq_true (by first | (with_reducible assumption) | assumption)
           obtain ⟨ad468, e468, hx468_0⟩ := Kd.at_string HR0.out x3_1 p468 q468
           cases e468
           replace p468 := eq_true p468
           replace q468 := eq_true q468
           have hq0 := True.intro
           repeat ((first | clear hq0 | go_quiet (first | (go_at_call 54; (with_reducible refine (althingref04_Right.calls (rdOf ByteArray.empty l0 x3_1) true _ A4.out).mono ?_); rintro e w' ⟨rfl, ⟨nd, rfl⟩⟩; (try first | exact ⟨rfl, _, World.drewN_drewN _ _ _⟩ | exact ⟨rfl, _, Eq.trans (World.drewN_drewN _ _ _) (congrArg (World.drewN _) (Nat.add_assoc _ _ _))⟩)))); try go_wp2_with (first | (go_at_call 54; (with_reducible refine (althingref04_Right.calls (rdOf ByteArray.empty l0 x3_1) true _ A4.out).mono ?_); rintro e w' ⟨rfl, ⟨nd, rfl⟩⟩; (try first | exact ⟨rfl, _, World.drewN_drewN _ _ _⟩ | exact ⟨rfl, _, Eq.trans (World.drewN_drewN _ _ _) (congrArg (World.drewN _) (Nat.add_assoc _ _ _))⟩))))
           go_roundg k1
           case measure => have := HK1.out; omega
           case rel => exact ⟨(wrap64 (x3_1 + 1)), sm_, H', ⟨by have := HK1.out; omega⟩, by repeat (first | exact Drawn0.refl _ | apply Drawn0.step)⟩
       · replace c5 := Bool.eq_false_iff.mpr c5
         subst c5
         rw [if_neg (show ¬ (false = true) by decide)] at H
         obtain rfl := Option.some.inj H
         have p468 : 0 ≤ (x3_1 : Int) := of_decide_eq_true (by first | (with_reducible assumption) | assumption)
         have q468 : x3_1 < (l0.length : Int) := of_decide_eq_true (by first | (with_reducible assumption) | assumption)
         obtain ⟨ad468, e468, hx468_0⟩ := Kd.at_string HR0.out x3_1 p468 q468
         cases e468
         replace p468 := eq_true p468
         replace q468 := eq_true q468
         have hq0 := True.intro
         repeat ((first | clear hq0 | go_quiet (first | (go_at_call 54; (with_reducible refine (althingref04_Right.calls (rdOf ByteArray.empty l0 x3_1) false _ A4.out).mono ?_); rintro e w' ⟨rfl, ⟨nd, rfl⟩⟩; (try first | exact ⟨rfl, _, World.drewN_drewN _ _ _⟩ | exact ⟨rfl, _, Eq.trans (World.drewN_drewN _ _ _) (congrArg (World.drewN _) (Nat.add_assoc _ _ _))⟩)))); try go_wp2_with (first | (go_at_call 54; (with_reducible refine (althingref04_Right.calls (rdOf ByteArray.empty l0 x3_1) false _ A4.out).mono ?_); rintro e w' ⟨rfl, ⟨nd, rfl⟩⟩; (try first | exact ⟨rfl, _, World.drewN_drewN _ _ _⟩ | exact ⟨rfl, _, Eq.trans (World.drewN_drewN _ _ _) (congrArg (World.drewN _) (Nat.add_assoc _ _ _))⟩))))
         go_ret
         exact ⟨by first | rfl | (simp; done) | (simp [*]; done), by repeat (first | exact Drawn0.refl _ | apply Drawn0.step)⟩
     · rw [if_neg c3] at H
       exact absurd H (by simp)
   · rw [if_neg c2] at H
     have c2b0 : decide (x3_1 < (l0.length : Int)) = false := decide_eq_false c2
     clear c2
     obtain rfl := Option.some.inj H
     go_wp2
     repeat (go_quiet (fail); try go_wp2)
     go_ret
     exact ⟨by first | rfl | (simp; done) | (simp [*]; done), by repeat (first | exact Drawn0.refl _ | apply Drawn0.step)⟩
end Go.Proofs.Ytnjeeedndnfglaa.X
end
section
namespace Go.Proofs.Ytnjeeedndnfglaa.X
open Go.RowKit Go.Proofs.YtnjeeedndnfglaaW.PrintWords Go.Proofs.YtnjeeedndnfglaaW.PrintLast Go.Proofs.YtnjeeedndnfglaaW.PrintMore
attribute [local go_sem] max2_int min2_int max_two min_two max_three min_three max_four min_four   -- for this text's walks alone
set_option linter.unusedVariables false
set_option linter.unusedSimpArgs false
attribute [local go_sem high] eqA23 eqA25
mutual
def althingref05_Right.j0 : Nat → Bool → Int → Int → Int → Int → Int → Int → List (S38) → List (S40) → Bool → Option (Bool)
 | 0, _, _, _, _, _, _, _, _, _, _ => none
 | k + 1, x58, x474000, x474001, x474002, x474003, x474004, x474005, x474006, x474007, x474008 => if x58 = true then (some false) else ((althingref02_RightTxn.f x474001 x474002).bind fun t474 => (if t474 = true then ((althingref02_RightStamp.f x474003 x474004).bind fun t475 => (if t475 = true then (if x474003 = 0 then (althingref05_Right.j1 k true x474000 x474001 x474002 x474003 x474004 x474005 x474006 x474007 x474008) else (althingref05_Right.j1 k (x474004 != x474001) x474000 x474001 x474002 x474003 x474004 x474005 x474006 x474007 x474008)) else (althingref05_Right.j1 k true x474000 x474001 x474002 x474003 x474004 x474005 x474006 x474007 x474008))) else (althingref05_Right.j1 k true x474000 x474001 x474002 x474003 x474004 x474005 x474006 x474007 x474008)))
def althingref05_Right.j1 : Nat → Bool → Int → Int → Int → Int → Int → Int → List (S38) → List (S40) → Bool → Option (Bool)
 | 0, _, _, _, _, _, _, _, _, _, _ => none
 | k + 1, x83, x474000, x474001, x474002, x474003, x474004, x474005, x474006, x474007, x474008 => if x83 = true then (some false) else (if x474005 ≤ 0 then (althingref05_Right.j2 k true x474000 x474001 x474002 x474003 x474004 x474005 x474006 x474007 x474008) else (if x474005 ≥ 16 then (althingref05_Right.j2 k true x474000 x474001 x474002 x474003 x474004 x474005 x474006 x474007 x474008) else (if (x474006.length : Int) = 0 then (althingref05_Right.j2 k ((x474007.length : Int) == 0) x474000 x474001 x474002 x474003 x474004 x474005 x474006 x474007 x474008) else (althingref05_Right.j2 k false x474000 x474001 x474002 x474003 x474004 x474005 x474006 x474007 x474008))))
def althingref05_Right.j2 : Nat → Bool → Int → Int → Int → Int → Int → Int → List (S38) → List (S40) → Bool → Option (Bool)
 | 0, _, _, _, _, _, _, _, _, _, _ => none
 | k + 1, x103, x474000, x474001, x474002, x474003, x474004, x474005, x474006, x474007, x474008 => if x103 = true then (some false) else (althingref05_Right.l0 k ([] : List ByteArray) 0 x474000 x474001 x474002 x474003 x474004 x474005 x474006 x474007 x474008)
def althingref05_Right.l0 : Nat → List ByteArray → Int → Int → Int → Int → Int → Int → Int → List (S38) → List (S40) → Bool → Option (Bool)
 | 0, _, _, _, _, _, _, _, _, _, _, _ => none
 | k + 1, x3, x4, x474000, x474001, x474002, x474003, x474004, x474005, x474006, x474007, x474008 => if x4 < (x474006.length : Int) then (if 0 ≤ x4 then ((althingref02_RightStamp.f ((rd_T38 x474006 x4).f1.f0) ((rd_T38 x474006 x4).f1.f1)).bind fun t477 => (if t477 = true then ((althingref02_Before.f ((rd_T38 x474006 x4).f1.f0) ((rd_T38 x474006 x4).f1.f1) x474003 x474004).bind fun t479 => (if t479 = true then (if x3.length < 8796093022208 then (althingref05_Right.l0 k (x3 ++ [(rd_T38 x474006 x4).f0]) (wrap64 (x4 + 1)) x474000 x474001 x474002 x474003 x474004 x474005 x474006 x474007 x474008) else (none)) else (some false))) else (some false))) else (none)) else (althingref05_Right.l1 k x3 ([] : List ByteArray) 0 x474000 x474001 x474002 x474003 x474004 x474005 x474006 x474007 x474008)
def althingref05_Right.l1 : Nat → List ByteArray → List ByteArray → Int → Int → Int → Int → Int → Int → Int → List (S38) → List (S40) → Bool → Option (Bool)
 | 0, _, _, _, _, _, _, _, _, _, _, _, _ => none
 | k + 1, x3, x5, x6, x474000, x474001, x474002, x474003, x474004, x474005, x474006, x474007, x474008 => if x6 < (x474007.length : Int) then (if 0 ≤ x6 then (if (((rd_T40 x474007 x6).f1).size : Int) > 8 then (some false) else (if x5.length < 8796093022208 then (althingref05_Right.l1 k x3 (x5 ++ [(rd_T40 x474007 x6).f0]) (wrap64 (x6 + 1)) x474000 x474001 x474002 x474003 x474004 x474005 x474006 x474007 x474008) else (none))) else (none)) else ((althingref04_Rights.f k x3).bind fun t489 => (if t489 = true then ((althingref04_Rights.f k x5).bind fun t490 => (some t490)) else (some false)))
end
def althingref05_Right.f (k : Nat) (a0_0 : Int) (a0_1 : Int) (a0_2 : Int) (a0_3 : Int) (a0_4 : Int) (a0_5 : Int) (l0_6 : List (S38)) (l0_7 : List (S40)) (a0_8 : Bool) : Option (Bool) := if a0_0 = 0 then (if (a0_1 == 0 && (a0_2 == 0)) = true then (if (a0_3 == 0 && (a0_4 == 0)) = true then (if a0_5 = 0 then (if (l0_6.length : Int) = 0 then (if (l0_7.length : Int) = 0 then (some (!a0_8)) else (some false)) else (some false)) else (some false)) else (some false)) else (some false)) else (if a0_0 = 1 then (althingref05_Right.j0 k a0_8 a0_0 a0_1 a0_2 a0_3 a0_4 a0_5 l0_6 l0_7 a0_8) else (if a0_0 = 2 then (althingref05_Right.j0 k false a0_0 a0_1 a0_2 a0_3 a0_4 a0_5 l0_6 l0_7 a0_8) else (althingref05_Right.j0 k true a0_0 a0_1 a0_2 a0_3 a0_4 a0_5 l0_6 l0_7 a0_8)))
def althingref05_Right.T13 : Bool × List (List Nat × List Nat) := (true, [([], []), ([0], [0]), ([], []), ([1, 2], [1, 2]), ([3], [3]), ([4], [4]), ([5], [5]), ([6], [6]), ([7, 6], [7]), ([8], [8]), ([9, 8], [8, 9]), ([8], [8]), ([10, 11, 8], [8, 10, 11]), ([12, 8], [8, 12]), ([13, 8], [8, 13]), ([8], [8]), ([15, 8], [8, 15]), ([14, 16, 8, 8], [8, 14, 16]), ([17, 8], [8, 17]), ([8, 18], [8, 18])])
def althingref05_Right.B13 : List Nat := [0, 1, 0, 7, 15, 31, 63, 127, 255, 511, 1023, 511, 4095, 8191, 16383, 511, 33279, 131071, 262143, 524287]
theorem althingref05_Right.tab13 : rtab .any (opsOf Try.f16 13) = althingref05_Right.T13 := by kernel_rfl
theorem althingref05_Right.bits13 : waitsOk althingref05_Right.T13.2 althingref05_Right.B13 = true := by kernel_rfl
set_option maxHeartbeats 40000000 in
set_option maxRecDepth 100000 in
theorem althingref05_Right.calls (k : Nat) (a0_0 : Int) (a0_1 : Int) (a0_2 : Int) (a0_3 : Int) (a0_4 : Int) (a0_5 : Int) (A0_6 : Option Addr) (c0_6 : Nat) (l0_6 : List (S38)) (A0_7 : Option Addr) (c0_7 : Nat) (l0_7 : List (S40)) (a0_8 : Bool) (r : Bool) (w : World) (hr0_6 : Kd.C k38 w A0_6 l0_6.length l0_6) (hc0_6 : l0_6.length ≤ c0_6) (hr0_7 : Kd.C k40 w A0_7 l0_7.length l0_7) (hc0_7 : l0_7.length ≤ c0_7) (h : althingref05_Right.f k a0_0 a0_1 a0_2 a0_3 a0_4 a0_5 l0_6 l0_7 a0_8 = some r) :
 Calls Try.prog 16 #[.agg #[.int .i64 a0_0, .int .i64 a0_1, .int .i64 a0_2, .int .i64 a0_3, .int .i64 a0_4, .int .i64 a0_5, .slice A0_6 l0_6.length c0_6, .slice A0_7 l0_7.length c0_7, .bool a0_8]] w fun e w' => e = .returned (.bool r) ∧ Below w.heap.size w w' := by
 have hu29 := Try.underlying29
 have hu23 := Try.underlying23
 have hu25 := Try.underlying25
 have HR0_6 := Aside0.mk hr0_6
 have HC0_6 := Aside0.mk hc0_6
 clear hr0_6 hc0_6
 have HR0_7 := Aside0.mk hr0_7
 have HC0_7 := Aside0.mk hc0_7
 clear hr0_7 hc0_7
 have HB := Aside0.mk (Below.refl w.heap.size w)
 have H : (if a0_0 = 0 then (if (a0_1 == 0 && (a0_2 == 0)) = true then (if (a0_3 == 0 && (a0_4 == 0)) = true then (if a0_5 = 0 then (if (l0_6.length : Int) = 0 then (if (l0_7.length : Int) = 0 then (some (!a0_8)) else (some false)) else (some false)) else (some false)) else (some false)) else (some false)) else (if a0_0 = 1 then (althingref05_Right.j0 k a0_8 a0_0 a0_1 a0_2 a0_3 a0_4 a0_5 l0_6 l0_7 a0_8) else (if a0_0 = 2 then (althingref05_Right.j0 k false a0_0 a0_1 a0_2 a0_3 a0_4 a0_5 l0_6 l0_7 a0_8) else (althingref05_Right.j0 k true a0_0 a0_1 a0_2 a0_3 a0_4 a0_5 l0_6 l0_7 a0_8)))) = some r := h
 clear h
 by_cases c2 : a0_0 = 0
 · rw [if_pos c2] at H
   have c2b0 : (a0_0 == 0) = true := beq_iff_eq.mpr c2
   have c2b1 : (a0_0 != 0) = false := bne_eq_false_iff_eq.mpr c2
   clear c2
   by_cases c3 : (a0_1 == 0 && (a0_2 == 0)) = true
   · rw [if_pos c3] at H
     have c3b0 : (a0_1 == 0 && (a0_2 == 0)) = true := c3
     (try (have c3b1 : decide (a0_1 = 0 && (a0_2 == 0)) = true := by simpa using c3))
     (try (have c3b2 : (a0_1 == 0 && (a0_2 == 0)) = true := by simpa using c3))
     clear c3
     by_cases c4 : (a0_3 == 0 && (a0_4 == 0)) = true
     · rw [if_pos c4] at H
       have c4b0 : (a0_3 == 0 && (a0_4 == 0)) = true := c4
       (try (have c4b1 : decide (a0_3 = 0 && (a0_4 == 0)) = true := by simpa using c4))
       (try (have c4b2 : (a0_3 == 0 && (a0_4 == 0)) = true := by simpa using c4))
       clear c4
       by_cases c5 : a0_5 = 0
       · rw [if_pos c5] at H
         have c5b0 : (a0_5 == 0) = true := beq_iff_eq.mpr c5
         have c5b1 : (a0_5 != 0) = false := bne_eq_false_iff_eq.mpr c5
         clear c5
         by_cases c6 : (l0_6.length : Int) = 0
         · rw [if_pos c6] at H
           have c6b0 : ((l0_6.length : Int) == 0) = true := beq_iff_eq.mpr c6
           have c6b1 : ((l0_6.length : Int) != 0) = false := bne_eq_false_iff_eq.mpr c6
           clear c6
           by_cases c7 : (l0_7.length : Int) = 0
           · rw [if_pos c7] at H
             have c7b0 : ((l0_7.length : Int) == 0) = true := beq_iff_eq.mpr c7
             have c7b1 : ((l0_7.length : Int) != 0) = false := bne_eq_false_iff_eq.mpr c7
             clear c7
             obtain rfl := Option.some.inj H
             go_enter Try.func16, Try.ntmps16
             go_wp2_with (first | ((with_reducible refine gate_dst (N := 1) rfl ?_); (try (refine gate_guard (by rfl) ?_; dsimp only)); refine bx_ 1 29 #[.int .i64 a0_0, .int .i64 a0_1, .int .i64 a0_2, .int .i64 a0_3, .int .i64 a0_4, .int .i64 a0_5, .slice A0_6 l0_6.length c0_6, .slice A0_7 l0_7.length c0_7, .bool a0_8] ?_; intro gb473 hg w8 hbox hb; have BK473 := Aside0.mk hbox; have GE473 := ge_ HB hg; replace HB := hs_ HB hb; clear hb hbox hg; refine blk9_ BK473.out fun hcz9_0 hcz9_1 hcz9_2 hcz9_3 hcz9_4 hcz9_5 hcz9_6 hcz9_7 hcz9_8 hfz9_0 hfz9_1 hfz9_2 hfz9_3 hfz9_4 hfz9_5 hfz9_6 hfz9_7 hfz9_8 => ?_))
             go_ret
             exact ⟨by first | rfl | (simp [errW_none, errW_some] <;> rfl) | (simp [*, errW_none, errW_some] <;> rfl), by repeat (first | (with_reducible first | exact HB.out | apply below_alloc | apply pw_below_drewN | apply below_drew1 | refine below_set ?_ GE473.out) | exact HB.out)⟩
           · rw [if_neg c7] at H
             have c7b0 : ((l0_7.length : Int) == 0) = false := beq_eq_false_iff_ne.mpr c7
             have c7b1 : ((l0_7.length : Int) != 0) = true := bne_iff_ne.mpr c7
             have c7b2 : ¬ (l0_7 = []) := fun h_ => c7 (by rw [h_]; rfl)
             obtain rfl := Option.some.inj H
             go_enter Try.func16, Try.ntmps16
             go_wp2_with (first | ((with_reducible refine gate_dst (N := 1) rfl ?_); (try (refine gate_guard (by rfl) ?_; dsimp only)); refine bx_ 1 29 #[.int .i64 a0_0, .int .i64 a0_1, .int .i64 a0_2, .int .i64 a0_3, .int .i64 a0_4, .int .i64 a0_5, .slice A0_6 l0_6.length c0_6, .slice A0_7 l0_7.length c0_7, .bool a0_8] ?_; intro gb473 hg w10 hbox hb; have BK473 := Aside0.mk hbox; have GE473 := ge_ HB hg; replace HB := hs_ HB hb; clear hb hbox hg; refine blk9_ BK473.out fun hcz11_0 hcz11_1 hcz11_2 hcz11_3 hcz11_4 hcz11_5 hcz11_6 hcz11_7 hcz11_8 hfz11_0 hfz11_1 hfz11_2 hfz11_3 hfz11_4 hfz11_5 hfz11_6 hfz11_7 hfz11_8 => ?_))
             go_ret
             exact ⟨by first | rfl | (simp [errW_none, errW_some] <;> rfl) | (simp [*, errW_none, errW_some] <;> rfl), by repeat (first | (with_reducible first | exact HB.out | apply below_alloc | apply pw_below_drewN | apply below_drew1 | refine below_set ?_ GE473.out) | exact HB.out)⟩
         · rw [if_neg c6] at H
           have c6b0 : ((l0_6.length : Int) == 0) = false := beq_eq_false_iff_ne.mpr c6
           have c6b1 : ((l0_6.length : Int) != 0) = true := bne_iff_ne.mpr c6
           have c6b2 : ¬ (l0_6 = []) := fun h_ => c6 (by rw [h_]; rfl)
           obtain rfl := Option.some.inj H
           go_enter Try.func16, Try.ntmps16
           go_wp2_with (first | ((with_reducible refine gate_dst (N := 1) rfl ?_); (try (refine gate_guard (by rfl) ?_; dsimp only)); refine bx_ 1 29 #[.int .i64 a0_0, .int .i64 a0_1, .int .i64 a0_2, .int .i64 a0_3, .int .i64 a0_4, .int .i64 a0_5, .slice A0_6 l0_6.length c0_6, .slice A0_7 l0_7.length c0_7, .bool a0_8] ?_; intro gb473 hg w12 hbox hb; have BK473 := Aside0.mk hbox; have GE473 := ge_ HB hg; replace HB := hs_ HB hb; clear hb hbox hg; refine blk9_ BK473.out fun hcz13_0 hcz13_1 hcz13_2 hcz13_3 hcz13_4 hcz13_5 hcz13_6 hcz13_7 hcz13_8 hfz13_0 hfz13_1 hfz13_2 hfz13_3 hfz13_4 hfz13_5 hfz13_6 hfz13_7 hfz13_8 => ?_))
           go_ret
           exact ⟨by first | rfl | (simp [errW_none, errW_some] <;> rfl) | (simp [*, errW_none, errW_some] <;> rfl), by repeat (first | (with_reducible first | exact HB.out | apply below_alloc | apply pw_below_drewN | apply below_drew1 | refine below_set ?_ GE473.out) | exact HB.out)⟩
       · rw [if_neg c5] at H
         have c5b0 : (a0_5 == 0) = false := beq_eq_false_iff_ne.mpr c5
         have c5b1 : (a0_5 != 0) = true := bne_iff_ne.mpr c5
         obtain rfl := Option.some.inj H
         go_enter Try.func16, Try.ntmps16
         go_wp2_with (first | ((with_reducible refine gate_dst (N := 1) rfl ?_); (try (refine gate_guard (by rfl) ?_; dsimp only)); refine bx_ 1 29 #[.int .i64 a0_0, .int .i64 a0_1, .int .i64 a0_2, .int .i64 a0_3, .int .i64 a0_4, .int .i64 a0_5, .slice A0_6 l0_6.length c0_6, .slice A0_7 l0_7.length c0_7, .bool a0_8] ?_; intro gb473 hg w14 hbox hb; have BK473 := Aside0.mk hbox; have GE473 := ge_ HB hg; replace HB := hs_ HB hb; clear hb hbox hg; refine blk9_ BK473.out fun hcz15_0 hcz15_1 hcz15_2 hcz15_3 hcz15_4 hcz15_5 hcz15_6 hcz15_7 hcz15_8 hfz15_0 hfz15_1 hfz15_2 hfz15_3 hfz15_4 hfz15_5 hfz15_6 hfz15_7 hfz15_8 => ?_))
         go_ret
         exact ⟨by first | rfl | (simp [errW_none, errW_some] <;> rfl) | (simp [*, errW_none, errW_some] <;> rfl), by repeat (first | (with_reducible first | exact HB.out | apply below_alloc | apply pw_below_drewN | apply below_drew1 | refine below_set ?_ GE473.out) | exact HB.out)⟩
     · rw [if_neg c4] at H
       have c4b0 : (a0_3 == 0 && (a0_4 == 0)) = false := by simpa using c4
       (try (have c4b1 : decide (a0_3 = 0 && (a0_4 == 0)) = false := by simpa using c4))
       (try (have c4b2 : (a0_3 == 0 && (a0_4 == 0)) = false := by simpa using c4))
       (try (have c4b3 : ¬ (a0_3 = 0 && (a0_4 == 0)) := by simpa using c4))
       clear c4
       obtain rfl := Option.some.inj H
       go_enter Try.func16, Try.ntmps16
       go_wp2_with (first | ((with_reducible refine gate_dst (N := 1) rfl ?_); (try (refine gate_guard (by rfl) ?_; dsimp only)); refine bx_ 1 29 #[.int .i64 a0_0, .int .i64 a0_1, .int .i64 a0_2, .int .i64 a0_3, .int .i64 a0_4, .int .i64 a0_5, .slice A0_6 l0_6.length c0_6, .slice A0_7 l0_7.length c0_7, .bool a0_8] ?_; intro gb473 hg w16 hbox hb; have BK473 := Aside0.mk hbox; have GE473 := ge_ HB hg; replace HB := hs_ HB hb; clear hb hbox hg; refine blk9_ BK473.out fun hcz17_0 hcz17_1 hcz17_2 hcz17_3 hcz17_4 hcz17_5 hcz17_6 hcz17_7 hcz17_8 hfz17_0 hfz17_1 hfz17_2 hfz17_3 hfz17_4 hfz17_5 hfz17_6 hfz17_7 hfz17_8 => ?_))
       go_ret
       exact ⟨by first | rfl | (simp [errW_none, errW_some] <;> rfl) | (simp [*, errW_none, errW_some] <;> rfl), by repeat (first | (with_reducible first | exact HB.out | apply below_alloc | apply pw_below_drewN | apply below_drew1 | refine below_set ?_ GE473.out) | exact HB.out)⟩
   · rw [if_neg c3] at H
     have c3b0 : (a0_1 == 0 && (a0_2 == 0)) = false := by simpa using c3
     (try (have c3b1 : decide (a0_1 = 0 && (a0_2 == 0)) = false := by simpa using c3))
     (try (have c3b2 : (a0_1 == 0 && (a0_2 == 0)) = false := by simpa using c3))
     (try (have c3b3 : ¬ (a0_1 = 0 && (a0_2 == 0)) := by simpa using c3))
     clear c3
     obtain rfl := Option.some.inj H
     go_enter Try.func16, Try.ntmps16
     go_wp2_with (first | ((with_reducible refine gate_dst (N := 1) rfl ?_); (try (refine gate_guard (by rfl) ?_; dsimp only)); refine bx_ 1 29 #[.int .i64 a0_0, .int .i64 a0_1, .int .i64 a0_2, .int .i64 a0_3, .int .i64 a0_4, .int .i64 a0_5, .slice A0_6 l0_6.length c0_6, .slice A0_7 l0_7.length c0_7, .bool a0_8] ?_; intro gb473 hg w18 hbox hb; have BK473 := Aside0.mk hbox; have GE473 := ge_ HB hg; replace HB := hs_ HB hb; clear hb hbox hg; refine blk9_ BK473.out fun hcz19_0 hcz19_1 hcz19_2 hcz19_3 hcz19_4 hcz19_5 hcz19_6 hcz19_7 hcz19_8 hfz19_0 hfz19_1 hfz19_2 hfz19_3 hfz19_4 hfz19_5 hfz19_6 hfz19_7 hfz19_8 => ?_))
     go_ret
     exact ⟨by first | rfl | (simp [errW_none, errW_some] <;> rfl) | (simp [*, errW_none, errW_some] <;> rfl), by repeat (first | (with_reducible first | exact HB.out | apply below_alloc | apply pw_below_drewN | apply below_drew1 | refine below_set ?_ GE473.out) | exact HB.out)⟩
 · rw [if_neg c2] at H
   have c2b0 : (a0_0 == 0) = false := beq_eq_false_iff_ne.mpr c2
   have c2b1 : (a0_0 != 0) = true := bne_iff_ne.mpr c2
   have HC20 := Aside0.mk H
   clear H
   go_enter Try.func16, Try.ntmps16
   go_upto_region 3 with (first | ((with_reducible refine gate_dst (N := 1) rfl ?_); (try (refine gate_guard (by rfl) ?_; dsimp only)); refine bx_ 1 29 #[.int .i64 a0_0, .int .i64 a0_1, .int .i64 a0_2, .int .i64 a0_3, .int .i64 a0_4, .int .i64 a0_5, .slice A0_6 l0_6.length c0_6, .slice A0_7 l0_7.length c0_7, .bool a0_8] ?_; intro gb473 hg w21 hbox hb; have BK473 := Aside0.mk hbox; have GE473 := ge_ HB hg; replace HB := hs_ HB hb; clear hb hbox hg; refine blk9_ BK473.out fun hcz22_0 hcz22_1 hcz22_2 hcz22_3 hcz22_4 hcz22_5 hcz22_6 hcz22_7 hcz22_8 hfz22_0 hfz22_1 hfz22_2 hfz22_3 hfz22_4 hfz22_5 hfz22_6 hfz22_7 hfz22_8 => ?_))
   (try simp only [Act.put, List.setIfInBounds_toArray, List.set_cons_zero, List.set_cons_succ])
   go_cut [58] (fun v58 wc => ∃ (kq : Nat) (x58_19 : Bool), v58 = .bool x58_19 ∧ Aside0 (althingref05_Right.j0 kq x58_19 a0_0 a0_1 a0_2 a0_3 a0_4 a0_5 l0_6 l0_7 a0_8 = some r) ∧ Aside0 (kq ≤ k) ∧ Aside0 (wc.heap[gb473]? = some (.cells #[.int .i64 a0_0, .int .i64 a0_1, .int .i64 a0_2, .int .i64 a0_3, .int .i64 a0_4, .int .i64 a0_5, (.slice A0_6 l0_6.length c0_6), (.slice A0_7 l0_7.length c0_7), .bool a0_8] 29 (0, 0))) ∧ Aside0 (Below w.heap.size w wc))
   case first =>
    have H := HC20.out
    clear HC20
    by_cases c23 : a0_0 = 1
    · rw [if_pos c23] at H
      have c23b0 : (a0_0 == 1) = true := beq_iff_eq.mpr c23
      have c23b1 : (a0_0 != 1) = false := bne_eq_false_iff_eq.mpr c23
      clear c23
      (first | rw [c23b0] | (simp only [i64_w, i32_w]; rw [c23b0]) | skip)
      have H' := Aside0.mk H
      clear H
      refine blk9_ BK473.out fun hcz24_0 hcz24_1 hcz24_2 hcz24_3 hcz24_4 hcz24_5 hcz24_6 hcz24_7 hcz24_8 hfz24_0 hfz24_1 hfz24_2 hfz24_3 hfz24_4 hfz24_5 hfz24_6 hfz24_7 hfz24_8 => ?_
      go_wp2
      go_meet
      case rel => exact ⟨_, (a0_8), sm_, H', ⟨by first | omega | exact Nat.le_refl _⟩, ⟨by (with_reducible repeat (first | refine blk_drewN ?_ _ | refine blk_drew ?_ | refine blk_alloc ?_ _)); exact BK473.out⟩, ⟨by repeat (first | (with_reducible first | exact HB.out | apply below_alloc | apply pw_below_drewN | apply below_drew1 | refine below_set ?_ GE473.out) | exact HB.out)⟩⟩
    · rw [if_neg c23] at H
      have c23b0 : (a0_0 == 1) = false := beq_eq_false_iff_ne.mpr c23
      have c23b1 : (a0_0 != 1) = true := bne_iff_ne.mpr c23
      (first | rw [c23b0] | (simp only [i64_w, i32_w]; rw [c23b0]) | skip)
      by_cases c25 : a0_0 = 2
      · rw [if_pos c25] at H
        have c25b0 : (a0_0 == 2) = true := beq_iff_eq.mpr c25
        have c25b1 : (a0_0 != 2) = false := bne_eq_false_iff_eq.mpr c25
        clear c25
        have H' := Aside0.mk H
        clear H
        refine blk9_ BK473.out fun hcz26_0 hcz26_1 hcz26_2 hcz26_3 hcz26_4 hcz26_5 hcz26_6 hcz26_7 hcz26_8 hfz26_0 hfz26_1 hfz26_2 hfz26_3 hfz26_4 hfz26_5 hfz26_6 hfz26_7 hfz26_8 => ?_
        go_wp2
        go_meet
        case rel => exact ⟨_, (false), sm_, H', ⟨by first | omega | exact Nat.le_refl _⟩, ⟨by (with_reducible repeat (first | refine blk_drewN ?_ _ | refine blk_drew ?_ | refine blk_alloc ?_ _)); exact BK473.out⟩, ⟨by repeat (first | (with_reducible first | exact HB.out | apply below_alloc | apply pw_below_drewN | apply below_drew1 | refine below_set ?_ GE473.out) | exact HB.out)⟩⟩
      · rw [if_neg c25] at H
        have c25b0 : (a0_0 == 2) = false := beq_eq_false_iff_ne.mpr c25
        have c25b1 : (a0_0 != 2) = true := bne_iff_ne.mpr c25
        have H' := Aside0.mk H
        clear H
        refine blk9_ BK473.out fun hcz27_0 hcz27_1 hcz27_2 hcz27_3 hcz27_4 hcz27_5 hcz27_6 hcz27_7 hcz27_8 hfz27_0 hfz27_1 hfz27_2 hfz27_3 hfz27_4 hfz27_5 hfz27_6 hfz27_7 hfz27_8 => ?_
        go_wp2
        go_meet
        case rel => exact ⟨_, (true), sm_, H', ⟨by first | omega | exact Nat.le_refl _⟩, ⟨by (with_reducible repeat (first | refine blk_drewN ?_ _ | refine blk_drew ?_ | refine blk_alloc ?_ _)); exact BK473.out⟩, ⟨by repeat (first | (with_reducible first | exact HB.out | apply below_alloc | apply pw_below_drewN | apply below_drew1 | refine below_set ?_ GE473.out) | exact HB.out)⟩⟩
   case rest =>
    clear HC20
    try clear c1
    try clear c2
    try clear c2b0
    try clear c2b1
    try clear p2
    try clear c3
    try clear c3b0
    try clear c3b1
    try clear c3b2
    try clear c4
    try clear c4b0
    try clear c4b1
    try clear c4b2
    try clear c5
    try clear c5b0
    try clear c5b1
    try clear c6
    try clear c6b0
    try clear c6b1
    try clear c6b2
    try clear c7
    try clear c7b0
    try clear c7b1
    try clear c7b2
    try clear c16
    try clear c23
    try clear c23b0
    try clear c23b1
    try clear c25
    try clear c25b0
    try clear c25b1
    try clear hcz11_0 hcz11_1 hcz11_2 hcz11_3 hcz11_4 hcz11_5 hcz11_6 hcz11_7 hcz11_8
    try clear hcz13_0 hcz13_1 hcz13_2 hcz13_3 hcz13_4 hcz13_5 hcz13_6 hcz13_7 hcz13_8
    try clear hcz15_0 hcz15_1 hcz15_2 hcz15_3 hcz15_4 hcz15_5 hcz15_6 hcz15_7 hcz15_8
    try clear hcz17_0 hcz17_1 hcz17_2 hcz17_3 hcz17_4 hcz17_5 hcz17_6 hcz17_7 hcz17_8
    try clear hcz19_0 hcz19_1 hcz19_2 hcz19_3 hcz19_4 hcz19_5 hcz19_6 hcz19_7 hcz19_8
    try clear hcz22_0 hcz22_1 hcz22_2 hcz22_3 hcz22_4 hcz22_5 hcz22_6 hcz22_7 hcz22_8
    try clear hcz24_0 hcz24_1 hcz24_2 hcz24_3 hcz24_4 hcz24_5 hcz24_6 hcz24_7 hcz24_8
    try clear hcz26_0 hcz26_1 hcz26_2 hcz26_3 hcz26_4 hcz26_5 hcz26_6 hcz26_7 hcz26_8
    try clear hcz27_0 hcz27_1 hcz27_2 hcz27_3 hcz27_4 hcz27_5 hcz27_6 hcz27_7 hcz27_8
    try clear hcz9_0 hcz9_1 hcz9_2 hcz9_3 hcz9_4 hcz9_5 hcz9_6 hcz9_7 hcz9_8
    try clear hfz11_0 hfz11_1 hfz11_2 hfz11_3 hfz11_4 hfz11_5 hfz11_6 hfz11_7 hfz11_8
    try clear hfz13_0 hfz13_1 hfz13_2 hfz13_3 hfz13_4 hfz13_5 hfz13_6 hfz13_7 hfz13_8
    try clear hfz15_0 hfz15_1 hfz15_2 hfz15_3 hfz15_4 hfz15_5 hfz15_6 hfz15_7 hfz15_8
    try clear hfz17_0 hfz17_1 hfz17_2 hfz17_3 hfz17_4 hfz17_5 hfz17_6 hfz17_7 hfz17_8
    try clear hfz19_0 hfz19_1 hfz19_2 hfz19_3 hfz19_4 hfz19_5 hfz19_6 hfz19_7 hfz19_8
    try clear hfz22_0 hfz22_1 hfz22_2 hfz22_3 hfz22_4 hfz22_5 hfz22_6 hfz22_7 hfz22_8
    try clear hfz24_0 hfz24_1 hfz24_2 hfz24_3 hfz24_4 hfz24_5 hfz24_6 hfz24_7 hfz24_8
    try clear hfz26_0 hfz26_1 hfz26_2 hfz26_3 hfz26_4 hfz26_5 hfz26_6 hfz26_7 hfz26_8
    try clear hfz27_0 hfz27_1 hfz27_2 hfz27_3 hfz27_4 hfz27_5 hfz27_6 hfz27_7 hfz27_8
    try clear hfz9_0 hfz9_1 hfz9_2 hfz9_3 hfz9_4 hfz9_5 hfz9_6 hfz9_7 hfz9_8
    obtain ⟨kq, x58_19, rfl, HA, HJ19, BK473, HB⟩ := hcut
    cases kq with
    | zero => exact absurd HA.out (by simp [althingref05_Right.j0])
    | succ kj19 =>
     have H := HA.out
     clear HA
     simp only [althingref05_Right.j0] at H
     by_cases c28 : x58_19 = true
     · subst c28
       rw [if_pos rfl] at H
       obtain rfl := Option.some.inj H
       go_wp2
       go_ret
       exact ⟨by first | rfl | (simp [errW_none, errW_some] <;> rfl) | (simp [*, errW_none, errW_some] <;> rfl), by repeat (first | (with_reducible first | exact HB.out | apply below_alloc | apply pw_below_drewN | apply below_drew1 | refine below_set ?_ GE473.out) | exact HB.out)⟩
     · replace c28 := Bool.eq_false_iff.mpr c28
       subst c28
       rw [if_neg (show ¬ (false = true) by decide)] at H
       have HC29 := Aside0.mk H
       clear H
       go_upto_region 5 with (fail)
       go_cut [83] (fun v83 wc => ∃ (kq : Nat) (x83_28 : Bool), v83 = .bool x83_28 ∧ Aside0 (althingref05_Right.j1 kq x83_28 a0_0 a0_1 a0_2 a0_3 a0_4 a0_5 l0_6 l0_7 a0_8 = some r) ∧ Aside0 (kq ≤ kj19) ∧ Aside0 (wc.heap[gb473]? = some (.cells #[.int .i64 a0_0, .int .i64 a0_1, .int .i64 a0_2, .int .i64 a0_3, .int .i64 a0_4, .int .i64 a0_5, (.slice A0_6 l0_6.length c0_6), (.slice A0_7 l0_7.length c0_7), .bool a0_8] 29 (0, 0))) ∧ Aside0 (Below w.heap.size w wc))
       case first =>
        have H := HC29.out
        clear HC29
        obtain ⟨t474, A30, H⟩ := bs_ H
        by_cases c31 : t474 = true
        · subst c31
          rw [if_pos rfl] at H
          obtain ⟨t475, A32, H⟩ := bs_ H
          by_cases c33 : t475 = true
          · subst c33
            rw [if_pos rfl] at H
            by_cases c34 : a0_3 = 0
            · rw [if_pos c34] at H
              have c34b0 : (a0_3 == 0) = true := beq_iff_eq.mpr c34
              have c34b1 : (a0_3 != 0) = false := bne_eq_false_iff_eq.mpr c34
              clear c34
              (first | rw [c34b0] | (simp only [i64_w, i32_w]; rw [c34b0]) | skip)
              have H' := Aside0.mk H
              clear H
              refine blk9_ BK473.out fun hcz35_0 hcz35_1 hcz35_2 hcz35_3 hcz35_4 hcz35_5 hcz35_6 hcz35_7 hcz35_8 hfz35_0 hfz35_1 hfz35_2 hfz35_3 hfz35_4 hfz35_5 hfz35_6 hfz35_7 hfz35_8 => ?_
              go_wp2_with (first | ((with_reducible refine gate_callee (f := 36) rfl ?_); refine gl_ (some 61) Try.func36 #[.agg #[.int .i64 a0_1, .int .i64 a0_2]] ?_; (with_reducible refine (althingref02_RightTxn.calls a0_1 a0_2 true _ A30.out).mono ?_); rintro e w36 ⟨rfl, hb⟩; refine ⟨_, rfl, ?_⟩; replace BK473 := bb_ BK473 hb; replace HB := hs_ HB hb; (try clear hb); refine blk9_ BK473.out fun hcz37_0 hcz37_1 hcz37_2 hcz37_3 hcz37_4 hcz37_5 hcz37_6 hcz37_7 hcz37_8 hfz37_0 hfz37_1 hfz37_2 hfz37_3 hfz37_4 hfz37_5 hfz37_6 hfz37_7 hfz37_8 => ?_) | (go_at_call 37; (with_reducible refine (althingref02_RightStamp.calls a0_3 a0_4 true _ A32.out).mono ?_); rintro e w38 ⟨rfl, hb⟩; replace BK473 := bb_ BK473 hb; replace HB := hs_ HB hb; (try clear hb); refine blk9_ BK473.out fun hcz39_0 hcz39_1 hcz39_2 hcz39_3 hcz39_4 hcz39_5 hcz39_6 hcz39_7 hcz39_8 hfz39_0 hfz39_1 hfz39_2 hfz39_3 hfz39_4 hfz39_5 hfz39_6 hfz39_7 hfz39_8 => ?_))
              go_meet
              case rel => exact ⟨_, (true), sm_, H', ⟨by have := HJ19.out; first | omega | exact Nat.le_refl _⟩, ⟨by (with_reducible repeat (first | refine blk_drewN ?_ _ | refine blk_drew ?_ | refine blk_alloc ?_ _)); exact BK473.out⟩, ⟨by repeat (first | (with_reducible first | exact HB.out | apply below_alloc | apply pw_below_drewN | apply below_drew1 | refine below_set ?_ GE473.out) | exact HB.out)⟩⟩
            · rw [if_neg c34] at H
              have c34b0 : (a0_3 == 0) = false := beq_eq_false_iff_ne.mpr c34
              have c34b1 : (a0_3 != 0) = true := bne_iff_ne.mpr c34
              (first | rw [c34b0] | (simp only [i64_w, i32_w]; rw [c34b0]) | skip)
              have H' := Aside0.mk H
              clear H
              refine blk9_ BK473.out fun hcz40_0 hcz40_1 hcz40_2 hcz40_3 hcz40_4 hcz40_5 hcz40_6 hcz40_7 hcz40_8 hfz40_0 hfz40_1 hfz40_2 hfz40_3 hfz40_4 hfz40_5 hfz40_6 hfz40_7 hfz40_8 => ?_
              go_wp2_with (first | ((with_reducible refine gate_callee (f := 36) rfl ?_); refine gl_ (some 61) Try.func36 #[.agg #[.int .i64 a0_1, .int .i64 a0_2]] ?_; (with_reducible refine (althingref02_RightTxn.calls a0_1 a0_2 true _ A30.out).mono ?_); rintro e w41 ⟨rfl, hb⟩; refine ⟨_, rfl, ?_⟩; replace BK473 := bb_ BK473 hb; replace HB := hs_ HB hb; (try clear hb); refine blk9_ BK473.out fun hcz42_0 hcz42_1 hcz42_2 hcz42_3 hcz42_4 hcz42_5 hcz42_6 hcz42_7 hcz42_8 hfz42_0 hfz42_1 hfz42_2 hfz42_3 hfz42_4 hfz42_5 hfz42_6 hfz42_7 hfz42_8 => ?_) | (go_at_call 37; (with_reducible refine (althingref02_RightStamp.calls a0_3 a0_4 true _ A32.out).mono ?_); rintro e w43 ⟨rfl, hb⟩; replace BK473 := bb_ BK473 hb; replace HB := hs_ HB hb; (try clear hb); refine blk9_ BK473.out fun hcz44_0 hcz44_1 hcz44_2 hcz44_3 hcz44_4 hcz44_5 hcz44_6 hcz44_7 hcz44_8 hfz44_0 hfz44_1 hfz44_2 hfz44_3 hfz44_4 hfz44_5 hfz44_6 hfz44_7 hfz44_8 => ?_))
              go_meet
              case rel => exact ⟨_, ((a0_4 != a0_1)), sm_, H', ⟨by have := HJ19.out; first | omega | exact Nat.le_refl _⟩, ⟨by (with_reducible repeat (first | refine blk_drewN ?_ _ | refine blk_drew ?_ | refine blk_alloc ?_ _)); exact BK473.out⟩, ⟨by repeat (first | (with_reducible first | exact HB.out | apply below_alloc | apply pw_below_drewN | apply below_drew1 | refine below_set ?_ GE473.out) | exact HB.out)⟩⟩
          · replace c33 := Bool.eq_false_iff.mpr c33
            subst c33
            rw [if_neg (show ¬ (false = true) by decide)] at H
            have H' := Aside0.mk H
            clear H
            refine blk9_ BK473.out fun hcz45_0 hcz45_1 hcz45_2 hcz45_3 hcz45_4 hcz45_5 hcz45_6 hcz45_7 hcz45_8 hfz45_0 hfz45_1 hfz45_2 hfz45_3 hfz45_4 hfz45_5 hfz45_6 hfz45_7 hfz45_8 => ?_
            go_wp2_with (first | ((with_reducible refine gate_callee (f := 36) rfl ?_); refine gl_ (some 61) Try.func36 #[.agg #[.int .i64 a0_1, .int .i64 a0_2]] ?_; (with_reducible refine (althingref02_RightTxn.calls a0_1 a0_2 true _ A30.out).mono ?_); rintro e w46 ⟨rfl, hb⟩; refine ⟨_, rfl, ?_⟩; replace BK473 := bb_ BK473 hb; replace HB := hs_ HB hb; (try clear hb); (try clear hi); refine blk9_ BK473.out fun hcz47_0 hcz47_1 hcz47_2 hcz47_3 hcz47_4 hcz47_5 hcz47_6 hcz47_7 hcz47_8 hfz47_0 hfz47_1 hfz47_2 hfz47_3 hfz47_4 hfz47_5 hfz47_6 hfz47_7 hfz47_8 => ?_) | (go_at_call 37; (with_reducible refine (althingref02_RightStamp.calls a0_3 a0_4 false _ A32.out).mono ?_); rintro e w48 ⟨rfl, hb⟩; replace BK473 := bb_ BK473 hb; replace HB := hs_ HB hb; (try clear hb); (try clear hi)))
            go_meet
            case rel => exact ⟨_, (true), sm_, H', ⟨by have := HJ19.out; first | omega | exact Nat.le_refl _⟩, ⟨by (with_reducible repeat (first | refine blk_drewN ?_ _ | refine blk_drew ?_ | refine blk_alloc ?_ _)); exact BK473.out⟩, ⟨by repeat (first | (with_reducible first | exact HB.out | apply below_alloc | apply pw_below_drewN | apply below_drew1 | refine below_set ?_ GE473.out) | exact HB.out)⟩⟩
        · replace c31 := Bool.eq_false_iff.mpr c31
          subst c31
          rw [if_neg (show ¬ (false = true) by decide)] at H
          have H' := Aside0.mk H
          clear H
          refine blk9_ BK473.out fun hcz49_0 hcz49_1 hcz49_2 hcz49_3 hcz49_4 hcz49_5 hcz49_6 hcz49_7 hcz49_8 hfz49_0 hfz49_1 hfz49_2 hfz49_3 hfz49_4 hfz49_5 hfz49_6 hfz49_7 hfz49_8 => ?_
          go_wp2_with (first | ((with_reducible refine gate_callee (f := 36) rfl ?_); refine gl_ (some 61) Try.func36 #[.agg #[.int .i64 a0_1, .int .i64 a0_2]] ?_; (with_reducible refine (althingref02_RightTxn.calls a0_1 a0_2 false _ A30.out).mono ?_); rintro e w50 ⟨rfl, hb⟩; refine ⟨_, rfl, ?_⟩; replace BK473 := bb_ BK473 hb; replace HB := hs_ HB hb; (try clear hb); (try clear hi)))
          go_meet
          case rel => exact ⟨_, (true), sm_, H', ⟨by have := HJ19.out; first | omega | exact Nat.le_refl _⟩, ⟨by (with_reducible repeat (first | refine blk_drewN ?_ _ | refine blk_drew ?_ | refine blk_alloc ?_ _)); exact BK473.out⟩, ⟨by repeat (first | (with_reducible first | exact HB.out | apply below_alloc | apply pw_below_drewN | apply below_drew1 | refine below_set ?_ GE473.out) | exact HB.out)⟩⟩
       case rest =>
        clear HC29
        try clear c1
        try clear c2
        try clear c2b0
        try clear c2b1
        try clear p2
        try clear c3
        try clear c3b0
        try clear c3b1
        try clear c3b2
        try clear c4
        try clear c4b0
        try clear c4b1
        try clear c4b2
        try clear c5
        try clear c5b0
        try clear c5b1
        try clear c6
        try clear c6b0
        try clear c6b1
        try clear c6b2
        try clear c7
        try clear c7b0
        try clear c7b1
        try clear c7b2
        try clear c16
        try clear c23
        try clear c23b0
        try clear c23b1
        try clear c25
        try clear c25b0
        try clear c25b1
        try clear c28
        try clear c31
        try clear c33
        try clear c34
        try clear c34b0
        try clear c34b1
        try clear c36
        try clear hcz11_0 hcz11_1 hcz11_2 hcz11_3 hcz11_4 hcz11_5 hcz11_6 hcz11_7 hcz11_8
        try clear hcz13_0 hcz13_1 hcz13_2 hcz13_3 hcz13_4 hcz13_5 hcz13_6 hcz13_7 hcz13_8
        try clear hcz15_0 hcz15_1 hcz15_2 hcz15_3 hcz15_4 hcz15_5 hcz15_6 hcz15_7 hcz15_8
        try clear hcz17_0 hcz17_1 hcz17_2 hcz17_3 hcz17_4 hcz17_5 hcz17_6 hcz17_7 hcz17_8
        try clear hcz19_0 hcz19_1 hcz19_2 hcz19_3 hcz19_4 hcz19_5 hcz19_6 hcz19_7 hcz19_8
        try clear hcz22_0 hcz22_1 hcz22_2 hcz22_3 hcz22_4 hcz22_5 hcz22_6 hcz22_7 hcz22_8
        try clear hcz24_0 hcz24_1 hcz24_2 hcz24_3 hcz24_4 hcz24_5 hcz24_6 hcz24_7 hcz24_8
        try clear hcz26_0 hcz26_1 hcz26_2 hcz26_3 hcz26_4 hcz26_5 hcz26_6 hcz26_7 hcz26_8
        try clear hcz27_0 hcz27_1 hcz27_2 hcz27_3 hcz27_4 hcz27_5 hcz27_6 hcz27_7 hcz27_8
        try clear hcz35_0 hcz35_1 hcz35_2 hcz35_3 hcz35_4 hcz35_5 hcz35_6 hcz35_7 hcz35_8
        try clear hcz37_0 hcz37_1 hcz37_2 hcz37_3 hcz37_4 hcz37_5 hcz37_6 hcz37_7 hcz37_8
        try clear hcz39_0 hcz39_1 hcz39_2 hcz39_3 hcz39_4 hcz39_5 hcz39_6 hcz39_7 hcz39_8
        try clear hcz40_0 hcz40_1 hcz40_2 hcz40_3 hcz40_4 hcz40_5 hcz40_6 hcz40_7 hcz40_8
        try clear hcz42_0 hcz42_1 hcz42_2 hcz42_3 hcz42_4 hcz42_5 hcz42_6 hcz42_7 hcz42_8
        try clear hcz44_0 hcz44_1 hcz44_2 hcz44_3 hcz44_4 hcz44_5 hcz44_6 hcz44_7 hcz44_8
        try clear hcz45_0 hcz45_1 hcz45_2 hcz45_3 hcz45_4 hcz45_5 hcz45_6 hcz45_7 hcz45_8
        try clear hcz47_0 hcz47_1 hcz47_2 hcz47_3 hcz47_4 hcz47_5 hcz47_6 hcz47_7 hcz47_8
        try clear hcz49_0 hcz49_1 hcz49_2 hcz49_3 hcz49_4 hcz49_5 hcz49_6 hcz49_7 hcz49_8
        try clear hcz9_0 hcz9_1 hcz9_2 hcz9_3 hcz9_4 hcz9_5 hcz9_6 hcz9_7 hcz9_8
        try clear hfz11_0 hfz11_1 hfz11_2 hfz11_3 hfz11_4 hfz11_5 hfz11_6 hfz11_7 hfz11_8
        try clear hfz13_0 hfz13_1 hfz13_2 hfz13_3 hfz13_4 hfz13_5 hfz13_6 hfz13_7 hfz13_8
        try clear hfz15_0 hfz15_1 hfz15_2 hfz15_3 hfz15_4 hfz15_5 hfz15_6 hfz15_7 hfz15_8
        try clear hfz17_0 hfz17_1 hfz17_2 hfz17_3 hfz17_4 hfz17_5 hfz17_6 hfz17_7 hfz17_8
        try clear hfz19_0 hfz19_1 hfz19_2 hfz19_3 hfz19_4 hfz19_5 hfz19_6 hfz19_7 hfz19_8
        try clear hfz22_0 hfz22_1 hfz22_2 hfz22_3 hfz22_4 hfz22_5 hfz22_6 hfz22_7 hfz22_8
        try clear hfz24_0 hfz24_1 hfz24_2 hfz24_3 hfz24_4 hfz24_5 hfz24_6 hfz24_7 hfz24_8
        try clear hfz26_0 hfz26_1 hfz26_2 hfz26_3 hfz26_4 hfz26_5 hfz26_6 hfz26_7 hfz26_8
        try clear hfz27_0 hfz27_1 hfz27_2 hfz27_3 hfz27_4 hfz27_5 hfz27_6 hfz27_7 hfz27_8
        try clear hfz35_0 hfz35_1 hfz35_2 hfz35_3 hfz35_4 hfz35_5 hfz35_6 hfz35_7 hfz35_8
        try clear hfz37_0 hfz37_1 hfz37_2 hfz37_3 hfz37_4 hfz37_5 hfz37_6 hfz37_7 hfz37_8
        try clear hfz39_0 hfz39_1 hfz39_2 hfz39_3 hfz39_4 hfz39_5 hfz39_6 hfz39_7 hfz39_8
        try clear hfz40_0 hfz40_1 hfz40_2 hfz40_3 hfz40_4 hfz40_5 hfz40_6 hfz40_7 hfz40_8
        try clear hfz42_0 hfz42_1 hfz42_2 hfz42_3 hfz42_4 hfz42_5 hfz42_6 hfz42_7 hfz42_8
        try clear hfz44_0 hfz44_1 hfz44_2 hfz44_3 hfz44_4 hfz44_5 hfz44_6 hfz44_7 hfz44_8
        try clear hfz45_0 hfz45_1 hfz45_2 hfz45_3 hfz45_4 hfz45_5 hfz45_6 hfz45_7 hfz45_8
        try clear hfz47_0 hfz47_1 hfz47_2 hfz47_3 hfz47_4 hfz47_5 hfz47_6 hfz47_7 hfz47_8
        try clear hfz49_0 hfz49_1 hfz49_2 hfz49_3 hfz49_4 hfz49_5 hfz49_6 hfz49_7 hfz49_8
        try clear hfz9_0 hfz9_1 hfz9_2 hfz9_3 hfz9_4 hfz9_5 hfz9_6 hfz9_7 hfz9_8
        try clear p2
        obtain ⟨kq, x83_28, rfl, HA, HJ28, BK473, HB⟩ := hcut
        cases kq with
        | zero => exact absurd HA.out (by simp [althingref05_Right.j1])
        | succ kj28 =>
         have H := HA.out
         clear HA
         simp only [althingref05_Right.j1] at H
         by_cases c51 : x83_28 = true
         · subst c51
           rw [if_pos rfl] at H
           obtain rfl := Option.some.inj H
           go_wp2
           go_ret
           exact ⟨by first | rfl | (simp [errW_none, errW_some] <;> rfl) | (simp [*, errW_none, errW_some] <;> rfl), by repeat (first | (with_reducible first | exact HB.out | apply below_alloc | apply pw_below_drewN | apply below_drew1 | refine below_set ?_ GE473.out) | exact HB.out)⟩
         · replace c51 := Bool.eq_false_iff.mpr c51
           subst c51
           rw [if_neg (show ¬ (false = true) by decide)] at H
           have HC52 := Aside0.mk H
           clear H
           go_upto_region 7 with (fail)
           go_cut [103] (fun v103 wc => ∃ (kq : Nat) (x103_51 : Bool), v103 = .bool x103_51 ∧ Aside0 (althingref05_Right.j2 kq x103_51 a0_0 a0_1 a0_2 a0_3 a0_4 a0_5 l0_6 l0_7 a0_8 = some r) ∧ Aside0 (kq ≤ kj28) ∧ Aside0 (wc.heap[gb473]? = some (.cells #[.int .i64 a0_0, .int .i64 a0_1, .int .i64 a0_2, .int .i64 a0_3, .int .i64 a0_4, .int .i64 a0_5, (.slice A0_6 l0_6.length c0_6), (.slice A0_7 l0_7.length c0_7), .bool a0_8] 29 (0, 0))) ∧ Aside0 (Below w.heap.size w wc))
           case first =>
            have H := HC52.out
            clear HC52
            by_cases c53 : a0_5 ≤ 0
            · rw [if_pos c53] at H
              have c53b0 : decide (a0_5 ≤ 0) = true := decide_eq_true c53
              clear c53
              (first | rw [c53b0] | (simp only [i64_w, i32_w]; rw [c53b0]) | skip)
              have H' := Aside0.mk H
              clear H
              refine blk9_ BK473.out fun hcz54_0 hcz54_1 hcz54_2 hcz54_3 hcz54_4 hcz54_5 hcz54_6 hcz54_7 hcz54_8 hfz54_0 hfz54_1 hfz54_2 hfz54_3 hfz54_4 hfz54_5 hfz54_6 hfz54_7 hfz54_8 => ?_
              go_wp2
              go_meet
              case rel => exact ⟨_, (true), sm_, H', ⟨by have := HJ19.out; have := HJ28.out; first | omega | exact Nat.le_refl _⟩, ⟨by (with_reducible repeat (first | refine blk_drewN ?_ _ | refine blk_drew ?_ | refine blk_alloc ?_ _)); exact BK473.out⟩, ⟨by repeat (first | (with_reducible first | exact HB.out | apply below_alloc | apply pw_below_drewN | apply below_drew1 | refine below_set ?_ GE473.out) | exact HB.out)⟩⟩
            · rw [if_neg c53] at H
              have c53b0 : decide (a0_5 ≤ 0) = false := decide_eq_false c53
              clear c53
              (first | rw [c53b0] | (simp only [i64_w, i32_w]; rw [c53b0]) | skip)
              by_cases c55 : a0_5 ≥ 16
              · rw [if_pos c55] at H
                have c55b0 : decide (16 ≤ a0_5) = true := decide_eq_true c55
                clear c55
                have H' := Aside0.mk H
                clear H
                refine blk9_ BK473.out fun hcz56_0 hcz56_1 hcz56_2 hcz56_3 hcz56_4 hcz56_5 hcz56_6 hcz56_7 hcz56_8 hfz56_0 hfz56_1 hfz56_2 hfz56_3 hfz56_4 hfz56_5 hfz56_6 hfz56_7 hfz56_8 => ?_
                go_wp2
                go_meet
                case rel => exact ⟨_, (true), sm_, H', ⟨by have := HJ19.out; have := HJ28.out; first | omega | exact Nat.le_refl _⟩, ⟨by (with_reducible repeat (first | refine blk_drewN ?_ _ | refine blk_drew ?_ | refine blk_alloc ?_ _)); exact BK473.out⟩, ⟨by repeat (first | (with_reducible first | exact HB.out | apply below_alloc | apply pw_below_drewN | apply below_drew1 | refine below_set ?_ GE473.out) | exact HB.out)⟩⟩
              · rw [if_neg c55] at H
                have c55b0 : decide (16 ≤ a0_5) = false := decide_eq_false c55
                clear c55
                by_cases c57 : (l0_6.length : Int) = 0
                · rw [if_pos c57] at H
                  have c57b0 : ((l0_6.length : Int) == 0) = true := beq_iff_eq.mpr c57
                  have c57b1 : ((l0_6.length : Int) != 0) = false := bne_eq_false_iff_eq.mpr c57
                  clear c57
                  have H' := Aside0.mk H
                  clear H
                  refine blk9_ BK473.out fun hcz58_0 hcz58_1 hcz58_2 hcz58_3 hcz58_4 hcz58_5 hcz58_6 hcz58_7 hcz58_8 hfz58_0 hfz58_1 hfz58_2 hfz58_3 hfz58_4 hfz58_5 hfz58_6 hfz58_7 hfz58_8 => ?_
                  go_wp2
                  go_meet
                  case rel => exact ⟨_, (((l0_7.length : Int) == 0)), sm_, H', ⟨by have := HJ19.out; have := HJ28.out; first | omega | exact Nat.le_refl _⟩, ⟨by (with_reducible repeat (first | refine blk_drewN ?_ _ | refine blk_drew ?_ | refine blk_alloc ?_ _)); exact BK473.out⟩, ⟨by repeat (first | (with_reducible first | exact HB.out | apply below_alloc | apply pw_below_drewN | apply below_drew1 | refine below_set ?_ GE473.out) | exact HB.out)⟩⟩
                · rw [if_neg c57] at H
                  have c57b0 : ((l0_6.length : Int) == 0) = false := beq_eq_false_iff_ne.mpr c57
                  have c57b1 : ((l0_6.length : Int) != 0) = true := bne_iff_ne.mpr c57
                  have c57b2 : ¬ (l0_6 = []) := fun h_ => c57 (by rw [h_]; rfl)
                  have H' := Aside0.mk H
                  clear H
                  refine blk9_ BK473.out fun hcz59_0 hcz59_1 hcz59_2 hcz59_3 hcz59_4 hcz59_5 hcz59_6 hcz59_7 hcz59_8 hfz59_0 hfz59_1 hfz59_2 hfz59_3 hfz59_4 hfz59_5 hfz59_6 hfz59_7 hfz59_8 => ?_
                  go_wp2
                  go_meet
                  case rel => exact ⟨_, (false), sm_, H', ⟨by have := HJ19.out; have := HJ28.out; first | omega | exact Nat.le_refl _⟩, ⟨by (with_reducible repeat (first | refine blk_drewN ?_ _ | refine blk_drew ?_ | refine blk_alloc ?_ _)); exact BK473.out⟩, ⟨by repeat (first | (with_reducible first | exact HB.out | apply below_alloc | apply pw_below_drewN | apply below_drew1 | refine below_set ?_ GE473.out) | exact HB.out)⟩⟩
           case rest =>
            clear HC52
            try clear c1
            try clear c2
            try clear c2b0
            try clear c2b1
            try clear p2
            try clear c3
            try clear c3b0
            try clear c3b1
            try clear c3b2
            try clear c4
            try clear c4b0
            try clear c4b1
            try clear c4b2
            try clear c5
            try clear c5b0
            try clear c5b1
            try clear c6
            try clear c6b0
            try clear c6b1
            try clear c6b2
            try clear c7
            try clear c7b0
            try clear c7b1
            try clear c7b2
            try clear c16
            try clear c23
            try clear c23b0
            try clear c23b1
            try clear c25
            try clear c25b0
            try clear c25b1
            try clear c28
            try clear c31
            try clear c33
            try clear c34
            try clear c34b0
            try clear c34b1
            try clear c36
            try clear c51
            try clear c53
            try clear c53b0
            try clear c55
            try clear c55b0
            try clear c57
            try clear c57b0
            try clear c57b1
            try clear c57b2
            try clear hcz11_0 hcz11_1 hcz11_2 hcz11_3 hcz11_4 hcz11_5 hcz11_6 hcz11_7 hcz11_8
            try clear hcz13_0 hcz13_1 hcz13_2 hcz13_3 hcz13_4 hcz13_5 hcz13_6 hcz13_7 hcz13_8
            try clear hcz15_0 hcz15_1 hcz15_2 hcz15_3 hcz15_4 hcz15_5 hcz15_6 hcz15_7 hcz15_8
            try clear hcz17_0 hcz17_1 hcz17_2 hcz17_3 hcz17_4 hcz17_5 hcz17_6 hcz17_7 hcz17_8
            try clear hcz19_0 hcz19_1 hcz19_2 hcz19_3 hcz19_4 hcz19_5 hcz19_6 hcz19_7 hcz19_8
            try clear hcz22_0 hcz22_1 hcz22_2 hcz22_3 hcz22_4 hcz22_5 hcz22_6 hcz22_7 hcz22_8
            try clear hcz24_0 hcz24_1 hcz24_2 hcz24_3 hcz24_4 hcz24_5 hcz24_6 hcz24_7 hcz24_8
            try clear hcz26_0 hcz26_1 hcz26_2 hcz26_3 hcz26_4 hcz26_5 hcz26_6 hcz26_7 hcz26_8
            try clear hcz27_0 hcz27_1 hcz27_2 hcz27_3 hcz27_4 hcz27_5 hcz27_6 hcz27_7 hcz27_8
            try clear hcz35_0 hcz35_1 hcz35_2 hcz35_3 hcz35_4 hcz35_5 hcz35_6 hcz35_7 hcz35_8
            try clear hcz37_0 hcz37_1 hcz37_2 hcz37_3 hcz37_4 hcz37_5 hcz37_6 hcz37_7 hcz37_8
            try clear hcz39_0 hcz39_1 hcz39_2 hcz39_3 hcz39_4 hcz39_5 hcz39_6 hcz39_7 hcz39_8
            try clear hcz40_0 hcz40_1 hcz40_2 hcz40_3 hcz40_4 hcz40_5 hcz40_6 hcz40_7 hcz40_8
            try clear hcz42_0 hcz42_1 hcz42_2 hcz42_3 hcz42_4 hcz42_5 hcz42_6 hcz42_7 hcz42_8
            try clear hcz44_0 hcz44_1 hcz44_2 hcz44_3 hcz44_4 hcz44_5 hcz44_6 hcz44_7 hcz44_8
            try clear hcz45_0 hcz45_1 hcz45_2 hcz45_3 hcz45_4 hcz45_5 hcz45_6 hcz45_7 hcz45_8
            try clear hcz47_0 hcz47_1 hcz47_2 hcz47_3 hcz47_4 hcz47_5 hcz47_6 hcz47_7 hcz47_8
            try clear hcz49_0 hcz49_1 hcz49_2 hcz49_3 hcz49_4 hcz49_5 hcz49_6 hcz49_7 hcz49_8
            try clear hcz54_0 hcz54_1 hcz54_2 hcz54_3 hcz54_4 hcz54_5 hcz54_6 hcz54_7 hcz54_8
            try clear hcz56_0 hcz56_1 hcz56_2 hcz56_3 hcz56_4 hcz56_5 hcz56_6 hcz56_7 hcz56_8
            try clear hcz58_0 hcz58_1 hcz58_2 hcz58_3 hcz58_4 hcz58_5 hcz58_6 hcz58_7 hcz58_8
            try clear hcz59_0 hcz59_1 hcz59_2 hcz59_3 hcz59_4 hcz59_5 hcz59_6 hcz59_7 hcz59_8
            try clear hcz9_0 hcz9_1 hcz9_2 hcz9_3 hcz9_4 hcz9_5 hcz9_6 hcz9_7 hcz9_8
            try clear hfz11_0 hfz11_1 hfz11_2 hfz11_3 hfz11_4 hfz11_5 hfz11_6 hfz11_7 hfz11_8
            try clear hfz13_0 hfz13_1 hfz13_2 hfz13_3 hfz13_4 hfz13_5 hfz13_6 hfz13_7 hfz13_8
            try clear hfz15_0 hfz15_1 hfz15_2 hfz15_3 hfz15_4 hfz15_5 hfz15_6 hfz15_7 hfz15_8
            try clear hfz17_0 hfz17_1 hfz17_2 hfz17_3 hfz17_4 hfz17_5 hfz17_6 hfz17_7 hfz17_8
            try clear hfz19_0 hfz19_1 hfz19_2 hfz19_3 hfz19_4 hfz19_5 hfz19_6 hfz19_7 hfz19_8
            try clear hfz22_0 hfz22_1 hfz22_2 hfz22_3 hfz22_4 hfz22_5 hfz22_6 hfz22_7 hfz22_8
            try clear hfz24_0 hfz24_1 hfz24_2 hfz24_3 hfz24_4 hfz24_5 hfz24_6 hfz24_7 hfz24_8
            try clear hfz26_0 hfz26_1 hfz26_2 hfz26_3 hfz26_4 hfz26_5 hfz26_6 hfz26_7 hfz26_8
            try clear hfz27_0 hfz27_1 hfz27_2 hfz27_3 hfz27_4 hfz27_5 hfz27_6 hfz27_7 hfz27_8
            try clear hfz35_0 hfz35_1 hfz35_2 hfz35_3 hfz35_4 hfz35_5 hfz35_6 hfz35_7 hfz35_8
            try clear hfz37_0 hfz37_1 hfz37_2 hfz37_3 hfz37_4 hfz37_5 hfz37_6 hfz37_7 hfz37_8
            try clear hfz39_0 hfz39_1 hfz39_2 hfz39_3 hfz39_4 hfz39_5 hfz39_6 hfz39_7 hfz39_8
            try clear hfz40_0 hfz40_1 hfz40_2 hfz40_3 hfz40_4 hfz40_5 hfz40_6 hfz40_7 hfz40_8
            try clear hfz42_0 hfz42_1 hfz42_2 hfz42_3 hfz42_4 hfz42_5 hfz42_6 hfz42_7 hfz42_8
            try clear hfz44_0 hfz44_1 hfz44_2 hfz44_3 hfz44_4 hfz44_5 hfz44_6 hfz44_7 hfz44_8
            try clear hfz45_0 hfz45_1 hfz45_2 hfz45_3 hfz45_4 hfz45_5 hfz45_6 hfz45_7 hfz45_8
            try clear hfz47_0 hfz47_1 hfz47_2 hfz47_3 hfz47_4 hfz47_5 hfz47_6 hfz47_7 hfz47_8
            try clear hfz49_0 hfz49_1 hfz49_2 hfz49_3 hfz49_4 hfz49_5 hfz49_6 hfz49_7 hfz49_8
            try clear hfz54_0 hfz54_1 hfz54_2 hfz54_3 hfz54_4 hfz54_5 hfz54_6 hfz54_7 hfz54_8
            try clear hfz56_0 hfz56_1 hfz56_2 hfz56_3 hfz56_4 hfz56_5 hfz56_6 hfz56_7 hfz56_8
            try clear hfz58_0 hfz58_1 hfz58_2 hfz58_3 hfz58_4 hfz58_5 hfz58_6 hfz58_7 hfz58_8
            try clear hfz59_0 hfz59_1 hfz59_2 hfz59_3 hfz59_4 hfz59_5 hfz59_6 hfz59_7 hfz59_8
            try clear hfz9_0 hfz9_1 hfz9_2 hfz9_3 hfz9_4 hfz9_5 hfz9_6 hfz9_7 hfz9_8
            try clear p2
            obtain ⟨kq, x103_51, rfl, HA, HJ51, BK473, HB⟩ := hcut
            cases kq with
            | zero => exact absurd HA.out (by simp [althingref05_Right.j2])
            | succ kj51 =>
             have H := HA.out
             clear HA
             simp only [althingref05_Right.j2] at H
             by_cases c60 : x103_51 = true
             · subst c60
               rw [if_pos rfl] at H
               obtain rfl := Option.some.inj H
               go_wp2
               go_ret
               exact ⟨by first | rfl | (simp [errW_none, errW_some] <;> rfl) | (simp [*, errW_none, errW_some] <;> rfl), by repeat (first | (with_reducible first | exact HB.out | apply below_alloc | apply pw_below_drewN | apply below_drew1 | refine below_set ?_ GE473.out) | exact HB.out)⟩
             · replace c60 := Bool.eq_false_iff.mpr c60
               subst c60
               rw [if_neg (show ¬ (false = true) by decide)] at H
               have H' := Aside0.mk H
               clear H
               go_wp2
               go_loopg [3, 4] kj51 (fun kq v3 v4 w' => ∃ (x3_4 : List ByteArray) (x4_4 : Int), v4 = .int .i64 x4_4 ∧ Aside0 (althingref05_Right.l0 kq x3_4 x4_4 a0_0 a0_1 a0_2 a0_3 a0_4 a0_5 l0_6 l0_7 a0_8 = some r) ∧ Aside0 (kq ≤ kj51) ∧ Aside0 (Kd.R Kd.string 9 w' w.heap.size (fun _ => True) v3 x3_4) ∧ Aside0 (w'.heap[gb473]? = some (.cells #[.int .i64 a0_0, .int .i64 a0_1, .int .i64 a0_2, .int .i64 a0_3, .int .i64 a0_4, .int .i64 a0_5, (.slice A0_6 l0_6.length c0_6), (.slice A0_7 l0_7.length c0_7), .bool a0_8] 29 (0, 0))) ∧ Aside0 (Below w.heap.size w w'))
               case atStart => exact ⟨(([] : List ByteArray)), (0), sm_, H', ⟨Nat.le_refl _⟩, ⟨by first | exact Kd.R_nil _ _ _ _ _ | exact Kd.N_nil _ _ _ _ _ | exact Kd.V_nil _ _ _ _ _ | exact Kd.Q_nil _ _ _ _ _ | exact Kd.S_nil _ _ _ _ _⟩, ⟨by (with_reducible repeat (first | refine blk_drewN ?_ _ | refine blk_drew ?_ | refine blk_alloc ?_ _)); exact BK473.out⟩, ⟨by repeat (first | (with_reducible first | exact HB.out | apply below_alloc | apply pw_below_drewN | apply below_drew1 | refine below_set ?_ GE473.out) | exact HB.out)⟩⟩
               case round =>
                clear H'
                try clear c1
                try clear c2
                try clear c2b0
                try clear c2b1
                try clear p2
                try clear c3
                try clear c3b0
                try clear c3b1
                try clear c3b2
                try clear c4
                try clear c4b0
                try clear c4b1
                try clear c4b2
                try clear c5
                try clear c5b0
                try clear c5b1
                try clear c6
                try clear c6b0
                try clear c6b1
                try clear c6b2
                try clear c7
                try clear c7b0
                try clear c7b1
                try clear c7b2
                try clear c16
                try clear c23
                try clear c23b0
                try clear c23b1
                try clear c25
                try clear c25b0
                try clear c25b1
                try clear c28
                try clear c31
                try clear c33
                try clear c34
                try clear c34b0
                try clear c34b1
                try clear c36
                try clear c51
                try clear c53
                try clear c53b0
                try clear c55
                try clear c55b0
                try clear c57
                try clear c57b0
                try clear c57b1
                try clear c57b2
                try clear c60
                try clear hcz11_0 hcz11_1 hcz11_2 hcz11_3 hcz11_4 hcz11_5 hcz11_6 hcz11_7 hcz11_8
                try clear hcz13_0 hcz13_1 hcz13_2 hcz13_3 hcz13_4 hcz13_5 hcz13_6 hcz13_7 hcz13_8
                try clear hcz15_0 hcz15_1 hcz15_2 hcz15_3 hcz15_4 hcz15_5 hcz15_6 hcz15_7 hcz15_8
                try clear hcz17_0 hcz17_1 hcz17_2 hcz17_3 hcz17_4 hcz17_5 hcz17_6 hcz17_7 hcz17_8
                try clear hcz19_0 hcz19_1 hcz19_2 hcz19_3 hcz19_4 hcz19_5 hcz19_6 hcz19_7 hcz19_8
                try clear hcz22_0 hcz22_1 hcz22_2 hcz22_3 hcz22_4 hcz22_5 hcz22_6 hcz22_7 hcz22_8
                try clear hcz24_0 hcz24_1 hcz24_2 hcz24_3 hcz24_4 hcz24_5 hcz24_6 hcz24_7 hcz24_8
                try clear hcz26_0 hcz26_1 hcz26_2 hcz26_3 hcz26_4 hcz26_5 hcz26_6 hcz26_7 hcz26_8
                try clear hcz27_0 hcz27_1 hcz27_2 hcz27_3 hcz27_4 hcz27_5 hcz27_6 hcz27_7 hcz27_8
                try clear hcz35_0 hcz35_1 hcz35_2 hcz35_3 hcz35_4 hcz35_5 hcz35_6 hcz35_7 hcz35_8
                try clear hcz37_0 hcz37_1 hcz37_2 hcz37_3 hcz37_4 hcz37_5 hcz37_6 hcz37_7 hcz37_8
                try clear hcz39_0 hcz39_1 hcz39_2 hcz39_3 hcz39_4 hcz39_5 hcz39_6 hcz39_7 hcz39_8
                try clear hcz40_0 hcz40_1 hcz40_2 hcz40_3 hcz40_4 hcz40_5 hcz40_6 hcz40_7 hcz40_8
                try clear hcz42_0 hcz42_1 hcz42_2 hcz42_3 hcz42_4 hcz42_5 hcz42_6 hcz42_7 hcz42_8
                try clear hcz44_0 hcz44_1 hcz44_2 hcz44_3 hcz44_4 hcz44_5 hcz44_6 hcz44_7 hcz44_8
                try clear hcz45_0 hcz45_1 hcz45_2 hcz45_3 hcz45_4 hcz45_5 hcz45_6 hcz45_7 hcz45_8
                try clear hcz47_0 hcz47_1 hcz47_2 hcz47_3 hcz47_4 hcz47_5 hcz47_6 hcz47_7 hcz47_8
                try clear hcz49_0 hcz49_1 hcz49_2 hcz49_3 hcz49_4 hcz49_5 hcz49_6 hcz49_7 hcz49_8
                try clear hcz54_0 hcz54_1 hcz54_2 hcz54_3 hcz54_4 hcz54_5 hcz54_6 hcz54_7 hcz54_8
                try clear hcz56_0 hcz56_1 hcz56_2 hcz56_3 hcz56_4 hcz56_5 hcz56_6 hcz56_7 hcz56_8
                try clear hcz58_0 hcz58_1 hcz58_2 hcz58_3 hcz58_4 hcz58_5 hcz58_6 hcz58_7 hcz58_8
                try clear hcz59_0 hcz59_1 hcz59_2 hcz59_3 hcz59_4 hcz59_5 hcz59_6 hcz59_7 hcz59_8
                try clear hcz9_0 hcz9_1 hcz9_2 hcz9_3 hcz9_4 hcz9_5 hcz9_6 hcz9_7 hcz9_8
                try clear hfz11_0 hfz11_1 hfz11_2 hfz11_3 hfz11_4 hfz11_5 hfz11_6 hfz11_7 hfz11_8
                try clear hfz13_0 hfz13_1 hfz13_2 hfz13_3 hfz13_4 hfz13_5 hfz13_6 hfz13_7 hfz13_8
                try clear hfz15_0 hfz15_1 hfz15_2 hfz15_3 hfz15_4 hfz15_5 hfz15_6 hfz15_7 hfz15_8
                try clear hfz17_0 hfz17_1 hfz17_2 hfz17_3 hfz17_4 hfz17_5 hfz17_6 hfz17_7 hfz17_8
                try clear hfz19_0 hfz19_1 hfz19_2 hfz19_3 hfz19_4 hfz19_5 hfz19_6 hfz19_7 hfz19_8
                try clear hfz22_0 hfz22_1 hfz22_2 hfz22_3 hfz22_4 hfz22_5 hfz22_6 hfz22_7 hfz22_8
                try clear hfz24_0 hfz24_1 hfz24_2 hfz24_3 hfz24_4 hfz24_5 hfz24_6 hfz24_7 hfz24_8
                try clear hfz26_0 hfz26_1 hfz26_2 hfz26_3 hfz26_4 hfz26_5 hfz26_6 hfz26_7 hfz26_8
                try clear hfz27_0 hfz27_1 hfz27_2 hfz27_3 hfz27_4 hfz27_5 hfz27_6 hfz27_7 hfz27_8
                try clear hfz35_0 hfz35_1 hfz35_2 hfz35_3 hfz35_4 hfz35_5 hfz35_6 hfz35_7 hfz35_8
                try clear hfz37_0 hfz37_1 hfz37_2 hfz37_3 hfz37_4 hfz37_5 hfz37_6 hfz37_7 hfz37_8
                try clear hfz39_0 hfz39_1 hfz39_2 hfz39_3 hfz39_4 hfz39_5 hfz39_6 hfz39_7 hfz39_8
                try clear hfz40_0 hfz40_1 hfz40_2 hfz40_3 hfz40_4 hfz40_5 hfz40_6 hfz40_7 hfz40_8
                try clear hfz42_0 hfz42_1 hfz42_2 hfz42_3 hfz42_4 hfz42_5 hfz42_6 hfz42_7 hfz42_8
                try clear hfz44_0 hfz44_1 hfz44_2 hfz44_3 hfz44_4 hfz44_5 hfz44_6 hfz44_7 hfz44_8
                try clear hfz45_0 hfz45_1 hfz45_2 hfz45_3 hfz45_4 hfz45_5 hfz45_6 hfz45_7 hfz45_8
                try clear hfz47_0 hfz47_1 hfz47_2 hfz47_3 hfz47_4 hfz47_5 hfz47_6 hfz47_7 hfz47_8
                try clear hfz49_0 hfz49_1 hfz49_2 hfz49_3 hfz49_4 hfz49_5 hfz49_6 hfz49_7 hfz49_8
                try clear hfz54_0 hfz54_1 hfz54_2 hfz54_3 hfz54_4 hfz54_5 hfz54_6 hfz54_7 hfz54_8
                try clear hfz56_0 hfz56_1 hfz56_2 hfz56_3 hfz56_4 hfz56_5 hfz56_6 hfz56_7 hfz56_8
                try clear hfz58_0 hfz58_1 hfz58_2 hfz58_3 hfz58_4 hfz58_5 hfz58_6 hfz58_7 hfz58_8
                try clear hfz59_0 hfz59_1 hfz59_2 hfz59_3 hfz59_4 hfz59_5 hfz59_6 hfz59_7 hfz59_8
                try clear hfz9_0 hfz9_1 hfz9_2 hfz9_3 hfz9_4 hfz9_5 hfz9_6 hfz9_7 hfz9_8
                try clear p2
                (try clear BK473)
                obtain ⟨x3_4, x4_4, rfl, HA, HK4, HO_3, BK473, HB⟩ := hrel
                cases gk with
                | zero => exact absurd HA.out (by simp [althingref05_Right.l0])
                | succ k4 =>
                 have H := HA.out
                 clear HA
                 simp only [althingref05_Right.l0] at H
                 by_cases c61 : x4_4 < (l0_6.length : Int)
                 · rw [if_pos c61] at H
                   have c61b0 : decide (x4_4 < (l0_6.length : Int)) = true := decide_eq_true c61
                   clear c61
                   by_cases c62 : 0 ≤ x4_4
                   · rw [if_pos c62] at H
                     have c62b0 : decide (0 ≤ x4_4) = true := decide_eq_true c62
                     clear c62
                     obtain ⟨t477, A63, H⟩ := bs_ H
                     by_cases c64 : t477 = true
                     · subst c64
                       rw [if_pos rfl] at H
                       obtain ⟨t479, A65, H⟩ := bs_ H
                       by_cases c66 : t479 = true
                       · subst c66
                         rw [if_pos rfl] at H
                         by_cases c67 : x3_4.length < 8796093022208
                         · rw [if_pos c67] at H
                           have LMc67 := Aside0.mk c67
                           clear c67
                           obtain ⟨y481, hy481⟩ : ∃ y_ : List ByteArray, y_ = (x3_4 ++ [(rd_T38 l0_6 x4_4).f0]) := ⟨_, rfl⟩
                           replace H : (althingref05_Right.l0 k4 y481 (wrap64 (x4_4 + 1)) a0_0 a0_1 a0_2 a0_3 a0_4 a0_5 l0_6 l0_7 a0_8) = some r := by first | (rw [hy481]; with_reducible exact H) | (have H2_ := (Option.bind_some _ _).symm.trans H; rw [hy481]; with_reducible exact H2_) | (have H2_ := (Option.bind_some _ _).symm.trans H; with_reducible exact H2_) | with_reducible exact H | (rw [hy481]; exact H) | exact H
                           have Ny481 := Aside0.mk hy481
                           clear hy481
                           have H' := Aside0.mk H
                           clear H
                           refine blk9_ BK473.out fun hcz68_0 hcz68_1 hcz68_2 hcz68_3 hcz68_4 hcz68_5 hcz68_6 hcz68_7 hcz68_8 hfz68_0 hfz68_1 hfz68_2 hfz68_3 hfz68_4 hfz68_5 hfz68_6 hfz68_7 hfz68_8 => ?_
                           try go_wp2
                           replace HO_3 := Aside0.mk (Kd.R_drew HO_3.out)
                           replace BK473 := Aside0.mk (blk_drew BK473.out)
                           replace HB := Aside0.mk (below_drew1 HB.out)
                           have p476 : 0 ≤ (x4_4 : Int) := of_decide_eq_true (by first | (with_reducible assumption) | assumption)
                           have q476 : x4_4 < (l0_6.length : Int) := of_decide_eq_true (by first | (with_reducible assumption) | assumption)
                           obtain ⟨ad476, e476, hx476_0, hx476_1, hx476_2⟩ := at_T38 HR0_6.out x4_4 p476 q476
                           have hw476_2 := hx476_2
                           have hw476_1 := hx476_1
                           have hw476_0 := hx476_0
                           cases e476
                           replace hx476_0 := (HB.out.cell (World.block_lt_of_cell? w _ hx476_0)).trans hx476_0
                           replace hx476_1 := (HB.out.cell (World.block_lt_of_cell? w _ hx476_1)).trans hx476_1
                           replace hx476_2 := (HB.out.cell (World.block_lt_of_cell? w _ hx476_2)).trans hx476_2
                           replace p476 := eq_true p476
                           replace q476 := eq_true q476
                           have p478 : 0 ≤ (x4_4 : Int) := of_decide_eq_true (by first | (with_reducible assumption) | assumption)
                           have q478 : x4_4 < (l0_6.length : Int) := of_decide_eq_true (by first | (with_reducible assumption) | assumption)
                           obtain ⟨ad478, e478, hx478_0, hx478_1, hx478_2⟩ := at_T38 HR0_6.out x4_4 p478 q478
                           have hw478_2 := hx478_2
                           have hw478_1 := hx478_1
                           have hw478_0 := hx478_0
                           obtain rfl : ad476 = ad478 := (by injection e478)
                           replace hx478_0 := (HB.out.cell (World.block_lt_of_cell? w _ hx478_0)).trans hx478_0
                           replace hx478_1 := (HB.out.cell (World.block_lt_of_cell? w _ hx478_1)).trans hx478_1
                           replace hx478_2 := (HB.out.cell (World.block_lt_of_cell? w _ hx478_2)).trans hx478_2
                           replace p478 := eq_true p478
                           replace q478 := eq_true q478
                           refine start_ (n := 20) (S := fun w' => w'.heap[gb473]? = some (.cells #[.int .i64 a0_0, .int .i64 a0_1, .int .i64 a0_2, .int .i64 a0_3, .int .i64 a0_4, .int .i64 a0_5, .slice (some ad476) l0_6.length c0_6, .slice A0_7 l0_7.length c0_7, .bool a0_8] 29 (0, 0)) ∧ w'.cell? (ad476.add ((x4_4).toNat * 3)) = some (.string ((rd_T38 l0_6 x4_4).f0)) ∧ w'.cell? ⟨(ad476.add ((x4_4).toNat * 3)).block, (ad476.add ((x4_4).toNat * 3)).off + 1, none⟩ = some (.int .i64 ((rd_T38 l0_6 x4_4).f1.f0)) ∧ w'.cell? ⟨(ad476.add ((x4_4).toNat * 3)).block, (ad476.add ((x4_4).toNat * 3)).off + 2, none⟩ = some (.int .i64 ((rd_T38 l0_6 x4_4).f1.f1)) ∧ w'.cell? (ad476.add ((x4_4).toNat * 3)) = some (.string ((rd_T38 l0_6 x4_4).f0)) ∧ w'.cell? ⟨(ad476.add ((x4_4).toNat * 3)).block, (ad476.add ((x4_4).toNat * 3)).off + 1, none⟩ = some (.int .i64 ((rd_T38 l0_6 x4_4).f1.f0)) ∧ w'.cell? ⟨(ad476.add ((x4_4).toNat * 3)).block, (ad476.add ((x4_4).toNat * 3)).off + 2, none⟩ = some (.int .i64 ((rd_T38 l0_6 x4_4).f1.f1))) (ds := []) #[false, false, false, false, false, false, false, false, false, false, false, false, false, false, false, false, false, false, false, false] (by kernel_rfl) rfl rfl ⟨BK473.out, ((HB.out.cell (World.block_lt_of_cell? w _ hw476_0)).trans hw476_0), ((HB.out.cell (World.block_lt_of_cell? w _ hw476_1)).trans hw476_1), ((HB.out.cell (World.block_lt_of_cell? w _ hw476_2)).trans hw476_2), ((HB.out.cell (World.block_lt_of_cell? w _ hw478_0)).trans hw478_0), ((HB.out.cell (World.block_lt_of_cell? w _ hw478_1)).trans hw478_1), ((HB.out.cell (World.block_lt_of_cell? w _ hw478_2)).trans hw478_2)⟩ (fun hHeld => ?_); refine with_tabW althingref05_Right.tab13 althingref05_Right.bits13 (fun HT_ HW_ => ?_)
                           generalize wr.drew = w69 at HO_3 BK473 HB hx476_0 hx476_1 hx476_2 hx478_0 hx478_1 hx478_2 hHeld ⊢
                           refine pu_ 0 (some 111) (tf_ 1 19) HT_ ?_
                           refine pu_ 2 (some 113) #[true, false, true, false, false, false, false, false, false, false, false, false, false, false, false, false, false, false, false, false] HT_ ?_
                           refine tk_ 1 (some 112) (tf_ 3 17) HT_ HW_ hHeld (hy := by
                            rintro w' ⟨s0, s9, s10, s11, s12, s13, s14⟩
                            first | (refine blk_yield2 (T := 29) s0 ?_ ⟨_, Try.underlying29, rfl⟩ ?_; exact ⟨rfl, rfl⟩; kernel_rfl) | (refine blk9_ s0 fun _ _ _ _ _ _ _ _ _ _ _ _ _ _ _ _ _ _ => ?_; go_simp; with_reducible rfl)) (h := ?_)
                           refine pu_ 3 (some 114) (tf_ 4 16) HT_ ?_
                           refine pu_ 4 (some 115) (tf_ 5 15) HT_ ?_
                           refine tk_ 5 (some 116) (tf_ 6 14) HT_ HW_ hHeld (hy := by
                            rintro w' ⟨s0, s9, s10, s11, s12, s13, s14⟩
                            first | (refine blk_yield2 (T := 29) s0 ?_ ⟨_, Try.underlying29, rfl⟩ ?_; exact ⟨rfl, rfl⟩; kernel_rfl) | (refine blk9_ s0 fun _ _ _ _ _ _ _ _ _ _ _ _ _ _ _ _ _ _ => ?_; go_simp; with_reducible rfl)) (h := ?_)
                           refine on_ 6 (some 117) (tf_ 7 13) HT_ fun K hK => ?_
                           refine goes_ Try.func37 (by kernel_rfl) rfl #[.agg #[.int .i64 ((rd_T38 l0_6 x4_4).f1.f0), .int .i64 ((rd_T38 l0_6 x4_4).f1.f1)]] (by rfl) rfl rfl (by (try simp only [List.map_toArray, List.map_cons, List.map_nil]); first | done | rfl | (simp only [List.length_drop, List.length_take]; rfl)) ?_
                           with_reducible refine (althingref02_RightStamp.calls ((rd_T38 l0_6 x4_4).f1.f0) ((rd_T38 l0_6 x4_4).f1.f1) true _ A63.out).mono ?_
                           rintro e w70 ⟨rfl, hb⟩
                           refine ⟨_, rfl, ?_⟩
                           replace HO_3 := rb_ HO_3 hb
                           replace BK473 := bb_ BK473 hb
                           replace HB := hs_ HB hb
                           (try clear hb)
                           (try clear hb2)
                           (try clear hk)
                           (try clear hi)
                           refine hK.out _ _ ⟨BK473.out, ((HB.out.cell (World.block_lt_of_cell? w _ hw476_0)).trans hw476_0), ((HB.out.cell (World.block_lt_of_cell? w _ hw476_1)).trans hw476_1), ((HB.out.cell (World.block_lt_of_cell? w _ hw476_2)).trans hw476_2), ((HB.out.cell (World.block_lt_of_cell? w _ hw478_0)).trans hw478_0), ((HB.out.cell (World.block_lt_of_cell? w _ hw478_1)).trans hw478_1), ((HB.out.cell (World.block_lt_of_cell? w _ hw478_2)).trans hw478_2)⟩ (fun hHeld => ?_)
                           clear hK K
                           refine nr_ 117 ?_
                           refine pu_ 7 (some 118) (tf_ 8 12) HT_ ?_
                           refine pu_ 8 (some 119) (tf_ 9 11) HT_ ?_
                           refine pu_ 9 (some 120) (tf_ 10 10) HT_ ?_
                           refine pu_ 11 (some 122) #[true, true, true, true, true, true, true, true, true, true, false, true, false, false, false, false, false, false, false, false] HT_ ?_
                           refine pu_ 15 (some 126) #[true, true, true, true, true, true, true, true, true, true, false, true, false, false, false, true, false, false, false, false] HT_ ?_
                           refine tk_ 10 (some 121) #[true, true, true, true, true, true, true, true, true, true, true, true, false, false, false, true, false, false, false, false] HT_ HW_ hHeld (hy := by
                            rintro w' ⟨s0, s9, s10, s11, s12, s13, s14⟩
                            first | (refine blk_yield2 (T := 29) s0 ?_ ⟨_, Try.underlying29, rfl⟩ ?_; exact ⟨rfl, rfl⟩; kernel_rfl) | (refine blk9_ s0 fun _ _ _ _ _ _ _ _ _ _ _ _ _ _ _ _ _ _ => ?_; go_simp; with_reducible rfl)) (h := ?_)
                           refine pu_ 12 (some 123) #[true, true, true, true, true, true, true, true, true, true, true, true, true, false, false, true, false, false, false, false] HT_ ?_
                           refine pu_ 13 (some 124) #[true, true, true, true, true, true, true, true, true, true, true, true, true, true, false, true, false, false, false, false] HT_ ?_
                           refine tk_ 14 (some 125) (tf_ 16 4) HT_ HW_ hHeld (hy := by
                            rintro w' ⟨s0, s9, s10, s11, s12, s13, s14⟩
                            first | (refine blk_yield2 (T := 29) s0 ?_ ⟨_, Try.underlying29, rfl⟩ ?_; exact ⟨rfl, rfl⟩; kernel_rfl) | (refine blk9_ s0 fun _ _ _ _ _ _ _ _ _ _ _ _ _ _ _ _ _ _ => ?_; go_simp; with_reducible rfl)) (h := ?_)
                           refine tk_ 16 (some 127) (tf_ 17 3) HT_ HW_ hHeld (hy := by
                            rintro w' ⟨s0, s9, s10, s11, s12, s13, s14⟩
                            first | (refine blk_yield2 (T := 29) s0 ?_ ⟨_, Try.underlying29, rfl⟩ ?_; exact ⟨rfl, rfl⟩; kernel_rfl) | (refine blk9_ s0 fun _ _ _ _ _ _ _ _ _ _ _ _ _ _ _ _ _ _ => ?_; go_simp; with_reducible rfl)) (h := ?_)
                           refine on_ 17 (some 128) (tf_ 18 2) HT_ fun K hK => ?_
                           refine goes_ Try.func38 (by kernel_rfl) rfl #[.agg #[.int .i64 ((rd_T38 l0_6 x4_4).f1.f0), .int .i64 ((rd_T38 l0_6 x4_4).f1.f1)], .agg #[.int .i64 a0_3, .int .i64 a0_4]] (by rfl) rfl rfl (by (try simp only [List.map_toArray, List.map_cons, List.map_nil]); first | done | rfl | (simp only [List.length_drop, List.length_take]; rfl)) ?_
                           with_reducible refine (althingref02_Before.calls ((rd_T38 l0_6 x4_4).f1.f0) ((rd_T38 l0_6 x4_4).f1.f1) a0_3 a0_4 true _ A65.out).mono ?_
                           rintro e w71 ⟨rfl, hb⟩
                           refine ⟨_, rfl, ?_⟩
                           replace HO_3 := rb_ HO_3 hb
                           replace BK473 := bb_ BK473 hb
                           replace HB := hs_ HB hb
                           (try clear hb)
                           (try clear hb2)
                           (try clear hk)
                           (try clear hi)
                           refine hK.out _ _ ⟨BK473.out, ((HB.out.cell (World.block_lt_of_cell? w _ hw476_0)).trans hw476_0), ((HB.out.cell (World.block_lt_of_cell? w _ hw476_1)).trans hw476_1), ((HB.out.cell (World.block_lt_of_cell? w _ hw476_2)).trans hw476_2), ((HB.out.cell (World.block_lt_of_cell? w _ hw478_0)).trans hw478_0), ((HB.out.cell (World.block_lt_of_cell? w _ hw478_1)).trans hw478_1), ((HB.out.cell (World.block_lt_of_cell? w _ hw478_2)).trans hw478_2)⟩ (fun hHeld => ?_)
                           clear hK K
                           refine nr_ 128 ?_
                           refine pu_ 18 (some 129) (tf_ 19 1) HT_ ?_
                           refine pu_ 19 (some 130) (tf_ 20 0) HT_ ?_
                           refine done_ (done_of HT_.out (by kernel_rfl)) ?_
                           refine blk9_ BK473.out fun hcz72_0 hcz72_1 hcz72_2 hcz72_3 hcz72_4 hcz72_5 hcz72_6 hcz72_7 hcz72_8 hfz72_0 hfz72_1 hfz72_2 hfz72_3 hfz72_4 hfz72_5 hfz72_6 hfz72_7 hfz72_8 => ?_
                           have p480 : 0 ≤ (x4_4 : Int) := of_decide_eq_true (by first | (with_reducible assumption) | assumption)
                           have q480 : x4_4 < (l0_6.length : Int) := of_decide_eq_true (by first | (with_reducible assumption) | assumption)
                           obtain ⟨ad480, e480, hx480_0, hx480_1, hx480_2⟩ := at_T38 HR0_6.out x4_4 p480 q480
                           obtain rfl : ad476 = ad480 := (by injection e480)
                           replace hx480_0 := (HB.out.cell (World.block_lt_of_cell? w _ hx480_0)).trans hx480_0
                           replace hx480_1 := (HB.out.cell (World.block_lt_of_cell? w _ hx480_1)).trans hx480_1
                           replace hx480_2 := (HB.out.cell (World.block_lt_of_cell? w _ hx480_2)).trans hx480_2
                           replace p480 := eq_true p480
                           replace q480 := eq_true q480
                           try go_wp2_with (first | ((with_reducible refine gate_builtin (b := .append) (xs := #[.tmp 131, .tmp 138]) rfl ?_); (try (refine gate_guard (by rfl) ?_; dsimp only)); at_builtin; refine Kd.R_append Kd.string (w0 := w) w.heap.size rfl (.tmp 131) (.tmp 138) 45 9 (.string ⟨#[]⟩) 16 rfl Try.underlying45 info9 rfl (by decide) (by omega) u3 x3_4 ((rd_T38 l0_6 x4_4).f0) [.string ((rd_T38 l0_6 x4_4).f0)] (fun _ => True) (fun _ => False) rfl rfl ?aP (fun _ hk => hk.elim) ?aF ?aO ?aB ?aS ?aL ?_; (case aP => exact rfl); (case aB => exact lbt_); (case aF => exact (fun _ _ => trivial)); (case aO => exact (kr_ HO_3.out)); (case aS => exact (below_size lbt_)); (case aL => have := LMc67.out; omega); intro v482 w73 ho hb hg hat; rw [← Ny481.out] at ho; have n0_ := Aside0.mk (blk_grown (kb_ BK473.out) hg (Kd.R_ne HO_3.out BK473.out (by decide))); have n1_ := Aside0.mk (hb); have n2_ := Aside0.mk (ho); clear BK473 HB HO_3; have BK473 := n0_; have HB := n1_; have HO483 := n2_; clear n0_ n1_ n2_ ho hb hg hat))
                           go_roundg k4
                           case measure => have := HJ19.out; have := HJ28.out; have := HJ51.out; have := HK4.out; omega
                           case rel => exact ⟨(y481), (wrap64 (x4_4 + 1)), sm_, H', ⟨by have := HJ19.out; have := HJ28.out; have := HJ51.out; have := HK4.out; omega⟩, ⟨kr_ HO483.out⟩, ⟨by (with_reducible repeat (first | refine blk_drewN ?_ _ | refine blk_drew ?_ | refine blk_alloc ?_ _)); exact BK473.out⟩, ⟨by repeat (first | (with_reducible first | exact HB.out | apply below_alloc | apply pw_below_drewN | apply below_drew1 | refine below_set ?_ GE473.out) | exact HB.out)⟩⟩
                         · rw [if_neg c67] at H
                           exact absurd H (by simp)
                       · replace c66 := Bool.eq_false_iff.mpr c66
                         subst c66
                         rw [if_neg (show ¬ (false = true) by decide)] at H
                         obtain rfl := Option.some.inj H
                         refine blk9_ BK473.out fun hcz74_0 hcz74_1 hcz74_2 hcz74_3 hcz74_4 hcz74_5 hcz74_6 hcz74_7 hcz74_8 hfz74_0 hfz74_1 hfz74_2 hfz74_3 hfz74_4 hfz74_5 hfz74_6 hfz74_7 hfz74_8 => ?_
                         try go_wp2
                         replace HO_3 := Aside0.mk (Kd.R_drew HO_3.out)
                         replace BK473 := Aside0.mk (blk_drew BK473.out)
                         replace HB := Aside0.mk (below_drew1 HB.out)
                         have p476 : 0 ≤ (x4_4 : Int) := of_decide_eq_true (by first | (with_reducible assumption) | assumption)
                         have q476 : x4_4 < (l0_6.length : Int) := of_decide_eq_true (by first | (with_reducible assumption) | assumption)
                         obtain ⟨ad476, e476, hx476_0, hx476_1, hx476_2⟩ := at_T38 HR0_6.out x4_4 p476 q476
                         have hw476_2 := hx476_2
                         have hw476_1 := hx476_1
                         have hw476_0 := hx476_0
                         cases e476
                         replace hx476_0 := (HB.out.cell (World.block_lt_of_cell? w _ hx476_0)).trans hx476_0
                         replace hx476_1 := (HB.out.cell (World.block_lt_of_cell? w _ hx476_1)).trans hx476_1
                         replace hx476_2 := (HB.out.cell (World.block_lt_of_cell? w _ hx476_2)).trans hx476_2
                         replace p476 := eq_true p476
                         replace q476 := eq_true q476
                         have p478 : 0 ≤ (x4_4 : Int) := of_decide_eq_true (by first | (with_reducible assumption) | assumption)
                         have q478 : x4_4 < (l0_6.length : Int) := of_decide_eq_true (by first | (with_reducible assumption) | assumption)
                         obtain ⟨ad478, e478, hx478_0, hx478_1, hx478_2⟩ := at_T38 HR0_6.out x4_4 p478 q478
                         have hw478_2 := hx478_2
                         have hw478_1 := hx478_1
                         have hw478_0 := hx478_0
                         obtain rfl : ad476 = ad478 := (by injection e478)
                         replace hx478_0 := (HB.out.cell (World.block_lt_of_cell? w _ hx478_0)).trans hx478_0
                         replace hx478_1 := (HB.out.cell (World.block_lt_of_cell? w _ hx478_1)).trans hx478_1
                         replace hx478_2 := (HB.out.cell (World.block_lt_of_cell? w _ hx478_2)).trans hx478_2
                         replace p478 := eq_true p478
                         replace q478 := eq_true q478
                         refine start_ (n := 20) (S := fun w' => w'.heap[gb473]? = some (.cells #[.int .i64 a0_0, .int .i64 a0_1, .int .i64 a0_2, .int .i64 a0_3, .int .i64 a0_4, .int .i64 a0_5, .slice (some ad476) l0_6.length c0_6, .slice A0_7 l0_7.length c0_7, .bool a0_8] 29 (0, 0)) ∧ w'.cell? (ad476.add ((x4_4).toNat * 3)) = some (.string ((rd_T38 l0_6 x4_4).f0)) ∧ w'.cell? ⟨(ad476.add ((x4_4).toNat * 3)).block, (ad476.add ((x4_4).toNat * 3)).off + 1, none⟩ = some (.int .i64 ((rd_T38 l0_6 x4_4).f1.f0)) ∧ w'.cell? ⟨(ad476.add ((x4_4).toNat * 3)).block, (ad476.add ((x4_4).toNat * 3)).off + 2, none⟩ = some (.int .i64 ((rd_T38 l0_6 x4_4).f1.f1)) ∧ w'.cell? (ad476.add ((x4_4).toNat * 3)) = some (.string ((rd_T38 l0_6 x4_4).f0)) ∧ w'.cell? ⟨(ad476.add ((x4_4).toNat * 3)).block, (ad476.add ((x4_4).toNat * 3)).off + 1, none⟩ = some (.int .i64 ((rd_T38 l0_6 x4_4).f1.f0)) ∧ w'.cell? ⟨(ad476.add ((x4_4).toNat * 3)).block, (ad476.add ((x4_4).toNat * 3)).off + 2, none⟩ = some (.int .i64 ((rd_T38 l0_6 x4_4).f1.f1))) (ds := []) #[false, false, false, false, false, false, false, false, false, false, false, false, false, false, false, false, false, false, false, false] (by kernel_rfl) rfl rfl ⟨BK473.out, ((HB.out.cell (World.block_lt_of_cell? w _ hw476_0)).trans hw476_0), ((HB.out.cell (World.block_lt_of_cell? w _ hw476_1)).trans hw476_1), ((HB.out.cell (World.block_lt_of_cell? w _ hw476_2)).trans hw476_2), ((HB.out.cell (World.block_lt_of_cell? w _ hw478_0)).trans hw478_0), ((HB.out.cell (World.block_lt_of_cell? w _ hw478_1)).trans hw478_1), ((HB.out.cell (World.block_lt_of_cell? w _ hw478_2)).trans hw478_2)⟩ (fun hHeld => ?_); refine with_tabW althingref05_Right.tab13 althingref05_Right.bits13 (fun HT_ HW_ => ?_)
                         generalize wr.drew = w75 at HO_3 BK473 HB hx476_0 hx476_1 hx476_2 hx478_0 hx478_1 hx478_2 hHeld ⊢
                         refine pu_ 0 (some 111) (tf_ 1 19) HT_ ?_
                         refine pu_ 2 (some 113) #[true, false, true, false, false, false, false, false, false, false, false, false, false, false, false, false, false, false, false, false] HT_ ?_
                         refine tk_ 1 (some 112) (tf_ 3 17) HT_ HW_ hHeld (hy := by
                          rintro w' ⟨s0, s9, s10, s11, s12, s13, s14⟩
                          first | (refine blk_yield2 (T := 29) s0 ?_ ⟨_, Try.underlying29, rfl⟩ ?_; exact ⟨rfl, rfl⟩; kernel_rfl) | (refine blk9_ s0 fun _ _ _ _ _ _ _ _ _ _ _ _ _ _ _ _ _ _ => ?_; go_simp; with_reducible rfl)) (h := ?_)
                         refine pu_ 3 (some 114) (tf_ 4 16) HT_ ?_
                         refine pu_ 4 (some 115) (tf_ 5 15) HT_ ?_
                         refine tk_ 5 (some 116) (tf_ 6 14) HT_ HW_ hHeld (hy := by
                          rintro w' ⟨s0, s9, s10, s11, s12, s13, s14⟩
                          first | (refine blk_yield2 (T := 29) s0 ?_ ⟨_, Try.underlying29, rfl⟩ ?_; exact ⟨rfl, rfl⟩; kernel_rfl) | (refine blk9_ s0 fun _ _ _ _ _ _ _ _ _ _ _ _ _ _ _ _ _ _ => ?_; go_simp; with_reducible rfl)) (h := ?_)
                         refine on_ 6 (some 117) (tf_ 7 13) HT_ fun K hK => ?_
                         refine goes_ Try.func37 (by kernel_rfl) rfl #[.agg #[.int .i64 ((rd_T38 l0_6 x4_4).f1.f0), .int .i64 ((rd_T38 l0_6 x4_4).f1.f1)]] (by rfl) rfl rfl (by (try simp only [List.map_toArray, List.map_cons, List.map_nil]); first | done | rfl | (simp only [List.length_drop, List.length_take]; rfl)) ?_
                         with_reducible refine (althingref02_RightStamp.calls ((rd_T38 l0_6 x4_4).f1.f0) ((rd_T38 l0_6 x4_4).f1.f1) true _ A63.out).mono ?_
                         rintro e w76 ⟨rfl, hb⟩
                         refine ⟨_, rfl, ?_⟩
                         replace HO_3 := rb_ HO_3 hb
                         replace BK473 := bb_ BK473 hb
                         replace HB := hs_ HB hb
                         (try clear hb)
                         (try clear hb2)
                         (try clear hk)
                         (try clear hi)
                         refine hK.out _ _ ⟨BK473.out, ((HB.out.cell (World.block_lt_of_cell? w _ hw476_0)).trans hw476_0), ((HB.out.cell (World.block_lt_of_cell? w _ hw476_1)).trans hw476_1), ((HB.out.cell (World.block_lt_of_cell? w _ hw476_2)).trans hw476_2), ((HB.out.cell (World.block_lt_of_cell? w _ hw478_0)).trans hw478_0), ((HB.out.cell (World.block_lt_of_cell? w _ hw478_1)).trans hw478_1), ((HB.out.cell (World.block_lt_of_cell? w _ hw478_2)).trans hw478_2)⟩ (fun hHeld => ?_)
                         clear hK K
                         refine nr_ 117 ?_
                         refine pu_ 7 (some 118) (tf_ 8 12) HT_ ?_
                         refine pu_ 8 (some 119) (tf_ 9 11) HT_ ?_
                         refine pu_ 9 (some 120) (tf_ 10 10) HT_ ?_
                         refine pu_ 11 (some 122) #[true, true, true, true, true, true, true, true, true, true, false, true, false, false, false, false, false, false, false, false] HT_ ?_
                         refine pu_ 15 (some 126) #[true, true, true, true, true, true, true, true, true, true, false, true, false, false, false, true, false, false, false, false] HT_ ?_
                         refine tk_ 10 (some 121) #[true, true, true, true, true, true, true, true, true, true, true, true, false, false, false, true, false, false, false, false] HT_ HW_ hHeld (hy := by
                          rintro w' ⟨s0, s9, s10, s11, s12, s13, s14⟩
                          first | (refine blk_yield2 (T := 29) s0 ?_ ⟨_, Try.underlying29, rfl⟩ ?_; exact ⟨rfl, rfl⟩; kernel_rfl) | (refine blk9_ s0 fun _ _ _ _ _ _ _ _ _ _ _ _ _ _ _ _ _ _ => ?_; go_simp; with_reducible rfl)) (h := ?_)
                         refine pu_ 12 (some 123) #[true, true, true, true, true, true, true, true, true, true, true, true, true, false, false, true, false, false, false, false] HT_ ?_
                         refine pu_ 13 (some 124) #[true, true, true, true, true, true, true, true, true, true, true, true, true, true, false, true, false, false, false, false] HT_ ?_
                         refine tk_ 14 (some 125) (tf_ 16 4) HT_ HW_ hHeld (hy := by
                          rintro w' ⟨s0, s9, s10, s11, s12, s13, s14⟩
                          first | (refine blk_yield2 (T := 29) s0 ?_ ⟨_, Try.underlying29, rfl⟩ ?_; exact ⟨rfl, rfl⟩; kernel_rfl) | (refine blk9_ s0 fun _ _ _ _ _ _ _ _ _ _ _ _ _ _ _ _ _ _ => ?_; go_simp; with_reducible rfl)) (h := ?_)
                         refine tk_ 16 (some 127) (tf_ 17 3) HT_ HW_ hHeld (hy := by
                          rintro w' ⟨s0, s9, s10, s11, s12, s13, s14⟩
                          first | (refine blk_yield2 (T := 29) s0 ?_ ⟨_, Try.underlying29, rfl⟩ ?_; exact ⟨rfl, rfl⟩; kernel_rfl) | (refine blk9_ s0 fun _ _ _ _ _ _ _ _ _ _ _ _ _ _ _ _ _ _ => ?_; go_simp; with_reducible rfl)) (h := ?_)
                         refine on_ 17 (some 128) (tf_ 18 2) HT_ fun K hK => ?_
                         refine goes_ Try.func38 (by kernel_rfl) rfl #[.agg #[.int .i64 ((rd_T38 l0_6 x4_4).f1.f0), .int .i64 ((rd_T38 l0_6 x4_4).f1.f1)], .agg #[.int .i64 a0_3, .int .i64 a0_4]] (by rfl) rfl rfl (by (try simp only [List.map_toArray, List.map_cons, List.map_nil]); first | done | rfl | (simp only [List.length_drop, List.length_take]; rfl)) ?_
                         with_reducible refine (althingref02_Before.calls ((rd_T38 l0_6 x4_4).f1.f0) ((rd_T38 l0_6 x4_4).f1.f1) a0_3 a0_4 false _ A65.out).mono ?_
                         rintro e w77 ⟨rfl, hb⟩
                         refine ⟨_, rfl, ?_⟩
                         replace HO_3 := rb_ HO_3 hb
                         replace BK473 := bb_ BK473 hb
                         replace HB := hs_ HB hb
                         (try clear hb)
                         (try clear hb2)
                         (try clear hk)
                         (try clear hi)
                         refine hK.out _ _ ⟨BK473.out, ((HB.out.cell (World.block_lt_of_cell? w _ hw476_0)).trans hw476_0), ((HB.out.cell (World.block_lt_of_cell? w _ hw476_1)).trans hw476_1), ((HB.out.cell (World.block_lt_of_cell? w _ hw476_2)).trans hw476_2), ((HB.out.cell (World.block_lt_of_cell? w _ hw478_0)).trans hw478_0), ((HB.out.cell (World.block_lt_of_cell? w _ hw478_1)).trans hw478_1), ((HB.out.cell (World.block_lt_of_cell? w _ hw478_2)).trans hw478_2)⟩ (fun hHeld => ?_)
                         clear hK K
                         refine nr_ 128 ?_
                         refine pu_ 18 (some 129) (tf_ 19 1) HT_ ?_
                         refine pu_ 19 (some 130) (tf_ 20 0) HT_ ?_
                         refine done_ (done_of HT_.out (by kernel_rfl)) ?_
                         try go_wp2
                         go_ret
                         exact ⟨by first | rfl | (simp [errW_none, errW_some] <;> rfl) | (simp [*, errW_none, errW_some] <;> rfl), by repeat (first | (with_reducible first | exact HB.out | apply below_alloc | apply pw_below_drewN | apply below_drew1 | refine below_set ?_ GE473.out) | exact HB.out)⟩
                     · replace c64 := Bool.eq_false_iff.mpr c64
                       subst c64
                       rw [if_neg (show ¬ (false = true) by decide)] at H
                       obtain rfl := Option.some.inj H
                       refine blk9_ BK473.out fun hcz78_0 hcz78_1 hcz78_2 hcz78_3 hcz78_4 hcz78_5 hcz78_6 hcz78_7 hcz78_8 hfz78_0 hfz78_1 hfz78_2 hfz78_3 hfz78_4 hfz78_5 hfz78_6 hfz78_7 hfz78_8 => ?_
                       try go_wp2
                       replace HO_3 := Aside0.mk (Kd.R_drew HO_3.out)
                       replace BK473 := Aside0.mk (blk_drew BK473.out)
                       replace HB := Aside0.mk (below_drew1 HB.out)
                       have p476 : 0 ≤ (x4_4 : Int) := of_decide_eq_true (by first | (with_reducible assumption) | assumption)
                       have q476 : x4_4 < (l0_6.length : Int) := of_decide_eq_true (by first | (with_reducible assumption) | assumption)
                       obtain ⟨ad476, e476, hx476_0, hx476_1, hx476_2⟩ := at_T38 HR0_6.out x4_4 p476 q476
                       have hw476_2 := hx476_2
                       have hw476_1 := hx476_1
                       have hw476_0 := hx476_0
                       cases e476
                       replace hx476_0 := (HB.out.cell (World.block_lt_of_cell? w _ hx476_0)).trans hx476_0
                       replace hx476_1 := (HB.out.cell (World.block_lt_of_cell? w _ hx476_1)).trans hx476_1
                       replace hx476_2 := (HB.out.cell (World.block_lt_of_cell? w _ hx476_2)).trans hx476_2
                       replace p476 := eq_true p476
                       replace q476 := eq_true q476
                       refine start_ (n := 20) (S := fun w' => w'.heap[gb473]? = some (.cells #[.int .i64 a0_0, .int .i64 a0_1, .int .i64 a0_2, .int .i64 a0_3, .int .i64 a0_4, .int .i64 a0_5, .slice (some ad476) l0_6.length c0_6, .slice A0_7 l0_7.length c0_7, .bool a0_8] 29 (0, 0)) ∧ w'.cell? (ad476.add ((x4_4).toNat * 3)) = some (.string ((rd_T38 l0_6 x4_4).f0)) ∧ w'.cell? ⟨(ad476.add ((x4_4).toNat * 3)).block, (ad476.add ((x4_4).toNat * 3)).off + 1, none⟩ = some (.int .i64 ((rd_T38 l0_6 x4_4).f1.f0)) ∧ w'.cell? ⟨(ad476.add ((x4_4).toNat * 3)).block, (ad476.add ((x4_4).toNat * 3)).off + 2, none⟩ = some (.int .i64 ((rd_T38 l0_6 x4_4).f1.f1))) (ds := []) #[false, false, false, false, false, false, false, false, false, false, false, false, false, false, false, false, false, false, false, false] (by kernel_rfl) rfl rfl ⟨BK473.out, ((HB.out.cell (World.block_lt_of_cell? w _ hw476_0)).trans hw476_0), ((HB.out.cell (World.block_lt_of_cell? w _ hw476_1)).trans hw476_1), ((HB.out.cell (World.block_lt_of_cell? w _ hw476_2)).trans hw476_2)⟩ (fun hHeld => ?_); refine with_tabW althingref05_Right.tab13 althingref05_Right.bits13 (fun HT_ HW_ => ?_)
                       generalize wr.drew = w79 at HO_3 BK473 HB hx476_0 hx476_1 hx476_2 hHeld ⊢
                       refine pu_ 0 (some 111) (tf_ 1 19) HT_ ?_
                       refine pu_ 2 (some 113) #[true, false, true, false, false, false, false, false, false, false, false, false, false, false, false, false, false, false, false, false] HT_ ?_
                       refine tk_ 1 (some 112) (tf_ 3 17) HT_ HW_ hHeld (hy := by
                        rintro w' ⟨s0, s9, s10, s11⟩
                        first | (refine blk_yield2 (T := 29) s0 ?_ ⟨_, Try.underlying29, rfl⟩ ?_; exact ⟨rfl, rfl⟩; kernel_rfl) | (refine blk9_ s0 fun _ _ _ _ _ _ _ _ _ _ _ _ _ _ _ _ _ _ => ?_; go_simp; with_reducible rfl)) (h := ?_)
                       refine pu_ 3 (some 114) (tf_ 4 16) HT_ ?_
                       refine pu_ 4 (some 115) (tf_ 5 15) HT_ ?_
                       refine tk_ 5 (some 116) (tf_ 6 14) HT_ HW_ hHeld (hy := by
                        rintro w' ⟨s0, s9, s10, s11⟩
                        first | (refine blk_yield2 (T := 29) s0 ?_ ⟨_, Try.underlying29, rfl⟩ ?_; exact ⟨rfl, rfl⟩; kernel_rfl) | (refine blk9_ s0 fun _ _ _ _ _ _ _ _ _ _ _ _ _ _ _ _ _ _ => ?_; go_simp; with_reducible rfl)) (h := ?_)
                       refine on_ 6 (some 117) (tf_ 7 13) HT_ fun K hK => ?_
                       refine goes_ Try.func37 (by kernel_rfl) rfl #[.agg #[.int .i64 ((rd_T38 l0_6 x4_4).f1.f0), .int .i64 ((rd_T38 l0_6 x4_4).f1.f1)]] (by rfl) rfl rfl (by (try simp only [List.map_toArray, List.map_cons, List.map_nil]); first | done | rfl | (simp only [List.length_drop, List.length_take]; rfl)) ?_
                       with_reducible refine (althingref02_RightStamp.calls ((rd_T38 l0_6 x4_4).f1.f0) ((rd_T38 l0_6 x4_4).f1.f1) false _ A63.out).mono ?_
                       rintro e w80 ⟨rfl, hb⟩
                       refine ⟨_, rfl, ?_⟩
                       replace HO_3 := rb_ HO_3 hb
                       replace BK473 := bb_ BK473 hb
                       replace HB := hs_ HB hb
                       (try clear hb)
                       (try clear hb2)
                       (try clear hk)
                       (try clear hi)
                       refine hK.out _ _ ⟨BK473.out, ((HB.out.cell (World.block_lt_of_cell? w _ hw476_0)).trans hw476_0), ((HB.out.cell (World.block_lt_of_cell? w _ hw476_1)).trans hw476_1), ((HB.out.cell (World.block_lt_of_cell? w _ hw476_2)).trans hw476_2)⟩ (fun hHeld => ?_)
                       clear hK K
                       refine nr_ 117 ?_
                       refine pu_ 7 (some 118) (tf_ 8 12) HT_ ?_
                       refine pu_ 8 (some 119) (tf_ 9 11) HT_ ?_
                       refine pure_ (i := 9) (N := some 120) (v := undef) (a' := ?_) (tf_ 10 10) rfl rfl (any_of HT_.out (by kernel_rfl)) (fun _ _ _ h => h) (Or.inr ⟨by rfl, rfl⟩) ?_ ?_
                       rotate_left
                       · simp only [Act.put, List.setIfInBounds_toArray, List.set_cons_zero, List.set_cons_succ, i64_w, i32_w]
                         rfl
                       refine pure_ (i := 10) (N := some 121) (v := undef) (a' := ?_) (tf_ 11 9) rfl rfl (any_of HT_.out (by kernel_rfl)) (fun _ _ _ h => h) (Or.inr ⟨by rfl, rfl⟩) ?_ ?_
                       rotate_left
                       · simp only [Act.put, List.setIfInBounds_toArray, List.set_cons_zero, List.set_cons_succ, i64_w, i32_w]
                         rfl
                       refine pure_ (i := 11) (N := some 122) (v := undef) (a' := ?_) (tf_ 12 8) rfl rfl (any_of HT_.out (by kernel_rfl)) (fun _ _ _ h => h) (Or.inr ⟨by rfl, rfl⟩) ?_ ?_
                       rotate_left
                       · simp only [Act.put, List.setIfInBounds_toArray, List.set_cons_zero, List.set_cons_succ, i64_w, i32_w]
                         rfl
                       refine pure_ (i := 12) (N := some 123) (v := undef) (a' := ?_) (tf_ 13 7) rfl rfl (any_of HT_.out (by kernel_rfl)) (fun _ _ _ h => h) (Or.inr ⟨by rfl, rfl⟩) ?_ ?_
                       rotate_left
                       · simp only [Act.put, List.setIfInBounds_toArray, List.set_cons_zero, List.set_cons_succ, i64_w, i32_w]
                         rfl
                       refine pure_ (i := 13) (N := some 124) (v := undef) (a' := ?_) (tf_ 14 6) rfl rfl (any_of HT_.out (by kernel_rfl)) (fun _ _ _ h => h) (Or.inr ⟨by rfl, rfl⟩) ?_ ?_
                       rotate_left
                       · simp only [Act.put, List.setIfInBounds_toArray, List.set_cons_zero, List.set_cons_succ, i64_w, i32_w]
                         rfl
                       refine pure_ (i := 14) (N := some 125) (v := undef) (a' := ?_) (tf_ 15 5) rfl rfl (any_of HT_.out (by kernel_rfl)) (fun _ _ _ h => h) (Or.inr ⟨by rfl, rfl⟩) ?_ ?_
                       rotate_left
                       · simp only [Act.put, List.setIfInBounds_toArray, List.set_cons_zero, List.set_cons_succ, i64_w, i32_w]
                         rfl
                       refine pure_ (i := 15) (N := some 126) (v := undef) (a' := ?_) (tf_ 16 4) rfl rfl (any_of HT_.out (by kernel_rfl)) (fun _ _ _ h => h) (Or.inr ⟨by rfl, rfl⟩) ?_ ?_
                       rotate_left
                       · simp only [Act.put, List.setIfInBounds_toArray, List.set_cons_zero, List.set_cons_succ, i64_w, i32_w]
                         rfl
                       refine pure_ (i := 16) (N := some 127) (v := undef) (a' := ?_) (tf_ 17 3) rfl rfl (any_of HT_.out (by kernel_rfl)) (fun _ _ _ h => h) (Or.inr ⟨by rfl, rfl⟩) ?_ ?_
                       rotate_left
                       · simp only [Act.put, List.setIfInBounds_toArray, List.set_cons_zero, List.set_cons_succ, i64_w, i32_w]
                         rfl
                       refine pure_ (i := 17) (N := some 128) (v := undef) (a' := ?_) (tf_ 18 2) rfl rfl (any_of HT_.out (by kernel_rfl)) (fun _ _ _ h => h) (Or.inr ⟨by rfl, rfl⟩) ?_ ?_
                       rotate_left
                       · simp only [Act.put, List.setIfInBounds_toArray, List.set_cons_zero, List.set_cons_succ, i64_w, i32_w]
                         rfl
                       refine pure_ (i := 18) (N := some 129) (v := undef) (a' := ?_) (tf_ 19 1) rfl rfl (any_of HT_.out (by kernel_rfl)) (fun _ _ _ h => h) (Or.inr ⟨by rfl, rfl⟩) ?_ ?_
                       rotate_left
                       · simp only [Act.put, List.setIfInBounds_toArray, List.set_cons_zero, List.set_cons_succ, i64_w, i32_w]
                         rfl
                       refine pu_ 19 (some 130) (tf_ 20 0) HT_ ?_
                       refine done_ (done_of HT_.out (by kernel_rfl)) ?_
                       try go_wp2
                       go_ret
                       exact ⟨by first | rfl | (simp [errW_none, errW_some] <;> rfl) | (simp [*, errW_none, errW_some] <;> rfl), by repeat (first | (with_reducible first | exact HB.out | apply below_alloc | apply pw_below_drewN | apply below_drew1 | refine below_set ?_ GE473.out) | exact HB.out)⟩
                   · rw [if_neg c62] at H
                     exact absurd H (by simp)
                 · rw [if_neg c61] at H
                   have c61b0 : decide (x4_4 < (l0_6.length : Int)) = false := decide_eq_false c61
                   clear c61
                   have H' := Aside0.mk H
                   clear H
                   refine blk9_ BK473.out fun hcz81_0 hcz81_1 hcz81_2 hcz81_3 hcz81_4 hcz81_5 hcz81_6 hcz81_7 hcz81_8 hfz81_0 hfz81_1 hfz81_2 hfz81_3 hfz81_4 hfz81_5 hfz81_6 hfz81_7 hfz81_8 => ?_
                   go_wp2
                   go_loopg [5, 6] k4 (fun kq v5 v6 w' => ∃ (x5_5 : List ByteArray) (x6_5 : Int), v6 = .int .i64 x6_5 ∧ Aside0 (althingref05_Right.l1 kq x3_4 x5_5 x6_5 a0_0 a0_1 a0_2 a0_3 a0_4 a0_5 l0_6 l0_7 a0_8 = some r) ∧ Aside0 (kq ≤ k4) ∧ Aside0 (Kd.R Kd.string 9 w' w.heap.size (fun k_ => some k_ ≠ (v5 : Value).ownBlock) u3 x3_4) ∧ Aside0 (Kd.R Kd.string 9 w' w.heap.size (fun k_ => some k_ ≠ (u3 : Value).ownBlock) v5 x5_5) ∧ Aside0 (w'.heap[gb473]? = some (.cells #[.int .i64 a0_0, .int .i64 a0_1, .int .i64 a0_2, .int .i64 a0_3, .int .i64 a0_4, .int .i64 a0_5, (.slice A0_6 l0_6.length c0_6), (.slice A0_7 l0_7.length c0_7), .bool a0_8] 29 (0, 0))) ∧ Aside0 (Below w.heap.size w w'))
                   case atStart => exact ⟨(([] : List ByteArray)), (0), sm_, H', ⟨Nat.le_refl _⟩, ⟨kr_ (Kd.R_mono HO_3.out (fun _ hk => (by simp [Value.ownBlock])))⟩, ⟨by first | exact Kd.R_nil _ _ _ _ _ | exact Kd.N_nil _ _ _ _ _ | exact Kd.V_nil _ _ _ _ _ | exact Kd.Q_nil _ _ _ _ _ | exact Kd.S_nil _ _ _ _ _⟩, ⟨by (with_reducible repeat (first | refine blk_drewN ?_ _ | refine blk_drew ?_ | refine blk_alloc ?_ _)); exact BK473.out⟩, ⟨by repeat (first | (with_reducible first | exact HB.out | apply below_alloc | apply pw_below_drewN | apply below_drew1 | refine below_set ?_ GE473.out) | exact HB.out)⟩⟩
                   case round =>
                    clear H'
                    try clear p2
                    try clear c3
                    try clear p4
                    try clear q4
                    try clear hx4
                    try clear c6
                    try clear p6
                    try clear c37
                    try clear c38
                    try clear p47
                    try clear q47
                    try clear hx47
                    try clear p48
                    try clear q48
                    try clear hx48
                    try clear c61
                    try clear c61b0
                    try clear c62
                    try clear c64
                    try clear p64
                    try clear c66
                    try clear c67
                    try clear hcz72_0 hcz72_1 hcz72_2 hcz72_3 hcz72_4 hcz72_5 hcz72_6 hcz72_7 hcz72_8
                    try clear hcz74_0 hcz74_1 hcz74_2 hcz74_3 hcz74_4 hcz74_5 hcz74_6 hcz74_7 hcz74_8
                    try clear hcz78_0 hcz78_1 hcz78_2 hcz78_3 hcz78_4 hcz78_5 hcz78_6 hcz78_7 hcz78_8
                    try clear hcz81_0 hcz81_1 hcz81_2 hcz81_3 hcz81_4 hcz81_5 hcz81_6 hcz81_7 hcz81_8
                    try clear hfz72_0 hfz72_1 hfz72_2 hfz72_3 hfz72_4 hfz72_5 hfz72_6 hfz72_7 hfz72_8
                    try clear hfz74_0 hfz74_1 hfz74_2 hfz74_3 hfz74_4 hfz74_5 hfz74_6 hfz74_7 hfz74_8
                    try clear hfz78_0 hfz78_1 hfz78_2 hfz78_3 hfz78_4 hfz78_5 hfz78_6 hfz78_7 hfz78_8
                    try clear hfz81_0 hfz81_1 hfz81_2 hfz81_3 hfz81_4 hfz81_5 hfz81_6 hfz81_7 hfz81_8
                    try clear hx476_0
                    try clear hx476_1
                    try clear hx476_2
                    try clear hx478_0
                    try clear hx478_1
                    try clear hx478_2
                    try clear hx480_0
                    try clear hx480_1
                    try clear hx480_2
                    try clear p476
                    try clear p478
                    try clear p480
                    try clear q476
                    try clear q478
                    try clear q480
                    (try clear BK473)
                    obtain ⟨x5_5, x6_5, rfl, HA, HK5, HO_3, HO_5, BK473, HB⟩ := hrel
                    cases gk with
                    | zero => exact absurd HA.out (by simp [althingref05_Right.l1])
                    | succ k5 =>
                     have H := HA.out
                     clear HA
                     simp only [althingref05_Right.l1] at H
                     by_cases c82 : x6_5 < (l0_7.length : Int)
                     · rw [if_pos c82] at H
                       have c82b0 : decide (x6_5 < (l0_7.length : Int)) = true := decide_eq_true c82
                       clear c82
                       by_cases c83 : 0 ≤ x6_5
                       · rw [if_pos c83] at H
                         have c83b0 : decide (0 ≤ x6_5) = true := decide_eq_true c83
                         clear c83
                         by_cases c84 : (((rd_T40 l0_7 x6_5).f1).size : Int) > 8
                         · rw [if_pos c84] at H
                           have c84b0 : decide (8 < (((rd_T40 l0_7 x6_5).f1).size : Int)) = true := decide_eq_true c84
                           have c84b1 : decide (8 < ((rd_T40 l0_7 x6_5).f1).size) = true := decide_eq_true (by omega)
                           clear c84
                           obtain rfl := Option.some.inj H
                           refine blk9_ BK473.out fun hcz85_0 hcz85_1 hcz85_2 hcz85_3 hcz85_4 hcz85_5 hcz85_6 hcz85_7 hcz85_8 hfz85_0 hfz85_1 hfz85_2 hfz85_3 hfz85_4 hfz85_5 hfz85_6 hfz85_7 hfz85_8 => ?_
                           have p484 : 0 ≤ (x6_5 : Int) := of_decide_eq_true (by first | (with_reducible assumption) | assumption)
                           have q484 : x6_5 < (l0_7.length : Int) := of_decide_eq_true (by first | (with_reducible assumption) | assumption)
                           obtain ⟨ad484, e484, hx484_0, hx484_1⟩ := at_T40 HR0_7.out x6_5 p484 q484
                           cases e484
                           replace hx484_0 := (HB.out.cell (World.block_lt_of_cell? w _ hx484_0)).trans hx484_0
                           replace hx484_1 := (HB.out.cell (World.block_lt_of_cell? w _ hx484_1)).trans hx484_1
                           replace p484 := eq_true p484
                           replace q484 := eq_true q484
                           go_wp2
                           go_ret
                           exact ⟨by first | rfl | (simp [errW_none, errW_some] <;> rfl) | (simp [*, errW_none, errW_some] <;> rfl), by repeat (first | (with_reducible first | exact HB.out | apply below_alloc | apply pw_below_drewN | apply below_drew1 | refine below_set ?_ GE473.out) | exact HB.out)⟩
                         · rw [if_neg c84] at H
                           have c84b0 : decide (8 < (((rd_T40 l0_7 x6_5).f1).size : Int)) = false := decide_eq_false c84
                           have c84b1 : decide (8 < ((rd_T40 l0_7 x6_5).f1).size) = false := decide_eq_false (by omega)
                           clear c84
                           by_cases c86 : x5_5.length < 8796093022208
                           · rw [if_pos c86] at H
                             have LMc86 := Aside0.mk c86
                             clear c86
                             obtain ⟨y486, hy486⟩ : ∃ y_ : List ByteArray, y_ = (x5_5 ++ [(rd_T40 l0_7 x6_5).f0]) := ⟨_, rfl⟩
                             replace H : (althingref05_Right.l1 k5 x3_4 y486 (wrap64 (x6_5 + 1)) a0_0 a0_1 a0_2 a0_3 a0_4 a0_5 l0_6 l0_7 a0_8) = some r := by first | (rw [hy486]; with_reducible exact H) | (have H2_ := (Option.bind_some _ _).symm.trans H; rw [hy486]; with_reducible exact H2_) | (have H2_ := (Option.bind_some _ _).symm.trans H; with_reducible exact H2_) | with_reducible exact H | (rw [hy486]; exact H) | exact H
                             have Ny486 := Aside0.mk hy486
                             clear hy486
                             have H' := Aside0.mk H
                             clear H
                             refine blk9_ BK473.out fun hcz87_0 hcz87_1 hcz87_2 hcz87_3 hcz87_4 hcz87_5 hcz87_6 hcz87_7 hcz87_8 hfz87_0 hfz87_1 hfz87_2 hfz87_3 hfz87_4 hfz87_5 hfz87_6 hfz87_7 hfz87_8 => ?_
                             have p484 : 0 ≤ (x6_5 : Int) := of_decide_eq_true (by first | (with_reducible assumption) | assumption)
                             have q484 : x6_5 < (l0_7.length : Int) := of_decide_eq_true (by first | (with_reducible assumption) | assumption)
                             obtain ⟨ad484, e484, hx484_0, hx484_1⟩ := at_T40 HR0_7.out x6_5 p484 q484
                             cases e484
                             replace hx484_0 := (HB.out.cell (World.block_lt_of_cell? w _ hx484_0)).trans hx484_0
                             replace hx484_1 := (HB.out.cell (World.block_lt_of_cell? w _ hx484_1)).trans hx484_1
                             replace p484 := eq_true p484
                             replace q484 := eq_true q484
                             have p485 : 0 ≤ (x6_5 : Int) := of_decide_eq_true (by first | (with_reducible assumption) | assumption)
                             have q485 : x6_5 < (l0_7.length : Int) := of_decide_eq_true (by first | (with_reducible assumption) | assumption)
                             obtain ⟨ad485, e485, hx485_0, hx485_1⟩ := at_T40 HR0_7.out x6_5 p485 q485
                             obtain rfl : ad484 = ad485 := (by injection e485)
                             replace hx485_0 := (HB.out.cell (World.block_lt_of_cell? w _ hx485_0)).trans hx485_0
                             replace hx485_1 := (HB.out.cell (World.block_lt_of_cell? w _ hx485_1)).trans hx485_1
                             replace p485 := eq_true p485
                             replace q485 := eq_true q485
                             go_wp2_with (first | ((with_reducible refine gate_builtin (b := .append) (xs := #[.tmp 155, .tmp 162]) rfl ?_); (try (refine gate_guard (by rfl) ?_; dsimp only)); at_builtin; refine Kd.R_append Kd.string (w0 := w) w.heap.size rfl (.tmp 155) (.tmp 162) 45 9 (.string ⟨#[]⟩) 16 rfl Try.underlying45 info9 rfl (by decide) (by omega) u5 x5_5 ((rd_T40 l0_7 x6_5).f0) [.string ((rd_T40 l0_7 x6_5).f0)] (fun k_ => some k_ ≠ (u3 : Value).ownBlock) (fun _ => False) rfl rfl ?aP (fun _ hk => hk.elim) ?aF ?aO ?aB ?aS ?aL ?_; (case aP => exact rfl); (case aB => exact lbt_); (case aF => exact (fun k_ hk => Kd.fresh' (Kd.R_lt (kr_ HO_3.out)) k_ hk)); (case aO => exact (kr_ HO_5.out)); (case aS => exact (below_size lbt_)); (case aL => have := LMc86.out; omega); intro v487 w88 ho hb hg hat; rw [← Ny486.out] at ho; have n0_ := Aside0.mk (Kd.R_after (ok := (fun _ => True)) (by (with_reducible repeat (first | apply Kd.R_alloc | apply Kd.R_drewN | apply Kd.R_drew)); exact Kd.R_mono HO_3.out (fun _ hk => ⟨trivial, hk⟩)) hg hat); have n1_ := Aside0.mk (blk_grown (kb_ BK473.out) hg (Kd.R_ne HO_5.out BK473.out (by decide))); have n2_ := Aside0.mk (hb); have n3_ := Aside0.mk (ho); clear HO_3 BK473 HB HO_5; have HO_3 := n0_; have BK473 := n1_; have HB := n2_; have HO488 := n3_; clear n0_ n1_ n2_ n3_ ho hb hg hat))
                             go_roundg k5
                             case measure => have := HJ19.out; have := HJ28.out; have := HJ51.out; have := HK4.out; have := HK5.out; omega
                             case rel => exact ⟨(y486), (wrap64 (x6_5 + 1)), sm_, H', ⟨by have := HJ19.out; have := HJ28.out; have := HJ51.out; have := HK4.out; have := HK5.out; omega⟩, ⟨kr_ (Kd.R_mono HO_3.out (fun _ hk => hk.2))⟩, ⟨kr_ HO488.out⟩, ⟨by (with_reducible repeat (first | refine blk_drewN ?_ _ | refine blk_drew ?_ | refine blk_alloc ?_ _)); exact BK473.out⟩, ⟨by repeat (first | (with_reducible first | exact HB.out | apply below_alloc | apply pw_below_drewN | apply below_drew1 | refine below_set ?_ GE473.out) | exact HB.out)⟩⟩
                           · rw [if_neg c86] at H
                             exact absurd H (by simp)
                       · rw [if_neg c83] at H
                         exact absurd H (by simp)
                     · rw [if_neg c82] at H
                       have c82b0 : decide (x6_5 < (l0_7.length : Int)) = false := decide_eq_false c82
                       clear c82
                       obtain ⟨t489, A89, H⟩ := bs_ H
                       by_cases c90 : t489 = true
                       · subst c90
                         rw [if_pos rfl] at H
                         obtain ⟨t490, A91, H⟩ := bs_ H
                         obtain rfl := Option.some.inj H
                         refine blk9_ BK473.out fun hcz92_0 hcz92_1 hcz92_2 hcz92_3 hcz92_4 hcz92_5 hcz92_6 hcz92_7 hcz92_8 hfz92_0 hfz92_1 hfz92_2 hfz92_3 hfz92_4 hfz92_5 hfz92_6 hfz92_7 hfz92_8 => ?_
                         obtain ⟨Ao93, co93, eo93⟩ := Kd.R_slice HO_3.out
                         subst eo93
                         go_wp2_with (first | ((with_reducible refine gate_callee (f := 39) rfl ?_); refine gl_ (some 165) Try.func39 #[.slice Ao93 x3_4.length co93] ?_; (with_reducible refine (althingref04_Rights.calls k5 _ _ x3_4 true _ ?side1 ?side2 A89.out).mono ?_); (case side1 => repeat (first | exact (Kd.R_reads' HO_3.out).2.2 | (with_reducible refine Kd.C_alloc ?_ _) | (with_reducible refine Kd.C_drewN ?_ _) | (with_reducible refine Kd.C_drew ?_))); (case side2 => exact (Kd.R_reads' HO_3.out).2.1); rintro e w' ⟨rfl, ⟨nd, rfl⟩⟩; refine ⟨_, rfl, ?_⟩; obtain ⟨Ao94, co94, eo94⟩ := Kd.R_slice HO_5.out; subst eo94) | (go_at_call 39; (with_reducible refine (althingref04_Rights.calls k5 _ _ x5_5 t490 _ ?side1 ?side2 A91.out).mono ?_); (case side1 => repeat (first | exact (Kd.R_reads' HO_5.out).2.2 | (with_reducible refine Kd.C_alloc ?_ _) | (with_reducible refine Kd.C_drewN ?_ _) | (with_reducible refine Kd.C_drew ?_))); (case side2 => exact (Kd.R_reads' HO_5.out).2.1); rintro e w' ⟨rfl, ⟨nd, rfl⟩⟩))
                         go_ret
                         exact ⟨by first | rfl | (simp [errW_none, errW_some] <;> rfl) | (simp [*, errW_none, errW_some] <;> rfl), by repeat (first | (with_reducible first | exact HB.out | apply below_alloc | apply pw_below_drewN | apply below_drew1 | refine below_set ?_ GE473.out) | exact HB.out)⟩
                       · replace c90 := Bool.eq_false_iff.mpr c90
                         subst c90
                         rw [if_neg (show ¬ (false = true) by decide)] at H
                         obtain rfl := Option.some.inj H
                         refine blk9_ BK473.out fun hcz95_0 hcz95_1 hcz95_2 hcz95_3 hcz95_4 hcz95_5 hcz95_6 hcz95_7 hcz95_8 hfz95_0 hfz95_1 hfz95_2 hfz95_3 hfz95_4 hfz95_5 hfz95_6 hfz95_7 hfz95_8 => ?_
                         obtain ⟨Ao96, co96, eo96⟩ := Kd.R_slice HO_3.out
                         subst eo96
                         go_wp2_with (first | ((with_reducible refine gate_callee (f := 39) rfl ?_); refine gl_ (some 165) Try.func39 #[.slice Ao96 x3_4.length co96] ?_; (with_reducible refine (althingref04_Rights.calls k5 _ _ x3_4 false _ ?side1 ?side2 A89.out).mono ?_); (case side1 => repeat (first | exact (Kd.R_reads' HO_3.out).2.2 | (with_reducible refine Kd.C_alloc ?_ _) | (with_reducible refine Kd.C_drewN ?_ _) | (with_reducible refine Kd.C_drew ?_))); (case side2 => exact (Kd.R_reads' HO_3.out).2.1); rintro e w' ⟨rfl, ⟨nd, rfl⟩⟩; refine ⟨_, rfl, ?_⟩))
                         go_ret
                         exact ⟨by first | rfl | (simp [errW_none, errW_some] <;> rfl) | (simp [*, errW_none, errW_some] <;> rfl), by repeat (first | (with_reducible first | exact HB.out | apply below_alloc | apply pw_below_drewN | apply below_drew1 | refine below_set ?_ GE473.out) | exact HB.out)⟩
end Go.Proofs.Ytnjeeedndnfglaa.X
end
section
namespace Go.Proofs.Ytnjeeedndnfglaa.X
open Go.RowKit Go.Proofs.YtnjeeedndnfglaaW.PrintWords Go.Proofs.YtnjeeedndnfglaaW.PrintLast Go.Proofs.YtnjeeedndnfglaaW.PrintMore
attribute [local go_sem] max2_int min2_int max_two min_two max_three min_three max_four min_four   -- for this text's walks alone
set_option linter.unusedVariables false
set_option linter.unusedSimpArgs false
def althingref04_tail.f (a0 : ByteArray) (a1 : Int) (a2 : Int) (a3 : Int) : Option (Bool) := if a1 < (a0.size : Int) then (if 0 ≤ a1 then (if (wrap64 (bt a0 a1)) ≥ a2 then (some (decide ((wrap64 (bt a0 a1)) ≤ a3))) else (some false)) else (none)) else (some false)
set_option maxHeartbeats 40000000 in
set_option maxRecDepth 100000 in
theorem althingref04_tail.calls (a0 : ByteArray) (a1 : Int) (a2 : Int) (a3 : Int) (r : Bool) (w : World) (h : althingref04_tail.f a0 a1 a2 a3 = some r) :
 Calls Try.prog 75 #[.string a0, .int .i64 a1, .int .i64 a2, .int .i64 a3] w fun e w' => e = .returned (.bool r) ∧ Drawn0 w w' := by
 have H : (if a1 < (a0.size : Int) then (if 0 ≤ a1 then (if (wrap64 (bt a0 a1)) ≥ a2 then (some (decide ((wrap64 (bt a0 a1)) ≤ a3))) else (some false)) else (none)) else (some false)) = some r := h
 clear h
 by_cases c5 : a1 < (a0.size : Int)
 · rw [if_pos c5] at H
   have c5b0 : decide (a1 < (a0.size : Int)) = true := decide_eq_true c5
   clear c5
   by_cases c6 : 0 ≤ a1
   · rw [if_pos c6] at H
     have c6b0 : decide (0 ≤ a1) = true := decide_eq_true c6
     clear c6
     by_cases c8 : (wrap64 (bt a0 a1)) ≥ a2
     · rw [if_pos c8] at H
       have c8b0 : decide (a2 ≤ (wrap64 (bt a0 a1))) = true := decide_eq_true c8
       clear c8
       obtain rfl := Option.some.inj H
       have p7 : 0 ≤ (a1 : Int) := of_decide_eq_true (by first | (with_reducible assumption) | assumption)
       have q7 : a1 < (a0.size : Int) := of_decide_eq_true (by first | (with_reducible assumption) | assumption)
       have hx7 := bt_at a0 a1
       replace p7 := eq_true p7
       replace q7 := eq_true q7
       have p9 : 0 ≤ (a1 : Int) := of_decide_eq_true (by first | (with_reducible assumption) | assumption)
       have q9 : a1 < (a0.size : Int) := of_decide_eq_true (by first | (with_reducible assumption) | assumption)
       have hx9 := bt_at a0 a1
       replace p9 := eq_true p9
       replace q9 := eq_true q9
       go_enter Try.func75, Try.ntmps75
       go_wp2
       go_ret
       exact ⟨by first | rfl | (simp; done) | (simp [*]; done), by repeat (first | exact Drawn0.refl _ | apply Drawn0.step)⟩
     · rw [if_neg c8] at H
       have c8b0 : decide (a2 ≤ (wrap64 (bt a0 a1))) = false := decide_eq_false c8
       clear c8
       obtain rfl := Option.some.inj H
       have p7 : 0 ≤ (a1 : Int) := of_decide_eq_true (by first | (with_reducible assumption) | assumption)
       have q7 : a1 < (a0.size : Int) := of_decide_eq_true (by first | (with_reducible assumption) | assumption)
       have hx7 := bt_at a0 a1
       replace p7 := eq_true p7
       replace q7 := eq_true q7
       go_enter Try.func75, Try.ntmps75
       go_wp2
       go_ret
       exact ⟨by first | rfl | (simp; done) | (simp [*]; done), by repeat (first | exact Drawn0.refl _ | apply Drawn0.step)⟩
   · rw [if_neg c6] at H
     exact absurd H (by simp)
 · rw [if_neg c5] at H
   have c5b0 : decide (a1 < (a0.size : Int)) = false := decide_eq_false c5
   clear c5
   obtain rfl := Option.some.inj H
   go_enter Try.func75, Try.ntmps75
   go_wp2
   go_ret
   exact ⟨by first | rfl | (simp; done) | (simp [*]; done), by repeat (first | exact Drawn0.refl _ | apply Drawn0.step)⟩
end Go.Proofs.Ytnjeeedndnfglaa.X
end
section
namespace Go.Proofs.Ytnjeeedndnfglaa.X
open Go.RowKit Go.Proofs.YtnjeeedndnfglaaW.PrintWords Go.Proofs.YtnjeeedndnfglaaW.PrintLast Go.Proofs.YtnjeeedndnfglaaW.PrintMore
attribute [local go_sem] max2_int min2_int max_two min_two max_three min_three max_four min_four   -- for this text's walks alone
set_option linter.unusedVariables false
set_option linter.unusedSimpArgs false
mutual
def althingref04_first.j0 : Nat → ByteArray → Int → Bool → Option (Int × Int)
 | 0, _, _, _ => none
 | k + 1, x0, x4, x22 => if x22 = true then (if 1 < (x0.size : Int) then (some (wrap64 ((wrap64 ((wrap64 ((wrap64 (x4 - 192)) * 64)) + (wrap64 (bt x0 1)))) - 128), 2)) else (none)) else (if x4 = 224 then (althingref04_first.j1 k x0 x4 160 191) else (althingref04_first.j1 k x0 x4 128 191))
def althingref04_first.j1 : Nat → ByteArray → Int → Int → Int → Option (Int × Int)
 | 0, _, _, _, _ => none
 | k + 1, x0, x4, x5, x6 => if x4 = 237 then (althingref04_first.j2 k x0 x4 x5 159) else (althingref04_first.j2 k x0 x4 x5 x6)
def althingref04_first.j2 : Nat → ByteArray → Int → Int → Int → Option (Int × Int)
 | 0, _, _, _, _ => none
 | k + 1, x0, x4, x5, x6 => if x4 ≥ 224 then (if x4 ≤ 239 then ((althingref04_tail.f x0 1 x5 x6).bind fun t611 => (if t611 = true then ((althingref04_tail.f x0 2 128 191).bind fun t612 => (althingref04_first.j3 k x0 x4 t612)) else (althingref04_first.j3 k x0 x4 false))) else (althingref04_first.j3 k x0 x4 false)) else (althingref04_first.j3 k x0 x4 false)
def althingref04_first.j3 : Nat → ByteArray → Int → Bool → Option (Int × Int)
 | 0, _, _, _ => none
 | k + 1, x0, x4, x50 => if x50 = true then (if 1 < (x0.size : Int) then (if 2 < (x0.size : Int) then (some (wrap64 ((wrap64 ((wrap64 ((wrap64 ((wrap64 (x4 - 224)) * 4096)) + (wrap64 ((wrap64 ((wrap64 (bt x0 1)) - 128)) * 64)))) + (wrap64 (bt x0 2)))) - 128), 3)) else (none)) else (none)) else (if x4 = 240 then (althingref04_first.j4 k x0 x4 144 191) else (althingref04_first.j4 k x0 x4 128 191))
def althingref04_first.j4 : Nat → ByteArray → Int → Int → Int → Option (Int × Int)
 | 0, _, _, _, _ => none
 | k + 1, x0, x4, x5, x6 => if x4 = 244 then (althingref04_first.j5 k x0 x4 x5 143) else (althingref04_first.j5 k x0 x4 x5 x6)
def althingref04_first.j5 : Nat → ByteArray → Int → Int → Int → Option (Int × Int)
 | 0, _, _, _, _ => none
 | k + 1, x0, x4, x5, x6 => if x4 ≥ 240 then (if x4 ≤ 244 then ((althingref04_tail.f x0 1 x5 x6).bind fun t613 => (if t613 = true then ((althingref04_tail.f x0 2 128 191).bind fun t614 => (if t614 = true then ((althingref04_tail.f x0 3 128 191).bind fun t615 => (if t615 = true then (if 1 < (x0.size : Int) then (if 2 < (x0.size : Int) then (if 3 < (x0.size : Int) then (some (wrap64 ((wrap64 ((wrap64 ((wrap64 ((wrap64 ((wrap64 (x4 - 240)) * 262144)) + (wrap64 ((wrap64 ((wrap64 (bt x0 1)) - 128)) * 4096)))) + (wrap64 ((wrap64 ((wrap64 (bt x0 2)) - 128)) * 64)))) + (wrap64 (bt x0 3)))) - 128), 4)) else (none)) else (none)) else (none)) else (some (65533, 1)))) else (some (65533, 1)))) else (some (65533, 1)))) else (some (65533, 1))) else (some (65533, 1))
end
def althingref04_first.f (k : Nat) (a0 : ByteArray) : Option (Int × Int) := if 0 < (a0.size : Int) then (if (wrap64 (bt a0 0)) < 128 then (some (wrap64 (bt a0 0), 1)) else (if (wrap64 (bt a0 0)) ≥ 194 then (if (wrap64 (bt a0 0)) ≤ 223 then ((althingref04_tail.f a0 1 128 191).bind fun t610 => (althingref04_first.j0 k a0 (wrap64 (bt a0 0)) t610)) else (althingref04_first.j0 k a0 (wrap64 (bt a0 0)) false)) else (althingref04_first.j0 k a0 (wrap64 (bt a0 0)) false))) else (none)
set_option maxHeartbeats 40000000 in
set_option maxRecDepth 100000 in
theorem althingref04_first.calls (k : Nat) (a0 : ByteArray) (r1 : Int) (r2 : Int) (w : World) (h : althingref04_first.f k a0 = some (r1, r2)) :
 Calls Try.prog 63 #[.string a0] w fun e w' => e = .returned (.tuple #[.int .i64 r1, .int .i64 r2]) ∧ Drawn0 w w' := by
 have H : (if 0 < (a0.size : Int) then (if (wrap64 (bt a0 0)) < 128 then (some (wrap64 (bt a0 0), 1)) else (if (wrap64 (bt a0 0)) ≥ 194 then (if (wrap64 (bt a0 0)) ≤ 223 then ((althingref04_tail.f a0 1 128 191).bind fun t610 => (althingref04_first.j0 k a0 (wrap64 (bt a0 0)) t610)) else (althingref04_first.j0 k a0 (wrap64 (bt a0 0)) false)) else (althingref04_first.j0 k a0 (wrap64 (bt a0 0)) false))) else (none)) = some (r1, r2) := h
 clear h
 by_cases c2 : 0 < (a0.size : Int)
 · rw [if_pos c2] at H
   have c2b0 : decide (0 < (a0.size : Int)) = true := decide_eq_true c2
   have c2b1 : decide (0 < a0.size) = true := decide_eq_true (by omega)
   clear c2
   by_cases c4 : (wrap64 (bt a0 0)) < 128
   · rw [if_pos c4] at H
     have c4b0 : decide ((wrap64 (bt a0 0)) < 128) = true := decide_eq_true c4
     clear c4
     simp only [Option.some.injEq, Prod.mk.injEq] at H
     obtain ⟨rfl, rfl⟩ := H
     have p3 : 0 ≤ (0 : Int) := (by omega)
     have q3 : 0 < a0.size := (by have : (0 : Int) < (a0.size : Int) := of_decide_eq_true (by first | (with_reducible assumption) | assumption); omega)
     have hx3 : ∀ h : 0 < a0.size, ((a0[0]'h).toNat : Int) = bt a0 0 := bt_at a0 0
     clear p3
     have qi3 : (0 < (a0.size : Int)) = True := eq_true (of_decide_eq_true (by first | (with_reducible assumption) | assumption))
     replace q3 := eq_true q3
     go_enter Try.func63, Try.ntmps63
     go_wp2
     repeat (go_quiet (fail); try go_wp2)
     go_ret2
     exact ⟨by first | rfl | (simp; done) | (simp [*]; done), by repeat (first | exact Drawn0.refl _ | apply Drawn0.step)⟩
   · rw [if_neg c4] at H
     have c4b0 : decide ((wrap64 (bt a0 0)) < 128) = false := decide_eq_false c4
     clear c4
     have HC5 := Aside0.mk H
     clear H
     have p3 : 0 ≤ (0 : Int) := (by omega)
     have q3 : 0 < a0.size := (by have : (0 : Int) < (a0.size : Int) := of_decide_eq_true (by first | (with_reducible assumption) | assumption); omega)
     have hx3 : ∀ h : 0 < a0.size, ((a0[0]'h).toNat : Int) = bt a0 0 := bt_at a0 0
     clear p3
     have qi3 : (0 < (a0.size : Int)) = True := eq_true (of_decide_eq_true (by first | (with_reducible assumption) | assumption))
     replace q3 := eq_true q3
     go_enter Try.func63, Try.ntmps63
     have hq0 := True.intro
     repeat ((first | clear hq0 | go_quiet (fail)); try go_upto_region 4 with (fail))
     go_cut [22] (fun v22 wc => ∃ (kq : Nat) (x22_4 : Bool), v22 = .bool x22_4 ∧ Aside0 (althingref04_first.j0 kq a0 (wrap64 (bt a0 0)) x22_4 = some (r1, r2)) ∧ Aside0 (kq ≤ k) ∧ Drawn0 w wc)
     case first =>
      have H := HC5.out
      clear HC5
      by_cases c6 : (wrap64 (bt a0 0)) ≥ 194
      · rw [if_pos c6] at H
        have c6b0 : decide (194 ≤ (wrap64 (bt a0 0))) = true := decide_eq_true c6
        clear c6
        (first | rw [c6b0] | (simp only [i64_w, i32_w]; rw [c6b0]) | skip)
        by_cases c7 : (wrap64 (bt a0 0)) ≤ 223
        · rw [if_pos c7] at H
          have c7b0 : decide ((wrap64 (bt a0 0)) ≤ 223) = true := decide_eq_true c7
          clear c7
          obtain ⟨t610, A8, H⟩ := bs_ H
          have H' := Aside0.mk H
          clear H
          have hq0 := True.intro
          repeat ((first | clear hq0 | go_quiet (first | (go_at_call 75; (with_reducible refine (althingref04_tail.calls a0 1 128 191 t610 _ A8.out).mono ?_); rintro e w' ⟨rfl, ⟨nd, rfl⟩⟩; (try first | exact ⟨rfl, _, World.drewN_drewN _ _ _⟩ | exact ⟨rfl, _, Eq.trans (World.drewN_drewN _ _ _) (congrArg (World.drewN _) (Nat.add_assoc _ _ _))⟩)))); try go_wp2_with (first | (go_at_call 75; (with_reducible refine (althingref04_tail.calls a0 1 128 191 t610 _ A8.out).mono ?_); rintro e w' ⟨rfl, ⟨nd, rfl⟩⟩; (try first | exact ⟨rfl, _, World.drewN_drewN _ _ _⟩ | exact ⟨rfl, _, Eq.trans (World.drewN_drewN _ _ _) (congrArg (World.drewN _) (Nat.add_assoc _ _ _))⟩))))
          go_meet
          case rel => exact ⟨_, (t610), sm_, H', ⟨by first | omega | exact Nat.le_refl _⟩, by repeat (first | exact Drawn0.refl _ | apply Drawn0.step)⟩
        · rw [if_neg c7] at H
          have c7b0 : decide ((wrap64 (bt a0 0)) ≤ 223) = false := decide_eq_false c7
          clear c7
          have H' := Aside0.mk H
          clear H
          go_wp2
          repeat (go_quiet (fail); try go_wp2)
          go_meet
          case rel => exact ⟨_, (false), sm_, H', ⟨by first | omega | exact Nat.le_refl _⟩, by repeat (first | exact Drawn0.refl _ | apply Drawn0.step)⟩
      · rw [if_neg c6] at H
        have c6b0 : decide (194 ≤ (wrap64 (bt a0 0))) = false := decide_eq_false c6
        clear c6
        (first | rw [c6b0] | (simp only [i64_w, i32_w]; rw [c6b0]) | skip)
        have H' := Aside0.mk H
        clear H
        go_wp2
        repeat (go_quiet (fail); try go_wp2)
        go_meet
        case rel => exact ⟨_, (false), sm_, H', ⟨by first | omega | exact Nat.le_refl _⟩, by repeat (first | exact Drawn0.refl _ | apply Drawn0.step)⟩
     case rest =>
      clear HC5
      try clear c2
      try clear c2b0
      try clear c2b1
      try clear p2
      try clear p3
      try clear q3
      try clear hx3
      try clear qi3
      try clear c4
      try clear c4b0
      try clear c6
      try clear c6b0
      try clear p6
      try clear c7
      try clear c7b0
      try clear p3
      try clear q3
      obtain ⟨kq, x22_4, rfl, HA, HJ4, ⟨mc4, rfl⟩⟩ := hcut
      cases kq with
      | zero => exact absurd HA.out (by simp [althingref04_first.j0])
      | succ kj4 =>
       have H := HA.out
       clear HA
       simp only [althingref04_first.j0] at H
       by_cases c9 : x22_4 = true
       · subst c9
         rw [if_pos rfl] at H
         by_cases c10 : 1 < (a0.size : Int)
         · rw [if_pos c10] at H
           have c10b0 : decide (1 < (a0.size : Int)) = true := decide_eq_true c10
           have c10b1 : decide (1 < a0.size) = true := decide_eq_true (by omega)
           clear c10
           simp only [Option.some.injEq, Prod.mk.injEq] at H
           obtain ⟨rfl, rfl⟩ := H
           have p11 : 0 ≤ (1 : Int) := (by omega)
           have q11 : 1 < a0.size := (by have : (1 : Int) < (a0.size : Int) := of_decide_eq_true (by first | (with_reducible assumption) | assumption); omega)
           have hx11 : ∀ h : 1 < a0.size, ((a0[1]'h).toNat : Int) = bt a0 1 := bt_at a0 1
           clear p11
           have qi11 : (1 < (a0.size : Int)) = True := eq_true (of_decide_eq_true (by first | (with_reducible assumption) | assumption))
           replace q11 := eq_true q11
           go_wp2
           repeat (go_quiet (fail); try go_wp2)
           go_ret2
           exact ⟨by first | rfl | (simp; done) | (simp [*]; done), by repeat (first | exact Drawn0.refl _ | apply Drawn0.step)⟩
         · rw [if_neg c10] at H
           exact absurd H (by simp)
       · replace c9 := Bool.eq_false_iff.mpr c9
         subst c9
         rw [if_neg (show ¬ (false = true) by decide)] at H
         have HC12 := Aside0.mk H
         clear H
         have hq0 := True.intro
         repeat ((first | clear hq0 | go_quiet (fail)); try go_upto_if 32 with (fail))
         go_cut [5] (fun v5 wc => ∃ (kq : Nat) (x5_11 : Int), v5 = .int .i64 x5_11 ∧ Aside0 (althingref04_first.j1 kq a0 (wrap64 (bt a0 0)) x5_11 191 = some (r1, r2)) ∧ Aside0 (kq ≤ kj4) ∧ Drawn0 w wc)
         case first =>
          have H := HC12.out
          clear HC12
          by_cases c13 : (wrap64 (bt a0 0)) = 224
          · rw [if_pos c13] at H
            have c13b0 : ((wrap64 (bt a0 0)) == 224) = true := beq_iff_eq.mpr c13
            have c13b1 : ((wrap64 (bt a0 0)) != 224) = false := bne_eq_false_iff_eq.mpr c13
            clear c13
            (first | rw [c13b0] | (simp only [i64_w, i32_w]; rw [c13b0]) | skip)
            have H' := Aside0.mk H
            clear H
            go_wp2
            repeat (go_quiet (fail); try go_wp2)
            go_meet
            case rel => exact ⟨_, (160), sm_, H', ⟨by have := HJ4.out; first | omega | exact Nat.le_refl _⟩, by repeat (first | exact Drawn0.refl _ | apply Drawn0.step)⟩
          · rw [if_neg c13] at H
            have c13b0 : ((wrap64 (bt a0 0)) == 224) = false := beq_eq_false_iff_ne.mpr c13
            have c13b1 : ((wrap64 (bt a0 0)) != 224) = true := bne_iff_ne.mpr c13
            (first | rw [c13b0] | (simp only [i64_w, i32_w]; rw [c13b0]) | skip)
            have H' := Aside0.mk H
            clear H
            go_wp2
            repeat (go_quiet (fail); try go_wp2)
            go_meet
            case rel => exact ⟨_, (128), sm_, H', ⟨by have := HJ4.out; first | omega | exact Nat.le_refl _⟩, by repeat (first | exact Drawn0.refl _ | apply Drawn0.step)⟩
         case rest =>
          clear HC12
          try clear c1
          try clear p1
          try clear q1
          try clear hx1
          try clear qi1
          try clear c2
          try clear c2b0
          try clear c2b1
          try clear p2
          try clear p3
          try clear q3
          try clear hx3
          try clear qi3
          try clear c4
          try clear c4b0
          try clear c6
          try clear c6b0
          try clear p6
          try clear c7
          try clear c7b0
          try clear c9
          try clear c10
          try clear c10b0
          try clear c10b1
          try clear p11
          try clear q11
          try clear hx11
          try clear qi11
          try clear c13
          try clear c13b0
          try clear c13b1
          try clear p11
          try clear p2
          try clear p3
          try clear p6
          try clear q11
          try clear q3
          obtain ⟨kq, x5_11, rfl, HA, HJ11, ⟨mc11, rfl⟩⟩ := hcut
          cases kq with
          | zero => exact absurd HA.out (by simp [althingref04_first.j1])
          | succ kj11 =>
           have H := HA.out
           clear HA
           simp only [althingref04_first.j1] at H
           have HC14 := Aside0.mk H
           clear H
           have hq0 := True.intro
           repeat ((first | clear hq0 | go_quiet (fail)); try go_upto_if 34 with (fail))
           go_cut [6] (fun v6 wc => ∃ (kq : Nat) (x6_13 : Int), v6 = .int .i64 x6_13 ∧ Aside0 (althingref04_first.j2 kq a0 (wrap64 (bt a0 0)) x5_11 x6_13 = some (r1, r2)) ∧ Aside0 (kq ≤ kj11) ∧ Drawn0 w wc)
           case first =>
            have H := HC14.out
            clear HC14
            by_cases c15 : (wrap64 (bt a0 0)) = 237
            · rw [if_pos c15] at H
              have c15b0 : ((wrap64 (bt a0 0)) == 237) = true := beq_iff_eq.mpr c15
              have c15b1 : ((wrap64 (bt a0 0)) != 237) = false := bne_eq_false_iff_eq.mpr c15
              clear c15
              (first | rw [c15b0] | (simp only [i64_w, i32_w]; rw [c15b0]) | skip)
              have H' := Aside0.mk H
              clear H
              go_wp2
              repeat (go_quiet (fail); try go_wp2)
              go_meet
              case rel => exact ⟨_, (159), sm_, H', ⟨by have := HJ4.out; have := HJ11.out; first | omega | exact Nat.le_refl _⟩, by repeat (first | exact Drawn0.refl _ | apply Drawn0.step)⟩
            · rw [if_neg c15] at H
              have c15b0 : ((wrap64 (bt a0 0)) == 237) = false := beq_eq_false_iff_ne.mpr c15
              have c15b1 : ((wrap64 (bt a0 0)) != 237) = true := bne_iff_ne.mpr c15
              (first | rw [c15b0] | (simp only [i64_w, i32_w]; rw [c15b0]) | skip)
              have H' := Aside0.mk H
              clear H
              go_wp2
              repeat (go_quiet (fail); try go_wp2)
              go_meet
              case rel => exact ⟨_, (191), sm_, H', ⟨by have := HJ4.out; have := HJ11.out; first | omega | exact Nat.le_refl _⟩, by repeat (first | exact Drawn0.refl _ | apply Drawn0.step)⟩
           case rest =>
            clear HC14
            try clear c1
            try clear p1
            try clear q1
            try clear hx1
            try clear qi1
            try clear c2
            try clear c2b0
            try clear c2b1
            try clear p2
            try clear p3
            try clear q3
            try clear hx3
            try clear qi3
            try clear c4
            try clear c4b0
            try clear c6
            try clear c6b0
            try clear p6
            try clear c7
            try clear c7b0
            try clear c9
            try clear c10
            try clear c10b0
            try clear c10b1
            try clear c11
            try clear p11
            try clear q11
            try clear hx11
            try clear qi11
            try clear c13
            try clear c13b0
            try clear c13b1
            try clear c15
            try clear c15b0
            try clear c15b1
            try clear p1
            try clear p11
            try clear p2
            try clear p3
            try clear p6
            try clear q1
            try clear q11
            try clear q3
            obtain ⟨kq, x6_13, rfl, HA, HJ13, ⟨mc13, rfl⟩⟩ := hcut
            cases kq with
            | zero => exact absurd HA.out (by simp [althingref04_first.j2])
            | succ kj13 =>
             have H := HA.out
             clear HA
             simp only [althingref04_first.j2] at H
             have HC16 := Aside0.mk H
             clear H
             have hq0 := True.intro
             repeat ((first | clear hq0 | go_quiet (fail)); try go_upto_region 12 with (fail))
             go_cut [50] (fun v50 wc => ∃ (kq : Nat) (x50_15 : Bool), v50 = .bool x50_15 ∧ Aside0 (althingref04_first.j3 kq a0 (wrap64 (bt a0 0)) x50_15 = some (r1, r2)) ∧ Aside0 (kq ≤ kj13) ∧ Drawn0 w wc)
             case first =>
              have H := HC16.out
              clear HC16
              by_cases c17 : (wrap64 (bt a0 0)) ≥ 224
              · rw [if_pos c17] at H
                have c17b0 : decide (224 ≤ (wrap64 (bt a0 0))) = true := decide_eq_true c17
                clear c17
                (first | rw [c17b0] | (simp only [i64_w, i32_w]; rw [c17b0]) | skip)
                by_cases c18 : (wrap64 (bt a0 0)) ≤ 239
                · rw [if_pos c18] at H
                  have c18b0 : decide ((wrap64 (bt a0 0)) ≤ 239) = true := decide_eq_true c18
                  clear c18
                  obtain ⟨t611, A19, H⟩ := bs_ H
                  by_cases c20 : t611 = true
                  · subst c20
                    rw [if_pos rfl] at H
                    obtain ⟨t612, A21, H⟩ := bs_ H
                    have H' := Aside0.mk H
                    clear H
                    have hq0 := True.intro
                    repeat ((first | clear hq0 | go_quiet (first | (go_at_call 75; (with_reducible refine (althingref04_tail.calls a0 1 x5_11 x6_13 true _ A19.out).mono ?_); rintro e w' ⟨rfl, ⟨nd, rfl⟩⟩; (try first | exact ⟨rfl, _, World.drewN_drewN _ _ _⟩ | exact ⟨rfl, _, Eq.trans (World.drewN_drewN _ _ _) (congrArg (World.drewN _) (Nat.add_assoc _ _ _))⟩)) | (go_at_call 75; (with_reducible refine (althingref04_tail.calls a0 2 128 191 t612 _ A21.out).mono ?_); rintro e w' ⟨rfl, ⟨nd, rfl⟩⟩; (try first | exact ⟨rfl, _, World.drewN_drewN _ _ _⟩ | exact ⟨rfl, _, Eq.trans (World.drewN_drewN _ _ _) (congrArg (World.drewN _) (Nat.add_assoc _ _ _))⟩)))); try go_wp2_with (first | (go_at_call 75; (with_reducible refine (althingref04_tail.calls a0 1 x5_11 x6_13 true _ A19.out).mono ?_); rintro e w' ⟨rfl, ⟨nd, rfl⟩⟩; (try first | exact ⟨rfl, _, World.drewN_drewN _ _ _⟩ | exact ⟨rfl, _, Eq.trans (World.drewN_drewN _ _ _) (congrArg (World.drewN _) (Nat.add_assoc _ _ _))⟩)) | (go_at_call 75; (with_reducible refine (althingref04_tail.calls a0 2 128 191 t612 _ A21.out).mono ?_); rintro e w' ⟨rfl, ⟨nd, rfl⟩⟩; (try first | exact ⟨rfl, _, World.drewN_drewN _ _ _⟩ | exact ⟨rfl, _, Eq.trans (World.drewN_drewN _ _ _) (congrArg (World.drewN _) (Nat.add_assoc _ _ _))⟩))))
                    go_meet
                    case rel => exact ⟨_, (t612), sm_, H', ⟨by have := HJ4.out; have := HJ11.out; have := HJ13.out; first | omega | exact Nat.le_refl _⟩, by repeat (first | exact Drawn0.refl _ | apply Drawn0.step)⟩
                  · replace c20 := Bool.eq_false_iff.mpr c20
                    subst c20
                    rw [if_neg (show ¬ (false = true) by decide)] at H
                    have H' := Aside0.mk H
                    clear H
                    have hq0 := True.intro
                    repeat ((first | clear hq0 | go_quiet (first | (go_at_call 75; (with_reducible refine (althingref04_tail.calls a0 1 x5_11 x6_13 false _ A19.out).mono ?_); rintro e w' ⟨rfl, ⟨nd, rfl⟩⟩; (try first | exact ⟨rfl, _, World.drewN_drewN _ _ _⟩ | exact ⟨rfl, _, Eq.trans (World.drewN_drewN _ _ _) (congrArg (World.drewN _) (Nat.add_assoc _ _ _))⟩)))); try go_wp2_with (first | (go_at_call 75; (with_reducible refine (althingref04_tail.calls a0 1 x5_11 x6_13 false _ A19.out).mono ?_); rintro e w' ⟨rfl, ⟨nd, rfl⟩⟩; (try first | exact ⟨rfl, _, World.drewN_drewN _ _ _⟩ | exact ⟨rfl, _, Eq.trans (World.drewN_drewN _ _ _) (congrArg (World.drewN _) (Nat.add_assoc _ _ _))⟩))))
                    go_meet
                    case rel => exact ⟨_, (false), sm_, H', ⟨by have := HJ4.out; have := HJ11.out; have := HJ13.out; first | omega | exact Nat.le_refl _⟩, by repeat (first | exact Drawn0.refl _ | apply Drawn0.step)⟩
                · rw [if_neg c18] at H
                  have c18b0 : decide ((wrap64 (bt a0 0)) ≤ 239) = false := decide_eq_false c18
                  clear c18
                  have H' := Aside0.mk H
                  clear H
                  go_wp2
                  repeat (go_quiet (fail); try go_wp2)
                  go_meet
                  case rel => exact ⟨_, (false), sm_, H', ⟨by have := HJ4.out; have := HJ11.out; have := HJ13.out; first | omega | exact Nat.le_refl _⟩, by repeat (first | exact Drawn0.refl _ | apply Drawn0.step)⟩
              · rw [if_neg c17] at H
                have c17b0 : decide (224 ≤ (wrap64 (bt a0 0))) = false := decide_eq_false c17
                clear c17
                (first | rw [c17b0] | (simp only [i64_w, i32_w]; rw [c17b0]) | skip)
                have H' := Aside0.mk H
                clear H
                go_wp2
                repeat (go_quiet (fail); try go_wp2)
                go_meet
                case rel => exact ⟨_, (false), sm_, H', ⟨by have := HJ4.out; have := HJ11.out; have := HJ13.out; first | omega | exact Nat.le_refl _⟩, by repeat (first | exact Drawn0.refl _ | apply Drawn0.step)⟩
             case rest =>
              clear HC16
              try clear c1
              try clear p1
              try clear q1
              try clear hx1
              try clear qi1
              try clear c2
              try clear c2b0
              try clear c2b1
              try clear p2
              try clear p3
              try clear q3
              try clear hx3
              try clear qi3
              try clear c4
              try clear c4b0
              try clear c6
              try clear c6b0
              try clear p6
              try clear c7
              try clear c7b0
              try clear c9
              try clear c10
              try clear c10b0
              try clear c10b1
              try clear c11
              try clear p11
              try clear q11
              try clear hx11
              try clear qi11
              try clear c13
              try clear c13b0
              try clear c13b1
              try clear c15
              try clear c15b0
              try clear c15b1
              try clear c17
              try clear c17b0
              try clear c18
              try clear c18b0
              try clear c20
              try clear p1
              try clear p11
              try clear p2
              try clear p3
              try clear p6
              try clear q1
              try clear q11
              try clear q3
              obtain ⟨kq, x50_15, rfl, HA, HJ15, ⟨mc15, rfl⟩⟩ := hcut
              cases kq with
              | zero => exact absurd HA.out (by simp [althingref04_first.j3])
              | succ kj15 =>
               have H := HA.out
               clear HA
               simp only [althingref04_first.j3] at H
               by_cases c22 : x50_15 = true
               · subst c22
                 rw [if_pos rfl] at H
                 by_cases c23 : 1 < (a0.size : Int)
                 · rw [if_pos c23] at H
                   have c23b0 : decide (1 < (a0.size : Int)) = true := decide_eq_true c23
                   have c23b1 : decide (1 < a0.size) = true := decide_eq_true (by omega)
                   clear c23
                   by_cases c25 : 2 < (a0.size : Int)
                   · rw [if_pos c25] at H
                     have c25b0 : decide (2 < (a0.size : Int)) = true := decide_eq_true c25
                     have c25b1 : decide (2 < a0.size) = true := decide_eq_true (by omega)
                     clear c25
                     simp only [Option.some.injEq, Prod.mk.injEq] at H
                     obtain ⟨rfl, rfl⟩ := H
                     have p24 : 0 ≤ (1 : Int) := (by omega)
                     have q24 : 1 < a0.size := (by have : (1 : Int) < (a0.size : Int) := of_decide_eq_true (by first | (with_reducible assumption) | assumption); omega)
                     have hx24 : ∀ h : 1 < a0.size, ((a0[1]'h).toNat : Int) = bt a0 1 := bt_at a0 1
                     clear p24
                     have qi24 : (1 < (a0.size : Int)) = True := eq_true (of_decide_eq_true (by first | (with_reducible assumption) | assumption))
                     replace q24 := eq_true q24
                     have p26 : 0 ≤ (2 : Int) := (by omega)
                     have q26 : 2 < a0.size := (by have : (2 : Int) < (a0.size : Int) := of_decide_eq_true (by first | (with_reducible assumption) | assumption); omega)
                     have hx26 : ∀ h : 2 < a0.size, ((a0[2]'h).toNat : Int) = bt a0 2 := bt_at a0 2
                     clear p26
                     have qi26 : (2 < (a0.size : Int)) = True := eq_true (of_decide_eq_true (by first | (with_reducible assumption) | assumption))
                     replace q26 := eq_true q26
                     go_wp2
                     repeat (go_quiet (fail); try go_wp2)
                     go_ret2
                     exact ⟨by first | rfl | (simp; done) | (simp [*]; done), by repeat (first | exact Drawn0.refl _ | apply Drawn0.step)⟩
                   · rw [if_neg c25] at H
                     exact absurd H (by simp)
                 · rw [if_neg c23] at H
                   exact absurd H (by simp)
               · replace c22 := Bool.eq_false_iff.mpr c22
                 subst c22
                 rw [if_neg (show ¬ (false = true) by decide)] at H
                 have HC27 := Aside0.mk H
                 clear H
                 have hq0 := True.intro
                 repeat ((first | clear hq0 | go_quiet (fail)); try go_upto_if 66 with (fail))
                 go_cut [5] (fun v5 wc => ∃ (kq : Nat) (x5_26 : Int), v5 = .int .i64 x5_26 ∧ Aside0 (althingref04_first.j4 kq a0 (wrap64 (bt a0 0)) x5_26 191 = some (r1, r2)) ∧ Aside0 (kq ≤ kj15) ∧ Drawn0 w wc)
                 case first =>
                  have H := HC27.out
                  clear HC27
                  by_cases c28 : (wrap64 (bt a0 0)) = 240
                  · rw [if_pos c28] at H
                    have c28b0 : ((wrap64 (bt a0 0)) == 240) = true := beq_iff_eq.mpr c28
                    have c28b1 : ((wrap64 (bt a0 0)) != 240) = false := bne_eq_false_iff_eq.mpr c28
                    clear c28
                    (first | rw [c28b0] | (simp only [i64_w, i32_w]; rw [c28b0]) | skip)
                    have H' := Aside0.mk H
                    clear H
                    go_wp2
                    repeat (go_quiet (fail); try go_wp2)
                    go_meet
                    case rel => exact ⟨_, (144), sm_, H', ⟨by have := HJ4.out; have := HJ11.out; have := HJ13.out; have := HJ15.out; first | omega | exact Nat.le_refl _⟩, by repeat (first | exact Drawn0.refl _ | apply Drawn0.step)⟩
                  · rw [if_neg c28] at H
                    have c28b0 : ((wrap64 (bt a0 0)) == 240) = false := beq_eq_false_iff_ne.mpr c28
                    have c28b1 : ((wrap64 (bt a0 0)) != 240) = true := bne_iff_ne.mpr c28
                    (first | rw [c28b0] | (simp only [i64_w, i32_w]; rw [c28b0]) | skip)
                    have H' := Aside0.mk H
                    clear H
                    go_wp2
                    repeat (go_quiet (fail); try go_wp2)
                    go_meet
                    case rel => exact ⟨_, (128), sm_, H', ⟨by have := HJ4.out; have := HJ11.out; have := HJ13.out; have := HJ15.out; first | omega | exact Nat.le_refl _⟩, by repeat (first | exact Drawn0.refl _ | apply Drawn0.step)⟩
                 case rest =>
                  clear HC27
                  try clear c1
                  try clear p1
                  try clear q1
                  try clear hx1
                  try clear qi1
                  try clear c2
                  try clear c2b0
                  try clear c2b1
                  try clear p2
                  try clear q2
                  try clear hx2
                  try clear qi2
                  try clear p3
                  try clear q3
                  try clear hx3
                  try clear qi3
                  try clear c4
                  try clear c4b0
                  try clear c6
                  try clear c6b0
                  try clear p6
                  try clear c7
                  try clear c7b0
                  try clear c9
                  try clear c10
                  try clear c10b0
                  try clear c10b1
                  try clear c11
                  try clear p11
                  try clear q11
                  try clear hx11
                  try clear qi11
                  try clear c13
                  try clear c13b0
                  try clear c13b1
                  try clear c15
                  try clear c15b0
                  try clear c15b1
                  try clear c17
                  try clear c17b0
                  try clear c18
                  try clear c18b0
                  try clear c20
                  try clear c22
                  try clear c23
                  try clear c23b0
                  try clear c23b1
                  try clear p24
                  try clear q24
                  try clear hx24
                  try clear qi24
                  try clear c25
                  try clear c25b0
                  try clear c25b1
                  try clear p26
                  try clear q26
                  try clear hx26
                  try clear qi26
                  try clear c28
                  try clear c28b0
                  try clear c28b1
                  try clear p1
                  try clear p11
                  try clear p2
                  try clear p24
                  try clear p26
                  try clear p3
                  try clear p6
                  try clear q1
                  try clear q11
                  try clear q24
                  try clear q26
                  try clear q3
                  obtain ⟨kq, x5_26, rfl, HA, HJ26, ⟨mc26, rfl⟩⟩ := hcut
                  cases kq with
                  | zero => exact absurd HA.out (by simp [althingref04_first.j4])
                  | succ kj26 =>
                   have H := HA.out
                   clear HA
                   simp only [althingref04_first.j4] at H
                   have HC29 := Aside0.mk H
                   clear H
                   have hq0 := True.intro
                   repeat ((first | clear hq0 | go_quiet (fail)); try go_upto_if 68 with (fail))
                   go_cut [6] (fun v6 wc => ∃ (kq : Nat) (x6_28 : Int), v6 = .int .i64 x6_28 ∧ Aside0 (althingref04_first.j5 kq a0 (wrap64 (bt a0 0)) x5_26 x6_28 = some (r1, r2)) ∧ Aside0 (kq ≤ kj26) ∧ Drawn0 w wc)
                   case first =>
                    have H := HC29.out
                    clear HC29
                    by_cases c30 : (wrap64 (bt a0 0)) = 244
                    · rw [if_pos c30] at H
                      have c30b0 : ((wrap64 (bt a0 0)) == 244) = true := beq_iff_eq.mpr c30
                      have c30b1 : ((wrap64 (bt a0 0)) != 244) = false := bne_eq_false_iff_eq.mpr c30
                      clear c30
                      (first | rw [c30b0] | (simp only [i64_w, i32_w]; rw [c30b0]) | skip)
                      have H' := Aside0.mk H
                      clear H
                      go_wp2
                      repeat (go_quiet (fail); try go_wp2)
                      go_meet
                      case rel => exact ⟨_, (143), sm_, H', ⟨by have := HJ4.out; have := HJ11.out; have := HJ13.out; have := HJ15.out; have := HJ26.out; first | omega | exact Nat.le_refl _⟩, by repeat (first | exact Drawn0.refl _ | apply Drawn0.step)⟩
                    · rw [if_neg c30] at H
                      have c30b0 : ((wrap64 (bt a0 0)) == 244) = false := beq_eq_false_iff_ne.mpr c30
                      have c30b1 : ((wrap64 (bt a0 0)) != 244) = true := bne_iff_ne.mpr c30
                      (first | rw [c30b0] | (simp only [i64_w, i32_w]; rw [c30b0]) | skip)
                      have H' := Aside0.mk H
                      clear H
                      go_wp2
                      repeat (go_quiet (fail); try go_wp2)
                      go_meet
                      case rel => exact ⟨_, (191), sm_, H', ⟨by have := HJ4.out; have := HJ11.out; have := HJ13.out; have := HJ15.out; have := HJ26.out; first | omega | exact Nat.le_refl _⟩, by repeat (first | exact Drawn0.refl _ | apply Drawn0.step)⟩
                   case rest =>
                    clear HC29
                    try clear c1
                    try clear p1
                    try clear q1
                    try clear hx1
                    try clear qi1
                    try clear c2
                    try clear c2b0
                    try clear c2b1
                    try clear p2
                    try clear q2
                    try clear hx2
                    try clear qi2
                    try clear c3
                    try clear p3
                    try clear q3
                    try clear hx3
                    try clear qi3
                    try clear c4
                    try clear c4b0
                    try clear c6
                    try clear c6b0
                    try clear p6
                    try clear c7
                    try clear c7b0
                    try clear c9
                    try clear c10
                    try clear c10b0
                    try clear c10b1
                    try clear c11
                    try clear p11
                    try clear q11
                    try clear hx11
                    try clear qi11
                    try clear c13
                    try clear c13b0
                    try clear c13b1
                    try clear c15
                    try clear c15b0
                    try clear c15b1
                    try clear c17
                    try clear c17b0
                    try clear c18
                    try clear c18b0
                    try clear c20
                    try clear c22
                    try clear c23
                    try clear c23b0
                    try clear c23b1
                    try clear p24
                    try clear q24
                    try clear hx24
                    try clear qi24
                    try clear c25
                    try clear c25b0
                    try clear c25b1
                    try clear c26
                    try clear p26
                    try clear q26
                    try clear hx26
                    try clear qi26
                    try clear c28
                    try clear c28b0
                    try clear c28b1
                    try clear c30
                    try clear c30b0
                    try clear c30b1
                    try clear p1
                    try clear p11
                    try clear p2
                    try clear p24
                    try clear p26
                    try clear p3
                    try clear p6
                    try clear q1
                    try clear q11
                    try clear q2
                    try clear q24
                    try clear q26
                    try clear q3
                    obtain ⟨kq, x6_28, rfl, HA, HJ28, ⟨mc28, rfl⟩⟩ := hcut
                    cases kq with
                    | zero => exact absurd HA.out (by simp [althingref04_first.j5])
                    | succ kj28 =>
                     have H := HA.out
                     clear HA
                     simp only [althingref04_first.j5] at H
                     by_cases c31 : (wrap64 (bt a0 0)) ≥ 240
                     · rw [if_pos c31] at H
                       have c31b0 : decide (240 ≤ (wrap64 (bt a0 0))) = true := decide_eq_true c31
                       clear c31
                       by_cases c32 : (wrap64 (bt a0 0)) ≤ 244
                       · rw [if_pos c32] at H
                         have c32b0 : decide ((wrap64 (bt a0 0)) ≤ 244) = true := decide_eq_true c32
                         clear c32
                         obtain ⟨t613, A33, H⟩ := bs_ H
                         by_cases c34 : t613 = true
                         · subst c34
                           rw [if_pos rfl] at H
                           obtain ⟨t614, A35, H⟩ := bs_ H
                           by_cases c36 : t614 = true
                           · subst c36
                             rw [if_pos rfl] at H
                             obtain ⟨t615, A37, H⟩ := bs_ H
                             by_cases c38 : t615 = true
                             · subst c38
                               rw [if_pos rfl] at H
                               by_cases c39 : 1 < (a0.size : Int)
                               · rw [if_pos c39] at H
                                 have c39b0 : decide (1 < (a0.size : Int)) = true := decide_eq_true c39
                                 have c39b1 : decide (1 < a0.size) = true := decide_eq_true (by omega)
                                 clear c39
                                 by_cases c41 : 2 < (a0.size : Int)
                                 · rw [if_pos c41] at H
                                   have c41b0 : decide (2 < (a0.size : Int)) = true := decide_eq_true c41
                                   have c41b1 : decide (2 < a0.size) = true := decide_eq_true (by omega)
                                   clear c41
                                   by_cases c43 : 3 < (a0.size : Int)
                                   · rw [if_pos c43] at H
                                     have c43b0 : decide (3 < (a0.size : Int)) = true := decide_eq_true c43
                                     have c43b1 : decide (3 < a0.size) = true := decide_eq_true (by omega)
                                     clear c43
                                     simp only [Option.some.injEq, Prod.mk.injEq] at H
                                     obtain ⟨rfl, rfl⟩ := H
                                     have hq0 := True.intro
                                     repeat ((first | clear hq0 | go_quiet (first | (go_at_call 75; (with_reducible refine (althingref04_tail.calls a0 1 x5_26 x6_28 true _ A33.out).mono ?_); rintro e w' ⟨rfl, ⟨nd, rfl⟩⟩; (try first | exact ⟨rfl, _, World.drewN_drewN _ _ _⟩ | exact ⟨rfl, _, Eq.trans (World.drewN_drewN _ _ _) (congrArg (World.drewN _) (Nat.add_assoc _ _ _))⟩)) | (go_at_call 75; (with_reducible refine (althingref04_tail.calls a0 2 128 191 true _ A35.out).mono ?_); rintro e w' ⟨rfl, ⟨nd, rfl⟩⟩; (try first | exact ⟨rfl, _, World.drewN_drewN _ _ _⟩ | exact ⟨rfl, _, Eq.trans (World.drewN_drewN _ _ _) (congrArg (World.drewN _) (Nat.add_assoc _ _ _))⟩)) | (go_at_call 75; (with_reducible refine (althingref04_tail.calls a0 3 128 191 true _ A37.out).mono ?_); rintro e w' ⟨rfl, ⟨nd, rfl⟩⟩; (try first | exact ⟨rfl, _, World.drewN_drewN _ _ _⟩ | exact ⟨rfl, _, Eq.trans (World.drewN_drewN _ _ _) (congrArg (World.drewN _) (Nat.add_assoc _ _ _))⟩); have p40 : 0 ≤ (1 : Int) := (by omega); have q40 : 1 < a0.size := (by have : (1 : Int) < (a0.size : Int) := of_decide_eq_true (by first | (with_reducible assumption) | assumption); omega); have hx40 : ∀ h : 1 < a0.size, ((a0[1]'h).toNat : Int) = bt a0 1 := bt_at a0 1; clear p40; have qi40 : (1 < (a0.size : Int)) = True := eq_true (of_decide_eq_true (by first | (with_reducible assumption) | assumption)); replace q40 := eq_true q40; have p42 : 0 ≤ (2 : Int) := (by omega); have q42 : 2 < a0.size := (by have : (2 : Int) < (a0.size : Int) := of_decide_eq_true (by first | (with_reducible assumption) | assumption); omega); have hx42 : ∀ h : 2 < a0.size, ((a0[2]'h).toNat : Int) = bt a0 2 := bt_at a0 2; clear p42; have qi42 : (2 < (a0.size : Int)) = True := eq_true (of_decide_eq_true (by first | (with_reducible assumption) | assumption)); replace q42 := eq_true q42; have p44 : 0 ≤ (3 : Int) := (by omega); have q44 : 3 < a0.size := (by have : (3 : Int) < (a0.size : Int) := of_decide_eq_true (by first | (with_reducible assumption) | assumption); omega); have hx44 : ∀ h : 3 < a0.size, ((a0[3]'h).toNat : Int) = bt a0 3 := bt_at a0 3; clear p44; have qi44 : (3 < (a0.size : Int)) = True := eq_true (of_decide_eq_true (by first | (with_reducible assumption) | assumption)); replace q44 := eq_true q44))); try go_wp2_with (first | (go_at_call 75; (with_reducible refine (althingref04_tail.calls a0 1 x5_26 x6_28 true _ A33.out).mono ?_); rintro e w' ⟨rfl, ⟨nd, rfl⟩⟩; (try first | exact ⟨rfl, _, World.drewN_drewN _ _ _⟩ | exact ⟨rfl, _, Eq.trans (World.drewN_drewN _ _ _) (congrArg (World.drewN _) (Nat.add_assoc _ _ _))⟩)) | (go_at_call 75; (with_reducible refine (althingref04_tail.calls a0 2 128 191 true _ A35.out).mono ?_); rintro e w' ⟨rfl, ⟨nd, rfl⟩⟩; (try first | exact ⟨rfl, _, World.drewN_drewN _ _ _⟩ | exact ⟨rfl, _, Eq.trans (World.drewN_drewN _ _ _) (congrArg (World.drewN _) (Nat.add_assoc _ _ _))⟩)) | (go_at_call 75; (with_reducible refine (althingref04_tail.calls a0 3 128 191 true _ A37.out).mono ?_); rintro e w' ⟨rfl, ⟨nd, rfl⟩⟩; (try first | exact ⟨rfl, _, World.drewN_drewN _ _ _⟩ | exact ⟨rfl, _, Eq.trans (World.drewN_drewN _ _ _) (congrArg (World.drewN _) (Nat.add_assoc _ _ _))⟩); have p40 : 0 ≤ (1 : Int) := (by omega); have q40 : 1 < a0.size := (by have : (1 : Int) < (a0.size : Int) := of_decide_eq_true (by first | (with_reducible assumption) | assumption); omega); have hx40 : ∀ h : 1 < a0.size, ((a0[1]'h).toNat : Int) = bt a0 1 := bt_at a0 1; clear p40; have qi40 : (1 < (a0.size : Int)) = True := eq_true (of_decide_eq_true (by first | (with_reducible assumption) | assumption)); replace q40 := eq_true q40; have p42 : 0 ≤ (2 : Int) := (by omega); have q42 : 2 < a0.size := (by have : (2 : Int) < (a0.size : Int) := of_decide_eq_true (by first | (with_reducible assumption) | assumption); omega); have hx42 : ∀ h : 2 < a0.size, ((a0[2]'h).toNat : Int) = bt a0 2 := bt_at a0 2; clear p42; have qi42 : (2 < (a0.size : Int)) = True := eq_true (of_decide_eq_true (by first | (with_reducible assumption) | assumption)); replace q42 := eq_true q42; have p44 : 0 ≤ (3 : Int) := (by omega); have q44 : 3 < a0.size := (by have : (3 : Int) < (a0.size : Int) := of_decide_eq_true (by first | (with_reducible assumption) | assumption); omega); have hx44 : ∀ h : 3 < a0.size, ((a0[3]'h).toNat : Int) = bt a0 3 := bt_at a0 3; clear p44; have qi44 : (3 < (a0.size : Int)) = True := eq_true (of_decide_eq_true (by first | (with_reducible assumption) | assumption)); replace q44 := eq_true q44)))
                                     go_ret2
                                     exact ⟨by first | rfl | (simp; done) | (simp [*]; done), by repeat (first | exact Drawn0.refl _ | apply Drawn0.step)⟩
                                   · rw [if_neg c43] at H
                                     exact absurd H (by simp)
                                 · rw [if_neg c41] at H
                                   exact absurd H (by simp)
                               · rw [if_neg c39] at H
                                 exact absurd H (by simp)
                             · replace c38 := Bool.eq_false_iff.mpr c38
                               subst c38
                               rw [if_neg (show ¬ (false = true) by decide)] at H
                               simp only [Option.some.injEq, Prod.mk.injEq] at H
                               obtain ⟨rfl, rfl⟩ := H
                               have hq0 := True.intro
                               repeat ((first | clear hq0 | go_quiet (first | (go_at_call 75; (with_reducible refine (althingref04_tail.calls a0 1 x5_26 x6_28 true _ A33.out).mono ?_); rintro e w' ⟨rfl, ⟨nd, rfl⟩⟩; (try first | exact ⟨rfl, _, World.drewN_drewN _ _ _⟩ | exact ⟨rfl, _, Eq.trans (World.drewN_drewN _ _ _) (congrArg (World.drewN _) (Nat.add_assoc _ _ _))⟩)) | (go_at_call 75; (with_reducible refine (althingref04_tail.calls a0 2 128 191 true _ A35.out).mono ?_); rintro e w' ⟨rfl, ⟨nd, rfl⟩⟩; (try first | exact ⟨rfl, _, World.drewN_drewN _ _ _⟩ | exact ⟨rfl, _, Eq.trans (World.drewN_drewN _ _ _) (congrArg (World.drewN _) (Nat.add_assoc _ _ _))⟩)) | (go_at_call 75; (with_reducible refine (althingref04_tail.calls a0 3 128 191 false _ A37.out).mono ?_); rintro e w' ⟨rfl, ⟨nd, rfl⟩⟩; (try first | exact ⟨rfl, _, World.drewN_drewN _ _ _⟩ | exact ⟨rfl, _, Eq.trans (World.drewN_drewN _ _ _) (congrArg (World.drewN _) (Nat.add_assoc _ _ _))⟩)))); try go_wp2_with (first | (go_at_call 75; (with_reducible refine (althingref04_tail.calls a0 1 x5_26 x6_28 true _ A33.out).mono ?_); rintro e w' ⟨rfl, ⟨nd, rfl⟩⟩; (try first | exact ⟨rfl, _, World.drewN_drewN _ _ _⟩ | exact ⟨rfl, _, Eq.trans (World.drewN_drewN _ _ _) (congrArg (World.drewN _) (Nat.add_assoc _ _ _))⟩)) | (go_at_call 75; (with_reducible refine (althingref04_tail.calls a0 2 128 191 true _ A35.out).mono ?_); rintro e w' ⟨rfl, ⟨nd, rfl⟩⟩; (try first | exact ⟨rfl, _, World.drewN_drewN _ _ _⟩ | exact ⟨rfl, _, Eq.trans (World.drewN_drewN _ _ _) (congrArg (World.drewN _) (Nat.add_assoc _ _ _))⟩)) | (go_at_call 75; (with_reducible refine (althingref04_tail.calls a0 3 128 191 false _ A37.out).mono ?_); rintro e w' ⟨rfl, ⟨nd, rfl⟩⟩; (try first | exact ⟨rfl, _, World.drewN_drewN _ _ _⟩ | exact ⟨rfl, _, Eq.trans (World.drewN_drewN _ _ _) (congrArg (World.drewN _) (Nat.add_assoc _ _ _))⟩))))
                               go_ret2
                               exact ⟨by first | rfl | (simp; done) | (simp [*]; done), by repeat (first | exact Drawn0.refl _ | apply Drawn0.step)⟩
                           · replace c36 := Bool.eq_false_iff.mpr c36
                             subst c36
                             rw [if_neg (show ¬ (false = true) by decide)] at H
                             simp only [Option.some.injEq, Prod.mk.injEq] at H
                             obtain ⟨rfl, rfl⟩ := H
                             have hq0 := True.intro
                             repeat ((first | clear hq0 | go_quiet (first | (go_at_call 75; (with_reducible refine (althingref04_tail.calls a0 1 x5_26 x6_28 true _ A33.out).mono ?_); rintro e w' ⟨rfl, ⟨nd, rfl⟩⟩; (try first | exact ⟨rfl, _, World.drewN_drewN _ _ _⟩ | exact ⟨rfl, _, Eq.trans (World.drewN_drewN _ _ _) (congrArg (World.drewN _) (Nat.add_assoc _ _ _))⟩)) | (go_at_call 75; (with_reducible refine (althingref04_tail.calls a0 2 128 191 false _ A35.out).mono ?_); rintro e w' ⟨rfl, ⟨nd, rfl⟩⟩; (try first | exact ⟨rfl, _, World.drewN_drewN _ _ _⟩ | exact ⟨rfl, _, Eq.trans (World.drewN_drewN _ _ _) (congrArg (World.drewN _) (Nat.add_assoc _ _ _))⟩)))); try go_wp2_with (first | (go_at_call 75; (with_reducible refine (althingref04_tail.calls a0 1 x5_26 x6_28 true _ A33.out).mono ?_); rintro e w' ⟨rfl, ⟨nd, rfl⟩⟩; (try first | exact ⟨rfl, _, World.drewN_drewN _ _ _⟩ | exact ⟨rfl, _, Eq.trans (World.drewN_drewN _ _ _) (congrArg (World.drewN _) (Nat.add_assoc _ _ _))⟩)) | (go_at_call 75; (with_reducible refine (althingref04_tail.calls a0 2 128 191 false _ A35.out).mono ?_); rintro e w' ⟨rfl, ⟨nd, rfl⟩⟩; (try first | exact ⟨rfl, _, World.drewN_drewN _ _ _⟩ | exact ⟨rfl, _, Eq.trans (World.drewN_drewN _ _ _) (congrArg (World.drewN _) (Nat.add_assoc _ _ _))⟩))))
                             go_ret2
                             exact ⟨by first | rfl | (simp; done) | (simp [*]; done), by repeat (first | exact Drawn0.refl _ | apply Drawn0.step)⟩
                         · replace c34 := Bool.eq_false_iff.mpr c34
                           subst c34
                           rw [if_neg (show ¬ (false = true) by decide)] at H
                           simp only [Option.some.injEq, Prod.mk.injEq] at H
                           obtain ⟨rfl, rfl⟩ := H
                           have hq0 := True.intro
                           repeat ((first | clear hq0 | go_quiet (first | (go_at_call 75; (with_reducible refine (althingref04_tail.calls a0 1 x5_26 x6_28 false _ A33.out).mono ?_); rintro e w' ⟨rfl, ⟨nd, rfl⟩⟩; (try first | exact ⟨rfl, _, World.drewN_drewN _ _ _⟩ | exact ⟨rfl, _, Eq.trans (World.drewN_drewN _ _ _) (congrArg (World.drewN _) (Nat.add_assoc _ _ _))⟩)))); try go_wp2_with (first | (go_at_call 75; (with_reducible refine (althingref04_tail.calls a0 1 x5_26 x6_28 false _ A33.out).mono ?_); rintro e w' ⟨rfl, ⟨nd, rfl⟩⟩; (try first | exact ⟨rfl, _, World.drewN_drewN _ _ _⟩ | exact ⟨rfl, _, Eq.trans (World.drewN_drewN _ _ _) (congrArg (World.drewN _) (Nat.add_assoc _ _ _))⟩))))
                           go_ret2
                           exact ⟨by first | rfl | (simp; done) | (simp [*]; done), by repeat (first | exact Drawn0.refl _ | apply Drawn0.step)⟩
                       · rw [if_neg c32] at H
                         have c32b0 : decide ((wrap64 (bt a0 0)) ≤ 244) = false := decide_eq_false c32
                         clear c32
                         simp only [Option.some.injEq, Prod.mk.injEq] at H
                         obtain ⟨rfl, rfl⟩ := H
                         go_wp2
                         repeat (go_quiet (fail); try go_wp2)
                         go_ret2
                         exact ⟨by first | rfl | (simp; done) | (simp [*]; done), by repeat (first | exact Drawn0.refl _ | apply Drawn0.step)⟩
                     · rw [if_neg c31] at H
                       have c31b0 : decide (240 ≤ (wrap64 (bt a0 0))) = false := decide_eq_false c31
                       clear c31
                       simp only [Option.some.injEq, Prod.mk.injEq] at H
                       obtain ⟨rfl, rfl⟩ := H
                       go_wp2
                       repeat (go_quiet (fail); try go_wp2)
                       go_ret2
                       exact ⟨by first | rfl | (simp; done) | (simp [*]; done), by repeat (first | exact Drawn0.refl _ | apply Drawn0.step)⟩
 · rw [if_neg c2] at H
   exact absurd H (by simp)
end Go.Proofs.Ytnjeeedndnfglaa.X
end
section
namespace Go.Proofs.Ytnjeeedndnfglaa.X
open Go.RowKit Go.Proofs.YtnjeeedndnfglaaW.PrintWords Go.Proofs.YtnjeeedndnfglaaW.PrintLast Go.Proofs.YtnjeeedndnfglaaW.PrintMore
attribute [local go_sem] max2_int min2_int max_two min_two max_three min_three max_four min_four   -- for this text's walks alone
set_option linter.unusedVariables false
set_option linter.unusedSimpArgs false
def althingref04_Runes.l0 : Nat → ByteArray → List Int → Option (List Int)
 | 0, _, _ => none
 | k + 1, x0, x3 => if (x0.size : Int) > 0 then ((althingref04_first.f k x0).bind fun bt616 => (if x3.length < 17592186044416 then (if 0 ≤ bt616.2 then (if bt616.2 ≤ (x0.size : Int) then (althingref04_Runes.l0 k (x0.extract (bt616.2 : Int).toNat x0.size) (x3 ++ [bt616.1])) else (none)) else (none)) else (none))) else (some x3)
def althingref04_Runes.f (k : Nat) (a0 : ByteArray) : Option (List Int) := althingref04_Runes.l0 k a0 ([] : List Int)
set_option maxHeartbeats 40000000 in
set_option maxRecDepth 100000 in
theorem althingref04_Runes.calls (k : Nat) (a0 : ByteArray) (r : List Int) (w : World) (h : althingref04_Runes.f k a0 = some r) :
 Calls Try.prog 60 #[.string a0] w fun e w' => ∃ v0_ : Value, e = .returned (v0_) ∧ Kd.R (Kd.int .i64) 3 w' w.heap.size (fun _ => True) v0_ r ∧ Below w.heap.size w w' := by
 have HB := Aside0.mk (Below.refl w.heap.size w)
 have H : (althingref04_Runes.l0 k a0 ([] : List Int)) = some r := h
 clear h
 have H' := Aside0.mk H
 clear H
 go_enter Try.func60, Try.ntmps60
 go_wp2
 go_loopg [0, 3] k (fun kq v0 v3 w' => ∃ (x0_1 : ByteArray) (x3_1 : List Int), v0 = .string x0_1 ∧ Aside0 (althingref04_Runes.l0 kq x0_1 x3_1 = some r) ∧ Aside0 (kq ≤ k) ∧ Aside0 (Kd.R (Kd.int .i64) 3 w' w.heap.size (fun _ => True) v3 x3_1) ∧ Aside0 (Below w.heap.size w w'))
 case atStart => exact ⟨(a0), (([] : List Int)), sm_, H', ⟨Nat.le_refl _⟩, ⟨by first | exact Kd.R_nil _ _ _ _ _ | exact Kd.N_nil _ _ _ _ _ | exact Kd.V_nil _ _ _ _ _ | exact Kd.Q_nil _ _ _ _ _ | exact Kd.S_nil _ _ _ _ _⟩, ⟨by repeat (first | (with_reducible first | exact HB.out | apply below_alloc | apply pw_below_drewN | apply below_drew1) | exact HB.out)⟩⟩
 case round =>
  clear H'
  obtain ⟨x0_1, x3_1, rfl, HA, HK1, HO_3, HB⟩ := hrel
  cases gk with
  | zero => exact absurd HA.out (by simp [althingref04_Runes.l0])
  | succ k1 =>
   have H := HA.out
   clear HA
   simp only [althingref04_Runes.l0] at H
   by_cases c2 : (x0_1.size : Int) > 0
   · rw [if_pos c2] at H
     have c2b0 : decide (0 < (x0_1.size : Int)) = true := decide_eq_true c2
     have c2b1 : decide (0 < x0_1.size) = true := decide_eq_true (by omega)
     clear c2
     replace H := Option.bind_eq_some_iff.mp H
     obtain ⟨⟨t616, t617⟩, A30, H⟩ := H
     replace H : (if x3_1.length < 17592186044416 then (if 0 ≤ t617 then (if t617 ≤ (x0_1.size : Int) then (althingref04_Runes.l0 k1 (x0_1.extract (t617 : Int).toNat x0_1.size) (x3_1 ++ [t616])) else (none)) else (none)) else (none)) = some r := H
     have A3 := Aside0.mk A30
     clear A30
     by_cases c4 : x3_1.length < 17592186044416
     · rw [if_pos c4] at H
       have LMc4 := Aside0.mk c4
       clear c4
       obtain ⟨y618, hy618⟩ : ∃ y_ : List Int, y_ = (x3_1 ++ [t616]) := ⟨_, rfl⟩
       replace H : (if 0 ≤ t617 then (if t617 ≤ (x0_1.size : Int) then (althingref04_Runes.l0 k1 (x0_1.extract (t617 : Int).toNat x0_1.size) y618) else (none)) else (none)) = some r := by first | (rw [hy618]; with_reducible exact H) | (have H2_ := (Option.bind_some _ _).symm.trans H; rw [hy618]; with_reducible exact H2_) | (have H2_ := (Option.bind_some _ _).symm.trans H; with_reducible exact H2_) | with_reducible exact H | (rw [hy618]; exact H) | exact H
       have Ny618 := Aside0.mk hy618
       clear hy618
       by_cases c5 : 0 ≤ t617
       · rw [if_pos c5] at H
         have c5b0 := eq_true c5
         have c5b1 : decide (0 ≤ t617) = true := decide_eq_true c5
         clear c5
         by_cases c6 : t617 ≤ (x0_1.size : Int)
         · rw [if_pos c6] at H
           have c6b0 := eq_true c6
           have c6b1 : decide (t617 ≤ (x0_1.size : Int)) = true := decide_eq_true c6
           clear c6
           have H' := Aside0.mk H
           clear H
           go_wp2_with (first | ((with_reducible refine gate_callee (f := 63) rfl ?_); refine gl_ (some 11) Try.func63 #[.string x0_1] ?_; (with_reducible refine (althingref04_first.calls k1 x0_1 t616 t617 _ A3.out).mono ?_); rintro e w' ⟨rfl, ⟨nd, rfl⟩⟩; refine ⟨_, rfl, ?_⟩) | ((with_reducible refine gate_builtin (b := .append) (xs := #[.tmp 14, .tmp 16]) rfl ?_); at_builtin; refine Kd.R_append (Kd.int .i64) (w0 := w) w.heap.size rfl (.tmp 14) (.tmp 16) 78 3 (.int .i64 0) 8 rfl Try.underlying78 info3 rfl (by decide) (by omega) u3 x3_1 t616 [.int .i64 t616] (fun _ => True) (fun _ => False) rfl rfl ?aP (fun _ hk => hk.elim) ?aF ?aO ?aB ?aS ?aL ?_; (case aP => exact rfl); (case aB => exact lb_); (case aF => exact (fun _ _ => trivial)); (case aO => exact (kr_ HO_3.out)); (case aS => exact (below_size lb_)); (case aL => have := LMc4.out; omega); intro v619 w7 ho hb hg hat; rw [← Ny618.out] at ho; have n0_ := Aside0.mk (hb); have n1_ := Aside0.mk (ho); clear HB HO_3; have HB := n0_; have HO620 := n1_; clear n0_ n1_ ho hb hg hat))
           go_roundg k1
           case measure => have := HK1.out; omega
           case rel => exact ⟨(x0_1.extract (t617 : Int).toNat x0_1.size), (y618), sm_, H', ⟨by have := HK1.out; omega⟩, ⟨kr_ HO620.out⟩, ⟨by repeat (first | (with_reducible first | exact HB.out | apply below_alloc | apply pw_below_drewN | apply below_drew1) | exact HB.out)⟩⟩
         · rw [if_neg c6] at H
           exact absurd H (by simp)
       · rw [if_neg c5] at H
         exact absurd H (by simp)
     · rw [if_neg c4] at H
       exact absurd H (by simp)
   · rw [if_neg c2] at H
     have c2b0 : decide (0 < (x0_1.size : Int)) = false := decide_eq_false c2
     have c2b1 : decide (0 < x0_1.size) = false := decide_eq_false (by omega)
     clear c2
     obtain rfl := Option.some.inj H
     go_wp2
     go_ret
     exact ⟨_, by first | rfl | (simp [errW_none, errW_some] <;> rfl) | (simp [*, errW_none, errW_some] <;> rfl), by (with_reducible repeat (first | apply Kd.R_alloc | apply Kd.R_drewN | apply Kd.R_drew)); exact HO_3.out, by repeat (first | (with_reducible first | exact HB.out | apply below_alloc | apply pw_below_drewN | apply below_drew1) | exact HB.out)⟩
end Go.Proofs.Ytnjeeedndnfglaa.X
end
section
namespace Go.Proofs.Ytnjeeedndnfglaa.X
open Go.RowKit Go.Proofs.YtnjeeedndnfglaaW.PrintWords Go.Proofs.YtnjeeedndnfglaaW.PrintLast Go.Proofs.YtnjeeedndnfglaaW.PrintMore
attribute [local go_sem] max2_int min2_int max_two min_two max_three min_three max_four min_four   -- for this text's walks alone
set_option linter.unusedVariables false
set_option linter.unusedSimpArgs false
mutual
def althingref04_Weight.l0 : Nat → List Int → Int → Int → Option (Int)
 | 0, _, _, _ => none
 | k + 1, x3, x4, x5 => if x5 < (x3.length : Int) then (althingref04_Weight.l1 k x3 x4 x5 0) else (some x4)
def althingref04_Weight.l1 : Nat → List Int → Int → Int → Int → Option (Int)
 | 0, _, _, _, _ => none
 | k + 1, x3, x4, x5, x6 => if x6 ≤ x5 then (if 0 ≤ x5 then (if x5 < (x3.length : Int) then (althingref04_Weight.l1 k x3 (wrap64 (x4 + (rd x3 x5))) x5 (wrap64 (x6 + 1))) else (none)) else (none)) else (althingref04_Weight.l0 k x3 x4 (wrap64 (x5 + 1)))
end
def althingref04_Weight.f (k : Nat) (a0 : ByteArray) : Option (Int) := (althingref04_Runes.f k a0).bind fun t621 => (althingref04_Weight.l0 k t621 0 0)
set_option maxHeartbeats 40000000 in
set_option maxRecDepth 100000 in
theorem althingref04_Weight.calls (k : Nat) (a0 : ByteArray) (r : Int) (w : World) (h : althingref04_Weight.f k a0 = some r) :
 Calls Try.prog 55 #[.string a0] w fun e w' => e = .returned (.int .i64 r) ∧ Below w.heap.size w w' := by
 have HB := Aside0.mk (Below.refl w.heap.size w)
 have H : ((althingref04_Runes.f k a0).bind fun t621 => (althingref04_Weight.l0 k t621 0 0)) = some r := h
 clear h
 obtain ⟨t621, A2, H⟩ := bs_ H
 have H' := Aside0.mk H
 clear H
 go_enter Try.func55, Try.ntmps55
 go_wp2_with (first | ((with_reducible refine gate_callee (f := 60) rfl ?_); refine gl_ (some 8) Try.func60 #[.string a0] ?_; (with_reducible refine (althingref04_Runes.calls k a0 t621 _ A2.out).mono ?_); rintro e w3 ⟨v622, rfl, ho0, hb⟩; refine ⟨_, rfl, ?_⟩; have HO623 := Aside0.mk (Kd.R_lower ho0 (below_size lb_)); replace HB := hs_ HB hb; (try clear hb); (try clear ho0)))
 go_loopg [4, 5] k (fun kq v4 v5 w' => ∃ (x4_1 : Int) (x5_1 : Int), v4 = .int .i64 x4_1 ∧ v5 = .int .i64 x5_1 ∧ Aside0 (althingref04_Weight.l0 kq t621 x4_1 x5_1 = some r) ∧ Aside0 (kq ≤ k) ∧ Aside0 (Kd.R (Kd.int .i64) 3 w' w.heap.size (fun _ => True) v622 t621) ∧ Aside0 (Below w.heap.size w w'))
 case atStart => exact ⟨(0), (0), sm_, sm_, H', ⟨Nat.le_refl _⟩, ⟨kr_ HO623.out⟩, ⟨by repeat (first | (with_reducible first | exact HB.out | apply below_alloc | apply pw_below_drewN | apply below_drew1) | exact HB.out)⟩⟩
 case round =>
  clear H'
  try clear p2
  obtain ⟨x4_1, x5_1, rfl, rfl, HA, HK1, HO_3, HB⟩ := hrel
  cases gk with
  | zero => exact absurd HA.out (by simp [althingref04_Weight.l0])
  | succ k1 =>
   have H := HA.out
   clear HA
   simp only [althingref04_Weight.l0] at H
   by_cases c4 : x5_1 < (t621.length : Int)
   · rw [if_pos c4] at H
     have c4b0 : decide (x5_1 < (t621.length : Int)) = true := decide_eq_true c4
     clear c4
     have H' := Aside0.mk H
     clear H
     obtain ⟨Ao5, co5, eo5⟩ := Kd.R_slice HO_3.out
     subst eo5
     go_wp2
     go_loopg [4, 6] k1 (fun kq v4 v6 w' => ∃ (x4_2 : Int) (x6_2 : Int), v4 = .int .i64 x4_2 ∧ v6 = .int .i64 x6_2 ∧ Aside0 (althingref04_Weight.l1 kq t621 x4_2 x5_1 x6_2 = some r) ∧ Aside0 (kq ≤ k1) ∧ Aside0 (Kd.R (Kd.int .i64) 3 w' w.heap.size (fun _ => True) (.slice Ao5 t621.length co5) t621) ∧ Aside0 (Below w.heap.size w w'))
     case atStart => exact ⟨(x4_1), (0), sm_, sm_, H', ⟨Nat.le_refl _⟩, ⟨kr_ HO_3.out⟩, ⟨by repeat (first | (with_reducible first | exact HB.out | apply below_alloc | apply pw_below_drewN | apply below_drew1) | exact HB.out)⟩⟩
     case round =>
      clear H'
      try clear p2
      try clear c4
      try clear c4b0
      try clear c5
      try clear p2
      obtain ⟨x4_2, x6_2, rfl, rfl, HA, HK2, HO_3, HB⟩ := hrel
      cases gk with
      | zero => exact absurd HA.out (by simp [althingref04_Weight.l1])
      | succ k2 =>
       have H := HA.out
       clear HA
       simp only [althingref04_Weight.l1] at H
       by_cases c6 : x6_2 ≤ x5_1
       · rw [if_pos c6] at H
         have c6b0 : decide (x6_2 ≤ x5_1) = true := decide_eq_true c6
         clear c6
         by_cases c7 : 0 ≤ x5_1
         · rw [if_pos c7] at H
           have c7b0 : decide (0 ≤ x5_1) = true := decide_eq_true c7
           clear c7
           by_cases c8 : x5_1 < (t621.length : Int)
           · rw [if_pos c8] at H
             have c8b0 : decide (x5_1 < (t621.length : Int)) = true := decide_eq_true c8
             clear c8
             have H' := Aside0.mk H
             clear H
             have p624 : 0 ≤ (x5_1 : Int) := of_decide_eq_true (by first | (with_reducible assumption) | assumption)
             have q624 : x5_1 < (t621.length : Int) := of_decide_eq_true (by first | (with_reducible assumption) | assumption)
             obtain ⟨ad624, e624, hx624_0⟩ := Kd.at_int (Kd.R_reads' HO_3.out).2.2 x5_1 p624 q624
             cases e624
             replace p624 := eq_true p624
             replace q624 := eq_true q624
             go_wp2
             go_roundg k2
             case measure => have := HK1.out; have := HK2.out; omega
             case rel => exact ⟨(wrap64 (x4_2 + (rd t621 x5_1))), (wrap64 (x6_2 + 1)), sm_, sm_, H', ⟨by have := HK1.out; have := HK2.out; omega⟩, ⟨kr_ HO_3.out⟩, ⟨by repeat (first | (with_reducible first | exact HB.out | apply below_alloc | apply pw_below_drewN | apply below_drew1) | exact HB.out)⟩⟩
           · rw [if_neg c8] at H
             exact absurd H (by simp)
         · rw [if_neg c7] at H
           exact absurd H (by simp)
       · rw [if_neg c6] at H
         have c6b0 : decide (x6_2 ≤ x5_1) = false := decide_eq_false c6
         clear c6
         have H' := Aside0.mk H
         clear H
         go_wp2
         go_roundg k2
         case measure => have := HK1.out; have := HK2.out; omega
         case rel => exact ⟨(x4_2), (wrap64 (x5_1 + 1)), sm_, sm_, H', ⟨by have := HK1.out; have := HK2.out; omega⟩, ⟨kr_ HO_3.out⟩, ⟨by repeat (first | (with_reducible first | exact HB.out | apply below_alloc | apply pw_below_drewN | apply below_drew1) | exact HB.out)⟩⟩
   · rw [if_neg c4] at H
     have c4b0 : decide (x5_1 < (t621.length : Int)) = false := decide_eq_false c4
     clear c4
     obtain rfl := Option.some.inj H
     obtain ⟨Ao9, co9, eo9⟩ := Kd.R_slice HO_3.out
     subst eo9
     go_wp2
     go_ret
     exact ⟨by first | rfl | (simp [errW_none, errW_some] <;> rfl) | (simp [*, errW_none, errW_some] <;> rfl), by repeat (first | (with_reducible first | exact HB.out | apply below_alloc | apply pw_below_drewN | apply below_drew1) | exact HB.out)⟩
end Go.Proofs.Ytnjeeedndnfglaa.X
end
section
namespace Go.Proofs.Ytnjeeedndnfglaa.X
open Go.RowKit Go.Proofs.YtnjeeedndnfglaaW.PrintWords Go.Proofs.YtnjeeedndnfglaaW.PrintLast Go.Proofs.YtnjeeedndnfglaaW.PrintMore
attribute [local go_sem] max2_int min2_int max_two min_two max_three min_three max_four min_four   -- for this text's walks alone
set_option linter.unusedVariables false
set_option linter.unusedSimpArgs false
def althingref04_Shard.f (k : Nat) (a0 : ByteArray) (a1 : Int) : Option (Int × Int) := (althingref04_Right.f a0).bind fun t625 => (if t625 = true then (if a1 < 1 then (some (0, 1)) else (if a1 > 4 then (some (0, 1)) else ((althingref04_Weight.f k a0).bind fun t626 => (if a1 = 0 then (none) else (some (wrap64 (t626 - (wrap64 ((wrap64 (Int.tdiv t626 a1)) * a1))), 0)))))) else (some (0, 1)))
set_option maxHeartbeats 40000000 in
set_option maxRecDepth 100000 in
theorem althingref04_Shard.calls (k : Nat) (a0 : ByteArray) (a1 : Int) (r1 : Int) (r2 : Int) (w : World) (h : althingref04_Shard.f k a0 a1 = some (r1, r2)) :
 Calls Try.prog 42 #[.string a0, .int .i64 a1] w fun e w' => e = .returned (.tuple #[.int .i64 r1, .int .i64 r2]) ∧ Below w.heap.size w w' := by
 have HB := Aside0.mk (Below.refl w.heap.size w)
 have H : ((althingref04_Right.f a0).bind fun t625 => (if t625 = true then (if a1 < 1 then (some (0, 1)) else (if a1 > 4 then (some (0, 1)) else ((althingref04_Weight.f k a0).bind fun t626 => (if a1 = 0 then (none) else (some (wrap64 (t626 - (wrap64 ((wrap64 (Int.tdiv t626 a1)) * a1))), 0)))))) else (some (0, 1)))) = some (r1, r2) := h
 clear h
 obtain ⟨t625, A3, H⟩ := bs_ H
 by_cases c4 : t625 = true
 · subst c4
   rw [if_pos rfl] at H
   by_cases c5 : a1 < 1
   · rw [if_pos c5] at H
     have c5b0 : decide (a1 < 1) = true := decide_eq_true c5
     clear c5
     simp only [Option.some.injEq, Prod.mk.injEq] at H
     obtain ⟨rfl, rfl⟩ := H
     go_enter Try.func42, Try.ntmps42
     go_wp2_with (first | ((with_reducible refine gate_callee (f := 54) rfl ?_); refine gl_ (some 8) Try.func54 #[.string a0] ?_; (with_reducible refine (althingref04_Right.calls a0 true _ A3.out).mono ?_); rintro e w' ⟨rfl, ⟨nd, rfl⟩⟩; refine ⟨_, rfl, ?_⟩))
     go_ret2
     exact ⟨by first | rfl | (simp [errW_none, errW_some] <;> rfl) | (simp [*, errW_none, errW_some] <;> rfl), by repeat (first | (with_reducible first | exact HB.out | apply below_alloc | apply pw_below_drewN | apply below_drew1) | exact HB.out)⟩
   · rw [if_neg c5] at H
     have c5b0 : decide (a1 < 1) = false := decide_eq_false c5
     clear c5
     by_cases c6 : a1 > 4
     · rw [if_pos c6] at H
       have c6b0 : decide (4 < a1) = true := decide_eq_true c6
       clear c6
       simp only [Option.some.injEq, Prod.mk.injEq] at H
       obtain ⟨rfl, rfl⟩ := H
       go_enter Try.func42, Try.ntmps42
       go_wp2_with (first | ((with_reducible refine gate_callee (f := 54) rfl ?_); refine gl_ (some 8) Try.func54 #[.string a0] ?_; (with_reducible refine (althingref04_Right.calls a0 true _ A3.out).mono ?_); rintro e w' ⟨rfl, ⟨nd, rfl⟩⟩; refine ⟨_, rfl, ?_⟩))
       go_ret2
       exact ⟨by first | rfl | (simp [errW_none, errW_some] <;> rfl) | (simp [*, errW_none, errW_some] <;> rfl), by repeat (first | (with_reducible first | exact HB.out | apply below_alloc | apply pw_below_drewN | apply below_drew1) | exact HB.out)⟩
     · rw [if_neg c6] at H
       have c6b0 : decide (4 < a1) = false := decide_eq_false c6
       clear c6
       obtain ⟨t626, A7, H⟩ := bs_ H
       by_cases c8 : a1 = 0
       · rw [if_pos c8] at H
         exact absurd H (by simp)
       · rw [if_neg c8] at H
         have c8b0 : (a1 == 0) = false := beq_eq_false_iff_ne.mpr c8
         have c8b1 : (a1 != 0) = true := bne_iff_ne.mpr c8
         simp only [Option.some.injEq, Prod.mk.injEq] at H
         obtain ⟨rfl, rfl⟩ := H
         go_enter Try.func42, Try.ntmps42
         go_wp2_with (first | ((with_reducible refine gate_callee (f := 54) rfl ?_); refine gl_ (some 8) Try.func54 #[.string a0] ?_; (with_reducible refine (althingref04_Right.calls a0 true _ A3.out).mono ?_); rintro e w' ⟨rfl, ⟨nd, rfl⟩⟩; refine ⟨_, rfl, ?_⟩) | ((with_reducible refine gate_callee (f := 55) rfl ?_); refine gl_ (some 19) Try.func55 #[.string a0] ?_; (with_reducible refine (althingref04_Weight.calls k a0 t626 _ A7.out).mono ?_); rintro e w9 ⟨rfl, hb⟩; refine ⟨_, rfl, ?_⟩; replace HB := hs_ HB hb; (try clear hb); (try clear hi)))
         go_ret2
         exact ⟨by first | rfl | (simp [errW_none, errW_some] <;> rfl) | (simp [*, errW_none, errW_some] <;> rfl), by repeat (first | (with_reducible first | exact HB.out | apply below_alloc | apply pw_below_drewN | apply below_drew1) | exact HB.out)⟩
 · replace c4 := Bool.eq_false_iff.mpr c4
   subst c4
   rw [if_neg (show ¬ (false = true) by decide)] at H
   simp only [Option.some.injEq, Prod.mk.injEq] at H
   obtain ⟨rfl, rfl⟩ := H
   go_enter Try.func42, Try.ntmps42
   go_wp2_with (first | ((with_reducible refine gate_callee (f := 54) rfl ?_); refine gl_ (some 8) Try.func54 #[.string a0] ?_; (with_reducible refine (althingref04_Right.calls a0 false _ A3.out).mono ?_); rintro e w' ⟨rfl, ⟨nd, rfl⟩⟩; refine ⟨_, rfl, ?_⟩))
   go_ret2
   exact ⟨by first | rfl | (simp [errW_none, errW_some] <;> rfl) | (simp [*, errW_none, errW_some] <;> rfl), by repeat (first | (with_reducible first | exact HB.out | apply below_alloc | apply pw_below_drewN | apply below_drew1) | exact HB.out)⟩
end Go.Proofs.Ytnjeeedndnfglaa.X
end
