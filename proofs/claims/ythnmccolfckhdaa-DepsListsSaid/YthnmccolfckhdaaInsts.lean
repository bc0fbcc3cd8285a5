/- deps.Insts and deps.Count. -/
import Derived.Test.YthnmccolfckhdaaDepsIs
import Derived.Test.YthnmccolfckhdaaAppend
namespace Go.Proofs.Ythnmccolfckhdaa
open Go.RowKit
set_option linter.unusedSimpArgs false
set_option linter.unusedVariables false
attribute [local go_sem] eqDeps max2_int max_two min2_int min_two idxDeps Ext.cell Ext.frozen Ext.cell_set szlt1 szlt2 szlt3 szlt4 szlt5 szlt6
attribute [local simp] szlt1 szlt2 szlt3 szlt4 szlt5 szlt6

/-- The instances of replicas below k, f many of each. -/
def il (f : Nat → Nat) : Nat → List (Int × Int)
  | 0 => []
  | k + 1 => il f k ++ (List.range (f k)).map (fun (j : Nat) => ((k : Int), (j : Int) + 1))
def ilc (l : List (Int × Int)) : List Value := l.flatMap (fun x => [.int .i64 x.1, .int .i64 x.2])
theorem ilc_len (l : List (Int × Int)) : (ilc l).length = l.length * 2 := by
  induction l with
  | nil => rfl
  | cons x l ih => unfold ilc at ih ⊢; rw [List.flatMap_cons, List.length_append, ih]; simp; omega
theorem ilc_append (l m : List (Int × Int)) : ilc (l ++ m) = ilc l ++ ilc m := by unfold ilc; rw [List.flatMap_append]
/-- The first j instances of replica k. -/
def part (k j : Nat) : List (Int × Int) := (List.range j).map (fun (i : Nat) => ((k : Int), (i : Int) + 1))
theorem part_succ (k j : Nat) : part k (j + 1) = part k j ++ [((k : Int), (j : Int) + 1)] := by simp [part, List.range_succ]
theorem part_len (k j : Nat) : (part k j).length = j := by simp [part]
theorem il_succ (f : Nat → Nat) (k : Nat) : il f (k + 1) = il f k ++ part k (f k) := rfl
theorem il_len_le (f : Nat → Nat) (hf : ∀ k, f k ≤ 200) : ∀ k, (il f k).length ≤ 200 * k
  | 0 => by simp [il]
  | k + 1 => by have := il_len_le f hf k; have := hf k; rw [il_succ, List.length_append, part_len]; omega
def fD (a0 a1 a2 a3 a4 a5 a6 : Int) (k : Nat) : Nat := (at7 a0 a1 a2 a3 a4 a5 a6 (k : Int)).toNat

theorem getD7 (a0 a1 a2 a3 a4 a5 a6 : Int) (k : Nat) (h : k < 7) : ([.int .i64 a0, .int .i64 a1, .int .i64 a2, .int .i64 a3, .int .i64 a4, .int .i64 a5, .int .i64 a6] : List Value)[k]'h = .int .i64 (at7 a0 a1 a2 a3 a4 a5 a6 (k : Int)) := by
  rcases (by omega : k = 0 ∨ k = 1 ∨ k = 2 ∨ k = 3 ∨ k = 4 ∨ k = 5 ∨ k = 6) with rfl | rfl | rfl | rfl | rfl | rfl | rfl <;> rfl
theorem at7_le (a0 a1 a2 a3 a4 a5 a6 r : Int) (h : 0 ≤ a0 ∧ a0 ≤ 200 ∧ 0 ≤ a1 ∧ a1 ≤ 200 ∧ 0 ≤ a2 ∧ a2 ≤ 200 ∧ 0 ≤ a3 ∧ a3 ≤ 200 ∧ 0 ≤ a4 ∧ a4 ≤ 200 ∧ 0 ≤ a5 ∧ a5 ≤ 200 ∧ 0 ≤ a6 ∧ a6 ≤ 200) : 0 ≤ at7 a0 a1 a2 a3 a4 a5 a6 r ∧ at7 a0 a1 a2 a3 a4 a5 a6 r ≤ 200 := by
  unfold at7
  repeat' split
  all_goals omega
set_option maxHeartbeats 4000000 in
theorem Insts_none (a0 a1 a2 a3 a4 a5 a6 : Int) (h : ¬ (0 ≤ a0 ∧ a0 ≤ 1048576 ∧ 0 ≤ a1 ∧ a1 ≤ 1048576 ∧ 0 ≤ a2 ∧ a2 ≤ 1048576 ∧ 0 ≤ a3 ∧ a3 ≤ 1048576 ∧ 0 ≤ a4 ∧ a4 ≤ 1048576 ∧ 0 ≤ a5 ∧ a5 ≤ 1048576 ∧ 0 ≤ a6 ∧ a6 ≤ 1048576)) (w : World) :
    Calls Try.prog 49 #[.agg #[.int .i64 a0, .int .i64 a1, .int .i64 a2, .int .i64 a3, .int .i64 a4, .int .i64 a5, .int .i64 a6]] w fun e w' => e = .returned (.slice none 0 0) ∧ Below w.heap.size w w' := by
  go_enter Try.func49, Try.ntmps49
  go_wp2_with ((go_at_call 33; (first | (with_reducible refine (calls_ext (Right_is _ _ _ _ _ _ _ false (ff h) _)).mono ?_) | (with_reducible refine (calls_to_ext (Right_is _ _ _ _ _ _ _ false (ff h) _)).mono ?_)); rintro e w1 ⟨rfl, X, rfl⟩; have hX := X.size; (try simp only [World.size_alloc] at hX)))
  go_ret
  exact ⟨rfl, by (repeat' (first | (with_reducible exact Below.refl _ _) | (with_reducible assumption) | (with_reducible refine Below.setCell ?_ ?_ _) | (with_reducible refine Below.alloc ?_ ?_ _) | (with_reducible refine Below.drew ?_) | (with_reducible refine below_drewN ?_ _) | (with_reducible refine Ext.grown _ ?_ ?_) | (with_reducible exact Nat.le_refl _) | omega | (simp only [World.size_alloc, World.size_setCell, World.size_drew]; omega) | (simp; omega) | (simp; done)))⟩
set_option maxHeartbeats 4000000 in
theorem Insts_any (a0 a1 a2 a3 a4 a5 a6 : Int) (h : 0 ≤ a0 ∧ a0 ≤ 200 ∧ 0 ≤ a1 ∧ a1 ≤ 200 ∧ 0 ≤ a2 ∧ a2 ≤ 200 ∧ 0 ≤ a3 ∧ a3 ≤ 200 ∧ 0 ≤ a4 ∧ a4 ≤ 200 ∧ 0 ≤ a5 ∧ a5 ≤ 200 ∧ 0 ≤ a6 ∧ a6 ≤ 200) (w : World) :
    Calls Try.prog 49 #[.agg #[.int .i64 a0, .int .i64 a1, .int .i64 a2, .int .i64 a3, .int .i64 a4, .int .i64 a5, .int .i64 a6]] w fun e w' => ∃ v, e = .returned v ∧ w'.ownsRow w.heap.size 25 2 v (il (fD a0 a1 a2 a3 a4 a5 a6) 7).length (ilc (il (fD a0 a1 a2 a3 a4 a5 a6) 7)) ∧ Below w.heap.size w w' := by
  have hi : (Try.prog.info? 25).map (fun i => (i.zero, i.size, i.bytes)) = some (some (.agg #[.int .i64 0, .int .i64 0]), 2, 16) := by kernel_rfl
  have HI := Lib.hid hi
  have HR : Hid (0 ≤ a0 ∧ a0 ≤ 1048576 ∧ 0 ≤ a1 ∧ a1 ≤ 1048576 ∧ 0 ≤ a2 ∧ a2 ≤ 1048576 ∧ 0 ≤ a3 ∧ a3 ≤ 1048576 ∧ 0 ≤ a4 ∧ a4 ≤ 1048576 ∧ 0 ≤ a5 ∧ a5 ≤ 1048576 ∧ 0 ≤ a6 ∧ a6 ≤ 1048576) := Lib.hid (by omega)
  have HF : Hid (∀ k, fD a0 a1 a2 a3 a4 a5 a6 k ≤ 200) := Lib.hid (fun k => by have := at7_le a0 a1 a2 a3 a4 a5 a6 (k : Int) h; unfold fD; omega)
  have HA : Hid (∀ (k : Nat) (hk : k < 7), ([.int .i64 a0, .int .i64 a1, .int .i64 a2, .int .i64 a3, .int .i64 a4, .int .i64 a5, .int .i64 a6] : List Value)[k]'hk = .int .i64 ((fD a0 a1 a2 a3 a4 a5 a6 k : Nat) : Int)) := Lib.hid (fun k hk => by
    rw [getD7 a0 a1 a2 a3 a4 a5 a6 k hk]; have := at7_le a0 a1 a2 a3 a4 a5 a6 (k : Int) h; unfold fD; congr 1; omega)
  clear hi h
  obtain ⟨fd, hfd⟩ : ∃ fd, fD a0 a1 a2 a3 a4 a5 a6 = fd := ⟨_, rfl⟩
  rw [hfd] at HF HA
  rw [hfd]
  clear hfd
  go_enter Try.func49, Try.ntmps49
  go_wp2_with ((go_at_call 33; (first | (with_reducible refine (calls_ext (Right_is _ _ _ _ _ _ _ true (tt HR.out) _)).mono ?_) | (with_reducible refine (calls_to_ext (Right_is _ _ _ _ _ _ _ true (tt HR.out) _)).mono ?_)); rintro e w1 ⟨rfl, X, rfl⟩; have hX := X.size; (try simp only [World.size_alloc] at hX)))
  have HB0 : Hid (Below w.heap.size w X.w) := Lib.hid (by (repeat' (first | (with_reducible exact Below.refl _ _) | (with_reducible assumption) | (with_reducible refine Below.setCell ?_ ?_ _) | (with_reducible refine Below.alloc ?_ ?_ _) | (with_reducible refine Below.drew ?_) | (with_reducible refine below_drewN ?_ _) | (with_reducible refine Ext.grown _ ?_ ?_) | (with_reducible exact Nat.le_refl _) | omega | (simp only [World.size_alloc, World.size_setCell, World.size_drew]; omega) | (simp; omega) | (simp; done))))
  have hX0 := HB0.out.size
  go_loopw [3, 11] (fun v i wr => ∃ k : Nat, k ≤ 7 ∧ i = .int .i64 k ∧ Hid (wr.ownsRow w.heap.size 25 2 v (il fd k).length (ilc (il fd k))) ∧ Hid (Below w.heap.size w wr)) (fun _ i _ => 7 - (intOf i).toNat)
  case atStart => exact ⟨0, by omega, rfl, Lib.hid (own_none _ _ _ _), HB0⟩
  case round =>
    obtain ⟨k, hk, rfl, hown, hb⟩ := hrel
    by_cases hlt : k < 7
    · have hgd := HA.out k hlt
      have hk6 : (k : Int) < 7 := by omega
      have hf2 := HF.out k
      have hl2 := il_len_le fd HF.out k
      go_wp2
      go_loopw [3, 6] (fun v i wx => ∃ j : Nat, j ≤ fd k ∧ i = .int .i64 ((j : Int) + 1) ∧ Hid (wx.ownsRow w.heap.size 25 2 v ((il fd k).length + j) (ilc (il fd k ++ part k j))) ∧ Hid (Below w.heap.size w wx)) (fun _ i _ => fd k + 1 - (intOf i).toNat)
      case atStart => exact ⟨0, by omega, by go_num, Lib.hid (by simpa [part] using hown.out), hb⟩
      case round =>
        obtain ⟨j, hj, rfl, hown2, hb2⟩ := hrel
        by_cases hjl : j < fd k
        · have hle : (j : Int) + 1 ≤ (fd k : Int) := by omega
          have hbs := hb2.out.size
          go_wp2_with (at_builtin; refine append_one (w0 := w) w.heap.size rfl (.tmp 20) (.tmp 24) 43 25 (.agg #[.int .i64 0, .int .i64 0]) 2 16 rfl Try.underlying43 HI.out rfl (by decide) (by decide) _ _ _ [.int .i64 (k : Int), .int .i64 ((j : Int) + 1)] rfl rfl rfl (by simp [Value.oneCell']) hown2.out hb2.out (by omega) (by omega) ?_; intro v1 w2 hown3 hb3 hs2; have hown4 := Lib.hid hown3; have hb4 := Lib.hid hb3; clear hown3 hb3)
          go_roundw
          case rel => exact ⟨j + 1, by omega, by go_num, Lib.hid (by rw [part_succ, ← List.append_assoc, ilc_append (_ ++ _)]; exact hown4.out), hb4⟩
          case measure => simp [intOf]; omega
        · have hle : ¬ (j : Int) + 1 ≤ (fd k : Int) := by omega
          have hjf : j = fd k := by omega
          subst hjf
          go_wp2
          go_roundw
          case rel => exact ⟨k + 1, by omega, by go_num, Lib.hid (by rw [il_succ, List.length_append, part_len]; exact hown2.out), hb2⟩
          case measure => simp [intOf]; omega
    · have hk7 : k = 7 := by omega
      subst hk7
      go_wp2
      go_ret
      exact ⟨_, rfl, hown.out, hb.out⟩

set_option maxHeartbeats 4000000 in
theorem Count_none (a0 a1 a2 a3 a4 a5 a6 : Int) (h : ¬ (0 ≤ a0 ∧ a0 ≤ 1048576 ∧ 0 ≤ a1 ∧ a1 ≤ 1048576 ∧ 0 ≤ a2 ∧ a2 ≤ 1048576 ∧ 0 ≤ a3 ∧ a3 ≤ 1048576 ∧ 0 ≤ a4 ∧ a4 ≤ 1048576 ∧ 0 ≤ a5 ∧ a5 ≤ 1048576 ∧ 0 ≤ a6 ∧ a6 ≤ 1048576)) (w : World) :
    Calls Try.prog 50 #[.agg #[.int .i64 a0, .int .i64 a1, .int .i64 a2, .int .i64 a3, .int .i64 a4, .int .i64 a5, .int .i64 a6]] w fun e w' => e = .returned (.int .i64 0) ∧ Below w.heap.size w w' := by
  go_enter Try.func50, Try.ntmps50
  go_wp2_with ((go_at_call 33; (first | (with_reducible refine (calls_ext (Right_is _ _ _ _ _ _ _ false (ff h) _)).mono ?_) | (with_reducible refine (calls_to_ext (Right_is _ _ _ _ _ _ _ false (ff h) _)).mono ?_)); rintro e w1 ⟨rfl, X, rfl⟩; have hX := X.size; (try simp only [World.size_alloc] at hX)))
  go_ret
  exact ⟨rfl, by (repeat' (first | (with_reducible exact Below.refl _ _) | (with_reducible assumption) | (with_reducible refine Below.setCell ?_ ?_ _) | (with_reducible refine Below.alloc ?_ ?_ _) | (with_reducible refine Below.drew ?_) | (with_reducible refine below_drewN ?_ _) | (with_reducible refine Ext.grown _ ?_ ?_) | (with_reducible exact Nat.le_refl _) | omega | (simp only [World.size_alloc, World.size_setCell, World.size_drew]; omega) | (simp; omega) | (simp; done)))⟩
theorem wrapS (x : Int) (h : 0 ≤ x ∧ x ≤ 1400) : IntKind.i64.wrap x = x := by rw [IntKind.wrap_i64]; omega
set_option maxHeartbeats 4000000 in
theorem Count_is (a0 a1 a2 a3 a4 a5 a6 : Int) (h : 0 ≤ a0 ∧ a0 ≤ 200 ∧ 0 ≤ a1 ∧ a1 ≤ 200 ∧ 0 ≤ a2 ∧ a2 ≤ 200 ∧ 0 ≤ a3 ∧ a3 ≤ 200 ∧ 0 ≤ a4 ∧ a4 ≤ 200 ∧ 0 ≤ a5 ∧ a5 ≤ 200 ∧ 0 ≤ a6 ∧ a6 ≤ 200) (x : Int) (hx : x = a0 + a1 + a2 + a3 + a4 + a5 + a6) (w : World) :
    Calls Try.prog 50 #[.agg #[.int .i64 a0, .int .i64 a1, .int .i64 a2, .int .i64 a3, .int .i64 a4, .int .i64 a5, .int .i64 a6]] w fun e w' => e = .returned (.int .i64 x) ∧ Below w.heap.size w w' := by
  have HR : Hid (0 ≤ a0 ∧ a0 ≤ 1048576 ∧ 0 ≤ a1 ∧ a1 ≤ 1048576 ∧ 0 ≤ a2 ∧ a2 ≤ 1048576 ∧ 0 ≤ a3 ∧ a3 ≤ 1048576 ∧ 0 ≤ a4 ∧ a4 ≤ 1048576 ∧ 0 ≤ a5 ∧ a5 ≤ 1048576 ∧ 0 ≤ a6 ∧ a6 ≤ 1048576) := Lib.hid (by omega)
  have s1 : wrap64 (0 + a0) = a0 := by unfold wrap64; omega
  have s2 : wrap64 (a0 + a1) = a0 + a1 := by unfold wrap64; omega
  have s3 : wrap64 (a0 + a1 + a2) = a0 + a1 + a2 := by unfold wrap64; omega
  have s4 : wrap64 (a0 + a1 + a2 + a3) = a0 + a1 + a2 + a3 := by unfold wrap64; omega
  have s5 : wrap64 (a0 + a1 + a2 + a3 + a4) = a0 + a1 + a2 + a3 + a4 := by unfold wrap64; omega
  have s6 : wrap64 (a0 + a1 + a2 + a3 + a4 + a5) = a0 + a1 + a2 + a3 + a4 + a5 := by unfold wrap64; omega
  have s7 : wrap64 (a0 + a1 + a2 + a3 + a4 + a5 + a6) = a0 + a1 + a2 + a3 + a4 + a5 + a6 := by unfold wrap64; omega
  have HX := Lib.hid hx
  clear hx
  go_enter Try.func50, Try.ntmps50
  go_wp2_with ((go_at_call 33; (first | (with_reducible refine (calls_ext (Right_is _ _ _ _ _ _ _ true (tt HR.out) _)).mono ?_) | (with_reducible refine (calls_to_ext (Right_is _ _ _ _ _ _ _ true (tt HR.out) _)).mono ?_)); rintro e w1 ⟨rfl, X, rfl⟩; have hX := X.size; (try simp only [World.size_alloc] at hX)))
  go_rounds 8
  go_ret
  exact ⟨ret_int HX.out.symm, by (repeat' (first | (with_reducible exact Below.refl _ _) | (with_reducible assumption) | (with_reducible refine Below.setCell ?_ ?_ _) | (with_reducible refine Below.alloc ?_ ?_ _) | (with_reducible refine Below.drew ?_) | (with_reducible refine below_drewN ?_ _) | (with_reducible refine Ext.grown _ ?_ ?_) | (with_reducible exact Nat.le_refl _) | omega | (simp only [World.size_alloc, World.size_setCell, World.size_drew]; omega) | (simp; omega) | (simp; done)))⟩

end Go.Proofs.Ythnmccolfckhdaa
