/- Small general lemmas: worlds that have only grown, arrays that are indexed, max and min. -/
import Derived.Test.YtcoohapohkbnpaaProg
import Derived.WalkKit
import Derived.WalkSpells
import Derived.WalkLawsBesides
import Derived.Handy
import Derived.Lib.Hide
import Derived.Deep.QuietTactic
import Derived.BigQuiet
namespace Go.Proofs.Ytcoohapohkbnpaa
open Go.RowKit
/-- A world that has only grown since W. -/
structure Ext (W : World) where
  w : World
  below : Below W.heap.size W w
instance (W : World) : Nonempty (Ext W) := ⟨⟨W, Below.refl _ _⟩⟩
theorem Ext.cell {W : World} (X : Ext W) (b o : Nat) (h : b < W.heap.size) : X.w.cell? ⟨b, o, none⟩ = W.cell? ⟨b, o, none⟩ := X.below.cell (p := ⟨b, o, none⟩) h
theorem Ext.frozen {W : World} (X : Ext W) (b o : Nat) (h : b < W.heap.size) : X.w.frozen? ⟨b, o, none⟩ = W.frozen? ⟨b, o, none⟩ := X.below.frozen (p := ⟨b, o, none⟩) h
theorem Ext.size {W : World} (X : Ext W) : W.heap.size ≤ X.w.heap.size := X.below.size
theorem calls_ext {P : Program} {f : FuncId} {args : Array Value} {W : World} {X : Ext W} {v : Value} (h : Calls P f args X.w fun e w' => e = .returned v ∧ Below X.w.heap.size X.w w') :
    Calls P f args X.w fun e w'' => e = .returned v ∧ ∃ Y : Ext W, w'' = Y.w :=
  h.mono fun _ w' ⟨he, hb⟩ => ⟨he, ⟨w', X.below.trans (hb.mono X.below.size)⟩, rfl⟩
theorem calls_to_ext {P : Program} {f : FuncId} {args : Array Value} {W : World} {v : Value} (h : Calls P f args W fun e w' => e = .returned v ∧ Below W.heap.size W w') :
    Calls P f args W fun e w'' => e = .returned v ∧ ∃ Y : Ext W, w'' = Y.w :=
  h.mono fun _ w' ⟨he, hb⟩ => ⟨he, ⟨w', hb⟩, rfl⟩
theorem Ext.grown {B : Nat} {w W : World} (X : Ext W) (h : Below B w W) (hB : B ≤ W.heap.size) : Below B w X.w := h.trans (X.below.mono hB)
theorem Ext.cell_set {W : World} (X : Ext W) (b o : Nat) (v : Value) (h : b < W.heap.size) (hs : (W.cell? ⟨b, o, none⟩).isSome = true) : (X.w.setCell ⟨b, o, none⟩ v).cell? ⟨b, o, none⟩ = some v :=
  World.cell?_setCell_same' _ _ _ (by rw [X.cell b o h]; exact hs)
theorem below_drewN {B : Nat} {a w : World} (h : Below B a w) (n : Nat) : Below B a (w.drewN n) := ⟨h.os, h.tape, h.output, h.size, h.block⟩
theorem wp_region_ext {P : Program} {id : Nat} {Q : Exit → Act → World → Prop} {a : Act} {w : World} {l : List Oper} (hm : P.follows .mixedOrders = true) (hB : Region.lexB .any l.toArray = true)
    (h : wpQuiet P l.toArray (fun w' => ∃ X : Ext w, w' = X.w) (fun a' => ∀ w', (∃ X : Ext w, w' = X.w) → Q .normal a' w') l a) : (Code.region id l.toArray true).wp P Q a w :=
  wp_region_quiet (C := fun w' => ∃ X : Ext w, w' = X.w) hm hB ⟨⟨w.drew, (Below.refl _ _).drew⟩, rfl⟩ (by simpa using h)
theorem max2_int (k k' : IntKind) (x y : Int) : Builtin.max2 (.int k x) (.int k' y) = pure (.int k (max x y)) := by
  simp only [Builtin.max2, gt_iff_lt]; congr 2; omega
theorem min2_int (k k' : IntKind) (x y : Int) : Builtin.min2 (.int k x) (.int k' y) = pure (.int k (min x y)) := by
  simp only [Builtin.min2]; congr 2; omega
theorem max_two (ats : Array TypeId) (ty : TypeId) (a b : Value) : Builtin.max_ ats ty #[a, b] = (Builtin.max2 a b >>= fun s => pure s) := by simp only [Builtin.max_, List.foldlM_cons, List.foldlM_nil]
theorem min_two (ats : Array TypeId) (ty : TypeId) (a b : Value) : Builtin.min_ ats ty #[a, b] = (Builtin.min2 a b >>= fun s => pure s) := by simp only [Builtin.min_, List.foldlM_cons, List.foldlM_nil]
theorem run_index_arr {P : Program} (T e : TypeId) (n : Nat) (k : IntKind) (z : IntKind) (hT : P.underlying T = some (.array n e)) (he : P.underlying e = some (.int z)) (hs : (P.info? e).map (·.size) = some 1)
    (w : World) (cs : Array Value) (i : Int) (h0 : 0 ≤ i) (h1 : i < n) (hc : cs.size = n) :
    (Instr.index T (.agg cs) (.int k i)).run P w = .ok (cs.getD i.toNat undef) w := by
  obtain ⟨ti, hi, hs1⟩ := Option.map_eq_some_iff.1 hs
  have hi2 : i.toNat < cs.size := by omega
  have hagg : (isAgg e).run P w = .ok false w := by
    unfold isAgg
    rw [Sem.run_bind, run_underlying he w]
    simp
  simp [Instr.index, asIntOf, Sem.run_bind, run_underlying hT, h0, h1, sizeOf, typeInfo, hi, hs1, part, hagg, hi2]
theorem run_part_int {P : Program} (e : TypeId) (z : IntKind) (he : P.underlying e = some (.int z)) (w : World) (cs : Array Value) (i : Nat) (v : Value) (hi : cs[i]? = some v) :
    (part e cs i).run P w = .ok v w := by
  have hagg : (isAgg e).run P w = .ok false w := by
    unfold isAgg
    rw [Sem.run_bind, run_underlying he w]
    simp
  simp [part, Sem.run_bind, hagg, hi]
def eqInts (d : Nat) (e : TypeId) (xs ys : Array Value) : List Nat → Sem Bool
  | [] => pure true
  | i :: is => do
    let a ← part e xs i
    let b ← part e ys i
    let r ← Op.equalIn d e a b
    if (!r) = true then pure false else eqInts d e xs ys is
theorem run_equalIn_arr {P : Program} (w : World) (d n : Nat) (T e : TypeId) (xs ys : Array Value) (hT : P.underlying T = some (.array n e)) (hs : (P.info? e).map (·.size) = some 1) :
    (Op.equalIn (d + 1) T (.agg xs) (.agg ys)).run P w = (eqInts d e xs ys (List.range n)).run P w := by
  obtain ⟨ti, hi, hs1⟩ := Option.map_eq_some_iff.1 hs
  simp only [Op.equalIn, Sem.run_bind, run_underlying hT, Result.andThen_ok, sizeOf, typeInfo, run_program, hi, hs1, Sem.run_pure, Nat.mul_one, Std.Legacy.Range.forIn_eq_forIn_range']
  simp only [Std.Legacy.Range.size, Nat.sub_zero, Nat.add_sub_cancel, Nat.div_one, ← List.range_eq_range']
  generalize List.range n = l
  induction l generalizing w with
  | nil => simp [eqInts]
  | cons i is ih =>
    simp only [List.forIn_cons, eqInts, Sem.run_bind, Sem.run_ite]
    generalize (part e xs i).run P w = r1
    cases r1 with
    | ok a w1 =>
      simp only [Result.andThen_ok]
      generalize (part e ys i).run P w1 = r2
      cases r2 with
      | ok b w2 =>
        simp only [Result.andThen_ok]
        generalize (Op.equalIn d e a b).run P w2 = r3
        cases r3 with
        | ok r w3 =>
          cases r
          · simp only [Result.andThen_ok, Bool.not_false, if_true, Sem.run_pure]
          · simp only [Result.andThen_ok, Bool.not_true, Bool.false_eq_true, if_false, Sem.run_pure]
            exact ih w3
        | halt x w3 => simp [Result.andThen]
      | halt x w2 => simp [Result.andThen]
    | halt x w1 => simp [Result.andThen]
theorem run_eqInts_cons {P : Program} (w : World) (d : Nat) (e : TypeId) (z : IntKind) (he : P.underlying e = some (.int z)) (xs ys : Array Value) (i : Nat) (is : List Nat) (k : IntKind) (x y : Int) (hx : xs[i]? = some (.int k x)) (hy : ys[i]? = some (.int k y)) (b : Bool)
    (ht : (eqInts (d + 1) e xs ys is).run P w = .ok b w) : (eqInts (d + 1) e xs ys (i :: is)).run P w = .ok (x == y && b) w := by
  simp only [eqInts, Sem.run_bind, run_part_int e z he w xs i _ hx, run_part_int e z he w ys i _ hy, Result.andThen_ok, run_equalIn_int (h := he)]
  cases h : (x == y) <;> simp [ht]
theorem run_equalIn_arr7 {P : Program} (w : World) (d : Nat) (T e : TypeId) (z k : IntKind) (hT : P.underlying T = some (.array 7 e)) (he : P.underlying e = some (.int z)) (hs : (P.info? e).map (·.size) = some 1) (x0 x1 x2 x3 x4 x5 x6 y0 y1 y2 y3 y4 y5 y6 : Int) :
    (Op.equalIn (d + 2) T (.agg #[.int k x0, .int k x1, .int k x2, .int k x3, .int k x4, .int k x5, .int k x6]) (.agg #[.int k y0, .int k y1, .int k y2, .int k y3, .int k y4, .int k y5, .int k y6])).run P w =
      .ok (x0 == y0 && (x1 == y1 && (x2 == y2 && (x3 == y3 && (x4 == y4 && (x5 == y5 && (x6 == y6 && true))))))) w := by
  rw [run_equalIn_arr w (d + 1) 7 T e _ _ hT hs]
  show (eqInts (d + 1) e _ _ [0, 1, 2, 3, 4, 5, 6]).run P w = _
  refine run_eqInts_cons w d e z he _ _ _ _ k _ _ rfl rfl _ ?_
  refine run_eqInts_cons w d e z he _ _ _ _ k _ _ rfl rfl _ ?_
  refine run_eqInts_cons w d e z he _ _ _ _ k _ _ rfl rfl _ ?_
  refine run_eqInts_cons w d e z he _ _ _ _ k _ _ rfl rfl _ ?_
  refine run_eqInts_cons w d e z he _ _ _ _ k _ _ rfl rfl _ ?_
  refine run_eqInts_cons w d e z he _ _ _ _ k _ _ rfl rfl _ ?_
  refine run_eqInts_cons w d e z he _ _ _ _ k _ _ rfl rfl _ ?_
  simp [eqInts]
theorem szlt1 (n : Nat) : (n < n + 1) = True := eq_true (by omega)
theorem szlt2 (n : Nat) : (n < n + 1 + 1) = True := eq_true (by omega)
theorem szlt3 (n : Nat) : (n < n + 1 + 1 + 1) = True := eq_true (by omega)
theorem szlt4 (n : Nat) : (n < n + 1 + 1 + 1 + 1) = True := eq_true (by omega)
theorem szlt5 (n : Nat) : (n < n + 1 + 1 + 1 + 1 + 1) = True := eq_true (by omega)
theorem szlt6 (n : Nat) : (n < n + 1 + 1 + 1 + 1 + 1 + 1) = True := eq_true (by omega)
theorem szlt7 (n : Nat) : (n < n + 1 + 1 + 1 + 1 + 1 + 1 + 1) = True := eq_true (by omega)
theorem szlt8 (n : Nat) : (n < n + 1 + 1 + 1 + 1 + 1 + 1 + 1 + 1) = True := eq_true (by omega)
theorem szlt9 (n : Nat) : (n < n + 1 + 1 + 1 + 1 + 1 + 1 + 1 + 1 + 1) = True := eq_true (by omega)
theorem szlt10 (n : Nat) : (n < n + 1 + 1 + 1 + 1 + 1 + 1 + 1 + 1 + 1 + 1) = True := eq_true (by omega)
theorem szlt11 (n : Nat) : (n < n + 1 + 1 + 1 + 1 + 1 + 1 + 1 + 1 + 1 + 1 + 1) = True := eq_true (by omega)
theorem szlt12 (n : Nat) : (n < n + 1 + 1 + 1 + 1 + 1 + 1 + 1 + 1 + 1 + 1 + 1 + 1) = True := eq_true (by omega)
theorem tt {p : Prop} [Decidable p] (h : p) : true = decide p := (decide_eq_true h).symm
theorem ff {p : Prop} [Decidable p] (h : ¬ p) : false = decide p := (decide_eq_false h).symm
theorem bcell {W w1 : World} (hb : Below W.heap.size W w1) : (∀ b o, b < W.heap.size → w1.cell? ⟨b, o, none⟩ = W.cell? ⟨b, o, none⟩) ∧ (∀ b o, b < W.heap.size → w1.frozen? ⟨b, o, none⟩ = W.frozen? ⟨b, o, none⟩) :=
  ⟨fun b o h => hb.cell (p := ⟨b, o, none⟩) h, fun b o h => hb.frozen (p := ⟨b, o, none⟩) h⟩
theorem ret_bool {a b : Bool} (h : a = b) : Ending.returned (.bool a) = .returned (.bool b) := by rw [h]
theorem ret_int {k : IntKind} {a b : Int} (h : a = b) : Ending.returned (.int k a) = .returned (.int k b) := by rw [h]
end Go.Proofs.Ytcoohapohkbnpaa
