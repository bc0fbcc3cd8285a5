/- What the claim LBE leans on: texts joined by bundle.py, a program of ours; the words cut down to what is used. -/
import Derived.Test.YtjgcmmpfaemkiaaGreatBLBE3
import Derived.Test.YtjgcmmpfaemkiaaGreatProg
import Derived.Below
import Derived.Deep.Draws
import Derived.Deep.AppendLies
import Derived.Maps.AppendAt
import Derived.OwnWalk
import Derived.Laws.BytesArg
import Derived.Laws.MakeOwn
import Derived.Laws.OwnMore
import Derived.Deep.OwnRows
import Derived.Tactics
import Derived.Lib.ConvBytes
import Derived.Laws.Slices
import Derived.WalkKit
import Derived.KernelRfl
import Derived.RowKit3
import Derived.Deep.LoopGhost
import Derived.Deep.QuietTactic
import Derived.BigQuiet
import Derived.WideLaws
import Derived.Deep.DeepCutAuto
import Derived.Deep.CutBlock
import Derived.Deep.RegionHeld3
import Derived.Laws.Rows
import Derived.Lib.AppendStr
import Derived.ArgAppend
import Derived.Laws.IdiomCopy
import Derived.OrdersHeld
import Derived.Laws.BitsLemmas
import Derived.RowKit
import Derived.WalkLawsBesides
import Derived.WalkSpells
import Derived.Sort.Walk0
import Derived.Handy
import Derived.Lib.Hide
section
namespace Go.Proofs.YtjgcmmpfaemkiaaGreat.X
open Go.RowKit Go.Proofs.YtjgcmmpfaemkiaaGreatW.PrintWords Go.Proofs.YtjgcmmpfaemkiaaGreatW.PrintLast Go.Proofs.YtjgcmmpfaemkiaaGreatW.PrintMore
attribute [local go_sem] max2_int min2_int max_two min_two max_three min_three max_four min_four   -- for this text's walks alone
set_option linter.unusedVariables false
set_option linter.unusedSimpArgs false



def errW : Option Int → Value
  | none => .nilIface
  | some c => .iface 0 (.int .i64 c)
theorem errW_none : errW none = .nilIface := rfl
theorem errW_some (c : Int) : errW (some c) = .iface 0 (.int .i64 c) := rfl

theorem info9 : (Tryz.prog.info? 9).map (fun i => (i.zero, i.size, i.bytes)) = some (some (.string ⟨#[]⟩), 1, 16) := by kernel_rfl
structure S27 where
  f0 : Int
  f1 : Int
structure S29 where
  f0 : Int
  f1 : Int
structure S96 where
  f0 : ByteArray
  f1 : S29
structure S98 where
  f0 : ByteArray
  f1 : ByteArray
structure S33 where
  f0 : Int
  f1 : S27
  f2 : S29
  f3 : Int
  f4 : (List S96)
  f5 : (List S98)
  f6 : Bool
structure S25 where
  f0 : Int
  f1 : Int
structure S23 where
  f0 : Int
  f1 : Int
structure S35 where
  f0 : Int
  f1 : Int
  f2 : Int
  f3 : Int
  f4 : Int
  f5 : Int
  f6 : Int
structure S37 where
  f0 : S25
  f1 : Int
  f2 : S23
  f3 : S23
  f4 : S33
  f5 : Int
  f6 : S35
  f7 : Bool
structure S58 where
  f0 : Int
  f1 : S37
structure S80 where
  f0 : Int
  f1 : S37
end Go.Proofs.YtjgcmmpfaemkiaaGreat.X
end
section
namespace Go.Proofs.YtjgcmmpfaemkiaaGreat.Strs
open Go.RowKit Go.Proofs.YtjgcmmpfaemkiaaGreatW.PrintWords Go.Proofs.YtjgcmmpfaemkiaaGreatW.PrintLast Go.Proofs.YtjgcmmpfaemkiaaGreatW.PrintMore Go.Proofs.YtjgcmmpfaemkiaaGreat.X
set_option linter.unusedSimpArgs false
set_option linter.unusedVariables false
theorem sorted_unique {α : Type} (R : α → α → Prop) (irr : ∀ x, ¬ R x x) (tr : ∀ x y z, R x y → R y z → R x z) :
    ∀ l m : List α, l.Pairwise R → m.Pairwise R → (∀ x, x ∈ l ↔ x ∈ m) → l = m
  | [], [], _, _, _ => rfl
  | [], y :: m, _, _, h => absurd ((h y).2 (by simp)) (by simp)
  | x :: l, [], _, _, h => absurd ((h x).1 (by simp)) (by simp)
  | x :: l, y :: m, hl, hm, h => by
    rw [List.pairwise_cons] at hl hm
    have hxy : x = y := by
      rcases List.mem_cons.1 ((h x).1 (by simp)) with e | e
      · exact e
      · rcases List.mem_cons.1 ((h y).2 (by simp)) with e2 | e2
        · exact e2.symm
        · exact absurd (tr _ _ _ (hm.1 x e) (hl.1 y e2)) (irr y)
    subst hxy
    congr 1
    refine sorted_unique R irr tr l m hl.2 hm.2 (fun z => ⟨fun hz => ?_, fun hz => ?_⟩)
    · rcases List.mem_cons.1 ((h z).1 (List.mem_cons_of_mem _ hz)) with e | e
      · subst e; exact absurd (hl.1 z hz) (irr z)
      · exact e
    · rcases List.mem_cons.1 ((h z).2 (List.mem_cons_of_mem _ hz)) with e | e
      · subst e; exact absurd (hm.1 z hz) (irr z)
      · exact e
theorem toList_eq (s : ByteArray) : s.toList = s.data.toList := by
  exact ByteArray.toList_eq s
def blt (x y : ByteArray) : Prop := x.data.toList < y.data.toList
theorem blt_irrefl (x : ByteArray) : ¬ blt x x := List.lt_irrefl _
theorem blt_trans (x y z : ByteArray) (h : blt x y) (h2 : blt y z) : blt x z := List.lt_trans h h2
theorem bytes_ext {x y : ByteArray} (h : x.data.toList = y.data.toList) : x = y := ByteArray.ext (Array.toList_inj.1 h)
def Joined (a b r : List ByteArray) : Prop := r.Pairwise blt ∧ ∀ x, x ∈ r ↔ x ∈ a ∨ x ∈ b
theorem Joined.unique {a b r r' : List ByteArray} (h : Joined a b r) (h' : Joined a b r') : r = r' :=
  sorted_unique blt blt_irrefl blt_trans r r' h.1 h'.1 (fun x => (h.2 x).trans (h'.2 x).symm)
theorem Joined.symm {a b r : List ByteArray} (h : Joined a b r) : Joined b a r := ⟨h.1, fun x => (h.2 x).trans or_comm⟩
theorem Joined.self {r : List ByteArray} (h : r.Pairwise blt) : Joined r r r := ⟨h, fun x => by simp⟩
instance (x y : ByteArray) : Decidable (blt x y) := by unfold blt; exact inferInstance
theorem sz_len (s : ByteArray) : s.size = s.data.toList.length := by rw [Array.length_toList]; rfl
def inB (l : List ByteArray) (x : ByteArray) : Bool := l.any (fun y => decide (y.data.toList = x.data.toList))
theorem inB_iff (l : List ByteArray) (x : ByteArray) : inB l x = true ↔ x ∈ l := by
  unfold inB
  rw [List.any_eq_true]
  constructor
  · rintro ⟨y, hy, h⟩; exact bytes_ext (of_decide_eq_true h) ▸ hy
  · intro h; exact ⟨x, h, decide_eq_true rfl⟩
theorem drop_at (l : List UInt8) (i : Nat) (h : i < l.length) : l.drop i = l[i] :: l.drop (i + 1) := List.drop_eq_getElem_cons h
theorem bt_el (s : ByteArray) (i : Nat) (h : i < s.data.toList.length) : bt s (i : Int) = ((s.data.toList[i]).toNat : Int) := by
  have hs : i < s.size := by rw [sz_len]; exact h
  unfold bt
  rw [Int.toNat_natCast, dif_pos hs]
  rfl
def few (l : List ByteArray) : Prop := l.length ≤ 40 ∧ ∀ x ∈ l, x.size ≤ 100
end Go.Proofs.YtjgcmmpfaemkiaaGreat.Strs
end
section
namespace Go.Proofs.YtjgcmmpfaemkiaaGreat.Strs
open Go.RowKit Go.Proofs.YtjgcmmpfaemkiaaGreatW.PrintWords Go.Proofs.YtjgcmmpfaemkiaaGreatW.PrintLast Go.Proofs.YtjgcmmpfaemkiaaGreatW.PrintMore Go.Proofs.YtjgcmmpfaemkiaaGreat.X
set_option linter.unusedSimpArgs false
set_option linter.unusedVariables false
theorem blt_tri (x y : ByteArray) (h : ¬ blt x y) (hne : x ≠ y) : blt y x := by
  unfold blt at *
  rcases Std.lt_trichotomy x.data.toList y.data.toList with h1 | h1 | h1
  · exact absurd h1 h
  · exact absurd (bytes_ext h1) hne
  · exact h1
theorem ins_sorted (out : List ByteArray) (x : ByteArray) (q : Nat) (h : out.Pairwise blt) (h1 : ∀ y ∈ out.take q, blt y x) (h2 : ∀ y ∈ out.drop q, blt x y) :
    (out.take q ++ [x] ++ out.drop q).Pairwise blt := by
  have hh : (out.take q ++ out.drop q).Pairwise blt := by rw [List.take_append_drop]; exact h
  rw [List.pairwise_append] at hh
  rw [List.append_assoc, List.pairwise_append]
  refine ⟨hh.1, ?_, ?_⟩
  · rw [List.singleton_append, List.pairwise_cons]; exact ⟨h2, hh.2.1⟩
  · intro a ha b hb
    rw [List.singleton_append, List.mem_cons] at hb
    rcases hb with rfl | hb
    · exact h1 a ha
    · exact hh.2.2 a ha b hb
theorem ins_mem (out : List ByteArray) (x : ByteArray) (q : Nat) (y : ByteArray) : y ∈ out.take q ++ [x] ++ out.drop q ↔ y ∈ out ∨ y = x := by
  conv => rhs; rw [← List.take_append_drop q out]
  simp only [List.mem_append, List.mem_singleton]
  constructor
  · rintro ((h | h) | h)
    · exact .inl (.inl h)
    · exact .inr h
    · exact .inl (.inr h)
  · rintro ((h | h) | h)
    · exact .inl (.inl h)
    · exact .inr h
    · exact .inl (.inr h)
theorem ins_len (out : List ByteArray) (x : ByteArray) (q : Nat) : (out.take q ++ [x] ++ out.drop q).length = out.length + 1 := by
  simp only [List.length_append, List.length_take, List.length_drop, List.length_singleton]; omega
def JoinedTo (l r : List ByteArray) : Prop := r.Pairwise blt ∧ ∀ x, x ∈ r ↔ x ∈ l
theorem head_below (out : List ByteArray) (x : ByteArray) (q : Nat) (h : out.Pairwise blt) (hq : q < out.length) (hx : x ∉ out) (hb : ¬ blt out[q] x) : ∀ y ∈ out.drop q, blt x y := by
  have h0 : blt x out[q] := blt_tri _ _ hb (fun e => hx (e ▸ List.getElem_mem hq))
  intro y hy
  rw [List.drop_eq_getElem_cons hq, List.mem_cons] at hy
  rcases hy with rfl | hy
  · exact h0
  · have hh : (out.drop q).Pairwise blt := h.sublist (List.drop_sublist _ _)
    rw [List.drop_eq_getElem_cons hq, List.pairwise_cons] at hh
    exact blt_trans _ _ _ h0 (hh.1 y hy)
theorem rd_el (l : List ByteArray) (i : Nat) (h : i < l.length) : rdOf ByteArray.empty l (i : Int) = l[i] := by
  unfold rdOf; rw [Int.toNat_natCast]; simp [List.getD_eq_getElem?_getD, h]
end Go.Proofs.YtjgcmmpfaemkiaaGreat.Strs
end
section
namespace Go.Proofs.YtjgcmmpfaemkiaaGreat
open Go.RowKit
structure Ext (W : World) where
  w : World
  below : Below W.heap.size W w
instance (W : World) : Nonempty (Ext W) := ⟨⟨W, Below.refl _ _⟩⟩
theorem Ext.cell {W : World} (X : Ext W) (b o : Nat) (h : b < W.heap.size) : X.w.cell? ⟨b, o, none⟩ = W.cell? ⟨b, o, none⟩ := X.below.cell (p := ⟨b, o, none⟩) h
theorem Ext.size {W : World} (X : Ext W) : W.heap.size ≤ X.w.heap.size := X.below.size
theorem Ext.grown {B : Nat} {w W : World} (X : Ext W) (h : Below B w W) (hB : B ≤ W.heap.size) : Below B w X.w := h.trans (X.below.mono hB)
theorem max2_int (k k' : IntKind) (x y : Int) : Builtin.max2 (.int k x) (.int k' y) = pure (.int k (max x y)) := by
  simp only [Builtin.max2, gt_iff_lt]; congr 2; omega
theorem min2_int (k k' : IntKind) (x y : Int) : Builtin.min2 (.int k x) (.int k' y) = pure (.int k (min x y)) := by
  simp only [Builtin.min2]; congr 2; omega
theorem max_two (ats : Array TypeId) (ty : TypeId) (a b : Value) : Builtin.max_ ats ty #[a, b] = (Builtin.max2 a b >>= fun s => pure s) := by simp only [Builtin.max_, List.foldlM_cons, List.foldlM_nil]
theorem min_two (ats : Array TypeId) (ty : TypeId) (a b : Value) : Builtin.min_ ats ty #[a, b] = (Builtin.min2 a b >>= fun s => pure s) := by simp only [Builtin.min_, List.foldlM_cons, List.foldlM_nil]
theorem tt {p : Prop} [Decidable p] (h : p) : true = decide p := (decide_eq_true h).symm
end Go.Proofs.YtjgcmmpfaemkiaaGreat
end
section
namespace Go.Proofs.YtjgcmmpfaemkiaaGreat
open Go.RowKit
set_option linter.unusedSimpArgs false
set_option linter.unusedVariables false
theorem own_none (W : World) (base : Nat) (e : TypeId) (size : Nat) : W.ownsRow base e size (.slice none 0 0) 0 [] := ⟨by simp, .inl ⟨rfl, rfl⟩⟩
theorem own_block_le {w : World} {base n : Nat} {e : TypeId} {size : Nat} {v : Value} {xs : List Value} (h : w.ownsRow base e size v n xs) (k : Nat) (hk : v.ownBlock = some k) : base ≤ k := by
  rcases h.2 with ⟨rfl, _⟩ | ⟨g, cap, cur, rfl, hb, _⟩
  · simp [Value.ownBlock] at hk
  · have : g = k := by simpa [Value.ownBlock] using hk
    omega
section
variable {P : Program} {ops : Array Oper} {rest : List Oper} {o : Oper} {a : Act} {Q : Exit → Act → World → Prop}
theorem append_one {w0 W : World} (base : Nat) (hgd : o.guard = none) (s x : Operand) (t e : TypeId) (z : Value) (size bytes : Nat)
    (ho : o.op = .call { callee := .builtin .append, args := #[s, x], argTypes := #[t, t] })
    (ht : P.underlying t = some (.slice e)) (hinfo : (P.info? e).map (fun i => (i.zero, i.size, i.bytes)) = some (some z, size, bytes)) (hz : z.cells.size = size) (hsz : 0 < size) (hb0 : 0 < bytes)
    (v : Value) (n : Nat) (xs ys : List Value) (hs : a.eval s = v) (hx : a.eval x = .slice (some ⟨W.heap.size, 0, none⟩) 1 1) (hy : ys.length = size) (h1 : ∀ u ∈ ys, u.oneCell' = true)
    (HO : W.ownsRow base e size v n xs) (HB : Below base w0 W) (hbase : base ≤ W.heap.size) (hl : (n + 1) * bytes ≤ 140737488355328)
    (h : ∀ v1 w1, w1.ownsRow base e size v1 (n + 1) (xs ++ ys) → Below base w0 w1 → W.heap.size ≤ w1.heap.size → wpList P ops Q rest (a.put o.dst v1) w1) :
    wpList P ops Q (o :: rest) a (W.alloc (.cells ys.toArray e)) := by
  obtain ⟨i0, hi, hzz⟩ := Option.map_eq_some_iff.1 hinfo
  simp only [Prod.mk.injEq] at hzz
  obtain ⟨hz0, hz1, hz2⟩ := hzz
  have hlen : n + 1 ≤ 140737488355328 := Nat.le_trans (Nat.le_mul_of_pos_right _ hb0) hl
  refine wpList_append_own (W.alloc (.cells ys.toArray e)) hgd s x t ho base e i0 z size bytes ht hi hz0 hz1 hz2 hz hsz v n xs hs (HO.alloc _) ⟨W.heap.size, 0, none⟩ 1 1 ys hx (by omega)
    (fun j u hu => ?_) h1 (by simp only [maxLen]; omega) hl (by simp; omega) ?_
  · have ha : (⟨W.heap.size, 0, none⟩ : Addr).add j = ⟨W.heap.size, j, none⟩ := by unfold Addr.add; split <;> simp_all
    rw [ha, World.cell?_alloc_at _ _ _ _ rfl]
    simpa using hu
  · intro v1 w1 hown hg _
    refine h v1 w1 hown ((HB.alloc hbase _).grown hg (by simp; omega) (own_block_le HO)) ?_
    have := hg.size
    simp at this
    omega
end
end Go.Proofs.YtjgcmmpfaemkiaaGreat
end
