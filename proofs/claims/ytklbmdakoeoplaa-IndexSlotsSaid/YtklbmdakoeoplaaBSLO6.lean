/- What the claim SLO leans on: texts joined by bundle.py, a program of ours; the words cut down to what is used. -/
import Derived.Test.YtklbmdakoeoplaaBSLO5
import Derived.WideShapes
import Derived.ProofKit
import Derived.Deep.Slices
import Derived.OpenShut
import Derived.ChangeArms
import Derived.KernelRfl
section
namespace Go.Proofs.Ytklbmdakoeoplaa
open Go.RowKit Go.Deep Go.ChangeShapes Go.WideShapes Go.Proofs.YtklbmdakoeoplaaW.PrintWords Go.Proofs.YtklbmdakoeoplaaW.PrintLast Go.Proofs.YtklbmdakoeoplaaW.PrintMore
set_option linter.unusedVariables false
set_option linter.unusedSimpArgs false
section
variable {H : Type} (enc : TypeId × Value → H) (P : Program) (w : World) (base : Nat) (spare : Nat → Bool) (held : Bool)
/-- Whatever reads as data of type t says something of kind d, of which Q holds. -/
def Opn {α : Type} (t : TypeId) (d : Kd α) (Q : α → Prop) : Prop := ∀ fuel cs y, DataW.trod enc P w base spare held fuel t cs = some y → ∃ a, d.K w a cs ∧ Q a
def OpnL {α : Type} (fs : List (TypeId × Nat)) (o tot : Nat) (d : Kd α) (Q : α → Prop) : Prop :=
  ∀ (n : Nat) (cs : List Value), cs.length = tot → (∀ f ∈ fs, ∃ y, DataW.trod enc P w base spare held n f.1 ((cs.drop f.2).take (P.cellsOf f.1)) = some y) → ∃ a, d.K w a (cs.drop o) ∧ Q a
def inI64 (n : Int) : Prop := -9223372036854775808 ≤ n ∧ n ≤ 9223372036854775807
def inStr (s : ByteArray) : Prop := s.size ≤ maxLen
def inAny {α : Type} (_ : α) : Prop := True
def inAll {α : Type} (Q : α → Prop) (l : List α) : Prop := ∀ x ∈ l, Q x
variable {enc P w base spare held}
theorem Opn.i64 {t : TypeId} (ht : P.underlying t = some (.int .i64)) : Opn enc P w base spare held t (Kd.int .i64) inI64 := by
  intro fuel cs y h
  obtain ⟨n, rfl, _, hw⟩ := DataW.trod_int ht h
  refine ⟨n, rfl, ?_⟩
  simp [Lit.wf, IntKind.min, IntKind.max, IntKind.signed, IntKind.bits] at hw
  unfold inI64
  omega
theorem Opn.other {t : TypeId} {k : IntKind} (ht : P.underlying t = some (.int k)) : Opn enc P w base spare held t (Kd.int k) inAny := by
  intro fuel cs y h
  obtain ⟨n, rfl, _, hw⟩ := DataW.trod_int ht h
  exact ⟨n, rfl, trivial⟩
theorem Opn.bool {t : TypeId} (ht : P.underlying t = some .bool) : Opn enc P w base spare held t Kd.bool inAny := by
  intro fuel cs y h
  obtain ⟨b, rfl, _⟩ := DataW.trod_bool ht h
  exact ⟨b, rfl, trivial⟩
theorem Opn.string {t : TypeId} (ht : P.underlying t = some .string) : Opn enc P w base spare held t Kd.string inStr := by
  intro fuel cs y h
  obtain ⟨s, rfl, _, hs⟩ := DataW.trod_string ht h
  exact ⟨s, rfl, hs⟩
theorem choose_list {α : Type} {R : Nat → α → Prop} : ∀ n, (∀ i, i < n → ∃ a, R i a) → ∃ l : List α, l.length = n ∧ ∀ i a, l[i]? = some a → R i a
  | 0, _ => ⟨[], rfl, fun i a h => by simp at h⟩
  | n + 1, h => by
    obtain ⟨l, hl, hr⟩ := choose_list n (fun i hi => h i (by omega))
    obtain ⟨a, ha⟩ := h n (by omega)
    refine ⟨l ++ [a], by simp [hl], fun i b hb => ?_⟩
    rw [List.getElem?_append] at hb
    split at hb
    · exact hr i b hb
    · rename_i hge
      have : i = n := by
        have h2 := (List.getElem?_eq_some_iff.1 hb).1
        simp at h2
        omega
      subst this
      rw [hl] at hb
      simp at hb
      subst hb
      exact ha
theorem Opn.slice {α : Type} {t e : TypeId} {d : Kd α} {Q : α → Prop} (ht : P.underlying t = some (.slice e)) (hC : P.cellsOf e = d.sz) (he : Opn enc P w base spare held e d Q) : Opn enc P w base spare held t (Kd.slice e d) (inAll Q) := by
  intro fuel cs y h
  rcases open_slice ht h with ⟨rfl, _⟩ | ⟨a, len, cap, m, n, D, Pl, rfl, hb, hl, hm, hmm, _, hi⟩
  · exact ⟨[], ⟨none, 0, rfl, by simp, ⟨rfl, by simp, fun h => by simp at h⟩⟩, by intro x hx; cases hx⟩
  · have hlm : len ≤ m := by rw [hmm]; split <;> omega
    obtain ⟨l, hlen, hR⟩ := choose_list (R := fun i x => (∃ c, c.length = d.sz ∧ d.K w x c ∧ ∀ j u, c[j]? = some u → w.cell? (a.add (i * d.sz + j)) = some u) ∧ Q x) len (fun i hil => by
      obtain ⟨cs', hc, ht'⟩ := hi i (by omega)
      obtain ⟨x, hK, hQ⟩ := he _ _ _ ht'
      rw [hC] at hc
      obtain ⟨_, hcl, hat⟩ := World.cells?_some hc
      refine ⟨x, ⟨cs', d.K_len hK, hK, fun j u hu => ?_⟩, hQ⟩
      have hj : j < d.sz := by have := (List.getElem?_eq_some_iff.1 hu).1; rw [d.K_len hK] at this; exact this
      have := hat j hj
      rw [Go.Deep.add_add] at this
      rw [this, hu])
    refine ⟨l, ⟨some a, cap, by rw [hlen], by omega, ⟨rfl, ?_, fun hp => ⟨a, rfl, fun j p hj => (hR j p hj).1⟩⟩⟩, fun x hx => ?_⟩
    · have : cap ≤ maxLen := hm
      unfold maxLen at this
      omega
    · obtain ⟨i, hil, rfl⟩ := List.getElem_of_mem hx
      exact (hR i _ (List.getElem?_eq_getElem hil)).2
theorem OpnL.one {α : Type} {t : TypeId} {o tot : Nat} {d : Kd α} {Q : α → Prop} (h : Opn enc P w base spare held t d Q) (hc : P.cellsOf t = d.sz) (htot : tot = o + d.sz) : OpnL enc P w base spare held [(t, o)] o tot d Q := by
  intro n cs hl hf
  obtain ⟨y, hy⟩ := hf (t, o) (by simp)
  simp only [hc] at hy
  rw [List.take_of_length_le (by rw [List.length_drop]; omega)] at hy
  exact h _ _ _ hy
theorem OpnL.cons {α β : Type} {t : TypeId} {o tot : Nat} {d : Kd α} {d' : Kd β} {Q : α → Prop} {Q' : β → Prop} {fs : List (TypeId × Nat)} (h : Opn enc P w base spare held t d Q) (hc : P.cellsOf t = d.sz) (hs : OpnL enc P w base spare held fs (o + d.sz) tot d' Q') :
    OpnL enc P w base spare held ((t, o) :: fs) o tot (Kd.pair d d') (fun x => Q x.1 ∧ Q' x.2) := by
  intro n cs hl hf
  obtain ⟨y, hy⟩ := hf (t, o) (by simp)
  simp only [hc] at hy
  obtain ⟨a, ha, hQ⟩ := h _ _ _ hy
  obtain ⟨b, hb, hQ'⟩ := hs n cs hl (fun f hm => hf f (List.mem_cons_of_mem _ hm))
  refine ⟨(a, b), ⟨(cs.drop o).take d.sz, cs.drop (o + d.sz), ?_, ha, hb⟩, hQ, hQ'⟩
  rw [← List.drop_drop, List.take_append_drop]
theorem Opn.struct {α β : Type} {t : TypeId} {fs : Array Field} {L : List (TypeId × Nat)} {tot : Nat} {d : Kd α} {g : β → α} {Q : α → Prop} {Q' : β → Prop} (ht : P.underlying t = some (.struct fs)) (hL : fs.toList.map (fun f => (f.type, f.offset)) = L) (hC : P.cellsOf t = tot)
    (h : OpnL enc P w base spare held L 0 tot d Q) (hg : ∀ a, Q a → ∃ b, g b = a ∧ Q' b) : Opn enc P w base spare held t (Kd.iso d g) Q' := by
  intro fuel cs y hy
  obtain ⟨xs, n, _, _, hlen, hxl, hi⟩ := DataW.trod_struct ht hy
  obtain ⟨a, hK, hQ⟩ := h n cs (by rw [hlen, hC]) (fun f hf => by
    rw [← hL, List.mem_map] at hf
    obtain ⟨f0, hf0, rfl⟩ := hf
    obtain ⟨i, hil, rfl⟩ := List.getElem_of_mem hf0
    have h1 := hi i _ (show fs[i]? = some (fs.toList[i]) by rw [← Array.getElem?_toList]; exact List.getElem?_eq_getElem hil)
    have h2 : i < xs.length := by rw [hxl]; simpa using hil
    rw [List.getElem?_eq_getElem h2] at h1
    exact ⟨_, h1⟩)
  obtain ⟨b, hb, hq⟩ := hg a hQ
  refine ⟨b, ?_, hq⟩
  show d.K w (g b) cs
  rw [hb]
  simpa using hK
theorem Opn.array {α β : Type} {t e : TypeId} {m c : Nat} {L : List (TypeId × Nat)} {tot : Nat} {d : Kd α} {g : β → α} {Q : α → Prop} {Q' : β → Prop} (ht : P.underlying t = some (.array m e)) (hc : P.cellsOf e = c) (hL : (List.range m).map (fun i => (e, i * c)) = L) (hC : P.cellsOf t = tot)
    (h : OpnL enc P w base spare held L 0 tot d Q) (hg : ∀ a, Q a → ∃ b, g b = a ∧ Q' b) : Opn enc P w base spare held t (Kd.iso d g) Q' := by
  intro fuel cs y hy
  obtain ⟨xs, n, _, _, hlen, hxl, hi⟩ := DataW.trod_array ht hy
  obtain ⟨a, hK, hQ⟩ := h n cs (by rw [hlen, hC]) (fun f hf => by
    rw [← hL, List.mem_map] at hf
    obtain ⟨i, hil, rfl⟩ := hf
    rw [List.mem_range] at hil
    have h1 := hi i hil
    rw [List.getElem?_eq_getElem (by omega), hc] at h1
    refine ⟨xs[i], ?_⟩
    simp only [hc]
    exact h1)
  obtain ⟨b, hb, hq⟩ := hg a hQ
  refine ⟨b, ?_, hq⟩
  show d.K w (g b) cs
  rw [hb]
  simpa using hK
end
theorem agg_of_okWide {P : Program} {w : World} {base : Nat} {t : TypeId} {v : Value} {d : TypeDesc} (hu : P.underlying t = some d) (hd : (match d with | .struct _ | .array _ _ => true | _ => false) = true) (hv : Value.okWide P w .any base t v) : ∃ cs : Array Value, v = .agg cs := by
  unfold Value.okWide at hv
  rw [hu] at hv
  have hv2 : ∃ cs : Array Value, v = .agg cs ∧ cs.size = P.cellsOf t ∧ Row.okWide P w .any base t cs := by
    cases d <;> simp at hd <;> exact hv
  obtain ⟨cs, rfl, _⟩ := hv2
  exact ⟨cs, rfl⟩
end Go.Proofs.Ytklbmdakoeoplaa
end
section
namespace Go.Proofs.Ytklbmdakoeoplaa
open Go.RowKit Go.Proofs.YtklbmdakoeoplaaW.PrintWords Go.Proofs.YtklbmdakoeoplaaW.PrintLast Go.Proofs.YtklbmdakoeoplaaW.PrintMore
set_option linter.unusedVariables false
set_option maxRecDepth 100000
def q24 (x : X.S24) : Prop := inI64 x.f0 ∧ inI64 x.f1
theorem opn24 {H : Type} {enc : TypeId × Value → H} {w : World} {base : Nat} {spare : Nat → Bool} {held : Bool} : Opn enc Try.prog w base spare held 24 X.k24 q24 := by
  unfold X.k24
  exact Opn.struct (L := [(3, 0), (3, 1)]) (tot := 2) Try.underlying24 (by rfl) (by kernel_rfl) (OpnL.cons (Opn.i64 Try.underlying3) (by kernel_rfl) (OpnL.one (Opn.i64 Try.underlying3) (by kernel_rfl) rfl)) (fun a h => ⟨⟨a.1, a.2⟩, rfl, h⟩)
def q26 (x : X.S26) : Prop := inI64 x.f0 ∧ inI64 x.f1
theorem opn26 {H : Type} {enc : TypeId × Value → H} {w : World} {base : Nat} {spare : Nat → Bool} {held : Bool} : Opn enc Try.prog w base spare held 26 X.k26 q26 := by
  unfold X.k26
  exact Opn.struct (L := [(3, 0), (3, 1)]) (tot := 2) Try.underlying26 (by rfl) (by kernel_rfl) (OpnL.cons (Opn.i64 Try.underlying3) (by kernel_rfl) (OpnL.one (Opn.i64 Try.underlying3) (by kernel_rfl) rfl)) (fun a h => ⟨⟨a.1, a.2⟩, rfl, h⟩)
def q28 (x : X.S28) : Prop := inI64 x.f0 ∧ inI64 x.f1
theorem opn28 {H : Type} {enc : TypeId × Value → H} {w : World} {base : Nat} {spare : Nat → Bool} {held : Bool} : Opn enc Try.prog w base spare held 28 X.k28 q28 := by
  unfold X.k28
  exact Opn.struct (L := [(3, 0), (3, 1)]) (tot := 2) Try.underlying28 (by rfl) (by kernel_rfl) (OpnL.cons (Opn.i64 Try.underlying3) (by kernel_rfl) (OpnL.one (Opn.i64 Try.underlying3) (by kernel_rfl) rfl)) (fun a h => ⟨⟨a.1, a.2⟩, rfl, h⟩)
def q61 (x : X.S61) : Prop := inStr x.f0 ∧ q28 x.f1
theorem opn61 {H : Type} {enc : TypeId × Value → H} {w : World} {base : Nat} {spare : Nat → Bool} {held : Bool} : Opn enc Try.prog w base spare held 61 X.k61 q61 := by
  unfold X.k61
  exact Opn.struct (L := [(9, 0), (28, 1)]) (tot := 3) Try.underlying61 (by rfl) (by kernel_rfl) (OpnL.cons (Opn.string Try.underlying9) (by kernel_rfl) (OpnL.one opn28 (by kernel_rfl) rfl)) (fun a h => ⟨⟨a.1, a.2⟩, rfl, h⟩)
def q46 (x : X.S46) : Prop := inStr x.f0 ∧ inStr x.f1
theorem opn46 {H : Type} {enc : TypeId × Value → H} {w : World} {base : Nat} {spare : Nat → Bool} {held : Bool} : Opn enc Try.prog w base spare held 46 X.k46 q46 := by
  unfold X.k46
  exact Opn.struct (L := [(9, 0), (9, 1)]) (tot := 2) Try.underlying46 (by rfl) (by kernel_rfl) (OpnL.cons (Opn.string Try.underlying9) (by kernel_rfl) (OpnL.one (Opn.string Try.underlying9) (by kernel_rfl) rfl)) (fun a h => ⟨⟨a.1, a.2⟩, rfl, h⟩)
def q32 (x : X.S32) : Prop := inI64 x.f0 ∧ q26 x.f1 ∧ q28 x.f2 ∧ inI64 x.f3 ∧ (inAll q61) x.f4 ∧ (inAll q46) x.f5 ∧ inAny x.f6
theorem opn32 {H : Type} {enc : TypeId × Value → H} {w : World} {base : Nat} {spare : Nat → Bool} {held : Bool} : Opn enc Try.prog w base spare held 32 X.k32 q32 := by
  unfold X.k32
  exact Opn.struct (L := [(3, 0), (26, 1), (28, 3), (3, 5), (29, 6), (30, 7), (4, 8)]) (tot := 9) Try.underlying32 (by rfl) (by kernel_rfl) (OpnL.cons (Opn.i64 Try.underlying3) (by kernel_rfl) (OpnL.cons opn26 (by kernel_rfl) (OpnL.cons opn28 (by kernel_rfl) (OpnL.cons (Opn.i64 Try.underlying3) (by kernel_rfl) (OpnL.cons (Opn.slice Try.underlying29 (by kernel_rfl) opn61) (by kernel_rfl) (OpnL.cons (Opn.slice Try.underlying30 (by kernel_rfl) opn46) (by kernel_rfl) (OpnL.one (Opn.bool Try.underlying4) (by kernel_rfl) rfl))))))) (fun a h => ⟨⟨a.1, a.2.1, a.2.2.1, a.2.2.2.1, a.2.2.2.2.1, a.2.2.2.2.2.1, a.2.2.2.2.2.2⟩, rfl, h⟩)
def q40 (x : X.S40) : Prop := inI64 x.f0 ∧ inI64 x.f1
theorem opn40 {H : Type} {enc : TypeId × Value → H} {w : World} {base : Nat} {spare : Nat → Bool} {held : Bool} : Opn enc Try.prog w base spare held 40 X.k40 q40 := by
  unfold X.k40
  exact Opn.struct (L := [(3, 0), (3, 1)]) (tot := 2) Try.underlying40 (by rfl) (by kernel_rfl) (OpnL.cons (Opn.i64 Try.underlying3) (by kernel_rfl) (OpnL.one (Opn.i64 Try.underlying3) (by kernel_rfl) rfl)) (fun a h => ⟨⟨a.1, a.2⟩, rfl, h⟩)
def q42 (x : X.S42) : Prop := inI64 x.f0 ∧ inI64 x.f1 ∧ inI64 x.f2 ∧ inI64 x.f3 ∧ inI64 x.f4 ∧ inI64 x.f5 ∧ inI64 x.f6
theorem opn42 {H : Type} {enc : TypeId × Value → H} {w : World} {base : Nat} {spare : Nat → Bool} {held : Bool} : Opn enc Try.prog w base spare held 42 X.k42 q42 := by
  unfold X.k42
  exact Opn.array (c := 1) (L := [(3, 0), (3, 1), (3, 2), (3, 3), (3, 4), (3, 5), (3, 6)]) (tot := 7) Try.underlying42 (by kernel_rfl) (by rfl) (by kernel_rfl) (OpnL.cons (Opn.i64 Try.underlying3) (by kernel_rfl) (OpnL.cons (Opn.i64 Try.underlying3) (by kernel_rfl) (OpnL.cons (Opn.i64 Try.underlying3) (by kernel_rfl) (OpnL.cons (Opn.i64 Try.underlying3) (by kernel_rfl) (OpnL.cons (Opn.i64 Try.underlying3) (by kernel_rfl) (OpnL.cons (Opn.i64 Try.underlying3) (by kernel_rfl) (OpnL.one (Opn.i64 Try.underlying3) (by kernel_rfl) rfl))))))) (fun a h => ⟨⟨a.1, a.2.1, a.2.2.1, a.2.2.2.1, a.2.2.2.2.1, a.2.2.2.2.2.1, a.2.2.2.2.2.2⟩, rfl, h⟩)
def q44 (x : X.S44) : Prop := q24 x.f0 ∧ inI64 x.f1 ∧ q40 x.f2 ∧ q40 x.f3 ∧ q32 x.f4 ∧ inI64 x.f5 ∧ q42 x.f6 ∧ inAny x.f7
theorem opn44 {H : Type} {enc : TypeId × Value → H} {w : World} {base : Nat} {spare : Nat → Bool} {held : Bool} : Opn enc Try.prog w base spare held 44 X.k44 q44 := by
  unfold X.k44
  exact Opn.struct (L := [(24, 0), (3, 2), (40, 3), (40, 5), (32, 7), (3, 16), (42, 17), (4, 24)]) (tot := 25) Try.underlying44 (by rfl) (by kernel_rfl) (OpnL.cons opn24 (by kernel_rfl) (OpnL.cons (Opn.i64 Try.underlying3) (by kernel_rfl) (OpnL.cons opn40 (by kernel_rfl) (OpnL.cons opn40 (by kernel_rfl) (OpnL.cons opn32 (by kernel_rfl) (OpnL.cons (Opn.i64 Try.underlying3) (by kernel_rfl) (OpnL.cons opn42 (by kernel_rfl) (OpnL.one (Opn.bool Try.underlying4) (by kernel_rfl) rfl)))))))) (fun a h => ⟨⟨a.1, a.2.1, a.2.2.1, a.2.2.2.1, a.2.2.2.2.1, a.2.2.2.2.2.1, a.2.2.2.2.2.2.1, a.2.2.2.2.2.2.2⟩, rfl, h⟩)
end Go.Proofs.Ytklbmdakoeoplaa
end
section
namespace Go.Proofs.Ytklbmdakoeoplaa.Pure
open Go.RowKit Go.Proofs.Ytklbmdakoeoplaa.Strs Go.Proofs.YtklbmdakoeoplaaW.PrintWords Go.Proofs.YtklbmdakoeoplaaW.PrintLast Go.Proofs.YtklbmdakoeoplaaW.PrintMore Go.Proofs.Ytklbmdakoeoplaa.X
set_option linter.unusedSimpArgs false
set_option linter.unusedVariables false
theorem slotStep_ge (rep n : Int) (x : Rc) : n ≤ slotStep rep n x := by
  unfold slotStep mx mn
  split
  · split <;> split <;> omega
  · omega
theorem slotStep_le (rep n : Int) (x : Rc) (h : n ≤ 1048576) : slotStep rep n x ≤ 1048576 := by
  unfold slotStep mx mn
  split
  · split <;> split <;> omega
  · omega
theorem fold_ge (rep : Int) : ∀ (l : List Rc) (n : Int), n ≤ l.foldl (slotStep rep) n
  | [], n => Int.le_refl _
  | x :: l, n => Int.le_trans (slotStep_ge rep n x) (fold_ge rep l _)
theorem fold_le (rep : Int) : ∀ (l : List Rc) (n : Int), n ≤ 1048576 → l.foldl (slotStep rep) n ≤ 1048576
  | [], n, h => h
  | x :: l, n, h => fold_le rep l _ (slotStep_le rep n x h)
theorem slotStep_mem (rep n : Int) (x : Rc) (hr : x.f0.f0 = rep) (hs : x.f0.f1 ≤ 1048576) : x.f0.f1 ≤ slotStep rep n x := by
  unfold slotStep
  rw [if_pos hr]
  have e : mn x.f0.f1 1048576 = x.f0.f1 := by
    unfold mn
    rw [if_neg (by omega)]
  rw [e]
  unfold mx
  split <;> omega
theorem fold_mem (rep : Int) : ∀ (l : List Rc) (n : Int) (x : Rc), x ∈ l → x.f0.f0 = rep → x.f0.f1 ≤ 1048576 → x.f0.f1 ≤ l.foldl (slotStep rep) n
  | [], _, _, hx, _, _ => by cases hx
  | y :: l, n, x, hx, hr, hs => by
    rw [List.foldl_cons]
    rcases List.mem_cons.1 hx with e | hx
    · rw [← e]
      exact Int.le_trans (slotStep_mem rep n x hr hs) (fold_ge rep l _)
    · exact fold_mem rep l _ x hx hr hs
theorem slot_val (l : List Rc) (rep : Int) : wrap64 (slotF l rep + 1) = slotF l rep + 1 ∧ 0 ≤ slotF l rep := by
  have h1 := fold_ge rep l 0
  have h2 := fold_le rep l 0 (by omega)
  unfold slotF wrap64
  constructor <;> omega
section
variable (rep : Int) (y : Rc)
theorem slots_l0 (l : List Rc) (h : fewR l) : ∀ dd i, i + dd = l.length → Ev (fun k => althinglaw11_IndexSlots.l0 k l rep (slotF l rep + 1) l (l.length : Int) (i : Int) y.f0.f0 y.f0.f1 y.f1 y.f2.f0 y.f2.f1 y.f3.f0 y.f3.f1 y.f4.f0 y.f4.f1.f0 y.f4.f1.f1 y.f4.f2.f0 y.f4.f2.f1 y.f4.f3 y.f4.f4 y.f4.f5 y.f4.f6 y.f5 y.f6.f0 y.f6.f1 y.f6.f2 y.f6.f3 y.f6.f4 y.f6.f5 y.f6.f6 y.f7) true
  | 0, i, hi => by
    have hl := h.1
    refine Ev.step (f := fun k => (althinglaw11_own.f k l).bind fun t525 => if t525.length + [y].length < 606627104979 then (index_Slot.f k (t525 ++ [y]) rep).bind fun t534 => if slotF l rep + 1 ≥ 1 then (if t534 ≥ slotF l rep + 1 then (if y.f0.f0 = rep then (althinglaw11_awake.f k).bind fun t535 => some t535 else (if t534 = slotF l rep + 1 then (althinglaw11_awake.f k).bind fun t536 => some t536 else none)) else none) else none else none) (fun k => ?_) ?_
    · simp only [althinglaw11_IndexSlots.l0]; rw [if_neg (by omega)]; rfl
    · refine Ev.bind (own_is l h) (Ev.congr (fun k => if_pos (by rw [List.length_singleton]; omega)) ?_)
      refine Ev.bind (slot_is (l ++ [y]) rep (by rw [List.length_append, List.length_singleton]; omega)) ?_
      have v1 := slot_val l rep
      have v2 := slot_val (l ++ [y]) rep
      rw [v2.1]
      have hge : slotF l rep ≤ slotF (l ++ [y]) rep := by
        unfold slotF; rw [List.foldl_append]; exact fold_ge rep [y] _
      refine Ev.congr (fun k => if_pos (by omega)) (Ev.congr (fun k => if_pos (by omega)) ?_)
      by_cases hr : y.f0.f0 = rep
      · exact Ev.congr (fun k => if_pos hr) (Ev.bind awake11_is (Ev.const rfl))
      · have he : slotF (l ++ [y]) rep = slotF l rep := by
          unfold slotF; rw [List.foldl_append]
          show slotStep rep _ y = _
          unfold slotStep; rw [if_neg hr]
        exact Ev.congr (fun k => if_neg hr) (Ev.congr (fun k => if_pos (by rw [he])) (Ev.bind awake11_is (Ev.const rfl)))
  | dd + 1, i, hi => by
    have hil : i < l.length := by omega
    have hl := h.1
    refine Ev.step (fun k => ?_) (slots_l0 l h dd (i + 1) (by omega))
    simp only [althinglaw11_IndexSlots.l0]
    rw [if_pos (by omega), if_pos (by omega), if_pos (by omega), rdRc l i hil, w1 i (by omega)]
    by_cases h1 : l[i].f0.f0 = rep
    · by_cases h2 : l[i].f0.f1 ≤ 1048576
      · have := fold_mem rep l 0 l[i] (List.getElem_mem hil) h1 h2
        have hlt : ¬ l[i].f0.f1 ≥ slotF l rep + 1 := by unfold slotF; omega
        rw [if_pos h1, if_neg hlt]
      · rw [if_pos h1]
        by_cases h3 : l[i].f0.f1 ≥ slotF l rep + 1
        · rw [if_pos h3, if_neg h2]
        · rw [if_neg h3]
    · rw [if_neg h1]
theorem slots_j0 (l : List Rc) (x : Bool) (h : x = false → fewR l) : Ev (fun k => althinglaw11_IndexSlots.j0 k l rep x y.f0.f0 y.f0.f1 y.f1 y.f2.f0 y.f2.f1 y.f3.f0 y.f3.f1 y.f4.f0 y.f4.f1.f0 y.f4.f1.f1 y.f4.f2.f0 y.f4.f2.f1 y.f4.f3 y.f4.f4 y.f4.f5 y.f4.f6 y.f5 y.f6.f0 y.f6.f1 y.f6.f2 y.f6.f3 y.f6.f4 y.f6.f5 y.f6.f6 y.f7) true := by
  cases x with
  | true =>
    refine Ev.step (f := fun k => (althinglaw11_awake.f k).bind fun t => some t) (fun k => ?_) (Ev.bind awake11_is (Ev.const rfl))
    simp only [althinglaw11_IndexSlots.j0]; rw [if_pos trivial]
  | false =>
    have hf := h rfl
    have hq := slots_l0 rep y l hf l.length 0 (by omega)
    refine Ev.step (f := fun k => (index_Slot.f k l rep).bind fun t522 => althinglaw11_IndexSlots.l0 k l rep t522 l (l.length : Int) 0 y.f0.f0 y.f0.f1 y.f1 y.f2.f0 y.f2.f1 y.f3.f0 y.f3.f1 y.f4.f0 y.f4.f1.f0 y.f4.f1.f1 y.f4.f2.f0 y.f4.f2.f1 y.f4.f3 y.f4.f4 y.f4.f5 y.f4.f6 y.f5 y.f6.f0 y.f6.f1 y.f6.f2 y.f6.f3 y.f6.f4 y.f6.f5 y.f6.f6 y.f7) (fun k => ?_) (Ev.bind (slot_is l rep (by have := hf.1; omega)) ?_)
    · simp only [althinglaw11_IndexSlots.j0]; rw [if_neg (by simp)]
    · rw [(slot_val l rep).1]; exact hq
end
theorem pure_IndexSlots (x0 : List (X.S44)) (x1 : X.S44) (x2 : Int) (q0 : (inAll q44) x0) (q1 : q44 x1) (q2 : inI64 x2) : ∃ k, X.althinglaw11_IndexSlots.f k x0 x1.f0.f0 x1.f0.f1 x1.f1 x1.f2.f0 x1.f2.f1 x1.f3.f0 x1.f3.f1 x1.f4.f0 x1.f4.f1.f0 x1.f4.f1.f1 x1.f4.f2.f0 x1.f4.f2.f1 x1.f4.f3 x1.f4.f4 x1.f4.f5 x1.f4.f6 x1.f5 x1.f6.f0 x1.f6.f1 x1.f6.f2 x1.f6.f3 x1.f6.f4 x1.f6.f5 x1.f6.f6 x1.f7 x2 = some true := by
  have h : Ev (fun k => X.althinglaw11_IndexSlots.f k x0 x1.f0.f0 x1.f0.f1 x1.f1 x1.f2.f0 x1.f2.f1 x1.f3.f0 x1.f3.f1 x1.f4.f0 x1.f4.f1.f0 x1.f4.f1.f1 x1.f4.f2.f0 x1.f4.f2.f1 x1.f4.f3 x1.f4.f4 x1.f4.f5 x1.f4.f6 x1.f5 x1.f6.f0 x1.f6.f1 x1.f6.f2 x1.f6.f3 x1.f6.f4 x1.f6.f5 x1.f6.f6 x1.f7 x2) true := by
    unfold X.althinglaw11_IndexSlots.f
    obtain ⟨q, hq, hp⟩ := few11_ex x0
    cases q with
    | false => exact Ev.bindF hq (slots_j0 x2 x1 x0 true (fun e => by cases e))
    | true =>
      obtain ⟨q', hq', hp'⟩ := few11_ex [x1]
      exact Ev.bindT hq (Ev.bind hq' (slots_j0 x2 x1 x0 (!q') (fun _ => few20_R (hp rfl))))
  obtain ⟨K, hK⟩ := h
  exact ⟨K, hK K (Nat.le_refl _)⟩
end Go.Proofs.Ytklbmdakoeoplaa.Pure
end
