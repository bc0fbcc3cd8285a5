/- What the claim ODS leans on: texts joined by bundle.py, a program of ours; the words cut down to what is used. -/
import Derived.Test.YtklbmdakoeoplaaBODS6
import Derived.WideShapes
import Derived.ProofKit
import Derived.Deep.Slices
import Derived.OpenShut
import Derived.ChangeArms
import Derived.KernelRfl
section
namespace Go.Proofs.Ytklbmdakoeoplaa
open Go.RowKit Go.Deep Go.ChangeShapes Go.WideShapes Go.Proofs.YtklbmdakoeoplaaW.PrintWords Go.Proofs.YtklbmdakoeoplaaW.PrintLast Go.Proofs.YtklbmdakoeoplaaW.PrintMore
set_option linter.unusedVariables false
set_option linter.unusedSimpArgs false
section
variable {H : Type} (enc : TypeId × Value → H) (P : Program) (w : World) (base : Nat) (spare : Nat → Bool) (held : Bool)
/-- Whatever reads as data of type t says something of kind d, of which Q holds. -/
def Opn {α : Type} (t : TypeId) (d : Kd α) (Q : α → Prop) : Prop := ∀ fuel cs y, DataW.trod enc P w base spare held fuel t cs = some y → ∃ a, d.K w a cs ∧ Q a
def OpnL {α : Type} (fs : List (TypeId × Nat)) (o tot : Nat) (d : Kd α) (Q : α → Prop) : Prop :=
  ∀ (n : Nat) (cs : List Value), cs.length = tot → (∀ f ∈ fs, ∃ y, DataW.trod enc P w base spare held n f.1 ((cs.drop f.2).take (P.cellsOf f.1)) = some y) → ∃ a, d.K w a (cs.drop o) ∧ Q a
def inI64 (n : Int) : Prop := -9223372036854775808 ≤ n ∧ n ≤ 9223372036854775807
def inStr (s : ByteArray) : Prop := s.size ≤ maxLen
def inAny {α : Type} (_ : α) : Prop := True
def inAll {α : Type} (Q : α → Prop) (l : List α) : Prop := ∀ x ∈ l, Q x
variable {enc P w base spare held}
theorem Opn.i64 {t : TypeId} (ht : P.underlying t = some (.int .i64)) : Opn enc P w base spare held t (Kd.int .i64) inI64 := by
  intro fuel cs y h
  obtain ⟨n, rfl, _, hw⟩ := DataW.trod_int ht h
  refine ⟨n, rfl, ?_⟩
  simp [Lit.wf, IntKind.min, IntKind.max, IntKind.signed, IntKind.bits] at hw
  unfold inI64
  omega
theorem Opn.other {t : TypeId} {k : IntKind} (ht : P.underlying t = some (.int k)) : Opn enc P w base spare held t (Kd.int k) inAny := by
  intro fuel cs y h
  obtain ⟨n, rfl, _, hw⟩ := DataW.trod_int ht h
  exact ⟨n, rfl, trivial⟩
theorem Opn.bool {t : TypeId} (ht : P.underlying t = some .bool) : Opn enc P w base spare held t Kd.bool inAny := by
  intro fuel cs y h
  obtain ⟨b, rfl, _⟩ := DataW.trod_bool ht h
  exact ⟨b, rfl, trivial⟩
theorem Opn.string {t : TypeId} (ht : P.underlying t = some .string) : Opn enc P w base spare held t Kd.string inStr := by
  intro fuel cs y h
  obtain ⟨s, rfl, _, hs⟩ := DataW.trod_string ht h
  exact ⟨s, rfl, hs⟩
theorem choose_list {α : Type} {R : Nat → α → Prop} : ∀ n, (∀ i, i < n → ∃ a, R i a) → ∃ l : List α, l.length = n ∧ ∀ i a, l[i]? = some a → R i a
  | 0, _ => ⟨[], rfl, fun i a h => by simp at h⟩
  | n + 1, h => by
    obtain ⟨l, hl, hr⟩ := choose_list n (fun i hi => h i (by omega))
    obtain ⟨a, ha⟩ := h n (by omega)
    refine ⟨l ++ [a], by simp [hl], fun i b hb => ?_⟩
    rw [List.getElem?_append] at hb
    split at hb
    · exact hr i b hb
    · rename_i hge
      have : i = n := by
        have h2 := (List.getElem?_eq_some_iff.1 hb).1
        simp at h2
        omega
      subst this
      rw [hl] at hb
      simp at hb
      subst hb
      exact ha
theorem Opn.slice {α : Type} {t e : TypeId} {d : Kd α} {Q : α → Prop} (ht : P.underlying t = some (.slice e)) (hC : P.cellsOf e = d.sz) (he : Opn enc P w base spare held e d Q) : Opn enc P w base spare held t (Kd.slice e d) (inAll Q) := by
  intro fuel cs y h
  rcases open_slice ht h with ⟨rfl, _⟩ | ⟨a, len, cap, m, n, D, Pl, rfl, hb, hl, hm, hmm, _, hi⟩
  · exact ⟨[], ⟨none, 0, rfl, by simp, ⟨rfl, by simp, fun h => by simp at h⟩⟩, by intro x hx; cases hx⟩
  · have hlm : len ≤ m := by rw [hmm]; split <;> omega
    obtain ⟨l, hlen, hR⟩ := choose_list (R := fun i x => (∃ c, c.length = d.sz ∧ d.K w x c ∧ ∀ j u, c[j]? = some u → w.cell? (a.add (i * d.sz + j)) = some u) ∧ Q x) len (fun i hil => by
      obtain ⟨cs', hc, ht'⟩ := hi i (by omega)
      obtain ⟨x, hK, hQ⟩ := he _ _ _ ht'
      rw [hC] at hc
      obtain ⟨_, hcl, hat⟩ := World.cells?_some hc
      refine ⟨x, ⟨cs', d.K_len hK, hK, fun j u hu => ?_⟩, hQ⟩
      have hj : j < d.sz := by have := (List.getElem?_eq_some_iff.1 hu).1; rw [d.K_len hK] at this; exact this
      have := hat j hj
      rw [Go.Deep.add_add] at this
      rw [this, hu])
    refine ⟨l, ⟨some a, cap, by rw [hlen], by omega, ⟨rfl, ?_, fun hp => ⟨a, rfl, fun j p hj => (hR j p hj).1⟩⟩⟩, fun x hx => ?_⟩
    · have : cap ≤ maxLen := hm
      unfold maxLen at this
      omega
    · obtain ⟨i, hil, rfl⟩ := List.getElem_of_mem hx
      exact (hR i _ (List.getElem?_eq_getElem hil)).2
theorem OpnL.one {α : Type} {t : TypeId} {o tot : Nat} {d : Kd α} {Q : α → Prop} (h : Opn enc P w base spare held t d Q) (hc : P.cellsOf t = d.sz) (htot : tot = o + d.sz) : OpnL enc P w base spare held [(t, o)] o tot d Q := by
  intro n cs hl hf
  obtain ⟨y, hy⟩ := hf (t, o) (by simp)
  simp only [hc] at hy
  rw [List.take_of_length_le (by rw [List.length_drop]; omega)] at hy
  exact h _ _ _ hy
theorem OpnL.cons {α β : Type} {t : TypeId} {o tot : Nat} {d : Kd α} {d' : Kd β} {Q : α → Prop} {Q' : β → Prop} {fs : List (TypeId × Nat)} (h : Opn enc P w base spare held t d Q) (hc : P.cellsOf t = d.sz) (hs : OpnL enc P w base spare held fs (o + d.sz) tot d' Q') :
    OpnL enc P w base spare held ((t, o) :: fs) o tot (Kd.pair d d') (fun x => Q x.1 ∧ Q' x.2) := by
  intro n cs hl hf
  obtain ⟨y, hy⟩ := hf (t, o) (by simp)
  simp only [hc] at hy
  obtain ⟨a, ha, hQ⟩ := h _ _ _ hy
  obtain ⟨b, hb, hQ'⟩ := hs n cs hl (fun f hm => hf f (List.mem_cons_of_mem _ hm))
  refine ⟨(a, b), ⟨(cs.drop o).take d.sz, cs.drop (o + d.sz), ?_, ha, hb⟩, hQ, hQ'⟩
  rw [← List.drop_drop, List.take_append_drop]
theorem Opn.struct {α β : Type} {t : TypeId} {fs : Array Field} {L : List (TypeId × Nat)} {tot : Nat} {d : Kd α} {g : β → α} {Q : α → Prop} {Q' : β → Prop} (ht : P.underlying t = some (.struct fs)) (hL : fs.toList.map (fun f => (f.type, f.offset)) = L) (hC : P.cellsOf t = tot)
    (h : OpnL enc P w base spare held L 0 tot d Q) (hg : ∀ a, Q a → ∃ b, g b = a ∧ Q' b) : Opn enc P w base spare held t (Kd.iso d g) Q' := by
  intro fuel cs y hy
  obtain ⟨xs, n, _, _, hlen, hxl, hi⟩ := DataW.trod_struct ht hy
  obtain ⟨a, hK, hQ⟩ := h n cs (by rw [hlen, hC]) (fun f hf => by
    rw [← hL, List.mem_map] at hf
    obtain ⟨f0, hf0, rfl⟩ := hf
    obtain ⟨i, hil, rfl⟩ := List.getElem_of_mem hf0
    have h1 := hi i _ (show fs[i]? = some (fs.toList[i]) by rw [← Array.getElem?_toList]; exact List.getElem?_eq_getElem hil)
    have h2 : i < xs.length := by rw [hxl]; simpa using hil
    rw [List.getElem?_eq_getElem h2] at h1
    exact ⟨_, h1⟩)
  obtain ⟨b, hb, hq⟩ := hg a hQ
  refine ⟨b, ?_, hq⟩
  show d.K w (g b) cs
  rw [hb]
  simpa using hK
theorem Opn.array {α β : Type} {t e : TypeId} {m c : Nat} {L : List (TypeId × Nat)} {tot : Nat} {d : Kd α} {g : β → α} {Q : α → Prop} {Q' : β → Prop} (ht : P.underlying t = some (.array m e)) (hc : P.cellsOf e = c) (hL : (List.range m).map (fun i => (e, i * c)) = L) (hC : P.cellsOf t = tot)
    (h : OpnL enc P w base spare held L 0 tot d Q) (hg : ∀ a, Q a → ∃ b, g b = a ∧ Q' b) : Opn enc P w base spare held t (Kd.iso d g) Q' := by
  intro fuel cs y hy
  obtain ⟨xs, n, _, _, hlen, hxl, hi⟩ := DataW.trod_array ht hy
  obtain ⟨a, hK, hQ⟩ := h n cs (by rw [hlen, hC]) (fun f hf => by
    rw [← hL, List.mem_map] at hf
    obtain ⟨i, hil, rfl⟩ := hf
    rw [List.mem_range] at hil
    have h1 := hi i hil
    rw [List.getElem?_eq_getElem (by omega), hc] at h1
    refine ⟨xs[i], ?_⟩
    simp only [hc]
    exact h1)
  obtain ⟨b, hb, hq⟩ := hg a hQ
  refine ⟨b, ?_, hq⟩
  show d.K w (g b) cs
  rw [hb]
  simpa using hK
end
theorem agg_of_okWide {P : Program} {w : World} {base : Nat} {t : TypeId} {v : Value} {d : TypeDesc} (hu : P.underlying t = some d) (hd : (match d with | .struct _ | .array _ _ => true | _ => false) = true) (hv : Value.okWide P w .any base t v) : ∃ cs : Array Value, v = .agg cs := by
  unfold Value.okWide at hv
  rw [hu] at hv
  have hv2 : ∃ cs : Array Value, v = .agg cs ∧ cs.size = P.cellsOf t ∧ Row.okWide P w .any base t cs := by
    cases d <;> simp at hd <;> exact hv
  obtain ⟨cs, rfl, _⟩ := hv2
  exact ⟨cs, rfl⟩
end Go.Proofs.Ytklbmdakoeoplaa
end
section
namespace Go.Proofs.Ytklbmdakoeoplaa
open Go.RowKit Go.Proofs.YtklbmdakoeoplaaW.PrintWords Go.Proofs.YtklbmdakoeoplaaW.PrintLast Go.Proofs.YtklbmdakoeoplaaW.PrintMore
set_option linter.unusedVariables false
set_option maxRecDepth 100000
def q24 (x : X.S24) : Prop := inI64 x.f0 ∧ inI64 x.f1
theorem opn24 {H : Type} {enc : TypeId × Value → H} {w : World} {base : Nat} {spare : Nat → Bool} {held : Bool} : Opn enc Try.prog w base spare held 24 X.k24 q24 := by
  unfold X.k24
  exact Opn.struct (L := [(3, 0), (3, 1)]) (tot := 2) Try.underlying24 (by rfl) (by kernel_rfl) (OpnL.cons (Opn.i64 Try.underlying3) (by kernel_rfl) (OpnL.one (Opn.i64 Try.underlying3) (by kernel_rfl) rfl)) (fun a h => ⟨⟨a.1, a.2⟩, rfl, h⟩)
def q26 (x : X.S26) : Prop := inI64 x.f0 ∧ inI64 x.f1
theorem opn26 {H : Type} {enc : TypeId × Value → H} {w : World} {base : Nat} {spare : Nat → Bool} {held : Bool} : Opn enc Try.prog w base spare held 26 X.k26 q26 := by
  unfold X.k26
  exact Opn.struct (L := [(3, 0), (3, 1)]) (tot := 2) Try.underlying26 (by rfl) (by kernel_rfl) (OpnL.cons (Opn.i64 Try.underlying3) (by kernel_rfl) (OpnL.one (Opn.i64 Try.underlying3) (by kernel_rfl) rfl)) (fun a h => ⟨⟨a.1, a.2⟩, rfl, h⟩)
def q28 (x : X.S28) : Prop := inI64 x.f0 ∧ inI64 x.f1
theorem opn28 {H : Type} {enc : TypeId × Value → H} {w : World} {base : Nat} {spare : Nat → Bool} {held : Bool} : Opn enc Try.prog w base spare held 28 X.k28 q28 := by
  unfold X.k28
  exact Opn.struct (L := [(3, 0), (3, 1)]) (tot := 2) Try.underlying28 (by rfl) (by kernel_rfl) (OpnL.cons (Opn.i64 Try.underlying3) (by kernel_rfl) (OpnL.one (Opn.i64 Try.underlying3) (by kernel_rfl) rfl)) (fun a h => ⟨⟨a.1, a.2⟩, rfl, h⟩)
def q61 (x : X.S61) : Prop := inStr x.f0 ∧ q28 x.f1
theorem opn61 {H : Type} {enc : TypeId × Value → H} {w : World} {base : Nat} {spare : Nat → Bool} {held : Bool} : Opn enc Try.prog w base spare held 61 X.k61 q61 := by
  unfold X.k61
  exact Opn.struct (L := [(9, 0), (28, 1)]) (tot := 3) Try.underlying61 (by rfl) (by kernel_rfl) (OpnL.cons (Opn.string Try.underlying9) (by kernel_rfl) (OpnL.one opn28 (by kernel_rfl) rfl)) (fun a h => ⟨⟨a.1, a.2⟩, rfl, h⟩)
def q46 (x : X.S46) : Prop := inStr x.f0 ∧ inStr x.f1
theorem opn46 {H : Type} {enc : TypeId × Value → H} {w : World} {base : Nat} {spare : Nat → Bool} {held : Bool} : Opn enc Try.prog w base spare held 46 X.k46 q46 := by
  unfold X.k46
  exact Opn.struct (L := [(9, 0), (9, 1)]) (tot := 2) Try.underlying46 (by rfl) (by kernel_rfl) (OpnL.cons (Opn.string Try.underlying9) (by kernel_rfl) (OpnL.one (Opn.string Try.underlying9) (by kernel_rfl) rfl)) (fun a h => ⟨⟨a.1, a.2⟩, rfl, h⟩)
def q32 (x : X.S32) : Prop := inI64 x.f0 ∧ q26 x.f1 ∧ q28 x.f2 ∧ inI64 x.f3 ∧ (inAll q61) x.f4 ∧ (inAll q46) x.f5 ∧ inAny x.f6
theorem opn32 {H : Type} {enc : TypeId × Value → H} {w : World} {base : Nat} {spare : Nat → Bool} {held : Bool} : Opn enc Try.prog w base spare held 32 X.k32 q32 := by
  unfold X.k32
  exact Opn.struct (L := [(3, 0), (26, 1), (28, 3), (3, 5), (29, 6), (30, 7), (4, 8)]) (tot := 9) Try.underlying32 (by rfl) (by kernel_rfl) (OpnL.cons (Opn.i64 Try.underlying3) (by kernel_rfl) (OpnL.cons opn26 (by kernel_rfl) (OpnL.cons opn28 (by kernel_rfl) (OpnL.cons (Opn.i64 Try.underlying3) (by kernel_rfl) (OpnL.cons (Opn.slice Try.underlying29 (by kernel_rfl) opn61) (by kernel_rfl) (OpnL.cons (Opn.slice Try.underlying30 (by kernel_rfl) opn46) (by kernel_rfl) (OpnL.one (Opn.bool Try.underlying4) (by kernel_rfl) rfl))))))) (fun a h => ⟨⟨a.1, a.2.1, a.2.2.1, a.2.2.2.1, a.2.2.2.2.1, a.2.2.2.2.2.1, a.2.2.2.2.2.2⟩, rfl, h⟩)
def q40 (x : X.S40) : Prop := inI64 x.f0 ∧ inI64 x.f1
theorem opn40 {H : Type} {enc : TypeId × Value → H} {w : World} {base : Nat} {spare : Nat → Bool} {held : Bool} : Opn enc Try.prog w base spare held 40 X.k40 q40 := by
  unfold X.k40
  exact Opn.struct (L := [(3, 0), (3, 1)]) (tot := 2) Try.underlying40 (by rfl) (by kernel_rfl) (OpnL.cons (Opn.i64 Try.underlying3) (by kernel_rfl) (OpnL.one (Opn.i64 Try.underlying3) (by kernel_rfl) rfl)) (fun a h => ⟨⟨a.1, a.2⟩, rfl, h⟩)
def q42 (x : X.S42) : Prop := inI64 x.f0 ∧ inI64 x.f1 ∧ inI64 x.f2 ∧ inI64 x.f3 ∧ inI64 x.f4 ∧ inI64 x.f5 ∧ inI64 x.f6
theorem opn42 {H : Type} {enc : TypeId × Value → H} {w : World} {base : Nat} {spare : Nat → Bool} {held : Bool} : Opn enc Try.prog w base spare held 42 X.k42 q42 := by
  unfold X.k42
  exact Opn.array (c := 1) (L := [(3, 0), (3, 1), (3, 2), (3, 3), (3, 4), (3, 5), (3, 6)]) (tot := 7) Try.underlying42 (by kernel_rfl) (by rfl) (by kernel_rfl) (OpnL.cons (Opn.i64 Try.underlying3) (by kernel_rfl) (OpnL.cons (Opn.i64 Try.underlying3) (by kernel_rfl) (OpnL.cons (Opn.i64 Try.underlying3) (by kernel_rfl) (OpnL.cons (Opn.i64 Try.underlying3) (by kernel_rfl) (OpnL.cons (Opn.i64 Try.underlying3) (by kernel_rfl) (OpnL.cons (Opn.i64 Try.underlying3) (by kernel_rfl) (OpnL.one (Opn.i64 Try.underlying3) (by kernel_rfl) rfl))))))) (fun a h => ⟨⟨a.1, a.2.1, a.2.2.1, a.2.2.2.1, a.2.2.2.2.1, a.2.2.2.2.2.1, a.2.2.2.2.2.2⟩, rfl, h⟩)
def q44 (x : X.S44) : Prop := q24 x.f0 ∧ inI64 x.f1 ∧ q40 x.f2 ∧ q40 x.f3 ∧ q32 x.f4 ∧ inI64 x.f5 ∧ q42 x.f6 ∧ inAny x.f7
theorem opn44 {H : Type} {enc : TypeId × Value → H} {w : World} {base : Nat} {spare : Nat → Bool} {held : Bool} : Opn enc Try.prog w base spare held 44 X.k44 q44 := by
  unfold X.k44
  exact Opn.struct (L := [(24, 0), (3, 2), (40, 3), (40, 5), (32, 7), (3, 16), (42, 17), (4, 24)]) (tot := 25) Try.underlying44 (by rfl) (by kernel_rfl) (OpnL.cons opn24 (by kernel_rfl) (OpnL.cons (Opn.i64 Try.underlying3) (by kernel_rfl) (OpnL.cons opn40 (by kernel_rfl) (OpnL.cons opn40 (by kernel_rfl) (OpnL.cons opn32 (by kernel_rfl) (OpnL.cons (Opn.i64 Try.underlying3) (by kernel_rfl) (OpnL.cons opn42 (by kernel_rfl) (OpnL.one (Opn.bool Try.underlying4) (by kernel_rfl) rfl)))))))) (fun a h => ⟨⟨a.1, a.2.1, a.2.2.1, a.2.2.2.1, a.2.2.2.2.1, a.2.2.2.2.2.1, a.2.2.2.2.2.2.1, a.2.2.2.2.2.2.2⟩, rfl, h⟩)
end Go.Proofs.Ytklbmdakoeoplaa
end
section
namespace Go.Proofs.Ytklbmdakoeoplaa.Pure
open Go.RowKit Go.Proofs.Ytklbmdakoeoplaa.Strs Go.Proofs.YtklbmdakoeoplaaW.PrintWords Go.Proofs.YtklbmdakoeoplaaW.PrintLast Go.Proofs.YtklbmdakoeoplaaW.PrintMore Go.Proofs.Ytklbmdakoeoplaa.X
set_option linter.unusedSimpArgs false
set_option linter.unusedVariables false
theorem mem_known : ∀ (l : List Rc) (t : Nat) (ht : t < l.length), (l.drop (t + 1)).any (sameB l[t]) = false → l[t] ∈ knownB l
  | x :: l, 0, ht, h => by
    rw [knownB]
    have h' : l.any (sameB x) = false := by simpa using h
    rw [if_neg (by rw [h']; simp)]
    exact List.mem_cons_self
  | x :: l, t + 1, ht, h => by
    have ih := mem_known l t (by simpa using ht) (by simpa using h)
    rw [knownB]
    split
    · simpa using ih
    · exact List.mem_cons_of_mem _ (by simpa using ih)
def at7D (d : D7) (r : Int) : Int := at7 d.1 d.2.1 d.2.2.1 d.2.2.2.1 d.2.2.2.2.1 d.2.2.2.2.2.1 d.2.2.2.2.2.2 r
theorem mxc (p : Prop) [Decidable p] (c s : Int) : c ≤ if p then max c s else c := by
  split
  · exact Int.le_max_left _ _
  · exact Int.le_refl _
theorem at7_mono {a0 a1 a2 a3 a4 a5 a6 b0 b1 b2 b3 b4 b5 b6 : Int} (h0 : a0 ≤ b0) (h1 : a1 ≤ b1) (h2 : a2 ≤ b2) (h3 : a3 ≤ b3) (h4 : a4 ≤ b4) (h5 : a5 ≤ b5) (h6 : a6 ≤ b6) (r : Int) : at7 a0 a1 a2 a3 a4 a5 a6 r ≤ at7 b0 b1 b2 b3 b4 b5 b6 r := by
  unfold at7
  repeat (first | assumption | split)
theorem withD_mono (d : D7) (i s r : Int) : at7D d r ≤ at7D (withD d i s) r := at7_mono (mxc _ _ _) (mxc _ _ _) (mxc _ _ _) (mxc _ _ _) (mxc _ _ _) (mxc _ _ _) (mxc _ _ _) r
theorem withD_has (d : D7) (i s : Int) (h0 : 0 ≤ i) (h6 : i < 7) : s ≤ at7D (withD d i s) i := by
  rcases (by omega : i = 0 ∨ i = 1 ∨ i = 2 ∨ i = 3 ∨ i = 4 ∨ i = 5 ∨ i = 6) with rfl | rfl | rfl | rfl | rfl | rfl | rfl <;> exact Int.le_max_right _ _
theorem fold_mono : ∀ (L : List Rc) (s : Int × D7), s.1 ≤ (L.foldl attrStep s).1 ∧ ∀ r, at7D s.2 r ≤ at7D (L.foldl attrStep s).2 r
  | [], s => ⟨Int.le_refl _, fun _ => Int.le_refl _⟩
  | x :: L, s => by
    have ih := fold_mono L (attrStep s x)
    refine ⟨Int.le_trans ?_ ih.1, fun r => Int.le_trans (withD_mono s.2 x.f0.f0 x.f0.f1 r) (ih.2 r)⟩
    show s.1 ≤ mx s.1 _
    unfold mx; split <;> omega
theorem mx_right (a b : Int) : b ≤ mx a b := by unfold mx; split <;> omega
theorem fold_has : ∀ (L : List Rc) (s : Int × D7) (x : Rc), x ∈ L → wrap64 (mn x.f5 1099511627775 + 1) ≤ (L.foldl attrStep s).1 ∧ (0 ≤ x.f0.f0 → x.f0.f0 < 7 → x.f0.f1 ≤ at7D (L.foldl attrStep s).2 x.f0.f0)
  | [], _, _, hx => by cases hx
  | y :: L, s, x, hx => by
    rw [List.foldl_cons]
    rcases List.mem_cons.1 hx with e | hx
    · rw [e]
      have ih := fold_mono L (attrStep s y)
      exact ⟨Int.le_trans (mx_right s.1 _) ih.1, fun h0 h6 => Int.le_trans (withD_has s.2 y.f0.f0 y.f0.f1 h0 h6) (ih.2 _)⟩
    · exact fold_has L (attrStep s y) x hx
section
variable (i0 i1 d0 d1 d2 d3 d4 d5 : Int) (r : List Rd) (w : List Wr) (m : Bool)
def mineR (n : Int) (d : D7) : Rc := ⟨⟨i0, i1⟩, 1, ⟨0, 0⟩, ⟨0, 0⟩, ⟨d0, ⟨d1, d2⟩, ⟨d3, d4⟩, d5, r, w, m⟩, n, ⟨d.1, d.2.1, d.2.2.1, d.2.2.2.1, d.2.2.2.2.1, d.2.2.2.2.2.1, d.2.2.2.2.2.2⟩, false⟩
theorem orders_l0 (l : List Rc) (h : fewR l) (hs : small r w) (hq : ∀ x ∈ l, -9223372036854775808 ≤ x.f5) (n : Int) (d : D7) (hnd : attrsB l i0 i1 d0 d1 d2 r w 1 (0, 0, 0, 0, 0, 0, 0) = (n, d)) : ∀ dd t, t + dd = l.length → Ev (fun k => althinglaw11_IndexOrders.l0 k l n l (l.length : Int) (t : Int) i0 i1 d0 d1 d2 d3 d4 d5 r w m d.1 d.2.1 d.2.2.1 d.2.2.2.1 d.2.2.2.2.1 d.2.2.2.2.2.1 d.2.2.2.2.2.2 i0 i1 1 0 0 0 0 d0 d1 d2 d3 d4 d5 r w m n d.1 d.2.1 d.2.2.1 d.2.2.2.1 d.2.2.2.2.1 d.2.2.2.2.2.1 d.2.2.2.2.2.2 false) true
  | 0, t, ht => by
    refine Ev.step (f := fun k => (althinglaw11_awake.f k).bind fun t => some t) (fun k => ?_) (Ev.bind awake11_is (Ev.const rfl))
    simp only [althinglaw11_IndexOrders.l0]; rw [if_neg (by omega)]
  | dd + 1, t, ht => by
    have htl : t < l.length := by omega
    have hl := h.1
    have ih := orders_l0 l h hs hq n d hnd dd (t + 1) (by omega)
    generalize hx : l[t] = x
    have hxm : x ∈ l := hx ▸ List.getElem_mem htl
    have hsx := h.2 x hxm
    have hskip : Ev (fun k => althinglaw11_IndexOrders.j2 k l n l (l.length : Int) (t : Int) true i0 i1 d0 d1 d2 d3 d4 d5 r w m d.1 d.2.1 d.2.2.1 d.2.2.2.1 d.2.2.2.2.1 d.2.2.2.2.2.1 d.2.2.2.2.2.2 i0 i1 1 0 0 0 0 d0 d1 d2 d3 d4 d5 r w m n d.1 d.2.1 d.2.2.1 d.2.2.2.1 d.2.2.2.2.1 d.2.2.2.2.2.1 d.2.2.2.2.2.2 false x.f0.f0 x.f0.f1 x.f1 x.f2.f0 x.f2.f1 x.f3.f0 x.f3.f1 x.f4.f0 x.f4.f1.f0 x.f4.f1.f1 x.f4.f2.f0 x.f4.f2.f1 x.f4.f3 x.f4.f4 x.f4.f5 x.f4.f6 x.f5 x.f6.f0 x.f6.f1 x.f6.f2 x.f6.f3 x.f6.f4 x.f6.f5 x.f6.f6 x.f7) true := by
      refine Ev.step (fun k => ?_) ih
      simp only [althinglaw11_IndexOrders.j2]; rw [if_pos trivial, w1 t (by omega)]
    have hla := last_is l t htl (by omega)
    rw [hx] at hla
    refine Ev.step (fun k => by simp only [althinglaw11_IndexOrders.l0]; rw [if_pos (by omega), if_pos (by omega), if_pos (by omega)]) ?_
    simp only [rdRc l t htl, hx]
    cases hc : (l.drop (t + 1)).any (sameB x) with
    | true => rw [hc] at hla; exact Ev.bindF hla hskip
    | false =>
      rw [hc] at hla
      refine Ev.bindT hla ?_
      cases e1 : (x.f0.f0 == i0 && (x.f0.f1 == i1)) with
      | true => exact Ev.congr (fun k => if_pos rfl) hskip
      | false =>
        refine Ev.congr (fun k => if_neg (by simp)) ?_
        by_cases e2 : x.f1 ≤ 0
        · exact Ev.congr (fun k => if_pos e2) hskip
        · refine Ev.congr (fun k => if_neg e2) ?_
          have hin := rinter_is x.f4.f0 x.f4.f1.f0 x.f4.f1.f1 x.f4.f2.f0 x.f4.f2.f1 x.f4.f3 x.f4.f4 x.f4.f5 x.f4.f6 d0 d1 d2 d3 d4 d5 r w m hsx hs
          refine Ev.bind hin ?_
          cases e3 : interB x.f4.f0 x.f4.f1.f0 x.f4.f1.f1 x.f4.f4 x.f4.f5 d0 d1 d2 r w with
          | false => exact hskip
          | true =>
            have hmem : x ∈ againstB l i0 i1 d0 d1 d2 r w := by
              unfold againstB
              rw [List.mem_filter]
              refine ⟨hx ▸ mem_known l t htl (hx ▸ hc), ?_⟩
              unfold outB
              rw [e1, e3, decide_eq_false e2]; rfl
            have hf := fold_has (againstB l i0 i1 d0 d1 d2 r w) (1, (0, 0, 0, 0, 0, 0, 0)) x hmem
            rw [show (againstB l i0 i1 d0 d1 d2 r w).foldl attrStep (1, (0, 0, 0, 0, 0, 0, 0)) = (n, d) from hnd] at hf
            have hq5 := hq x hxm
            have hseq : x.f5 < 1099511627776 → ¬ n ≤ x.f5 := fun h5 => by
              have := hf.1
              have e : wrap64 (mn x.f5 1099511627775 + 1) = x.f5 + 1 := by
                unfold mn
                rw [if_neg (by omega)]
                unfold wrap64; omega
              rw [e] at this
              omega
            have hgo : Ev (fun k => if x.f5 < 1099511627776 then (if n ≤ x.f5 then none else althinglaw11_IndexOrders.l0 k l n l (l.length : Int) ((t + 1 : Nat) : Int) i0 i1 d0 d1 d2 d3 d4 d5 r w m d.1 d.2.1 d.2.2.1 d.2.2.2.1 d.2.2.2.2.1 d.2.2.2.2.2.1 d.2.2.2.2.2.2 i0 i1 1 0 0 0 0 d0 d1 d2 d3 d4 d5 r w m n d.1 d.2.1 d.2.2.1 d.2.2.2.1 d.2.2.2.2.1 d.2.2.2.2.2.1 d.2.2.2.2.2.2 false) else althinglaw11_IndexOrders.l0 k l n l (l.length : Int) ((t + 1 : Nat) : Int) i0 i1 d0 d1 d2 d3 d4 d5 r w m d.1 d.2.1 d.2.2.1 d.2.2.2.1 d.2.2.2.2.1 d.2.2.2.2.2.1 d.2.2.2.2.2.2 i0 i1 1 0 0 0 0 d0 d1 d2 d3 d4 d5 r w m n d.1 d.2.1 d.2.2.1 d.2.2.2.1 d.2.2.2.2.1 d.2.2.2.2.2.1 d.2.2.2.2.2.2 false) true := by
              by_cases h5 : x.f5 < 1099511627776
              · exact Ev.congr (fun k => if_pos h5) (Ev.congr (fun k => if_neg (hseq h5)) ih)
              · exact Ev.congr (fun k => if_neg h5) ih
            have hj3 : ∀ b : Bool, (b = true → 0 ≤ x.f0.f0 ∧ x.f0.f0 < 7 ∧ 1 ≤ x.f0.f1) → Ev (fun k => althinglaw11_IndexOrders.j3 k l n b l (l.length : Int) (t : Int) i0 i1 d0 d1 d2 d3 d4 d5 r w m d.1 d.2.1 d.2.2.1 d.2.2.2.1 d.2.2.2.2.1 d.2.2.2.2.2.1 d.2.2.2.2.2.2 i0 i1 1 0 0 0 0 d0 d1 d2 d3 d4 d5 r w m n d.1 d.2.1 d.2.2.1 d.2.2.2.1 d.2.2.2.2.1 d.2.2.2.2.2.1 d.2.2.2.2.2.2 false x.f0.f0 x.f0.f1 x.f1 x.f2.f0 x.f2.f1 x.f3.f0 x.f3.f1 x.f4.f0 x.f4.f1.f0 x.f4.f1.f1 x.f4.f2.f0 x.f4.f2.f1 x.f4.f3 x.f4.f4 x.f4.f5 x.f4.f6 x.f5 x.f6.f0 x.f6.f1 x.f6.f2 x.f6.f3 x.f6.f4 x.f6.f5 x.f6.f6 x.f7) true := fun b hb => by
              cases b with
              | false =>
                refine Ev.step (fun k => ?_) hgo
                simp only [althinglaw11_IndexOrders.j3]; rw [if_neg (by simp), w1 t (by omega)]
              | true =>
                obtain ⟨b0, b7, b1⟩ := hb rfl
                have hat := hf.2 b0 b7
                have hh : hasB (mineR i0 i1 d0 d1 d2 d3 d4 d5 r w m n d).f6 x.f0 = true := by
                  unfold hasB
                  exact decide_eq_true ⟨b0, b7, b1, hat⟩
                have ho := ordered_is (mineR i0 i1 d0 d1 d2 d3 d4 d5 r w m n d) x hs hsx
                have ho2 : orderedB (mineR i0 i1 d0 d1 d2 d3 d4 d5 r w m n d) x = true := by
                  unfold orderedB
                  rw [hh, Bool.or_true, Bool.true_or]
                rw [ho2] at ho
                have hha : althingref03_Has.f d.1 d.2.1 d.2.2.1 d.2.2.2.1 d.2.2.2.2.1 d.2.2.2.2.2.1 d.2.2.2.2.2.2 x.f0.f0 x.f0.f1 = some true := by
                  show some (hasB (mineR i0 i1 d0 d1 d2 d3 d4 d5 r w m n d).f6 x.f0) = some true
                  rw [hh]
                refine Ev.step (fun k => by simp only [althinglaw11_IndexOrders.j3]; rw [if_pos trivial]) ?_
                refine Ev.bindT ho ?_
                rw [w1 t (by omega)]
                exact Ev.bindT (Ev.const hha) hgo
            refine Ev.step (fun k => by simp only [althinglaw11_IndexOrders.j2]; rw [if_neg (by simp)]) ?_
            by_cases g0 : x.f0.f0 ≥ 0
            · refine Ev.congr (fun k => if_pos g0) ?_
              by_cases g6 : x.f0.f0 ≤ 6
              · exact Ev.congr (fun k => if_pos g6) (hj3 (decide (x.f0.f1 ≥ 1)) (fun e => by rw [decide_eq_true_eq] at e; omega))
              · exact Ev.congr (fun k => if_neg g6) (hj3 false (fun e => by cases e))
            · exact Ev.congr (fun k => if_neg g0) (hj3 false (fun e => by cases e))
theorem orders_j0 (l : List Rc) (hq : ∀ x ∈ l, -9223372036854775808 ≤ x.f5) (b : Bool) (h : b = false → fewR l ∧ small r w) : Ev (fun k => althinglaw11_IndexOrders.j0 k l b i0 i1 d0 d1 d2 d3 d4 d5 r w m) true := by
  cases b with
  | true =>
    refine Ev.step (f := fun k => (althinglaw11_awake.f k).bind fun t => some t) (fun k => ?_) (Ev.bind awake11_is (Ev.const rfl))
    simp only [althinglaw11_IndexOrders.j0]; rw [if_pos trivial]
  | false =>
    obtain ⟨hf, hs⟩ := h rfl
    refine Ev.step (fun k => by simp only [althinglaw11_IndexOrders.j0]; rw [if_neg (by simp)]) ?_
    refine Ev.bind (own_is l hf) (Ev.bind (attrs_is l hf i0 i1 d0 d1 d2 d3 d4 d5 r w m hs 1 (0, 0, 0, 0, 0, 0, 0)) ?_)
    exact orders_l0 i0 i1 d0 d1 d2 d3 d4 d5 r w m l hf hs hq _ _ rfl l.length 0 (by omega)
end
theorem pure_IndexOrders (x0 : List (X.S44)) (x1 : X.S24) (x2 : X.S32) (q0 : (inAll q44) x0) (q1 : q24 x1) (q2 : q32 x2) : ∃ k, X.althinglaw11_IndexOrders.f k x0 x1.f0 x1.f1 x2.f0 x2.f1.f0 x2.f1.f1 x2.f2.f0 x2.f2.f1 x2.f3 x2.f4 x2.f5 x2.f6 = some true := by
  have hq5 : ∀ x ∈ x0, -9223372036854775808 ≤ x.f5 := fun x hx => (q0 x hx).2.2.2.2.2.1.1
  have h : Ev (fun k => X.althinglaw11_IndexOrders.f k x0 x1.f0 x1.f1 x2.f0 x2.f1.f0 x2.f1.f1 x2.f2.f0 x2.f2.f1 x2.f3 x2.f4 x2.f5 x2.f6) true := by
    unfold X.althinglaw11_IndexOrders.f
    obtain ⟨q, hq, hp⟩ := few11_ex x0
    cases q with
    | false => exact Ev.bindF hq (orders_j0 x1.f0 x1.f1 x2.f0 x2.f1.f0 x2.f1.f1 x2.f2.f0 x2.f2.f1 x2.f3 x2.f4 x2.f5 x2.f6 x0 hq5 true (fun e => by cases e))
    | true =>
      obtain ⟨q', hq', hp'⟩ := few_ex [x2] (by simp)
      refine Ev.bindT hq (Ev.bind hq' (orders_j0 x1.f0 x1.f1 x2.f0 x2.f1.f0 x2.f1.f1 x2.f2.f0 x2.f2.f1 x2.f3 x2.f4 x2.f5 x2.f6 x0 hq5 (!q') (fun e => ?_)))
      have hq1 : q' = true := by cases q' <;> simp_all
      exact ⟨few20_R (hp rfl), hp' hq1 _ List.mem_cons_self⟩
  obtain ⟨K, hK⟩ := h
  exact ⟨K, hK K (Nat.le_refl _)⟩
end Go.Proofs.Ytklbmdakoeoplaa.Pure
end
