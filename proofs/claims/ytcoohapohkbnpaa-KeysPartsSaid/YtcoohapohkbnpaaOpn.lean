/- An argument that reads as data: what its cells say, kind by kind. -/
import Derived.Test.YtcoohapohkbnpaaWMore
import Derived.Deep.Slices
import Derived.OpenShut
import Derived.ChangeArms
namespace Go.Proofs.Ytcoohapohkbnpaa
open Go.RowKit Go.Deep Go.ChangeShapes Go.WideShapes Go.Proofs.YtcoohapohkbnpaaW.PrintWords Go.Proofs.YtcoohapohkbnpaaW.PrintLast Go.Proofs.YtcoohapohkbnpaaW.PrintMore
set_option linter.unusedVariables false
set_option linter.unusedSimpArgs false
section
variable {H : Type} (enc : TypeId × Value → H) (P : Program) (w : World) (base : Nat) (spare : Nat → Bool) (held : Bool)
/-- Whatever reads as data of type t says something of kind d, of which Q holds. -/
def Opn {α : Type} (t : TypeId) (d : Kd α) (Q : α → Prop) : Prop := ∀ fuel cs y, DataW.trod enc P w base spare held fuel t cs = some y → ∃ a, d.K w a cs ∧ Q a
def OpnL {α : Type} (fs : List (TypeId × Nat)) (o tot : Nat) (d : Kd α) (Q : α → Prop) : Prop :=
  ∀ (n : Nat) (cs : List Value), cs.length = tot → (∀ f ∈ fs, ∃ y, DataW.trod enc P w base spare held n f.1 ((cs.drop f.2).take (P.cellsOf f.1)) = some y) → ∃ a, d.K w a (cs.drop o) ∧ Q a
def inI64 (n : Int) : Prop := -9223372036854775808 ≤ n ∧ n ≤ 9223372036854775807
def inStr (s : ByteArray) : Prop := s.size ≤ maxLen
def inAny {α : Type} (_ : α) : Prop := True
def inAll {α : Type} (Q : α → Prop) (l : List α) : Prop := ∀ x ∈ l, Q x
variable {enc P w base spare held}
theorem Opn.i64 {t : TypeId} (ht : P.underlying t = some (.int .i64)) : Opn enc P w base spare held t (Kd.int .i64) inI64 := by
  intro fuel cs y h
  obtain ⟨n, rfl, _, hw⟩ := DataW.trod_int ht h
  refine ⟨n, rfl, ?_⟩
  simp [Lit.wf, IntKind.min, IntKind.max, IntKind.signed, IntKind.bits] at hw
  unfold inI64
  omega
theorem Opn.other {t : TypeId} {k : IntKind} (ht : P.underlying t = some (.int k)) : Opn enc P w base spare held t (Kd.int k) inAny := by
  intro fuel cs y h
  obtain ⟨n, rfl, _, hw⟩ := DataW.trod_int ht h
  exact ⟨n, rfl, trivial⟩
theorem Opn.bool {t : TypeId} (ht : P.underlying t = some .bool) : Opn enc P w base spare held t Kd.bool inAny := by
  intro fuel cs y h
  obtain ⟨b, rfl, _⟩ := DataW.trod_bool ht h
  exact ⟨b, rfl, trivial⟩
theorem Opn.string {t : TypeId} (ht : P.underlying t = some .string) : Opn enc P w base spare held t Kd.string inStr := by
  intro fuel cs y h
  obtain ⟨s, rfl, _, hs⟩ := DataW.trod_string ht h
  exact ⟨s, rfl, hs⟩
theorem choose_list {α : Type} {R : Nat → α → Prop} : ∀ n, (∀ i, i < n → ∃ a, R i a) → ∃ l : List α, l.length = n ∧ ∀ i a, l[i]? = some a → R i a
  | 0, _ => ⟨[], rfl, fun i a h => by simp at h⟩
  | n + 1, h => by
    obtain ⟨l, hl, hr⟩ := choose_list n (fun i hi => h i (by omega))
    obtain ⟨a, ha⟩ := h n (by omega)
    refine ⟨l ++ [a], by simp [hl], fun i b hb => ?_⟩
    rw [List.getElem?_append] at hb
    split at hb
    · exact hr i b hb
    · rename_i hge
      have : i = n := by
        have h2 := (List.getElem?_eq_some_iff.1 hb).1
        simp at h2
        omega
      subst this
      rw [hl] at hb
      simp at hb
      subst hb
      exact ha
theorem Opn.slice {α : Type} {t e : TypeId} {d : Kd α} {Q : α → Prop} (ht : P.underlying t = some (.slice e)) (hC : P.cellsOf e = d.sz) (he : Opn enc P w base spare held e d Q) : Opn enc P w base spare held t (Kd.slice e d) (inAll Q) := by
  intro fuel cs y h
  rcases open_slice ht h with ⟨rfl, _⟩ | ⟨a, len, cap, m, n, D, Pl, rfl, hb, hl, hm, hmm, _, hi⟩
  · exact ⟨[], ⟨none, 0, rfl, by simp, ⟨rfl, by simp, fun h => by simp at h⟩⟩, by intro x hx; cases hx⟩
  · have hlm : len ≤ m := by rw [hmm]; split <;> omega
    obtain ⟨l, hlen, hR⟩ := choose_list (R := fun i x => (∃ c, c.length = d.sz ∧ d.K w x c ∧ ∀ j u, c[j]? = some u → w.cell? (a.add (i * d.sz + j)) = some u) ∧ Q x) len (fun i hil => by
      obtain ⟨cs', hc, ht'⟩ := hi i (by omega)
      obtain ⟨x, hK, hQ⟩ := he _ _ _ ht'
      rw [hC] at hc
      obtain ⟨_, hcl, hat⟩ := World.cells?_some hc
      refine ⟨x, ⟨cs', d.K_len hK, hK, fun j u hu => ?_⟩, hQ⟩
      have hj : j < d.sz := by have := (List.getElem?_eq_some_iff.1 hu).1; rw [d.K_len hK] at this; exact this
      have := hat j hj
      rw [Go.Deep.add_add] at this
      rw [this, hu])
    refine ⟨l, ⟨some a, cap, by rw [hlen], by omega, ⟨rfl, ?_, fun hp => ⟨a, rfl, fun j p hj => (hR j p hj).1⟩⟩⟩, fun x hx => ?_⟩
    · have : cap ≤ maxLen := hm
      unfold maxLen at this
      omega
    · obtain ⟨i, hil, rfl⟩ := List.getElem_of_mem hx
      exact (hR i _ (List.getElem?_eq_getElem hil)).2
theorem OpnL.one {α : Type} {t : TypeId} {o tot : Nat} {d : Kd α} {Q : α → Prop} (h : Opn enc P w base spare held t d Q) (hc : P.cellsOf t = d.sz) (htot : tot = o + d.sz) : OpnL enc P w base spare held [(t, o)] o tot d Q := by
  intro n cs hl hf
  obtain ⟨y, hy⟩ := hf (t, o) (by simp)
  simp only [hc] at hy
  rw [List.take_of_length_le (by rw [List.length_drop]; omega)] at hy
  exact h _ _ _ hy
theorem OpnL.cons {α β : Type} {t : TypeId} {o tot : Nat} {d : Kd α} {d' : Kd β} {Q : α → Prop} {Q' : β → Prop} {fs : List (TypeId × Nat)} (h : Opn enc P w base spare held t d Q) (hc : P.cellsOf t = d.sz) (hs : OpnL enc P w base spare held fs (o + d.sz) tot d' Q') :
    OpnL enc P w base spare held ((t, o) :: fs) o tot (Kd.pair d d') (fun x => Q x.1 ∧ Q' x.2) := by
  intro n cs hl hf
  obtain ⟨y, hy⟩ := hf (t, o) (by simp)
  simp only [hc] at hy
  obtain ⟨a, ha, hQ⟩ := h _ _ _ hy
  obtain ⟨b, hb, hQ'⟩ := hs n cs hl (fun f hm => hf f (List.mem_cons_of_mem _ hm))
  refine ⟨(a, b), ⟨(cs.drop o).take d.sz, cs.drop (o + d.sz), ?_, ha, hb⟩, hQ, hQ'⟩
  rw [← List.drop_drop, List.take_append_drop]
theorem Opn.struct {α β : Type} {t : TypeId} {fs : Array Field} {L : List (TypeId × Nat)} {tot : Nat} {d : Kd α} {g : β → α} {Q : α → Prop} {Q' : β → Prop} (ht : P.underlying t = some (.struct fs)) (hL : fs.toList.map (fun f => (f.type, f.offset)) = L) (hC : P.cellsOf t = tot)
    (h : OpnL enc P w base spare held L 0 tot d Q) (hg : ∀ a, Q a → ∃ b, g b = a ∧ Q' b) : Opn enc P w base spare held t (Kd.iso d g) Q' := by
  intro fuel cs y hy
  obtain ⟨xs, n, _, _, hlen, hxl, hi⟩ := DataW.trod_struct ht hy
  obtain ⟨a, hK, hQ⟩ := h n cs (by rw [hlen, hC]) (fun f hf => by
    rw [← hL, List.mem_map] at hf
    obtain ⟨f0, hf0, rfl⟩ := hf
    obtain ⟨i, hil, rfl⟩ := List.getElem_of_mem hf0
    have h1 := hi i _ (show fs[i]? = some (fs.toList[i]) by rw [← Array.getElem?_toList]; exact List.getElem?_eq_getElem hil)
    have h2 : i < xs.length := by rw [hxl]; simpa using hil
    rw [List.getElem?_eq_getElem h2] at h1
    exact ⟨_, h1⟩)
  obtain ⟨b, hb, hq⟩ := hg a hQ
  refine ⟨b, ?_, hq⟩
  show d.K w (g b) cs
  rw [hb]
  simpa using hK
theorem Opn.array {α β : Type} {t e : TypeId} {m c : Nat} {L : List (TypeId × Nat)} {tot : Nat} {d : Kd α} {g : β → α} {Q : α → Prop} {Q' : β → Prop} (ht : P.underlying t = some (.array m e)) (hc : P.cellsOf e = c) (hL : (List.range m).map (fun i => (e, i * c)) = L) (hC : P.cellsOf t = tot)
    (h : OpnL enc P w base spare held L 0 tot d Q) (hg : ∀ a, Q a → ∃ b, g b = a ∧ Q' b) : Opn enc P w base spare held t (Kd.iso d g) Q' := by
  intro fuel cs y hy
  obtain ⟨xs, n, _, _, hlen, hxl, hi⟩ := DataW.trod_array ht hy
  obtain ⟨a, hK, hQ⟩ := h n cs (by rw [hlen, hC]) (fun f hf => by
    rw [← hL, List.mem_map] at hf
    obtain ⟨i, hil, rfl⟩ := hf
    rw [List.mem_range] at hil
    have h1 := hi i hil
    rw [List.getElem?_eq_getElem (by omega), hc] at h1
    refine ⟨xs[i], ?_⟩
    simp only [hc]
    exact h1)
  obtain ⟨b, hb, hq⟩ := hg a hQ
  refine ⟨b, ?_, hq⟩
  show d.K w (g b) cs
  rw [hb]
  simpa using hK
end
end Go.Proofs.Ytcoohapohkbnpaa
