/- What the claim CLO leans on: texts joined by bundle.py, a program of ours; the words cut down to what is used. -/
import Derived.Test.YtnjeeedndnfglaaBCLO6
import Derived.WideShapes
import Derived.ProofKit
import Derived.Deep.Slices
import Derived.OpenShut
import Derived.ChangeArms
import Derived.KernelRfl
section
namespace Go.Proofs.Ytnjeeedndnfglaa
open Go.RowKit Go.Deep Go.ChangeShapes Go.WideShapes Go.Proofs.YtnjeeedndnfglaaW.PrintWords Go.Proofs.YtnjeeedndnfglaaW.PrintLast Go.Proofs.YtnjeeedndnfglaaW.PrintMore
set_option linter.unusedVariables false
set_option linter.unusedSimpArgs false
section
variable {H : Type} (enc : TypeId × Value → H) (P : Program) (w : World) (base : Nat) (spare : Nat → Bool) (held : Bool)
/-- Whatever reads as data of type t says something of kind d, of which Q holds. -/
def Opn {α : Type} (t : TypeId) (d : Kd α) (Q : α → Prop) : Prop := ∀ fuel cs y, DataW.trod enc P w base spare held fuel t cs = some y → ∃ a, d.K w a cs ∧ Q a
def OpnL {α : Type} (fs : List (TypeId × Nat)) (o tot : Nat) (d : Kd α) (Q : α → Prop) : Prop :=
  ∀ (n : Nat) (cs : List Value), cs.length = tot → (∀ f ∈ fs, ∃ y, DataW.trod enc P w base spare held n f.1 ((cs.drop f.2).take (P.cellsOf f.1)) = some y) → ∃ a, d.K w a (cs.drop o) ∧ Q a
def inI64 (n : Int) : Prop := -9223372036854775808 ≤ n ∧ n ≤ 9223372036854775807
def inStr (s : ByteArray) : Prop := s.size ≤ maxLen
def inAny {α : Type} (_ : α) : Prop := True
def inAll {α : Type} (Q : α → Prop) (l : List α) : Prop := ∀ x ∈ l, Q x
variable {enc P w base spare held}
theorem Opn.i64 {t : TypeId} (ht : P.underlying t = some (.int .i64)) : Opn enc P w base spare held t (Kd.int .i64) inI64 := by
  intro fuel cs y h
  obtain ⟨n, rfl, _, hw⟩ := DataW.trod_int ht h
  refine ⟨n, rfl, ?_⟩
  simp [Lit.wf, IntKind.min, IntKind.max, IntKind.signed, IntKind.bits] at hw
  unfold inI64
  omega
theorem Opn.other {t : TypeId} {k : IntKind} (ht : P.underlying t = some (.int k)) : Opn enc P w base spare held t (Kd.int k) inAny := by
  intro fuel cs y h
  obtain ⟨n, rfl, _, hw⟩ := DataW.trod_int ht h
  exact ⟨n, rfl, trivial⟩
theorem Opn.bool {t : TypeId} (ht : P.underlying t = some .bool) : Opn enc P w base spare held t Kd.bool inAny := by
  intro fuel cs y h
  obtain ⟨b, rfl, _⟩ := DataW.trod_bool ht h
  exact ⟨b, rfl, trivial⟩
theorem Opn.string {t : TypeId} (ht : P.underlying t = some .string) : Opn enc P w base spare held t Kd.string inStr := by
  intro fuel cs y h
  obtain ⟨s, rfl, _, hs⟩ := DataW.trod_string ht h
  exact ⟨s, rfl, hs⟩
theorem choose_list {α : Type} {R : Nat → α → Prop} : ∀ n, (∀ i, i < n → ∃ a, R i a) → ∃ l : List α, l.length = n ∧ ∀ i a, l[i]? = some a → R i a
  | 0, _ => ⟨[], rfl, fun i a h => by simp at h⟩
  | n + 1, h => by
    obtain ⟨l, hl, hr⟩ := choose_list n (fun i hi => h i (by omega))
    obtain ⟨a, ha⟩ := h n (by omega)
    refine ⟨l ++ [a], by simp [hl], fun i b hb => ?_⟩
    rw [List.getElem?_append] at hb
    split at hb
    · exact hr i b hb
    · rename_i hge
      have : i = n := by
        have h2 := (List.getElem?_eq_some_iff.1 hb).1
        simp at h2
        omega
      subst this
      rw [hl] at hb
      simp at hb
      subst hb
      exact ha
theorem Opn.slice {α : Type} {t e : TypeId} {d : Kd α} {Q : α → Prop} (ht : P.underlying t = some (.slice e)) (hC : P.cellsOf e = d.sz) (he : Opn enc P w base spare held e d Q) : Opn enc P w base spare held t (Kd.slice e d) (inAll Q) := by
  intro fuel cs y h
  rcases open_slice ht h with ⟨rfl, _⟩ | ⟨a, len, cap, m, n, D, Pl, rfl, hb, hl, hm, hmm, _, hi⟩
  · exact ⟨[], ⟨none, 0, rfl, by simp, ⟨rfl, by simp, fun h => by simp at h⟩⟩, by intro x hx; cases hx⟩
  · have hlm : len ≤ m := by rw [hmm]; split <;> omega
    obtain ⟨l, hlen, hR⟩ := choose_list (R := fun i x => (∃ c, c.length = d.sz ∧ d.K w x c ∧ ∀ j u, c[j]? = some u → w.cell? (a.add (i * d.sz + j)) = some u) ∧ Q x) len (fun i hil => by
      obtain ⟨cs', hc, ht'⟩ := hi i (by omega)
      obtain ⟨x, hK, hQ⟩ := he _ _ _ ht'
      rw [hC] at hc
      obtain ⟨_, hcl, hat⟩ := World.cells?_some hc
      refine ⟨x, ⟨cs', d.K_len hK, hK, fun j u hu => ?_⟩, hQ⟩
      have hj : j < d.sz := by have := (List.getElem?_eq_some_iff.1 hu).1; rw [d.K_len hK] at this; exact this
      have := hat j hj
      rw [Go.Deep.add_add] at this
      rw [this, hu])
    refine ⟨l, ⟨some a, cap, by rw [hlen], by omega, ⟨rfl, ?_, fun hp => ⟨a, rfl, fun j p hj => (hR j p hj).1⟩⟩⟩, fun x hx => ?_⟩
    · have : cap ≤ maxLen := hm
      unfold maxLen at this
      omega
    · obtain ⟨i, hil, rfl⟩ := List.getElem_of_mem hx
      exact (hR i _ (List.getElem?_eq_getElem hil)).2
theorem OpnL.one {α : Type} {t : TypeId} {o tot : Nat} {d : Kd α} {Q : α → Prop} (h : Opn enc P w base spare held t d Q) (hc : P.cellsOf t = d.sz) (htot : tot = o + d.sz) : OpnL enc P w base spare held [(t, o)] o tot d Q := by
  intro n cs hl hf
  obtain ⟨y, hy⟩ := hf (t, o) (by simp)
  simp only [hc] at hy
  rw [List.take_of_length_le (by rw [List.length_drop]; omega)] at hy
  exact h _ _ _ hy
theorem OpnL.cons {α β : Type} {t : TypeId} {o tot : Nat} {d : Kd α} {d' : Kd β} {Q : α → Prop} {Q' : β → Prop} {fs : List (TypeId × Nat)} (h : Opn enc P w base spare held t d Q) (hc : P.cellsOf t = d.sz) (hs : OpnL enc P w base spare held fs (o + d.sz) tot d' Q') :
    OpnL enc P w base spare held ((t, o) :: fs) o tot (Kd.pair d d') (fun x => Q x.1 ∧ Q' x.2) := by
  intro n cs hl hf
  obtain ⟨y, hy⟩ := hf (t, o) (by simp)
  simp only [hc] at hy
  obtain ⟨a, ha, hQ⟩ := h _ _ _ hy
  obtain ⟨b, hb, hQ'⟩ := hs n cs hl (fun f hm => hf f (List.mem_cons_of_mem _ hm))
  refine ⟨(a, b), ⟨(cs.drop o).take d.sz, cs.drop (o + d.sz), ?_, ha, hb⟩, hQ, hQ'⟩
  rw [← List.drop_drop, List.take_append_drop]
theorem Opn.struct {α β : Type} {t : TypeId} {fs : Array Field} {L : List (TypeId × Nat)} {tot : Nat} {d : Kd α} {g : β → α} {Q : α → Prop} {Q' : β → Prop} (ht : P.underlying t = some (.struct fs)) (hL : fs.toList.map (fun f => (f.type, f.offset)) = L) (hC : P.cellsOf t = tot)
    (h : OpnL enc P w base spare held L 0 tot d Q) (hg : ∀ a, Q a → ∃ b, g b = a ∧ Q' b) : Opn enc P w base spare held t (Kd.iso d g) Q' := by
  intro fuel cs y hy
  obtain ⟨xs, n, _, _, hlen, hxl, hi⟩ := DataW.trod_struct ht hy
  obtain ⟨a, hK, hQ⟩ := h n cs (by rw [hlen, hC]) (fun f hf => by
    rw [← hL, List.mem_map] at hf
    obtain ⟨f0, hf0, rfl⟩ := hf
    obtain ⟨i, hil, rfl⟩ := List.getElem_of_mem hf0
    have h1 := hi i _ (show fs[i]? = some (fs.toList[i]) by rw [← Array.getElem?_toList]; exact List.getElem?_eq_getElem hil)
    have h2 : i < xs.length := by rw [hxl]; simpa using hil
    rw [List.getElem?_eq_getElem h2] at h1
    exact ⟨_, h1⟩)
  obtain ⟨b, hb, hq⟩ := hg a hQ
  refine ⟨b, ?_, hq⟩
  show d.K w (g b) cs
  rw [hb]
  simpa using hK
theorem Opn.array {α β : Type} {t e : TypeId} {m c : Nat} {L : List (TypeId × Nat)} {tot : Nat} {d : Kd α} {g : β → α} {Q : α → Prop} {Q' : β → Prop} (ht : P.underlying t = some (.array m e)) (hc : P.cellsOf e = c) (hL : (List.range m).map (fun i => (e, i * c)) = L) (hC : P.cellsOf t = tot)
    (h : OpnL enc P w base spare held L 0 tot d Q) (hg : ∀ a, Q a → ∃ b, g b = a ∧ Q' b) : Opn enc P w base spare held t (Kd.iso d g) Q' := by
  intro fuel cs y hy
  obtain ⟨xs, n, _, _, hlen, hxl, hi⟩ := DataW.trod_array ht hy
  obtain ⟨a, hK, hQ⟩ := h n cs (by rw [hlen, hC]) (fun f hf => by
    rw [← hL, List.mem_map] at hf
    obtain ⟨i, hil, rfl⟩ := hf
    rw [List.mem_range] at hil
    have h1 := hi i hil
    rw [List.getElem?_eq_getElem (by omega), hc] at h1
    refine ⟨xs[i], ?_⟩
    simp only [hc]
    exact h1)
  obtain ⟨b, hb, hq⟩ := hg a hQ
  refine ⟨b, ?_, hq⟩
  show d.K w (g b) cs
  rw [hb]
  simpa using hK
end
theorem agg_of_okWide {P : Program} {w : World} {base : Nat} {t : TypeId} {v : Value} {d : TypeDesc} (hu : P.underlying t = some d) (hd : (match d with | .struct _ | .array _ _ => true | _ => false) = true) (hv : Value.okWide P w .any base t v) : ∃ cs : Array Value, v = .agg cs := by
  unfold Value.okWide at hv
  rw [hu] at hv
  have hv2 : ∃ cs : Array Value, v = .agg cs ∧ cs.size = P.cellsOf t ∧ Row.okWide P w .any base t cs := by
    cases d <;> simp at hd <;> exact hv
  obtain ⟨cs, rfl, _⟩ := hv2
  exact ⟨cs, rfl⟩
end Go.Proofs.Ytnjeeedndnfglaa
end
section
namespace Go.Proofs.Ytnjeeedndnfglaa
open Go.RowKit Go.Proofs.YtnjeeedndnfglaaW.PrintWords Go.Proofs.YtnjeeedndnfglaaW.PrintLast Go.Proofs.YtnjeeedndnfglaaW.PrintMore
set_option linter.unusedVariables false
set_option maxRecDepth 100000
def q23 (x : X.S23) : Prop := inI64 x.f0 ∧ inI64 x.f1
theorem opn23 {H : Type} {enc : TypeId × Value → H} {w : World} {base : Nat} {spare : Nat → Bool} {held : Bool} : Opn enc Try.prog w base spare held 23 X.k23 q23 := by
  unfold X.k23
  exact Opn.struct (L := [(3, 0), (3, 1)]) (tot := 2) Try.underlying23 (by rfl) (by kernel_rfl) (OpnL.cons (Opn.i64 Try.underlying3) (by kernel_rfl) (OpnL.one (Opn.i64 Try.underlying3) (by kernel_rfl) rfl)) (fun a h => ⟨⟨a.1, a.2⟩, rfl, h⟩)
def q25 (x : X.S25) : Prop := inI64 x.f0 ∧ inI64 x.f1
theorem opn25 {H : Type} {enc : TypeId × Value → H} {w : World} {base : Nat} {spare : Nat → Bool} {held : Bool} : Opn enc Try.prog w base spare held 25 X.k25 q25 := by
  unfold X.k25
  exact Opn.struct (L := [(3, 0), (3, 1)]) (tot := 2) Try.underlying25 (by rfl) (by kernel_rfl) (OpnL.cons (Opn.i64 Try.underlying3) (by kernel_rfl) (OpnL.one (Opn.i64 Try.underlying3) (by kernel_rfl) rfl)) (fun a h => ⟨⟨a.1, a.2⟩, rfl, h⟩)
def q38 (x : X.S38) : Prop := inStr x.f0 ∧ q25 x.f1
theorem opn38 {H : Type} {enc : TypeId × Value → H} {w : World} {base : Nat} {spare : Nat → Bool} {held : Bool} : Opn enc Try.prog w base spare held 38 X.k38 q38 := by
  unfold X.k38
  exact Opn.struct (L := [(9, 0), (25, 1)]) (tot := 3) Try.underlying38 (by rfl) (by kernel_rfl) (OpnL.cons (Opn.string Try.underlying9) (by kernel_rfl) (OpnL.one opn25 (by kernel_rfl) rfl)) (fun a h => ⟨⟨a.1, a.2⟩, rfl, h⟩)
def q40 (x : X.S40) : Prop := inStr x.f0 ∧ inStr x.f1
theorem opn40 {H : Type} {enc : TypeId × Value → H} {w : World} {base : Nat} {spare : Nat → Bool} {held : Bool} : Opn enc Try.prog w base spare held 40 X.k40 q40 := by
  unfold X.k40
  exact Opn.struct (L := [(9, 0), (9, 1)]) (tot := 2) Try.underlying40 (by rfl) (by kernel_rfl) (OpnL.cons (Opn.string Try.underlying9) (by kernel_rfl) (OpnL.one (Opn.string Try.underlying9) (by kernel_rfl) rfl)) (fun a h => ⟨⟨a.1, a.2⟩, rfl, h⟩)
def q29 (x : X.S29) : Prop := inI64 x.f0 ∧ q23 x.f1 ∧ q25 x.f2 ∧ inI64 x.f3 ∧ (inAll q38) x.f4 ∧ (inAll q40) x.f5 ∧ inAny x.f6
theorem opn29 {H : Type} {enc : TypeId × Value → H} {w : World} {base : Nat} {spare : Nat → Bool} {held : Bool} : Opn enc Try.prog w base spare held 29 X.k29 q29 := by
  unfold X.k29
  exact Opn.struct (L := [(3, 0), (23, 1), (25, 3), (3, 5), (26, 6), (27, 7), (4, 8)]) (tot := 9) Try.underlying29 (by rfl) (by kernel_rfl) (OpnL.cons (Opn.i64 Try.underlying3) (by kernel_rfl) (OpnL.cons opn23 (by kernel_rfl) (OpnL.cons opn25 (by kernel_rfl) (OpnL.cons (Opn.i64 Try.underlying3) (by kernel_rfl) (OpnL.cons (Opn.slice Try.underlying26 (by kernel_rfl) opn38) (by kernel_rfl) (OpnL.cons (Opn.slice Try.underlying27 (by kernel_rfl) opn40) (by kernel_rfl) (OpnL.one (Opn.bool Try.underlying4) (by kernel_rfl) rfl))))))) (fun a h => ⟨⟨a.1, a.2.1, a.2.2.1, a.2.2.2.1, a.2.2.2.2.1, a.2.2.2.2.2.1, a.2.2.2.2.2.2⟩, rfl, h⟩)
end Go.Proofs.Ytnjeeedndnfglaa
end
section
namespace Go.Proofs.Ytnjeeedndnfglaa.Pure
open Go.RowKit Go.Proofs.Ytnjeeedndnfglaa.Strs Go.Proofs.YtnjeeedndnfglaaW.PrintWords Go.Proofs.YtnjeeedndnfglaaW.PrintLast Go.Proofs.YtnjeeedndnfglaaW.PrintMore Go.Proofs.Ytnjeeedndnfglaa.X
set_option linter.unusedSimpArgs false
set_option linter.unusedVariables false
section
variable (a b c d e s : Int) (r : List Rd) (w : List Wr) (m : Bool) (a0 b0 c0 d0 e0 s0 : Int) (r0 : List Rd) (w0 : List Wr) (m0 : Bool) (a1 b1 c1 d1 e1 s1 : Int) (r1 : List Rd) (w1' : List Wr) (m1 : Bool)
theorem clones_l2 (h : small r w) : ∀ dd i (L : List Rd), i + dd = L.length → L.length ≤ 2000 → (∀ x ∈ L.drop i, x.f0.size ≤ 100) → Ev (fun k => althinglaw05_CommandClones.l2 k (L.length : Int) (i : Int) a b c d e s r w m a b c d e s r w m a b c d e s r w m a0 b0 c0 d0 e0 s0 L w0 m0) true
  | 0, i, L, hi, hl, hx => by
    refine Ev.step (f := fun k => (althingref05_Same.f k a b c d e s r w m a b c d e s r w m).bind fun t371 => (if t371 = true then ((althingref05_Same.f k a b c d e s r w m a b c d e s r w m).bind fun t372 => (if t372 = true then ((althinglaw05_awake.f k).bind fun t373 => (some t373)) else (none))) else (none))) (fun k => ?_) ?_
    · simp only [althinglaw05_CommandClones.l2]; rw [if_neg (by omega)]
    · exact Ev.bindT (rsame_self a b c d e s r w m h) (Ev.bindT (rsame_self a b c d e s r w m h) (Ev.bind awake_is (Ev.const rfl)))
  | dd + 1, i, L, hi, hl, hx => by
    have hil : i < L.length := by omega
    have h0 : L[i].f0.size ≤ 100 := hx _ (by rw [List.drop_eq_getElem_cons hil]; exact List.mem_cons_self)
    have ih := clones_l2 h dd (i + 1) (L.set i ⟨L[i].f0 ++ ⟨#[121]⟩, ⟨L[i].f1.f0, L[i].f1.f1⟩⟩) (by rw [List.length_set]; omega) (by rw [List.length_set]; exact hl) (fun x hx' => by
      rw [List.drop_set, if_pos (by omega)] at hx'
      exact hx x (by rw [List.drop_eq_getElem_cons hil]; exact List.mem_cons_of_mem _ hx'))
    rw [List.length_set] at ih
    refine Ev.step (fun k => ?_) ih
    simp only [althinglaw05_CommandClones.l2]
    rw [if_pos (by omega), if_pos (by omega), if_pos (by omega), rdR L i hil, if_pos (by omega), w1 i (by omega), Int.toNat_natCast]
theorem clones_l1 (h : small r w) (h0 : ∀ x ∈ r0, x.f0.size ≤ 100) (hr0 : r0.length ≤ 2000) : ∀ dd i (L : List Wr), i + dd = L.length → L.length ≤ 2000 → (∀ x ∈ L.drop i, x.f1.size ≤ 100) → Ev (fun k => althinglaw05_CommandClones.l1 k (L.length : Int) (i : Int) a b c d e s r w m a b c d e s r w m a b c d e s r w m a0 b0 c0 d0 e0 s0 r0 L m0) true
  | 0, i, L, hi, hl, hx => by
    refine Ev.step (fun k => ?_) (clones_l2 a b c d e s r w m a0 b0 c0 d0 e0 s0 L m0 h r0.length 0 r0 (by omega) hr0 (by simpa using h0))
    simp only [althinglaw05_CommandClones.l1]; rw [if_neg (by omega)]; rfl
  | dd + 1, i, L, hi, hl, hx => by
    have hil : i < L.length := by omega
    have h1 : L[i].f1.size ≤ 100 := hx _ (by rw [List.drop_eq_getElem_cons hil]; exact List.mem_cons_self)
    have ih := clones_l1 h h0 hr0 dd (i + 1) (L.set i ⟨L[i].f0, L[i].f1 ++ ⟨#[120]⟩⟩) (by rw [List.length_set]; omega) (by rw [List.length_set]; exact hl) (fun x hx' => by
      rw [List.drop_set, if_pos (by omega)] at hx'
      exact hx x (by rw [List.drop_eq_getElem_cons hil]; exact List.mem_cons_of_mem _ hx'))
    rw [List.length_set] at ih
    refine Ev.step (fun k => ?_) ih
    simp only [althinglaw05_CommandClones.l1]
    rw [if_pos (by omega), if_pos (by omega), if_pos (by omega), rdW L i hil, if_pos (by omega), w1 i (by omega), Int.toNat_natCast]
theorem clones_l0 (h : small r w) (h0 : small r0 w0) : ∀ dd i (L : List Rd), i + dd = L.length → L.length ≤ 2000 → (∀ x ∈ L.drop i, x.f0.size ≤ 100) → Ev (fun k => althinglaw05_CommandClones.l0 k (L.length : Int) (i : Int) a b c d e s r w m a b c d e s r w m a b c d e s r w m a0 b0 c0 d0 e0 s0 r0 w0 m0 a1 b1 c1 d1 e1 s1 L w1' m1) true
  | 0, i, L, hi, hl, hx => by
    refine Ev.step (fun k => ?_) (clones_l1 a b c d e s r w m a0 b0 c0 d0 e0 s0 r0 m0 h h0.2.2.1 (by have := h0.1; omega) w0.length 0 w0 (by omega) (by have := h0.2.1; omega) (by simpa using fun x hx => (h0.2.2.2 x hx).2))
    simp only [althinglaw05_CommandClones.l0]; rw [if_neg (by omega)]; rfl
  | dd + 1, i, L, hi, hl, hx => by
    have hil : i < L.length := by omega
    have h1 : L[i].f0.size ≤ 100 := hx _ (by rw [List.drop_eq_getElem_cons hil]; exact List.mem_cons_self)
    have ih := clones_l0 h h0 dd (i + 1) (L.set i ⟨L[i].f0 ++ ⟨#[120]⟩, ⟨L[i].f1.f0, L[i].f1.f1⟩⟩) (by rw [List.length_set]; omega) (by rw [List.length_set]; exact hl) (fun x hx' => by
      rw [List.drop_set, if_pos (by omega)] at hx'
      exact hx x (by rw [List.drop_eq_getElem_cons hil]; exact List.mem_cons_of_mem _ hx'))
    rw [List.length_set] at ih
    refine Ev.step (fun k => ?_) ih
    simp only [althinglaw05_CommandClones.l0]
    rw [if_pos (by omega), if_pos (by omega), if_pos (by omega), rdR L i hil, if_pos (by omega), w1 i (by omega), Int.toNat_natCast]
theorem clones_ev : Ev (fun k => althinglaw05_CommandClones.f k a b c d e s r w m) true := by
  unfold althinglaw05_CommandClones.f
  obtain ⟨q, hq, hp⟩ := few_ex [⟨a, ⟨b, c⟩, ⟨d, e⟩, s, r, w, m⟩] (by simp)
  cases q with
  | false => exact Ev.bindF hq (Ev.bind awake_is (Ev.const rfl))
  | true =>
    have h : small r w := hp rfl _ (List.mem_cons_self)
    have hr := h.1
    have hw := h.2.1
    refine Ev.bindT hq ?_
    simp only [Option.bind_some, List.nil_append, List.length_nil]
    refine Ev.congr (fun k => if_pos (by omega)) (Ev.congr (fun k => if_pos (by omega)) ?_)
    simp only [clone_f a b c d e s r w m h, Option.bind_some]
    refine Ev.bindT (rsame_self a b c d e s r w m h) ?_
    have hd := decided_is a b c d e s r w m h true
    by_cases hR : rightB a b c d e s r w m = true ∧ a = 1
    · have e1 : decidedB a b c d e s r w m true = (2, b, c, d, e, s, r, w, true, 0) := by unfold decidedB; rw [if_pos hR]
      rw [e1] at hd
      exact Ev.bind hd (clones_l0 a b c d e s r w m a b c d e s r w m 2 b c d e s w true h h r.length 0 r (by omega) (by omega) (by simpa using h.2.2.1))
    · have e1 : decidedB a b c d e s r w m true = (0, 0, 0, 0, 0, 0, [], [], false, 1) := by unfold decidedB; rw [if_neg hR]
      rw [e1] at hd
      exact Ev.bind hd (clones_l0 a b c d e s r w m a b c d e s r w m 0 0 0 0 0 0 [] false h h 0 0 [] (by simp) (by simp) (by simp))
end
theorem pure_CommandClones (x0 : X.S29) (q0 : q29 x0) : ∃ k, X.althinglaw05_CommandClones.f k x0.f0 x0.f1.f0 x0.f1.f1 x0.f2.f0 x0.f2.f1 x0.f3 x0.f4 x0.f5 x0.f6 = some true := by
  obtain ⟨K, hK⟩ := clones_ev x0.f0 x0.f1.f0 x0.f1.f1 x0.f2.f0 x0.f2.f1 x0.f3 x0.f4 x0.f5 x0.f6
  exact ⟨K, hK K (Nat.le_refl _)⟩
end Go.Proofs.Ytnjeeedndnfglaa.Pure
end
