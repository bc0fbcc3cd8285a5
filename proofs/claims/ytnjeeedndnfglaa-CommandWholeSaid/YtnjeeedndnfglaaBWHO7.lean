/- What the claim WHO leans on: texts joined by bundle.py, a program of ours; the words cut down to what is used. -/
import Derived.Test.YtnjeeedndnfglaaBWHO6
import Derived.WideShapes
import Derived.ProofKit
import Derived.Deep.Slices
import Derived.OpenShut
import Derived.ChangeArms
import Derived.KernelRfl
section
namespace Go.Proofs.Ytnjeeedndnfglaa
open Go.RowKit Go.Deep Go.ChangeShapes Go.WideShapes Go.Proofs.YtnjeeedndnfglaaW.PrintWords Go.Proofs.YtnjeeedndnfglaaW.PrintLast Go.Proofs.YtnjeeedndnfglaaW.PrintMore
set_option linter.unusedVariables false
set_option linter.unusedSimpArgs false
section
variable {H : Type} (enc : TypeId × Value → H) (P : Program) (w : World) (base : Nat) (spare : Nat → Bool) (held : Bool)
/-- Whatever reads as data of type t says something of kind d, of which Q holds. -/
def Opn {α : Type} (t : TypeId) (d : Kd α) (Q : α → Prop) : Prop := ∀ fuel cs y, DataW.trod enc P w base spare held fuel t cs = some y → ∃ a, d.K w a cs ∧ Q a
def OpnL {α : Type} (fs : List (TypeId × Nat)) (o tot : Nat) (d : Kd α) (Q : α → Prop) : Prop :=
  ∀ (n : Nat) (cs : List Value), cs.length = tot → (∀ f ∈ fs, ∃ y, DataW.trod enc P w base spare held n f.1 ((cs.drop f.2).take (P.cellsOf f.1)) = some y) → ∃ a, d.K w a (cs.drop o) ∧ Q a
def inI64 (n : Int) : Prop := -9223372036854775808 ≤ n ∧ n ≤ 9223372036854775807
def inStr (s : ByteArray) : Prop := s.size ≤ maxLen
def inAny {α : Type} (_ : α) : Prop := True
def inAll {α : Type} (Q : α → Prop) (l : List α) : Prop := ∀ x ∈ l, Q x
variable {enc P w base spare held}
theorem Opn.i64 {t : TypeId} (ht : P.underlying t = some (.int .i64)) : Opn enc P w base spare held t (Kd.int .i64) inI64 := by
  intro fuel cs y h
  obtain ⟨n, rfl, _, hw⟩ := DataW.trod_int ht h
  refine ⟨n, rfl, ?_⟩
  simp [Lit.wf, IntKind.min, IntKind.max, IntKind.signed, IntKind.bits] at hw
  unfold inI64
  omega
theorem Opn.other {t : TypeId} {k : IntKind} (ht : P.underlying t = some (.int k)) : Opn enc P w base spare held t (Kd.int k) inAny := by
  intro fuel cs y h
  obtain ⟨n, rfl, _, hw⟩ := DataW.trod_int ht h
  exact ⟨n, rfl, trivial⟩
theorem Opn.bool {t : TypeId} (ht : P.underlying t = some .bool) : Opn enc P w base spare held t Kd.bool inAny := by
  intro fuel cs y h
  obtain ⟨b, rfl, _⟩ := DataW.trod_bool ht h
  exact ⟨b, rfl, trivial⟩
theorem Opn.string {t : TypeId} (ht : P.underlying t = some .string) : Opn enc P w base spare held t Kd.string inStr := by
  intro fuel cs y h
  obtain ⟨s, rfl, _, hs⟩ := DataW.trod_string ht h
  exact ⟨s, rfl, hs⟩
theorem choose_list {α : Type} {R : Nat → α → Prop} : ∀ n, (∀ i, i < n → ∃ a, R i a) → ∃ l : List α, l.length = n ∧ ∀ i a, l[i]? = some a → R i a
  | 0, _ => ⟨[], rfl, fun i a h => by simp at h⟩
  | n + 1, h => by
    obtain ⟨l, hl, hr⟩ := choose_list n (fun i hi => h i (by omega))
    obtain ⟨a, ha⟩ := h n (by omega)
    refine ⟨l ++ [a], by simp [hl], fun i b hb => ?_⟩
    rw [List.getElem?_append] at hb
    split at hb
    · exact hr i b hb
    · rename_i hge
      have : i = n := by
        have h2 := (List.getElem?_eq_some_iff.1 hb).1
        simp at h2
        omega
      subst this
      rw [hl] at hb
      simp at hb
      subst hb
      exact ha
theorem Opn.slice {α : Type} {t e : TypeId} {d : Kd α} {Q : α → Prop} (ht : P.underlying t = some (.slice e)) (hC : P.cellsOf e = d.sz) (he : Opn enc P w base spare held e d Q) : Opn enc P w base spare held t (Kd.slice e d) (inAll Q) := by
  intro fuel cs y h
  rcases open_slice ht h with ⟨rfl, _⟩ | ⟨a, len, cap, m, n, D, Pl, rfl, hb, hl, hm, hmm, _, hi⟩
  · exact ⟨[], ⟨none, 0, rfl, by simp, ⟨rfl, by simp, fun h => by simp at h⟩⟩, by intro x hx; cases hx⟩
  · have hlm : len ≤ m := by rw [hmm]; split <;> omega
    obtain ⟨l, hlen, hR⟩ := choose_list (R := fun i x => (∃ c, c.length = d.sz ∧ d.K w x c ∧ ∀ j u, c[j]? = some u → w.cell? (a.add (i * d.sz + j)) = some u) ∧ Q x) len (fun i hil => by
      obtain ⟨cs', hc, ht'⟩ := hi i (by omega)
      obtain ⟨x, hK, hQ⟩ := he _ _ _ ht'
      rw [hC] at hc
      obtain ⟨_, hcl, hat⟩ := World.cells?_some hc
      refine ⟨x, ⟨cs', d.K_len hK, hK, fun j u hu => ?_⟩, hQ⟩
      have hj : j < d.sz := by have := (List.getElem?_eq_some_iff.1 hu).1; rw [d.K_len hK] at this; exact this
      have := hat j hj
      rw [Go.Deep.add_add] at this
      rw [this, hu])
    refine ⟨l, ⟨some a, cap, by rw [hlen], by omega, ⟨rfl, ?_, fun hp => ⟨a, rfl, fun j p hj => (hR j p hj).1⟩⟩⟩, fun x hx => ?_⟩
    · have : cap ≤ maxLen := hm
      unfold maxLen at this
      omega
    · obtain ⟨i, hil, rfl⟩ := List.getElem_of_mem hx
      exact (hR i _ (List.getElem?_eq_getElem hil)).2
theorem OpnL.one {α : Type} {t : TypeId} {o tot : Nat} {d : Kd α} {Q : α → Prop} (h : Opn enc P w base spare held t d Q) (hc : P.cellsOf t = d.sz) (htot : tot = o + d.sz) : OpnL enc P w base spare held [(t, o)] o tot d Q := by
  intro n cs hl hf
  obtain ⟨y, hy⟩ := hf (t, o) (by simp)
  simp only [hc] at hy
  rw [List.take_of_length_le (by rw [List.length_drop]; omega)] at hy
  exact h _ _ _ hy
theorem OpnL.cons {α β : Type} {t : TypeId} {o tot : Nat} {d : Kd α} {d' : Kd β} {Q : α → Prop} {Q' : β → Prop} {fs : List (TypeId × Nat)} (h : Opn enc P w base spare held t d Q) (hc : P.cellsOf t = d.sz) (hs : OpnL enc P w base spare held fs (o + d.sz) tot d' Q') :
    OpnL enc P w base spare held ((t, o) :: fs) o tot (Kd.pair d d') (fun x => Q x.1 ∧ Q' x.2) := by
  intro n cs hl hf
  obtain ⟨y, hy⟩ := hf (t, o) (by simp)
  simp only [hc] at hy
  obtain ⟨a, ha, hQ⟩ := h _ _ _ hy
  obtain ⟨b, hb, hQ'⟩ := hs n cs hl (fun f hm => hf f (List.mem_cons_of_mem _ hm))
  refine ⟨(a, b), ⟨(cs.drop o).take d.sz, cs.drop (o + d.sz), ?_, ha, hb⟩, hQ, hQ'⟩
  rw [← List.drop_drop, List.take_append_drop]
theorem Opn.struct {α β : Type} {t : TypeId} {fs : Array Field} {L : List (TypeId × Nat)} {tot : Nat} {d : Kd α} {g : β → α} {Q : α → Prop} {Q' : β → Prop} (ht : P.underlying t = some (.struct fs)) (hL : fs.toList.map (fun f => (f.type, f.offset)) = L) (hC : P.cellsOf t = tot)
    (h : OpnL enc P w base spare held L 0 tot d Q) (hg : ∀ a, Q a → ∃ b, g b = a ∧ Q' b) : Opn enc P w base spare held t (Kd.iso d g) Q' := by
  intro fuel cs y hy
  obtain ⟨xs, n, _, _, hlen, hxl, hi⟩ := DataW.trod_struct ht hy
  obtain ⟨a, hK, hQ⟩ := h n cs (by rw [hlen, hC]) (fun f hf => by
    rw [← hL, List.mem_map] at hf
    obtain ⟨f0, hf0, rfl⟩ := hf
    obtain ⟨i, hil, rfl⟩ := List.getElem_of_mem hf0
    have h1 := hi i _ (show fs[i]? = some (fs.toList[i]) by rw [← Array.getElem?_toList]; exact List.getElem?_eq_getElem hil)
    have h2 : i < xs.length := by rw [hxl]; simpa using hil
    rw [List.getElem?_eq_getElem h2] at h1
    exact ⟨_, h1⟩)
  obtain ⟨b, hb, hq⟩ := hg a hQ
  refine ⟨b, ?_, hq⟩
  show d.K w (g b) cs
  rw [hb]
  simpa using hK
theorem Opn.array {α β : Type} {t e : TypeId} {m c : Nat} {L : List (TypeId × Nat)} {tot : Nat} {d : Kd α} {g : β → α} {Q : α → Prop} {Q' : β → Prop} (ht : P.underlying t = some (.array m e)) (hc : P.cellsOf e = c) (hL : (List.range m).map (fun i => (e, i * c)) = L) (hC : P.cellsOf t = tot)
    (h : OpnL enc P w base spare held L 0 tot d Q) (hg : ∀ a, Q a → ∃ b, g b = a ∧ Q' b) : Opn enc P w base spare held t (Kd.iso d g) Q' := by
  intro fuel cs y hy
  obtain ⟨xs, n, _, _, hlen, hxl, hi⟩ := DataW.trod_array ht hy
  obtain ⟨a, hK, hQ⟩ := h n cs (by rw [hlen, hC]) (fun f hf => by
    rw [← hL, List.mem_map] at hf
    obtain ⟨i, hil, rfl⟩ := hf
    rw [List.mem_range] at hil
    have h1 := hi i hil
    rw [List.getElem?_eq_getElem (by omega), hc] at h1
    refine ⟨xs[i], ?_⟩
    simp only [hc]
    exact h1)
  obtain ⟨b, hb, hq⟩ := hg a hQ
  refine ⟨b, ?_, hq⟩
  show d.K w (g b) cs
  rw [hb]
  simpa using hK
end
theorem agg_of_okWide {P : Program} {w : World} {base : Nat} {t : TypeId} {v : Value} {d : TypeDesc} (hu : P.underlying t = some d) (hd : (match d with | .struct _ | .array _ _ => true | _ => false) = true) (hv : Value.okWide P w .any base t v) : ∃ cs : Array Value, v = .agg cs := by
  unfold Value.okWide at hv
  rw [hu] at hv
  have hv2 : ∃ cs : Array Value, v = .agg cs ∧ cs.size = P.cellsOf t ∧ Row.okWide P w .any base t cs := by
    cases d <;> simp at hd <;> exact hv
  obtain ⟨cs, rfl, _⟩ := hv2
  exact ⟨cs, rfl⟩
end Go.Proofs.Ytnjeeedndnfglaa
end
section
namespace Go.Proofs.Ytnjeeedndnfglaa
open Go.RowKit Go.Proofs.YtnjeeedndnfglaaW.PrintWords Go.Proofs.YtnjeeedndnfglaaW.PrintLast Go.Proofs.YtnjeeedndnfglaaW.PrintMore
set_option linter.unusedVariables false
set_option maxRecDepth 100000
def q23 (x : X.S23) : Prop := inI64 x.f0 ∧ inI64 x.f1
theorem opn23 {H : Type} {enc : TypeId × Value → H} {w : World} {base : Nat} {spare : Nat → Bool} {held : Bool} : Opn enc Try.prog w base spare held 23 X.k23 q23 := by
  unfold X.k23
  exact Opn.struct (L := [(3, 0), (3, 1)]) (tot := 2) Try.underlying23 (by rfl) (by kernel_rfl) (OpnL.cons (Opn.i64 Try.underlying3) (by kernel_rfl) (OpnL.one (Opn.i64 Try.underlying3) (by kernel_rfl) rfl)) (fun a h => ⟨⟨a.1, a.2⟩, rfl, h⟩)
def q25 (x : X.S25) : Prop := inI64 x.f0 ∧ inI64 x.f1
theorem opn25 {H : Type} {enc : TypeId × Value → H} {w : World} {base : Nat} {spare : Nat → Bool} {held : Bool} : Opn enc Try.prog w base spare held 25 X.k25 q25 := by
  unfold X.k25
  exact Opn.struct (L := [(3, 0), (3, 1)]) (tot := 2) Try.underlying25 (by rfl) (by kernel_rfl) (OpnL.cons (Opn.i64 Try.underlying3) (by kernel_rfl) (OpnL.one (Opn.i64 Try.underlying3) (by kernel_rfl) rfl)) (fun a h => ⟨⟨a.1, a.2⟩, rfl, h⟩)
def q38 (x : X.S38) : Prop := inStr x.f0 ∧ q25 x.f1
theorem opn38 {H : Type} {enc : TypeId × Value → H} {w : World} {base : Nat} {spare : Nat → Bool} {held : Bool} : Opn enc Try.prog w base spare held 38 X.k38 q38 := by
  unfold X.k38
  exact Opn.struct (L := [(9, 0), (25, 1)]) (tot := 3) Try.underlying38 (by rfl) (by kernel_rfl) (OpnL.cons (Opn.string Try.underlying9) (by kernel_rfl) (OpnL.one opn25 (by kernel_rfl) rfl)) (fun a h => ⟨⟨a.1, a.2⟩, rfl, h⟩)
def q40 (x : X.S40) : Prop := inStr x.f0 ∧ inStr x.f1
theorem opn40 {H : Type} {enc : TypeId × Value → H} {w : World} {base : Nat} {spare : Nat → Bool} {held : Bool} : Opn enc Try.prog w base spare held 40 X.k40 q40 := by
  unfold X.k40
  exact Opn.struct (L := [(9, 0), (9, 1)]) (tot := 2) Try.underlying40 (by rfl) (by kernel_rfl) (OpnL.cons (Opn.string Try.underlying9) (by kernel_rfl) (OpnL.one (Opn.string Try.underlying9) (by kernel_rfl) rfl)) (fun a h => ⟨⟨a.1, a.2⟩, rfl, h⟩)
def q29 (x : X.S29) : Prop := inI64 x.f0 ∧ q23 x.f1 ∧ q25 x.f2 ∧ inI64 x.f3 ∧ (inAll q38) x.f4 ∧ (inAll q40) x.f5 ∧ inAny x.f6
theorem opn29 {H : Type} {enc : TypeId × Value → H} {w : World} {base : Nat} {spare : Nat → Bool} {held : Bool} : Opn enc Try.prog w base spare held 29 X.k29 q29 := by
  unfold X.k29
  exact Opn.struct (L := [(3, 0), (23, 1), (25, 3), (3, 5), (26, 6), (27, 7), (4, 8)]) (tot := 9) Try.underlying29 (by rfl) (by kernel_rfl) (OpnL.cons (Opn.i64 Try.underlying3) (by kernel_rfl) (OpnL.cons opn23 (by kernel_rfl) (OpnL.cons opn25 (by kernel_rfl) (OpnL.cons (Opn.i64 Try.underlying3) (by kernel_rfl) (OpnL.cons (Opn.slice Try.underlying26 (by kernel_rfl) opn38) (by kernel_rfl) (OpnL.cons (Opn.slice Try.underlying27 (by kernel_rfl) opn40) (by kernel_rfl) (OpnL.one (Opn.bool Try.underlying4) (by kernel_rfl) rfl))))))) (fun a h => ⟨⟨a.1, a.2.1, a.2.2.1, a.2.2.2.1, a.2.2.2.2.1, a.2.2.2.2.2.1, a.2.2.2.2.2.2⟩, rfl, h⟩)
end Go.Proofs.Ytnjeeedndnfglaa
end
section
namespace Go.Proofs.Ytnjeeedndnfglaa.Pure
open Go.RowKit Go.Proofs.Ytnjeeedndnfglaa.Keys Go.Proofs.Ytnjeeedndnfglaa.Strs Go.Proofs.YtnjeeedndnfglaaW.PrintWords Go.Proofs.YtnjeeedndnfglaaW.PrintLast Go.Proofs.YtnjeeedndnfglaaW.PrintMore Go.Proofs.Ytnjeeedndnfglaa.X
set_option linter.unusedSimpArgs false
set_option linter.unusedVariables false
theorem cnt_step {α : Type} (f : α → Int) (i : Int) : ∀ l : List α, (l.filter (fun x => decide (f x < i + 1))).length = (l.filter (fun x => decide (f x < i))).length + (l.filter (fun x => decide (f x = i))).length
  | [] => rfl
  | x :: l => by
    have ih := cnt_step f i l
    rw [List.filter_cons, List.filter_cons, List.filter_cons]
    by_cases h1 : f x < i
    · rw [if_pos (decide_eq_true (show f x < i + 1 by omega)), if_pos (decide_eq_true h1), if_neg (by rw [decide_eq_true_eq]; omega), List.length_cons, List.length_cons]; omega
    · by_cases h2 : f x = i
      · rw [if_pos (decide_eq_true (show f x < i + 1 by omega)), if_neg (by rw [decide_eq_true_eq]; omega), if_pos (decide_eq_true h2), List.length_cons, List.length_cons]; omega
      · rw [if_neg (by rw [decide_eq_true_eq]; omega), if_neg (by rw [decide_eq_true_eq]; omega), if_neg (by rw [decide_eq_true_eq]; omega)]; exact ih
section
variable (a b c d e s : Int) (r : List Rd) (w : List Wr) (m : Bool) (n : Int)
theorem okR_of (h0 : a ≠ 0) (hR : rightB a b c d e s r w m = true) : (∀ x ∈ r, okKey x.f0 = true) ∧ ∀ x ∈ w, okKey x.f0 = true := by
  unfold rightB at hR
  rw [if_neg h0] at hR
  by_cases h1 : a = 1 ∨ a = 2
  · rw [if_pos h1, Bool.and_eq_true] at hR
    have ht := hR.2
    unfold tailB at ht
    simp only [Bool.and_eq_true] at ht
    exact ⟨fun x hx => ((rightsB_iff _).1 ht.2.2.1).1 _ (List.mem_map_of_mem hx), fun x hx => ((rightsB_iff _).1 ht.2.2.2).1 _ (List.mem_map_of_mem hx)⟩
  · rw [if_neg h1] at hR; cases hR
def cR (i : Int) : Nat := (r.filter (fun x => decide (shardN x.f0 n < i))).length
def cW (i : Int) : Nat := (w.filter (fun x => decide (shardN x.f0 n < i))).length
def accK (i : Int) : List ByteArray := (keysB r w).filter (fun x => decide (shardN x n < i))
theorem ofR_ok (i : Int) (h1 : 1 ≤ n) (h4 : n ≤ 4) (hk : ∀ x ∈ r, okKey x.f0 = true) : ofR i n r = r.filter (fun x => decide (shardN x.f0 n = i)) := by
  unfold ofR
  refine List.filter_congr fun x hx => ?_
  unfold ofK
  rw [shardE_ok (hk x hx) h1 h4]; simp
theorem ofW_ok (i : Int) (h1 : 1 ≤ n) (h4 : n ≤ 4) (hk : ∀ x ∈ w, okKey x.f0 = true) : ofW i n w = w.filter (fun x => decide (shardN x.f0 n = i)) := by
  unfold ofW
  refine List.filter_congr fun x hx => ?_
  unfold ofK
  rw [shardE_ok (hk x hx) h1 h4]; simp
theorem keys_mem (x : ByteArray) : x ∈ keysB r w ↔ (∃ y ∈ r, y.f0 = x) ∨ ∃ y ∈ w, y.f0 = x := by
  unfold keysB
  rw [(joinB_joined (rk r) (wk w)).2 x]
  unfold rk wk
  rw [List.mem_map, List.mem_map]
theorem keys_part (i : Int) : keysB (ofR i n r) (ofW i n w) = ofL (keysB r w) i n := by
  refine Joined.unique (a := rk (ofR i n r)) (b := wk (ofW i n w)) (joinB_joined _ _) ⟨(joinB_joined (rk r) (wk w)).1.sublist List.filter_sublist, fun x => ?_⟩
  unfold ofL
  rw [List.mem_filter, keys_mem, decide_eq_true_eq]
  unfold rk wk ofR ofW ofK
  simp only [List.mem_map, List.mem_filter, Bool.and_eq_true, decide_eq_true_eq]
  constructor
  · rintro ⟨⟨y, hy, rfl⟩ | ⟨y, hy, rfl⟩, hs⟩
    · exact .inl ⟨y, ⟨hy, hs⟩, rfl⟩
    · exact .inr ⟨y, ⟨hy, hs⟩, rfl⟩
  · rintro (⟨y, ⟨hy, hs⟩, rfl⟩ | ⟨y, ⟨hy, hs⟩, rfl⟩)
    · exact ⟨.inl ⟨y, hy, rfl⟩, hs⟩
    · exact ⟨.inr ⟨y, hy, rfl⟩, hs⟩
theorem part_none (i : Int) : (ofR i n r).length + (ofW i n w).length = 0 ↔ ofL (keysB r w) i n = [] := by
  rw [← keys_part]
  constructor
  · intro h
    have e1 : ofR i n r = [] := List.eq_nil_of_length_eq_zero (by omega)
    have e2 : ofW i n w = [] := List.eq_nil_of_length_eq_zero (by omega)
    refine List.eq_nil_iff_forall_not_mem.2 fun x hx => ?_
    rw [e1, e2, keys_mem] at hx
    simp at hx
  · intro h
    have h' : ∀ x, x ∉ keysB (ofR i n r) (ofW i n w) := fun x => by rw [h]; simp
    have e1 : ofR i n r = [] := List.eq_nil_iff_forall_not_mem.2 fun y hy => h' y.f0 ((keys_mem _ _ _).2 (.inl ⟨y, hy, rfl⟩))
    have e2 : ofW i n w = [] := List.eq_nil_iff_forall_not_mem.2 fun y hy => h' y.f0 ((keys_mem _ _ _).2 (.inr ⟨y, hy, rfl⟩))
    rw [e1, e2]; rfl
theorem keys_ok (hk : (∀ x ∈ r, okKey x.f0 = true) ∧ ∀ x ∈ w, okKey x.f0 = true) : ∀ x ∈ keysB r w, okKey x = true := fun x hx => by
  rcases (keys_mem r w x).1 hx with ⟨y, hy, rfl⟩ | ⟨y, hy, rfl⟩
  · exact hk.1 y hy
  · exact hk.2 y hy
theorem acc_step (i : Int) (h1 : 1 ≤ n) (h4 : n ≤ 4) (hk : (∀ x ∈ r, okKey x.f0 = true) ∧ ∀ x ∈ w, okKey x.f0 = true) : joinB (accK r w n i) (ofL (keysB r w) i n) = accK r w n (i + 1) := by
  refine Joined.unique (joinB_joined _ _) ⟨(joinB_joined (rk r) (wk w)).1.sublist List.filter_sublist, fun x => ?_⟩
  unfold accK ofL
  simp only [List.mem_filter, decide_eq_true_eq]
  constructor
  · rintro ⟨hx, hs⟩
    by_cases h : shardN x n < i
    · exact .inl ⟨hx, h⟩
    · exact .inr ⟨hx, shardE_ok (keys_ok r w hk x hx) h1 h4, by omega⟩
  · rintro (⟨hx, hs⟩ | ⟨hx, _, hs⟩)
    · exact ⟨hx, by omega⟩
    · exact ⟨hx, by omega⟩
theorem cR_le (i : Int) : cR r n i ≤ r.length := List.length_filter_le _ _
theorem cW_le (i : Int) : cW w n i ≤ w.length := List.length_filter_le _ _
theorem whole_l0 (h : small r w) (h0 : a ≠ 0) (hR : rightB a b c d e s r w m = true) (h1 : 1 ≤ n) (h4 : n ≤ 4) : ∀ (dd i : Nat), (i : Int) + dd = n → Ev (fun k => althinglaw05_CommandWhole.l0 k n (cR r n i : Int) (cW w n i : Int) (accK r w n i) n (i : Int) a b c d e s r w m) true
  | 0, i, hi => by
    have hk := okR_of a b c d e s r w m h0 hR
    have hin : (i : Int) = n := by omega
    have e1 : cR r n i = r.length := by
      unfold cR
      rw [List.filter_eq_self.2 fun x hx => decide_eq_true (by rw [hin]; exact (shardN_range (hk.1 x hx) h1 h4).2)]
    have e2 : cW w n i = w.length := by
      unfold cW
      rw [List.filter_eq_self.2 fun x hx => decide_eq_true (by rw [hin]; exact (shardN_range (hk.2 x hx) h1 h4).2)]
    have e3 : accK r w n i = keysB r w := by
      unfold accK
      rw [List.filter_eq_self.2 fun x hx => decide_eq_true (by rw [hin]; exact (shardN_range (keys_ok r w hk x hx) h1 h4).2)]
    rw [e1, e2, e3]
    refine Ev.step (f := fun k => (althingref05_Keys.f k a b c d e s r w m).bind fun t573 => (althinglaw05_same.f k (keysB r w) t573).bind fun t576 => if t576 = true then (althinglaw05_awake.f k).bind fun t577 => some t577 else none) (fun k => ?_) ?_
    · simp only [althinglaw05_CommandWhole.l0]
      rw [if_neg (by omega), if_pos trivial, if_pos trivial]
    · refine Ev.bind (rkeys_is a b c d e s r w m h) (Ev.bindT ⟨2001, fun k hk => lsame_self _ (by have := (keys_few r w h).1; omega) k hk⟩ (Ev.bind awake_is (Ev.const rfl)))
  | dd + 1, i, hi => by
    have hk := okR_of a b c d e s r w m h0 hR
    have hr := h.1
    have hw := h.2.1
    have ih := whole_l0 h h0 hR h1 h4 dd (i + 1) (by omega)
    have hf := keys_few r w h
    have hown : few (ofL (keysB r w) (i : Int) n) := few_sub List.filter_sublist hf
    have hacc : few (accK r w n (i : Int)) := few_sub List.filter_sublist hf
    have sR : cR r n ((i + 1 : Nat) : Int) = cR r n i + (ofR (i : Int) n r).length := by
      rw [ofR_ok r n i h1 h4 hk.1]; exact cnt_step (fun x : Rd => shardN x.f0 n) i r
    have sW : cW w n ((i + 1 : Nat) : Int) = cW w n i + (ofW (i : Int) n w).length := by
      rw [ofW_ok w n i h1 h4 hk.2]; exact cnt_step (fun x : Wr => shardN x.f0 n) i w
    have sA := acc_step r w n i h1 h4 hk
    have lR := cR_le r n ((i + 1 : Nat) : Int)
    have lW := cW_le w n ((i + 1 : Nat) : Int)
    have wR : wrap64 ((cR r n i : Int) + ((ofR (i : Int) n r).length : Int)) = (cR r n ((i + 1 : Nat) : Int) : Int) := by unfold wrap64; omega
    have wW : wrap64 ((cW w n i : Int) + ((ofW (i : Int) n w).length : Int)) = (cW w n ((i + 1 : Nat) : Int) : Int) := by unfold wrap64; omega
    have hP : partB a b c d e s r w m i n = partEnd a b c d e s (ofR i n r) (ofW i n w) m := by unfold partB; rw [if_pos ⟨hR, h0, h1, h4⟩]
    refine Ev.step (fun k => by simp only [althinglaw05_CommandWhole.l0]; rw [if_pos (by omega)]) ?_
    refine Ev.bind (part_is a b c d e s r w m i n h) (Ev.bind (rkeys_is a b c d e s r w m h) (Ev.bind (of_is _ _ _ (by have := hf.1; omega)) ?_))
    rw [hP]
    unfold partEnd
    by_cases hz : (ofR (i : Int) n r).length + (ofW (i : Int) n w).length = 0
    · have hl := (part_none r w n i).1 hz
      have z1 : (ofR (i : Int) n r).length = 0 := by omega
      have z2 : (ofW (i : Int) n w).length = 0 := by omega
      rw [if_pos hz]
      refine Ev.congr (fun k => if_neg (by rw [hl]; simp)) (Ev.congr (fun k => if_neg (by decide)) ?_)
      refine Ev.bind (rjoin_ev _ _ hacc hown) ?_
      rw [sA]
      have q1 : wrap64 ((cR r n i : Int) + (([] : List Rd).length : Int)) = (cR r n ((i + 1 : Nat) : Int) : Int) := by rw [← wR, z1]; rfl
      have q2 : wrap64 ((cW w n i : Int) + (([] : List Wr).length : Int)) = (cW w n ((i + 1 : Nat) : Int) : Int) := by rw [← wW, z2]; rfl
      simp only [q1, q2, w1 i (by omega)]
      exact ih
    · have hl : ofL (keysB r w) (i : Int) n ≠ [] := fun e => hz ((part_none r w n i).2 e)
      have hl' : ((ofL (keysB r w) (i : Int) n).length : Int) ≠ 0 := fun e => hl (List.eq_nil_of_length_eq_zero (by omega))
      have hsm := small_sub r w (ofR_sub r i n) (ofW_sub w i n) h
      have hR' := right_sub a b c d e s r w m (ofR_sub r i n) (ofW_sub w i n) h0 hz hR
      rw [if_neg hz]
      refine Ev.congr (fun k => if_neg (by simpa using hl)) (Ev.congr (fun k => if_pos rfl) ?_)
      refine Ev.bindT (hR' ▸ rright_is a b c d e s (ofR i n r) (ofW i n w) m hsm) ?_
      refine Ev.bind (rkeys_is a b c d e s (ofR i n r) (ofW i n w) m hsm) ?_
      rw [keys_part]
      refine Ev.bindT ⟨2001, fun k hk => lsame_self _ (by have := hown.1; omega) k hk⟩ ?_
      refine Ev.bind (rjoin_ev _ _ hacc hown) ?_
      rw [sA]
      simp only [wR, wW, w1 i (by omega)]
      exact ih
theorem whole_j0 (x : Bool) (hx : x = false → small r w ∧ a ≠ 0 ∧ rightB a b c d e s r w m = true ∧ 1 ≤ n ∧ n ≤ 4) : Ev (fun k => althinglaw05_CommandWhole.j0 k n x a b c d e s r w m) true := by
  cases x with
  | true =>
    refine Ev.step (f := fun k => (althinglaw05_awake.f k).bind fun t => some t) (fun k => ?_) (Ev.bind awake_is (Ev.const rfl))
    simp only [althinglaw05_CommandWhole.j0]; rw [if_pos trivial]
  | false =>
    obtain ⟨h, h0, hR, h1, h4⟩ := hx rfl
    have hk := okR_of a b c d e s r w m h0 hR
    have hq := whole_l0 a b c d e s r w m n h h0 hR h1 h4 n.toNat 0 (by omega)
    have e1 : cR r n ((0 : Nat) : Int) = 0 := by
      unfold cR
      rw [List.filter_eq_nil_iff.2 fun x hx => by have := (shardN_range (hk.1 x hx) h1 h4).1; rw [decide_eq_true_eq]; omega]; rfl
    have e2 : cW w n ((0 : Nat) : Int) = 0 := by
      unfold cW
      rw [List.filter_eq_nil_iff.2 fun x hx => by have := (shardN_range (hk.2 x hx) h1 h4).1; rw [decide_eq_true_eq]; omega]; rfl
    have e3 : accK r w n ((0 : Nat) : Int) = [] := by
      unfold accK
      rw [List.filter_eq_nil_iff.2 fun x hx => by have := (shardN_range (keys_ok r w hk x hx) h1 h4).1; rw [decide_eq_true_eq]; omega]
    rw [e1, e2, e3] at hq
    refine Ev.step (fun k => ?_) hq
    simp only [althinglaw05_CommandWhole.j0]; rw [if_neg (by simp)]; rfl
theorem whole_ev : Ev (fun k => althinglaw05_CommandWhole.f k a b c d e s r w m n) true := by
  unfold althinglaw05_CommandWhole.f
  obtain ⟨q, hq, hp⟩ := few_ex [⟨a, ⟨b, c⟩, ⟨d, e⟩, s, r, w, m⟩] (by simp)
  have hT := whole_j0 a b c d e s r w m n true (fun e => by cases e)
  cases q with
  | false => exact Ev.bindF hq hT
  | true =>
    have h : small r w := hp rfl _ (List.mem_cons_self)
    refine Ev.bindT hq ?_
    have hr := rright_is a b c d e s r w m h
    cases hR : rightB a b c d e s r w m with
    | false => exact Ev.bindF (hR ▸ hr) hT
    | true =>
      refine Ev.bindT (hR ▸ hr) ?_
      by_cases h0 : a = 0
      · exact Ev.congr (fun k => if_pos h0) hT
      · refine Ev.congr (fun k => if_neg h0) ?_
        by_cases h1 : n < 1
        · exact Ev.congr (fun k => if_pos h1) hT
        · refine Ev.congr (fun k => if_neg h1) ?_
          exact whole_j0 a b c d e s r w m n (decide (n > 4)) (fun e => ⟨h, h0, hR, by omega, by rw [decide_eq_false_iff_not] at e; omega⟩)
end
theorem pure_CommandWhole (x0 : X.S29) (x1 : Int) (q0 : q29 x0) (q1 : inI64 x1) : ∃ k, X.althinglaw05_CommandWhole.f k x0.f0 x0.f1.f0 x0.f1.f1 x0.f2.f0 x0.f2.f1 x0.f3 x0.f4 x0.f5 x0.f6 x1 = some true := by
  obtain ⟨K, hK⟩ := whole_ev x0.f0 x0.f1.f0 x0.f1.f1 x0.f2.f0 x0.f2.f1 x0.f3 x0.f4 x0.f5 x0.f6 x1
  exact ⟨K, hK K (Nat.le_refl _)⟩
end Go.Proofs.Ytnjeeedndnfglaa.Pure
end
