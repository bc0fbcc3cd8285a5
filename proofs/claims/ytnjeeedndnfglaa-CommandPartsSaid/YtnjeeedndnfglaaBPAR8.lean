/- What the claim PAR leans on: texts joined by bundle.py, a program of ours; the words cut down to what is used. -/
import Derived.Test.YtnjeeedndnfglaaBPAR7
import Derived.WideShapes
import Derived.ProofKit
import Derived.Deep.Slices
import Derived.OpenShut
import Derived.ChangeArms
import Derived.KernelRfl
section
namespace Go.Proofs.Ytnjeeedndnfglaa
open Go.RowKit Go.Deep Go.ChangeShapes Go.WideShapes Go.Proofs.YtnjeeedndnfglaaW.PrintWords Go.Proofs.YtnjeeedndnfglaaW.PrintLast Go.Proofs.YtnjeeedndnfglaaW.PrintMore
set_option linter.unusedVariables false
set_option linter.unusedSimpArgs false
section
variable {H : Type} (enc : TypeId × Value → H) (P : Program) (w : World) (base : Nat) (spare : Nat → Bool) (held : Bool)
def Opn {α : Type} (t : TypeId) (d : Kd α) (Q : α → Prop) : Prop := ∀ fuel cs y, DataW.trod enc P w base spare held fuel t cs = some y → ∃ a, d.K w a cs ∧ Q a
def OpnL {α : Type} (fs : List (TypeId × Nat)) (o tot : Nat) (d : Kd α) (Q : α → Prop) : Prop :=
  ∀ (n : Nat) (cs : List Value), cs.length = tot → (∀ f ∈ fs, ∃ y, DataW.trod enc P w base spare held n f.1 ((cs.drop f.2).take (P.cellsOf f.1)) = some y) → ∃ a, d.K w a (cs.drop o) ∧ Q a
def inI64 (n : Int) : Prop := -9223372036854775808 ≤ n ∧ n ≤ 9223372036854775807
def inStr (s : ByteArray) : Prop := s.size ≤ maxLen
def inAny {α : Type} (_ : α) : Prop := True
def inAll {α : Type} (Q : α → Prop) (l : List α) : Prop := ∀ x ∈ l, Q x
variable {enc P w base spare held}
theorem Opn.i64 {t : TypeId} (ht : P.underlying t = some (.int .i64)) : Opn enc P w base spare held t (Kd.int .i64) inI64 := by
  intro fuel cs y h
  obtain ⟨n, rfl, _, hw⟩ := DataW.trod_int ht h
  refine ⟨n, rfl, ?_⟩
  simp [Lit.wf, IntKind.min, IntKind.max, IntKind.signed, IntKind.bits] at hw
  unfold inI64
  omega
theorem Opn.other {t : TypeId} {k : IntKind} (ht : P.underlying t = some (.int k)) : Opn enc P w base spare held t (Kd.int k) inAny := by
  intro fuel cs y h
  obtain ⟨n, rfl, _, hw⟩ := DataW.trod_int ht h
  exact ⟨n, rfl, trivial⟩
theorem Opn.bool {t : TypeId} (ht : P.underlying t = some .bool) : Opn enc P w base spare held t Kd.bool inAny := by
  intro fuel cs y h
  obtain ⟨b, rfl, _⟩ := DataW.trod_bool ht h
  exact ⟨b, rfl, trivial⟩
theorem Opn.string {t : TypeId} (ht : P.underlying t = some .string) : Opn enc P w base spare held t Kd.string inStr := by
  intro fuel cs y h
  obtain ⟨s, rfl, _, hs⟩ := DataW.trod_string ht h
  exact ⟨s, rfl, hs⟩
theorem choose_list {α : Type} {R : Nat → α → Prop} : ∀ n, (∀ i, i < n → ∃ a, R i a) → ∃ l : List α, l.length = n ∧ ∀ i a, l[i]? = some a → R i a
  | 0, _ => ⟨[], rfl, fun i a h => by simp at h⟩
  | n + 1, h => by
    obtain ⟨l, hl, hr⟩ := choose_list n (fun i hi => h i (by omega))
    obtain ⟨a, ha⟩ := h n (by omega)
    refine ⟨l ++ [a], by simp [hl], fun i b hb => ?_⟩
    rw [List.getElem?_append] at hb
    split at hb
    · exact hr i b hb
    · rename_i hge
      have : i = n := by
        have h2 := (List.getElem?_eq_some_iff.1 hb).1
        simp at h2
        omega
      subst this
      rw [hl] at hb
      simp at hb
      subst hb
      exact ha
theorem Opn.slice {α : Type} {t e : TypeId} {d : Kd α} {Q : α → Prop} (ht : P.underlying t = some (.slice e)) (hC : P.cellsOf e = d.sz) (he : Opn enc P w base spare held e d Q) : Opn enc P w base spare held t (Kd.slice e d) (inAll Q) := by
  intro fuel cs y h
  rcases open_slice ht h with ⟨rfl, _⟩ | ⟨a, len, cap, m, n, D, Pl, rfl, hb, hl, hm, hmm, _, hi⟩
  · exact ⟨[], ⟨none, 0, rfl, by simp, ⟨rfl, by simp, fun h => by simp at h⟩⟩, by intro x hx; cases hx⟩
  · have hlm : len ≤ m := by rw [hmm]; split <;> omega
    obtain ⟨l, hlen, hR⟩ := choose_list (R := fun i x => (∃ c, c.length = d.sz ∧ d.K w x c ∧ ∀ j u, c[j]? = some u → w.cell? (a.add (i * d.sz + j)) = some u) ∧ Q x) len (fun i hil => by
      obtain ⟨cs', hc, ht'⟩ := hi i (by omega)
      obtain ⟨x, hK, hQ⟩ := he _ _ _ ht'
      rw [hC] at hc
      obtain ⟨_, hcl, hat⟩ := World.cells?_some hc
      refine ⟨x, ⟨cs', d.K_len hK, hK, fun j u hu => ?_⟩, hQ⟩
      have hj : j < d.sz := by have := (List.getElem?_eq_some_iff.1 hu).1; rw [d.K_len hK] at this; exact this
      have := hat j hj
      rw [Go.Deep.add_add] at this
      rw [this, hu])
    refine ⟨l, ⟨some a, cap, by rw [hlen], by omega, ⟨rfl, ?_, fun hp => ⟨a, rfl, fun j p hj => (hR j p hj).1⟩⟩⟩, fun x hx => ?_⟩
    · have : cap ≤ maxLen := hm
      unfold maxLen at this
      omega
    · obtain ⟨i, hil, rfl⟩ := List.getElem_of_mem hx
      exact (hR i _ (List.getElem?_eq_getElem hil)).2
theorem OpnL.one {α : Type} {t : TypeId} {o tot : Nat} {d : Kd α} {Q : α → Prop} (h : Opn enc P w base spare held t d Q) (hc : P.cellsOf t = d.sz) (htot : tot = o + d.sz) : OpnL enc P w base spare held [(t, o)] o tot d Q := by
  intro n cs hl hf
  obtain ⟨y, hy⟩ := hf (t, o) (by simp)
  simp only [hc] at hy
  rw [List.take_of_length_le (by rw [List.length_drop]; omega)] at hy
  exact h _ _ _ hy
theorem OpnL.cons {α β : Type} {t : TypeId} {o tot : Nat} {d : Kd α} {d' : Kd β} {Q : α → Prop} {Q' : β → Prop} {fs : List (TypeId × Nat)} (h : Opn enc P w base spare held t d Q) (hc : P.cellsOf t = d.sz) (hs : OpnL enc P w base spare held fs (o + d.sz) tot d' Q') :
    OpnL enc P w base spare held ((t, o) :: fs) o tot (Kd.pair d d') (fun x => Q x.1 ∧ Q' x.2) := by
  intro n cs hl hf
  obtain ⟨y, hy⟩ := hf (t, o) (by simp)
  simp only [hc] at hy
  obtain ⟨a, ha, hQ⟩ := h _ _ _ hy
  obtain ⟨b, hb, hQ'⟩ := hs n cs hl (fun f hm => hf f (List.mem_cons_of_mem _ hm))
  refine ⟨(a, b), ⟨(cs.drop o).take d.sz, cs.drop (o + d.sz), ?_, ha, hb⟩, hQ, hQ'⟩
  rw [← List.drop_drop, List.take_append_drop]
theorem Opn.struct {α β : Type} {t : TypeId} {fs : Array Field} {L : List (TypeId × Nat)} {tot : Nat} {d : Kd α} {g : β → α} {Q : α → Prop} {Q' : β → Prop} (ht : P.underlying t = some (.struct fs)) (hL : fs.toList.map (fun f => (f.type, f.offset)) = L) (hC : P.cellsOf t = tot)
    (h : OpnL enc P w base spare held L 0 tot d Q) (hg : ∀ a, Q a → ∃ b, g b = a ∧ Q' b) : Opn enc P w base spare held t (Kd.iso d g) Q' := by
  intro fuel cs y hy
  obtain ⟨xs, n, _, _, hlen, hxl, hi⟩ := DataW.trod_struct ht hy
  obtain ⟨a, hK, hQ⟩ := h n cs (by rw [hlen, hC]) (fun f hf => by
    rw [← hL, List.mem_map] at hf
    obtain ⟨f0, hf0, rfl⟩ := hf
    obtain ⟨i, hil, rfl⟩ := List.getElem_of_mem hf0
    have h1 := hi i _ (show fs[i]? = some (fs.toList[i]) by rw [← Array.getElem?_toList]; exact List.getElem?_eq_getElem hil)
    have h2 : i < xs.length := by rw [hxl]; simpa using hil
    rw [List.getElem?_eq_getElem h2] at h1
    exact ⟨_, h1⟩)
  obtain ⟨b, hb, hq⟩ := hg a hQ
  refine ⟨b, ?_, hq⟩
  show d.K w (g b) cs
  rw [hb]
  simpa using hK
theorem Opn.array {α β : Type} {t e : TypeId} {m c : Nat} {L : List (TypeId × Nat)} {tot : Nat} {d : Kd α} {g : β → α} {Q : α → Prop} {Q' : β → Prop} (ht : P.underlying t = some (.array m e)) (hc : P.cellsOf e = c) (hL : (List.range m).map (fun i => (e, i * c)) = L) (hC : P.cellsOf t = tot)
    (h : OpnL enc P w base spare held L 0 tot d Q) (hg : ∀ a, Q a → ∃ b, g b = a ∧ Q' b) : Opn enc P w base spare held t (Kd.iso d g) Q' := by
  intro fuel cs y hy
  obtain ⟨xs, n, _, _, hlen, hxl, hi⟩ := DataW.trod_array ht hy
  obtain ⟨a, hK, hQ⟩ := h n cs (by rw [hlen, hC]) (fun f hf => by
    rw [← hL, List.mem_map] at hf
    obtain ⟨i, hil, rfl⟩ := hf
    rw [List.mem_range] at hil
    have h1 := hi i hil
    rw [List.getElem?_eq_getElem (by omega), hc] at h1
    refine ⟨xs[i], ?_⟩
    simp only [hc]
    exact h1)
  obtain ⟨b, hb, hq⟩ := hg a hQ
  refine ⟨b, ?_, hq⟩
  show d.K w (g b) cs
  rw [hb]
  simpa using hK
end
theorem agg_of_okWide {P : Program} {w : World} {base : Nat} {t : TypeId} {v : Value} {d : TypeDesc} (hu : P.underlying t = some d) (hd : (match d with | .struct _ | .array _ _ => true | _ => false) = true) (hv : Value.okWide P w .any base t v) : ∃ cs : Array Value, v = .agg cs := by
  unfold Value.okWide at hv
  rw [hu] at hv
  have hv2 : ∃ cs : Array Value, v = .agg cs ∧ cs.size = P.cellsOf t ∧ Row.okWide P w .any base t cs := by
    cases d <;> simp at hd <;> exact hv
  obtain ⟨cs, rfl, _⟩ := hv2
  exact ⟨cs, rfl⟩
end Go.Proofs.Ytnjeeedndnfglaa
end
section
namespace Go.Proofs.Ytnjeeedndnfglaa
open Go.RowKit Go.Proofs.YtnjeeedndnfglaaW.PrintWords Go.Proofs.YtnjeeedndnfglaaW.PrintLast Go.Proofs.YtnjeeedndnfglaaW.PrintMore
set_option linter.unusedVariables false
set_option maxRecDepth 100000
def q23 (x : X.S23) : Prop := inI64 x.f0 ∧ inI64 x.f1
theorem opn23 {H : Type} {enc : TypeId × Value → H} {w : World} {base : Nat} {spare : Nat → Bool} {held : Bool} : Opn enc Try.prog w base spare held 23 X.k23 q23 := by
  unfold X.k23
  exact Opn.struct (L := [(3, 0), (3, 1)]) (tot := 2) Try.underlying23 (by rfl) (by kernel_rfl) (OpnL.cons (Opn.i64 Try.underlying3) (by kernel_rfl) (OpnL.one (Opn.i64 Try.underlying3) (by kernel_rfl) rfl)) (fun a h => ⟨⟨a.1, a.2⟩, rfl, h⟩)
def q25 (x : X.S25) : Prop := inI64 x.f0 ∧ inI64 x.f1
theorem opn25 {H : Type} {enc : TypeId × Value → H} {w : World} {base : Nat} {spare : Nat → Bool} {held : Bool} : Opn enc Try.prog w base spare held 25 X.k25 q25 := by
  unfold X.k25
  exact Opn.struct (L := [(3, 0), (3, 1)]) (tot := 2) Try.underlying25 (by rfl) (by kernel_rfl) (OpnL.cons (Opn.i64 Try.underlying3) (by kernel_rfl) (OpnL.one (Opn.i64 Try.underlying3) (by kernel_rfl) rfl)) (fun a h => ⟨⟨a.1, a.2⟩, rfl, h⟩)
def q38 (x : X.S38) : Prop := inStr x.f0 ∧ q25 x.f1
theorem opn38 {H : Type} {enc : TypeId × Value → H} {w : World} {base : Nat} {spare : Nat → Bool} {held : Bool} : Opn enc Try.prog w base spare held 38 X.k38 q38 := by
  unfold X.k38
  exact Opn.struct (L := [(9, 0), (25, 1)]) (tot := 3) Try.underlying38 (by rfl) (by kernel_rfl) (OpnL.cons (Opn.string Try.underlying9) (by kernel_rfl) (OpnL.one opn25 (by kernel_rfl) rfl)) (fun a h => ⟨⟨a.1, a.2⟩, rfl, h⟩)
def q40 (x : X.S40) : Prop := inStr x.f0 ∧ inStr x.f1
theorem opn40 {H : Type} {enc : TypeId × Value → H} {w : World} {base : Nat} {spare : Nat → Bool} {held : Bool} : Opn enc Try.prog w base spare held 40 X.k40 q40 := by
  unfold X.k40
  exact Opn.struct (L := [(9, 0), (9, 1)]) (tot := 2) Try.underlying40 (by rfl) (by kernel_rfl) (OpnL.cons (Opn.string Try.underlying9) (by kernel_rfl) (OpnL.one (Opn.string Try.underlying9) (by kernel_rfl) rfl)) (fun a h => ⟨⟨a.1, a.2⟩, rfl, h⟩)
def q29 (x : X.S29) : Prop := inI64 x.f0 ∧ q23 x.f1 ∧ q25 x.f2 ∧ inI64 x.f3 ∧ (inAll q38) x.f4 ∧ (inAll q40) x.f5 ∧ inAny x.f6
theorem opn29 {H : Type} {enc : TypeId × Value → H} {w : World} {base : Nat} {spare : Nat → Bool} {held : Bool} : Opn enc Try.prog w base spare held 29 X.k29 q29 := by
  unfold X.k29
  exact Opn.struct (L := [(3, 0), (23, 1), (25, 3), (3, 5), (26, 6), (27, 7), (4, 8)]) (tot := 9) Try.underlying29 (by rfl) (by kernel_rfl) (OpnL.cons (Opn.i64 Try.underlying3) (by kernel_rfl) (OpnL.cons opn23 (by kernel_rfl) (OpnL.cons opn25 (by kernel_rfl) (OpnL.cons (Opn.i64 Try.underlying3) (by kernel_rfl) (OpnL.cons (Opn.slice Try.underlying26 (by kernel_rfl) opn38) (by kernel_rfl) (OpnL.cons (Opn.slice Try.underlying27 (by kernel_rfl) opn40) (by kernel_rfl) (OpnL.one (Opn.bool Try.underlying4) (by kernel_rfl) rfl))))))) (fun a h => ⟨⟨a.1, a.2.1, a.2.2.1, a.2.2.2.1, a.2.2.2.2.1, a.2.2.2.2.2.1, a.2.2.2.2.2.2⟩, rfl, h⟩)
end Go.Proofs.Ytnjeeedndnfglaa
end
section
namespace Go.Proofs.Ytnjeeedndnfglaa.Pure
open Go.RowKit Go.Proofs.Ytnjeeedndnfglaa.Keys Go.Proofs.Ytnjeeedndnfglaa.Strs Go.Proofs.YtnjeeedndnfglaaW.PrintWords Go.Proofs.YtnjeeedndnfglaaW.PrintLast Go.Proofs.YtnjeeedndnfglaaW.PrintMore Go.Proofs.Ytnjeeedndnfglaa.X
set_option linter.unusedSimpArgs false
set_option linter.unusedVariables false
theorem rshard_ev (s : ByteArray) (n : Int) (hk : okKey s = true) (h1 : 1 ≤ n) (h4 : n ≤ 4) : Ev (fun k => althingref04_Shard.f k s n) (shardN s n, 0) := by
  have hs := ok_size hk
  obtain ⟨K, hK⟩ := refWeight_is s hs
  have hw := weight_range s hs
  refine ⟨K, fun k hkk => ?_⟩
  show althingref04_Shard.f k s n = _
  unfold althingref04_Shard.f shardN
  rw [rright_f, Option.bind_some, hk, if_pos rfl, if_neg (by omega), if_neg (by omega), hK k hkk, Option.bind_some, if_neg (by omega), if_pos ⟨rfl, by omega, by omega⟩]
  generalize weight s = W at hw
  rw [Int.tdiv_eq_ediv_of_nonneg hw.1]
  have hm : n = 1 ∨ n = 2 ∨ n = 3 ∨ n = 4 := by omega
  congr 2
  unfold wrap64
  rcases hm with rfl | rfl | rfl | rfl <;> omega
section
variable (a b c d e s : Int) (r : List Rd) (w : List Wr) (m : Bool) (sh n : Int)
theorem okk (x : ByteArray) (hk : okKey x = true) (h1 : 1 ≤ n) (h4 : n ≤ 4) : ofK sh n x = decide (shardN x n = sh) := by
  unfold ofK
  rw [shardE_ok hk h1 h4]; simp
theorem rpart_l1 (r1 : List Rd) (hr : r1.length ≤ 100) (hw : w.length ≤ 100) (h1 : 1 ≤ n) (h4 : n ≤ 4) (hk : ∀ x ∈ w, okKey x.f0 = true) : ∀ dd i, i + dd = w.length → Ev (fun k => althingref05_Part.l1 k sh n (i : Int) a b c d e s r w m a b c d e s r1 (ofW sh n (w.take i)) m) (partEnd a b c d e s r1 (ofW sh n w) m)
  | 0, i, hi => by
    refine Ev.step (f := fun _ => some (partEnd a b c d e s r1 (ofW sh n w) m)) (fun k => ?_) (Ev.const rfl)
    simp only [althingref05_Part.l1]
    rw [if_neg (by omega), show i = w.length by omega, List.take_length]
    unfold partEnd
    by_cases g1 : r1.length = 0
    · by_cases g2 : (ofW sh n w).length = 0
      · rw [if_pos (by omega), if_pos (by omega), if_pos (by omega)]
      · rw [if_pos (by omega), if_neg (by omega), if_neg (by omega)]
    · rw [if_neg (by omega), if_neg (by omega)]
  | dd + 1, i, hi => by
    have hil : i < w.length := by omega
    have hl : (ofW sh n (w.take i)).length ≤ (w.take i).length := List.length_filter_le _ _
    rw [List.length_take] at hl
    have hx := hk _ (List.getElem_mem hil)
    have ht : ofW sh n (w.take (i + 1)) = ofW sh n (w.take i) ++ (if shardN w[i].f0 n = sh then [w[i]] else []) := by
      unfold ofW
      rw [List.take_succ_eq_append_getElem hil, List.filter_append]
      congr 1
      rw [List.filter_cons, okk sh n _ hx h1 h4]
      by_cases g : shardN w[i].f0 n = sh <;> simp [g]
    have ih := rpart_l1 r1 hr hw h1 h4 hk dd (i + 1) (by omega)
    rw [ht] at ih
    refine Ev.step (fun k => by simp only [althingref05_Part.l1]; rw [if_pos (by omega), if_pos (by omega)]) ?_
    simp only [rdW w i hil, w1 i (show i ≤ 100000000 by omega)]
    refine Ev.bind (rshard_ev w[i].f0 n hx h1 h4) ?_
    by_cases g : shardN w[i].f0 n = sh
    · rw [if_pos g] at ih
      exact Ev.congr (fun k => if_pos g) (Ev.congr (fun k => if_pos (by omega)) ih)
    · rw [if_neg g, List.append_nil] at ih
      exact Ev.congr (fun k => if_neg g) ih
theorem rpart_l0 (hr : r.length ≤ 100) (hw : w.length ≤ 100) (h1 : 1 ≤ n) (h4 : n ≤ 4) (hk : ∀ x ∈ r, okKey x.f0 = true) (hk2 : ∀ x ∈ w, okKey x.f0 = true) : ∀ dd i, i + dd = r.length → Ev (fun k => althingref05_Part.l0 k sh n (i : Int) a b c d e s r w m a b c d e s (ofR sh n (r.take i)) m) (partEnd a b c d e s (ofR sh n r) (ofW sh n w) m)
  | 0, i, hi => by
    have hl : (ofR sh n r).length ≤ r.length := List.length_filter_le _ _
    refine Ev.step (fun k => ?_) (rpart_l1 a b c d e s r w m sh n (ofR sh n r) (by omega) hw h1 h4 hk2 w.length 0 (by omega))
    simp only [althingref05_Part.l0]
    rw [if_neg (by omega), show i = r.length by omega, List.take_length]; rfl
  | dd + 1, i, hi => by
    have hil : i < r.length := by omega
    have hl : (ofR sh n (r.take i)).length ≤ (r.take i).length := List.length_filter_le _ _
    rw [List.length_take] at hl
    have hx := hk _ (List.getElem_mem hil)
    have ht : ofR sh n (r.take (i + 1)) = ofR sh n (r.take i) ++ (if shardN r[i].f0 n = sh then [r[i]] else []) := by
      unfold ofR
      rw [List.take_succ_eq_append_getElem hil, List.filter_append]
      congr 1
      rw [List.filter_cons, okk sh n _ hx h1 h4]
      by_cases g : shardN r[i].f0 n = sh <;> simp [g]
    have ih := rpart_l0 hr hw h1 h4 hk hk2 dd (i + 1) (by omega)
    rw [ht] at ih
    refine Ev.step (fun k => by simp only [althingref05_Part.l0]; rw [if_pos (by omega), if_pos (by omega)]) ?_
    simp only [rdR r i hil, w1 i (show i ≤ 100000000 by omega)]
    refine Ev.bind (rshard_ev r[i].f0 n hx h1 h4) ?_
    by_cases g : shardN r[i].f0 n = sh
    · rw [if_pos g] at ih
      exact Ev.congr (fun k => if_pos g) (Ev.congr (fun k => if_pos (by omega)) ih)
    · rw [if_neg g, List.append_nil] at ih
      exact Ev.congr (fun k => if_neg g) ih
theorem rpart_j0 (h : small r w) (x : Bool) (hx : x = false → 1 ≤ n ∧ n ≤ 4 ∧ (∀ y ∈ r, okKey y.f0 = true) ∧ ∀ y ∈ w, okKey y.f0 = true) : Ev (fun k => althingref05_Part.j0 k sh n x a b c d e s r w m) (if x = true then errEnd else partEnd a b c d e s (ofR sh n r) (ofW sh n w) m) := by
  cases x with
  | true =>
    refine Ev.step (f := fun _ => some errEnd) (fun k => ?_) (Ev.const (by simp))
    simp only [althingref05_Part.j0]; rw [if_pos trivial]; rfl
  | false =>
    obtain ⟨h1, h4, hk, hk2⟩ := hx rfl
    refine Ev.step (fun k => ?_) (by simpa using rpart_l0 a b c d e s r w m sh n (by have := h.1; omega) (by have := h.2.1; omega) h1 h4 hk hk2 r.length 0 (by omega))
    simp only [althingref05_Part.j0]; rw [if_neg (by simp)]; rfl
theorem oks_of (h0 : a ≠ 0) (hR : rightB a b c d e s r w m = true) : (∀ x ∈ r, okKey x.f0 = true) ∧ ∀ x ∈ w, okKey x.f0 = true := by
  unfold rightB at hR
  rw [if_neg h0] at hR
  by_cases h1 : a = 1 ∨ a = 2
  · rw [if_pos h1, Bool.and_eq_true] at hR
    have ht := hR.2
    unfold tailB at ht
    simp only [Bool.and_eq_true] at ht
    exact ⟨fun x hx => ((rightsB_iff _).1 ht.2.2.1).1 _ (List.mem_map_of_mem hx), fun x hx => ((rightsB_iff _).1 ht.2.2.2).1 _ (List.mem_map_of_mem hx)⟩
  · rw [if_neg h1] at hR; cases hR
theorem rpart_is (h : small r w) : Ev (fun k => althingref05_Part.f k a b c d e s r w m sh n) (partB a b c d e s r w m sh n) := by
  have hT := rpart_j0 a b c d e s r w m sh n h true (fun e => by cases e)
  rw [if_pos rfl] at hT
  unfold partB althingref05_Part.f
  have hq := rright_is a b c d e s r w m h
  cases hR : rightB a b c d e s r w m with
  | false =>
    rw [if_neg (by simp)]
    exact Ev.bindF (hR ▸ hq) hT
  | true =>
    refine Ev.bindT (hR ▸ hq) ?_
    by_cases h0 : a = 0
    · rw [if_neg (fun q => q.2.1 h0)]
      exact Ev.congr (fun k => if_pos h0) hT
    · refine Ev.congr (fun k => if_neg h0) ?_
      by_cases h1 : n < 1
      · rw [if_neg (fun q => by omega)]
        exact Ev.congr (fun k => if_pos h1) hT
      · refine Ev.congr (fun k => if_neg h1) ?_
        by_cases h4 : n > 4
        · rw [if_neg (fun q => by omega), decide_eq_true h4]
          exact hT
        · have hj := rpart_j0 a b c d e s r w m sh n h false (fun _ => ⟨by omega, by omega, oks_of a b c d e s r w m h0 hR⟩)
          rw [if_neg (by simp)] at hj
          rw [if_pos ⟨rfl, h0, by omega, by omega⟩, decide_eq_false h4]
          exact hj
theorem rdecided_is (h : small r w) (m' : Bool) : Ev (fun k => althingref05_Decided.f k a b c d e s r w m m') (decidedB a b c d e s r w m m') := by
  unfold decidedB althingref05_Decided.f
  have hq := rright_is a b c d e s r w m h
  cases hR : rightB a b c d e s r w m with
  | false =>
    rw [if_neg (show ¬ (false = true ∧ a = 1) by simp)]
    exact Ev.bindF (hR ▸ hq) (Ev.const rfl)
  | true =>
    refine Ev.bindT (hR ▸ hq) ?_
    by_cases ha : a = 1
    · rw [if_pos (show true = true ∧ a = 1 from ⟨rfl, ha⟩)]
      exact Ev.congr (fun k => if_pos ha) (Ev.const rfl)
    · rw [if_neg (show ¬ (true = true ∧ a = 1) from fun q => ha q.2)]
      exact Ev.congr (fun k => if_neg ha) (Ev.const rfl)
theorem part_small (h : small r w) : small (partB a b c d e s r w m sh n).2.2.2.2.2.2.1 (partB a b c d e s r w m sh n).2.2.2.2.2.2.2.1 := by
  unfold partB
  split
  · unfold partEnd
    split
    · exact small_nil
    · exact small_sub r w (ofR_sub r sh n) (ofW_sub w sh n) h
  · exact small_nil
theorem decided_small (h : small r w) (m' : Bool) : small (decidedB a b c d e s r w m m').2.2.2.2.2.2.1 (decidedB a b c d e s r w m m').2.2.2.2.2.2.2.1 := by
  unfold decidedB
  split
  · exact h
  · exact small_nil
theorem parts_ev (m' : Bool) : Ev (fun k => althinglaw05_CommandParts.f k a b c d e s r w m sh n m') true := by
  unfold althinglaw05_CommandParts.f
  obtain ⟨q, hq, hp⟩ := few_ex [⟨a, ⟨b, c⟩, ⟨d, e⟩, s, r, w, m⟩] (by simp)
  cases q with
  | false => exact Ev.bindF hq (Ev.bind awake_is (Ev.const rfl))
  | true =>
    have h : small r w := hp rfl _ (List.mem_cons_self)
    have hP := part_small a b c d e s r w m sh n h
    have hD := decided_small a b c d e s r w m h m'
    refine Ev.bindT hq (Ev.bind (part_is a b c d e s r w m sh n h) (Ev.bind (rpart_is a b c d e s r w m sh n h) (Ev.bind (decided_is a b c d e s r w m h m') (Ev.bind (rdecided_is a b c d e s r w m h m') ?_))))
    refine Ev.bindT (rsame_self _ _ _ _ _ _ _ _ _ hP) (Ev.congr (fun k => if_pos rfl) ?_)
    exact Ev.bindT (rsame_self _ _ _ _ _ _ _ _ _ hD) (Ev.congr (fun k => if_pos rfl) (Ev.bind awake_is (Ev.const rfl)))
end
theorem pure_CommandParts (x0 : X.S29) (x1 : Int) (x2 : Int) (x3 : Bool) (q0 : q29 x0) (q1 : inI64 x1) (q2 : inI64 x2) (q3 : inAny x3) : ∃ k, X.althinglaw05_CommandParts.f k x0.f0 x0.f1.f0 x0.f1.f1 x0.f2.f0 x0.f2.f1 x0.f3 x0.f4 x0.f5 x0.f6 x1 x2 x3 = some true := by
  obtain ⟨K, hK⟩ := parts_ev x0.f0 x0.f1.f0 x0.f1.f1 x0.f2.f0 x0.f2.f1 x0.f3 x0.f4 x0.f5 x0.f6 x1 x2 x3
  exact ⟨K, hK K (Nat.le_refl _)⟩
end Go.Proofs.Ytnjeeedndnfglaa.Pure
end
