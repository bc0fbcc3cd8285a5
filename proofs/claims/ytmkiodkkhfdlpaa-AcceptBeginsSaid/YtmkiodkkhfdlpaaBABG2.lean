/- What the claim ABG leans on: texts joined by bundle.py, a program of ours; the words cut down to what is used. -/
import Derived.Test.YtmkiodkkhfdlpaaBABG1
import Derived.WideShapes
import Derived.ProofKit
import Derived.Deep.Slices
import Derived.OpenShut
import Derived.ChangeArms
import Derived.ShutString
import Derived.ChangeOld
import Derived.Below
import Derived.Carry
section
namespace Go.Vm
open Go.RowKit
set_option linter.unusedVariables false
set_option linter.unusedSimpArgs false

section
variable {P : Program} {T : Tab} {E : Env} {G : Gam} {n : Nat}

theorem notmem_of_disj {l m : List Nat} (h : disj l m = true) {i : Nat} (hi : i ∈ l) : i ∉ m := disj_spec h i hi
theorem nodup_cons {x : Nat} {l : List Nat} (h : nodupB (x :: l) = true) : x ∉ l ∧ nodupB l = true := by
  simp only [nodupB, Bool.and_eq_true, Bool.not_eq_true'] at h
  refine ⟨fun hm => ?_, h.2⟩
  have : (l.any fun y => Nat.beq x y) = true := List.any_eq_true.2 ⟨x, hm, Nat.beq_refl x⟩
  rw [this] at h
  cases h.1

def cutS (c : Cx) (O : List Nat) : Nat → Prop := fun b => c.S b ∨ ∃ a A, c.m.arr a = .at_ A ∧ A.open_ = true ∧ a ∉ O ∧ (c.ar a).ownBlock = some b

theorem readD_ok {c : Cx} (hr : Rel E c) {O : List Nat} {t : Ty} {x : V} {u : Value} (hx : RelV P E c x u) (hO : ∀ a, x = .own a → a ∉ O) {y : t.den} (h : readD t c.m x = some y) : RelD c.w (cutS c O) t y u := by
  have hS : ∀ b, c.S b → cutS c O b := fun b hb => .inl hb
  cases x with
  | dat d =>
    simp only [readD] at h
    split at h
    · rename_i he
      obtain ⟨dt, dx⟩ := d
      simp only at he
      subst he
      injection h with h
      subst h
      exact RelD.move (S := c.S) (fun _ _ => rfl) hS hx
    · cases h
  | nils =>
    cases t with
    | sl e t =>
      simp only [readD] at h
      injection h with h
      subst h
      have : u = .slice none 0 0 := hx
      subst this
      exact ⟨none, 0, rfl, Nat.le_refl _, fun hp => absurd hp (Nat.lt_irrefl 0)⟩
    | _ => cases h
  | own a =>
    simp only [readD] at h
    cases ha : c.m.arr a with
    | no => rw [ha] at h; cases h
    | dead => rw [ha] at h; cases h
    | at_ A =>
      rw [ha] at h
      simp only at h
      split at h
      · rename_i he
        subst he
        injection h with h
        subst h
        have hu : u = c.ar a := hx.2 A ha
        subst hu
        have hA := hr.arr a A ha
        unfold RelA at hA
        split at hA
        · rename_i ho
          obtain ⟨inner, h1, h2, h3⟩ := hA
          rcases h1.2 with ⟨hv, hn⟩ | ⟨g, cap, cur, hv, hb, hh, hle, _⟩
          · refine ⟨none, 0, ?_, Nat.le_of_eq hn, fun hp => absurd hp (by show ¬ 0 < A.xs.length; omega)⟩
            show [c.ar a] = [Value.slice none A.xs.length 0]
            rw [hv, hn]
          · refine ⟨some ⟨g, 0, none⟩, cap, by rw [hv]; rfl, hle, fun _ => ⟨⟨g, 0, none⟩, inner, rfl, .inr ⟨a, A, ha, ho, hO a rfl, by rw [hv]; rfl⟩, h1.1, ?_, h2.imp (fun _ _ hh => hh.move (fun _ _ => rfl) hS)⟩⟩
            exact fun i u hu => h1.cells (g := g) (by rw [hv]; rfl) i u hu
        · exact RelC.move (fun _ _ => rfl) hS hA
      · cases h
  | bad => cases h
  | und => cases h
  | ptr b p t' => cases h
  | rptr d => cases h
  | clo f cs => cases h
  | fnp a r g => cases h

structure CutInv (P : Program) (E : Env) (n : Nat) (c : Cx) (a : Act) (O : List Nat) (st : St) (cs : List CK) (st' : St) (c' : Cx) : Prop where
  m : c'.m = st'.mem
  w : c'.w = c.w
  S : c'.S = cutS c O
  rel : Rel E c'
  tmp : ∀ t, RelV P E c' (st'.tmp t) (a.tmps.getD t undef)
  box : ∀ b B, c'.m.box b = some B → c'.bx b = c.bx b ∧ c.m.box b = some B ∧ boxIn b cs = true
  boxR : ∀ b ty, boxB b ty cs = true → ∃ B, c'.m.box b = some B ∧ B.t = ty ∧ c'.bx b = c.bx b
  arr : ∀ i A, c'.m.arr i = .at_ A → (∃ t, i = t + ownBase ∧ ownIn t cs = true) ∧ ((c'.ar i).ownBlock = none ∨ ∃ a0 A0, a0 ∈ ownsOf st cs ∧ c.m.arr a0 = .at_ A0 ∧ A0.open_ = true ∧ c'.ar i = c.ar a0)
  dead : ∀ i, c'.m.arr i ≠ .no → ∃ t, i = t + ownBase ∧ ownIn t cs = true

theorem cut_base {c : Cx} {st : St} {a : Act} (inv : Inv P E n st c a) (O : List Nat) : CutInv P E n c a O st [] St.empty { c with S := cutS c O, m := St.empty.mem } := by
  have hr := inv.rel
  refine ⟨rfl, rfl, rfl, ⟨hr.os, hr.tape, hr.output, hr.size, hr.keep, fun b hb => .inl (hr.old b hb), ?_, ?_, ?_, ?_, ?_, ?_, ?_, ?_⟩, fun t => trivial, ?_, ?_, ?_, ?_⟩
  · rintro b (hb | ⟨i, A, hA, ho, _, hb⟩)
    · exact hr.lt b hb
    · exact hr.arrLt hA ho hb
  · rintro b (hb | ⟨i, A, hA, ho, _, hb⟩)
    · exact hr.new b hb
    · have := hr.arr i A hA
      unfold RelA at this
      rw [if_pos ho] at this
      obtain ⟨_, h1, _⟩ := this
      exact .inr (h1.lt b hb).1
  · intro b B h; cases h
  · intro b h; exact absurd rfl h
  · intro b B h; cases h
  · intro b b' h; exact absurd rfl h
  · intro b b' A A' g h; cases h
  · intro b i A h; exact absurd rfl h
  · intro b B h; cases h
  · intro b ty h; cases h
  · intro i A h; cases h
  · intro i h; exact absurd rfl h

theorem boxIn_of_boxB {b : Nat} {ty : Ty} : ∀ {cs : List CK}, boxB b ty cs = true → boxIn b cs = true
  | .box b' t' :: cs, h => by
    simp only [boxB, Bool.or_eq_true, Bool.and_eq_true] at h
    simp only [boxIn, Bool.or_eq_true]
    rcases h with h | h
    · exact .inl h.1
    · exact .inr (boxIn_of_boxB h)
  | .tmp _ _ :: cs, h => boxIn_of_boxB (cs := cs) h
  | .rptr _ _ :: cs, h => boxIn_of_boxB (cs := cs) h
  | .fnp _ _ _ :: cs, h => boxIn_of_boxB (cs := cs) h
  | .clo _ _ _ :: cs, h => boxIn_of_boxB (cs := cs) h
  | .own _ _ _ :: cs, h => boxIn_of_boxB (cs := cs) h
  | .ptr _ _ _ :: cs, h => boxIn_of_boxB (cs := cs) h

theorem caps_ok {c c' : Cx} {cs : List CK} (hS : SameOn c.S c.w c'.w) (hSS : ∀ b, c.S b → c'.S b) (hbox : ∀ b ty, boxB b ty cs = true → ∃ B, c'.m.box b = some B ∧ B.t = ty ∧ c'.bx b = c.bx b) :
    ∀ {ks : List CapK} {caps : List Cap} {vs : List Value} {l : capden ks}, capsB cs ks = true → readCaps ks caps = some l → RelCaps c caps vs → RelCaps c' (putCaps ks l) vs
  | [], [], vs, l, _, _, h => h
  | .ptr b ty :: ks, .ptr b' ty' :: caps, _, l, hb, hr, ⟨v, vs, rfl, h0, h1⟩ => by
    simp only [capsB, Bool.and_eq_true] at hb
    simp only [readCaps] at hr
    split at hr
    · rename_i hc
      simp only [Bool.and_eq_true, decide_eq_true_eq] at hc
      obtain ⟨hb1, rfl⟩ := hc
      have := Nat.eq_of_beq_eq_true hb1
      subst this
      obtain ⟨B', hB', ht', hbx⟩ := hbox b ty' hb.1
      exact ⟨v, vs, rfl, ⟨⟨B', hB', ht'⟩, by rw [hbx]; exact h0.2⟩, caps_ok hS hSS hbox hb.2 hr h1⟩
    · cases hr
  | .dat ty :: ks, .dat d :: caps, _, l, hb, hr, ⟨v, vs, rfl, h0, h1⟩ => by
    simp only [readCaps] at hr
    split at hr
    · rename_i he
      obtain ⟨dt, dx⟩ := d
      simp only at he
      subst he
      split at hr
      · rename_i l' hl'
        injection hr with hr
        subst hr
        exact ⟨v, vs, rfl, RelD.move (S := c.S) hS hSS h0, caps_ok hS hSS hbox hb hl' h1⟩
      · cases hr
    · cases hr
  | [], _ :: _, _, _, _, hr, _ => by cases hr
  | .ptr _ _ :: _, [], _, _, _, hr, _ => by cases hr
  | .dat _ :: _, [], _, _, _, hr, _ => by cases hr
  | .ptr _ _ :: _, .dat _ :: _, _, _, _, hr, _ => by cases hr
  | .dat _ :: _, .ptr _ _ :: _, _, _, _, hr, _ => by cases hr

theorem cut_ok' {c : Cx} {st : St} {a : Act} (inv : Inv P E n st c a) (O : List Nat) : ∀ (cs : List CK) (l : cden cs), cutOk cs = true → nodupB (ownsOf st cs) = true → (∀ x ∈ ownsOf st cs, x ∈ O) → (∀ x ∈ datsOf st cs, x ∉ O) →
    readCs st cs = some l → ∃ c', CutInv P E n c a O st cs (putCs cs l) c'
  | [], l, _, _, _, _, _ => ⟨_, cut_base inv O⟩
  | k :: cs, (x, l), hok, hnd, hO, hD, hrd => by
    have hr := inv.rel
    simp only [readCs] at hrd
    split at hrd
    · rename_i x' l' hx hl
      injection hrd with hrd
      injection hrd with h1 h2
      subst h1 h2
      have hS : ∀ b, c.S b → cutS c O b := fun b hb => .inl hb
      cases k with
      | rptr t ty =>
        obtain ⟨c', ci⟩ := cut_ok' inv O cs l' hok hnd hO hD hl
        refine ⟨c', ci.m, ci.w, ci.S, ci.rel, fun i => ?_, ci.box, ci.boxR, ci.arr, ci.dead⟩
        simp only [putCs, putC, upd]
        cases hb : Nat.beq i t with
        | false => exact ci.tmp i
        | true =>
          have := Nat.eq_of_beq_eq_true hb
          subst this
          have hp := inv.tmp i
          simp only [readC] at hx
          split at hx
          · rename_i d hv
            rw [hv] at hp
            split at hx
            · rename_i he
              obtain ⟨dt, dx⟩ := d
              simp only at he
              subst he
              injection hx with hx
              subst hx
              show RelP c'.w c'.S _ _ _
              rw [ci.w, ci.S]
              exact RelP.move (S := c.S) (fun _ _ => rfl) hS hp
            · cases hx
          · cases hx
      | fnp t aa rr =>
        obtain ⟨c', ci⟩ := cut_ok' inv O cs l' hok hnd hO hD hl
        refine ⟨c', ci.m, ci.w, ci.S, ci.rel, fun i => ?_, ci.box, ci.boxR, ci.arr, ci.dead⟩
        simp only [putCs, putC, upd]
        cases hb : Nat.beq i t with
        | false => exact ci.tmp i
        | true =>
          have := Nat.eq_of_beq_eq_true hb
          subst this
          have hp := inv.tmp i
          simp only [readC] at hx
          split at hx
          · rename_i a' r' g hv
            rw [hv] at hp
            split at hx
            · rename_i he
              obtain ⟨rfl, rfl⟩ := he
              injection hx with hx
              subst hx
              exact hp
            · cases hx
          · cases hx
      | clo t f ks =>
        simp only [cutOk, Bool.and_eq_true] at hok
        obtain ⟨c', ci⟩ := cut_ok' inv O cs l' hok.2 hnd hO hD hl
        refine ⟨c', ci.m, ci.w, ci.S, ci.rel, fun i => ?_, ci.box, ci.boxR, ci.arr, ci.dead⟩
        simp only [putCs, putC, upd]
        cases hb : Nat.beq i t with
        | false => exact ci.tmp i
        | true =>
          have := Nat.eq_of_beq_eq_true hb
          subst this
          have hp := inv.tmp i
          simp only [readC] at hx
          split at hx
          · rename_i f' caps hv
            rw [hv] at hp
            split at hx
            · rename_i he
              have := Nat.eq_of_beq_eq_true he
              subst this
              obtain ⟨cv, he2, hk⟩ := hp
              exact ⟨cv, he2, caps_ok (c := c) (c' := c') (fun b _ => by rw [ci.w]) (fun b hb => by rw [ci.S]; exact hS b hb) ci.boxR hok.1 hx hk⟩
            · cases hx
          · cases hx
      | tmp t ty =>
        have hO' : ∀ y ∈ ownsOf st cs, y ∈ O := hO
        obtain ⟨c', ci⟩ := cut_ok' inv O cs l' hok hnd hO' (fun y hy => hD y (by
          simp only [datsOf]
          split
          · exact List.mem_cons_of_mem _ hy
          · exact hy)) hl
        refine ⟨c', ci.m, ci.w, ci.S, ci.rel, fun i => ?_, ci.box, ci.boxR, ci.arr, ci.dead⟩
        simp only [putCs, putC, upd]
        cases hb : Nat.beq i t with
        | false => exact ci.tmp i
        | true =>
          have := Nat.eq_of_beq_eq_true hb
          subst this
          have hrd : RelD c.w (cutS c O) ty x' (a.tmps.getD i undef) := by
            refine readD_ok hr (inv.tmp i) (fun z hz => hD z ?_) (by rw [inv.m]; exact hx)
            simp only [datsOf, hz]
            exact List.mem_cons_self
          show RelD c'.w c'.S ty x' _
          rw [ci.w, ci.S]
          exact hrd
      | ptr t b ty =>
        simp only [cutOk, Bool.and_eq_true] at hok
        obtain ⟨c', ci⟩ := cut_ok' inv O cs l' hok.2 hnd hO hD hl
        refine ⟨c', ci.m, ci.w, ci.S, ci.rel, fun i => ?_, ci.box, ci.boxR, ci.arr, ci.dead⟩
        simp only [putCs, putC, upd]
        cases hb : Nat.beq i t with
        | false => exact ci.tmp i
        | true =>
          have := Nat.eq_of_beq_eq_true hb
          subst this
          simp only [readC] at hx
          split at hx
          · rename_i b' ty' hv
            split at hx
            · rename_i hc
              simp only [Bool.and_eq_true, decide_eq_true_eq] at hc
              obtain ⟨hb1, rfl⟩ := hc
              have := Nat.eq_of_beq_eq_true hb1
              subst this
              have hp := inv.tmp i
              rw [hv] at hp
              obtain ⟨B, hB, hpt, _, he⟩ := hp
              obtain ⟨B', hB', ht', hbx⟩ := ci.boxR b ty' hok.1
              refine ⟨B', hB', by rw [ht']; rfl, trivial, ?_⟩
              rw [he, hbx]
              rfl
            · cases hx
          · cases hx
      | box b ty =>
        simp only [cutOk, Bool.and_eq_true, Bool.not_eq_true'] at hok
        obtain ⟨c', ci⟩ := cut_ok' inv O cs l' hok.2 hnd hO hD hl
        simp only [readC] at hx
        cases hB : st.mem.box b with
        | none => rw [hB] at hx; cases hx
        | some B =>
          rw [hB] at hx
          simp only at hx
          split at hx
          · rename_i hty
            obtain ⟨Bt, Bx⟩ := B
            simp only at hty
            subst hty
            injection hx with hx
            subst hx
            have hBc : c.m.box b = some ⟨Bt, Bx⟩ := by rw [inv.m]; exact hB
            obtain ⟨cells, tid, hh, hc⟩ := hr.box b _ hBc
            have hnone : c'.m.box b = none := by
              cases hn : c'.m.box b with
              | none => rfl
              | some B' =>
                have := (ci.box b B' hn).2.2
                rw [this] at hok
                cases hok.1
            obtain ⟨r2, e2⟩ := addBox_ok ci.rel hnone (t := Bt) (x := Bx) (g := c.bx b) (cs := cells) (tid := tid) (by rw [ci.w]; exact hh) (by rw [ci.w, ci.S]; exact hc.move (fun _ _ => rfl) hS) (hr.priv b (by rw [hBc]; simp)).1
              (by
                rw [ci.S]
                rintro (h | ⟨i, A, hA, ho, _, hg⟩)
                · exact (hr.priv b (by rw [hBc]; simp)).2 h
                · exact hr.ba b i A (by rw [hBc]; simp) hA ho hg)
              (fun b' hb' e => by
                cases hn : c'.m.box b' with
                | none => exact hb' hn
                | some B' =>
                  obtain ⟨g1, g2, g3⟩ := ci.box b' B' hn
                  rw [g1] at e
                  have := hr.bb b' b (by rw [g2]; simp) (by rw [hBc]; simp) e
                  subst this
                  rw [g3] at hok
                  cases hok.1)
              (fun i A hA ho hg => by
                rcases (ci.arr i A hA).2 with h | ⟨a0, A0, _, h2, h3, h4⟩
                · rw [h] at hg; cases hg
                · rw [h4] at hg
                  exact hr.ba b a0 A0 (by rw [hBc]; simp) h2 h3 hg)
            refine ⟨{ c' with bx := upd c'.bx b (c.bx b), m := c'.m.setB b ⟨Bt, Bx⟩ }, ?_, ci.w, ci.S, r2, fun i => (ci.tmp i).ext e2, ?_, ?_, ci.arr, ci.dead⟩
            · show c'.m.setB b ⟨Bt, Bx⟩ = (putCs cs l').mem.setB b ⟨Bt, Bx⟩
              rw [ci.m]
            · intro b' B' hB'
              simp only [Mem.setB, upd] at hB' ⊢
              cases hbb : Nat.beq b' b with
              | true =>
                have := Nat.eq_of_beq_eq_true hbb
                subst this
                rw [hbb] at hB'
                injection hB' with hB'
                subst hB'
                exact ⟨rfl, hBc, by simp [boxIn]⟩
              | false =>
                rw [hbb] at hB'
                obtain ⟨g1, g2, g3⟩ := ci.box b' B' hB'
                exact ⟨g1, g2, by simp [boxIn, g3]⟩
            · intro b' ty hbt
              simp only [boxB, Bool.or_eq_true, Bool.and_eq_true, decide_eq_true_eq] at hbt
              simp only [Mem.setB, upd]
              cases hbb : Nat.beq b' b with
              | true =>
                have := Nat.eq_of_beq_eq_true hbb
                subst this
                rcases hbt with ⟨_, rfl⟩ | hbt
                · exact ⟨_, rfl, rfl, rfl⟩
                · have := boxIn_of_boxB hbt
                  rw [this] at hok
                  cases hok.1
              | false =>
                rcases hbt with ⟨h1, _⟩ | hbt
                · rw [h1] at hbb; cases hbb
                · exact ci.boxR b' ty hbt
          · cases hx
      | own t e ty =>
        simp only [cutOk, Bool.and_eq_true, Bool.not_eq_true'] at hok
        have hno : ∀ c'', (∃ c', CutInv P E n c a O st cs (putCs cs l') c' ∧ c'' = c') → c''.m.arr (t + ownBase) = .no := by
          rintro c' ⟨_, ci, rfl⟩
          cases hn : c'.m.arr (t + ownBase) with
          | no => rfl
          | dead =>
            obtain ⟨t', h1, h2⟩ := ci.dead (t + ownBase) (by rw [hn]; simp)
            have : t = t' := by omega
            subst this
            rw [h2] at hok; cases hok.1
          | at_ A =>
            obtain ⟨t', h1, h2⟩ := ci.dead (t + ownBase) (by rw [hn]; simp)
            have : t = t' := by omega
            subst this
            rw [h2] at hok; cases hok.1
        have fin : ∀ c' u, CutInv P E n c a O st cs (putCs cs l') c' → Loose E c' e ty x' u → a.tmps.getD t undef = u → (u.ownBlock = none ∨ ∃ a0 A0, a0 ∈ ownsOf st (.own t e ty :: cs) ∧ c.m.arr a0 = .at_ A0 ∧ A0.open_ = true ∧ u = c.ar a0) →
            (∀ y ∈ ownsOf st cs, y ∈ ownsOf st (.own t e ty :: cs)) → ∃ c', CutInv P E n c a O st (.own t e ty :: cs) (putCs (.own t e ty :: cs) (x', l')) c' := by
          intro c' u ci hl2 hu hsrc hsub
          obtain ⟨r2, e2⟩ := addArr_ok ci.rel (hno c' ⟨c', ci, rfl⟩) hl2
          refine ⟨{ c' with ar := upd c'.ar (t + ownBase) u, m := c'.m.setA (t + ownBase) (.at_ ⟨e, ty, x', true⟩) }, ?_, ci.w, ci.S, r2, fun i => ?_, ci.box, ci.boxR, ?_, ?_⟩
          · show c'.m.setA _ _ = (putCs cs l').mem.setA _ _
            rw [ci.m]
          · simp only [putCs, putC, upd]
            cases hb : Nat.beq i t with
            | false => exact (ci.tmp i).ext e2
            | true =>
              have := Nat.eq_of_beq_eq_true hb
              subst this
              refine ⟨by simp [Mem.setA, upd], fun A hA => ?_⟩
              rw [hu]
              simp [upd]
          · intro i A hA
            simp only [Mem.setA, upd] at hA ⊢
            cases hb : Nat.beq i (t + ownBase) with
            | true =>
              have := Nat.eq_of_beq_eq_true hb
              subst this
              exact ⟨⟨t, rfl, by simp [ownIn]⟩, hsrc⟩
            | false =>
              rw [hb] at hA
              obtain ⟨⟨t', h1, h2⟩, h3⟩ := ci.arr i A hA
              refine ⟨⟨t', h1, by simp [ownIn, h2]⟩, ?_⟩
              rcases h3 with h3 | ⟨a0, A0, k1, k2, k3, k4⟩
              · exact .inl h3
              · exact .inr ⟨a0, A0, hsub a0 k1, k2, k3, k4⟩
          · intro i hi
            simp only [Mem.setA, upd] at hi
            cases hb : Nat.beq i (t + ownBase) with
            | true =>
              have := Nat.eq_of_beq_eq_true hb
              exact ⟨t, this, by simp [ownIn]⟩
            | false =>
              rw [hb] at hi
              obtain ⟨t', h1, h2⟩ := ci.dead i hi
              exact ⟨t', h1, by simp [ownIn, h2]⟩
        simp only [readC] at hx
        split at hx
        · rename_i hv
          injection hx with hx
          subst hx
          have hos : ownsOf st (.own t e ty :: cs) = ownsOf st cs := by simp only [ownsOf, hv]
          rw [hos] at hnd hO
          obtain ⟨c', ci⟩ := cut_ok' inv O cs l' hok.2 hnd hO hD hl
          have hp := inv.tmp t
          rw [hv] at hp
          have hu : a.tmps.getD t undef = .slice none 0 0 := hp
          exact fin c' _ ci ⟨⟨[], World.ownsRow_nil _ _ _ _, rfl⟩, fun g hg => by cases hg⟩ hu (.inl rfl) (fun y hy => by rw [hos]; exact hy)
        · rename_i a0 hv
          cases ha : st.mem.arr a0 with
          | no => rw [ha] at hx; cases hx
          | dead => rw [ha] at hx; cases hx
          | at_ A =>
            rw [ha] at hx
            simp only at hx
            split at hx
            · rename_i ho
              split at hx
              · rename_i hty
                injection hx with hx
                subst hx
                have hos : ownsOf st (.own t e ty :: cs) = a0 :: ownsOf st cs := by simp only [ownsOf, hv]
                rw [hos] at hnd hO
                obtain ⟨hnm, hnd'⟩ := nodup_cons hnd
                obtain ⟨c', ci⟩ := cut_ok' inv O cs l' hok.2 hnd' (fun y hy => hO y (List.mem_cons_of_mem _ hy)) hD hl
                have hac : c.m.arr a0 = .at_ A := by rw [inv.m]; exact ha
                have hp := inv.tmp t
                rw [hv] at hp
                have hu : a.tmps.getD t undef = c.ar a0 := hp.2 A hac
                have hA := hr.arr a0 A hac
                unfold RelA at hA
                rw [if_pos ho] at hA
                obtain ⟨inner, h1, h2, h3⟩ := hA
                obtain ⟨Ae, At, Ax, Ao⟩ := A
                simp only [Ty.sl.injEq] at hty
                obtain ⟨q1, q2⟩ := hty
                subst q1 q2
                refine fin c' _ ci ⟨⟨inner, by rw [ci.w]; exact h1, by rw [ci.w, ci.S]; exact h2.imp (fun _ _ h => h.move (fun _ _ => rfl) hS)⟩, fun g hg => ⟨?_, ?_, ?_⟩⟩ hu
                  (.inr ⟨a0, _, by rw [hos]; exact List.mem_cons_self, hac, ho, rfl⟩) (fun y hy => by rw [hos]; exact List.mem_cons_of_mem _ hy)
                · rw [ci.S]
                  rintro (h | ⟨i, A', hA', ho', hni, hg'⟩)
                  · exact h3 g hg h
                  · have := hr.aa a0 i _ A' g hac hA' ho ho' hg hg'
                    subst this
                    exact hni (hO a0 List.mem_cons_self)
                · intro b hb e'
                  cases hn : c'.m.box b with
                  | none => exact hb hn
                  | some B' =>
                    obtain ⟨g1, g2, g3⟩ := ci.box b B' hn
                    rw [g1] at e'
                    exact hr.ba b a0 _ (by rw [g2]; simp) hac ho (by rw [hg, e'])
                · intro i A' hA' ho' hg'
                  rcases (ci.arr i A' hA').2 with h | ⟨a1, A1, k1, k2, k3, k4⟩
                  · rw [h] at hg'; cases hg'
                  · rw [k4] at hg'
                    have := hr.aa a0 a1 _ A1 g hac k2 ho k3 hg hg'
                    subst this
                    exact hnm k1
              · cases hx
            · cases hx
        · cases hx
    · cases hrd
theorem cut_inv {c : Cx} {st : St} {a : Act} (inv : Inv P E n st c a) {cs : List CK} {l : cden cs} (h : (cutOk cs && nodupB (ownsOf st cs) && disj (datsOf st cs) (ownsOf st cs)) = true) (hl : readCs st cs = some l) :
    ∃ c', c'.w = c.w ∧ Inv P E n (putCs cs l) c' a := by
  simp only [Bool.and_eq_true] at h
  obtain ⟨c', ci⟩ := cut_ok' inv (ownsOf st cs) cs l h.1.1 h.1.2 (fun _ hx => hx) (fun x hx => notmem_of_disj h.2 hx) hl
  exact ⟨c', ci.w, ci.m, ci.rel, ci.tmp, inv.def_, inv.n⟩

def Ends (P : Program) (f : FuncId) (cs : List Frame) (R : Ending → World → Prop) (m : Machine) : Prop :=
  ∃ e w' fr, R e w' ∧ Comes P m (lone fr cs w') e ∧ fr.fn = f ∧ fr.leaving P w' e
theorem Ends.steps {f : FuncId} {cs : List Frame} {R : Ending → World → Prop} {m m' : Machine} (h : Steps P m m') (k : Ends P f cs R m') : Ends P f cs R m := by
  obtain ⟨e, w', fr, h1, h2, h3, h4⟩ := k
  exact ⟨e, w', fr, h1, Comes.of_steps h h2, h3, h4⟩
theorem Ends.head {f : FuncId} {cs : List Frame} {R : Ending → World → Prop} {m m' : Machine} (h : step P m = .next m') (k : Ends P f cs R m') : Ends P f cs R m := k.steps (.one h)

variable {f : FuncId} {fn : Func}
theorem runT_ok {R : Type} {F : Fn R} (hA : F.A = Alg.std R) (hT : TabOk P F.T) (hG : ∀ f s, F.G f = some s → SpecOk P f s) (hmix : P.follows .mixedOrders = true) (hf : P.funcs[f]? = some fn) (hn : F.n = n) {r : R} {Rr : Ending → World → Prop} {b : Frame} (hbf : b.fn = f) (hbk : b.kind = .normal) {cs : List Frame}
    {next : List Item → St → Option R} (hnext : ∀ todo st c a, next todo st = some r → Inv P E n st c a → Ends P f cs Rr (lone (b.at a todo) cs c.w))
    (hfin : ∀ st c a, F.fin st = some r → Inv P E n st c a → ∃ v, (results fn a.tmps).run P c.w = .ok v c.w ∧ Rr (.returned v) c.w) :
    ∀ (s : Nat) (fr : Bool) (todo : List Item) (st : St) (c : Cx) (a : Act), runT F next s fr todo st = some r → Inv P E n st c a → Ends P f cs Rr (lone (b.at a todo) cs c.w) := by
  have fin : ∀ st c a todo, F.fin st = some r → Inv P E n st c a → Ends P f cs Rr (lone { b.at a todo with mode := .returning } cs c.w) := by
    intro st c a todo h inv
    obtain ⟨v, hv, hR⟩ := hfin st c a h inv
    exact ⟨.returned v, c.w, { b.at a todo with mode := .returning }, hR, Steps.refl P _, hbf, rfl, inv.def_, hbk, fn, by show P.funcs[b.fn]? = some fn; rw [hbf]; exact hf, hv⟩
  intro s
  induction s with
  | zero => intro fr todo st c a h; cases h
  | succ s ih =>
    intro fr todo st c a h inv
    cases todo with
    | nil =>
      simp only [runT] at h
      exact (fin st c a [] h inv).head step_end
    | cons it k =>
      cases it with
      | code cc =>
        cases cc with
        | skip => exact (ih fr k st c a h inv).head step_skip
        | label l => exact (ih fr k st c a h inv).head step_label
        | ret => exact (fin st c a _ h inv).head step_ret
        | seq x y => exact (ih fr _ st c a h inv).head step_seq
        | cond p x y =>
          simp only [runT] at h
          split at h
          · rename_i bb hb
            have hv := evalV_ok inv.tmp p
            rw [hb] at hv
            have hbv := relV_bool hv
            rw [hA] at h
            cases bb with
            | true => exact (ih fr _ st c a h inv).head (by have := step_cond (P := P) (b := b) (a := a) (k := k) (cs := cs) (w := c.w) (c := p) (x := x) (y := y) hbv; simpa using this)
            | false => exact (ih fr _ st c a h inv).head (by have := step_cond (P := P) (b := b) (a := a) (k := k) (cs := cs) (w := c.w) (c := p) (x := x) (y := y) hbv; simpa using this)
          · cases h
        | block id x => exact (ih fr _ st c a h inv).head step_block
        | loop x => exact (ih fr _ st c a h inv).head step_loop
        | scope x => exact (ih fr _ st c a h inv).head (step_lone_go (by simp [stepG, stepG.exec, Frame.at]))
        | exit id =>
          simp only [runT] at h
          split at h
          · rename_i k' hk
            exact (ih fr k' st c a h inv).head (step_exit hk)
          · cases h
        | region id ops draw =>
          simp only [runT] at h
          split at h
          · split at h
            · rename_i l hc hl
              obtain ⟨c', hw, inv'⟩ := cut_inv inv hc hl
              rw [← hw]
              exact hnext _ _ c' a h inv'
            · cases h
          · rw [hA, hn] at h
            have hwp := region_ok (id := id) hT hG hmix h inv (Q := fun e a' w' => e = .normal ∧ ∃ st' c', c'.w = w' ∧ runT F next s false k st' = some r ∧ Inv P E n st' c' a') (fun st' c' a' hk' inv' => ⟨rfl, st', c', rfl, hk', inv'⟩)
            obtain ⟨e, a', w', ⟨rfl, st', c', rfl, hk', inv'⟩, harr⟩ := hwp b k cs
            exact (ih false k st' c' a' hk' inv').steps harr
        | rangeFunc _ _ _ _ => cases h
        | goto l => cases h
        | refuse w => cases h
      | inBlock id => exact (ih fr k st c a h inv).head step_inBlock
      | inScope x => exact (ih fr k st c a h inv).head (step_lone_go (by simp [stepG, stepG.exec, Frame.at]))
      | inLoop x => exact (ih fr _ st c a h inv).head step_inLoop
      | _ => cases h
theorem runK_ok {R : Type} {F : Nat → Fn R} (hA : ∀ k, (F k).A = Alg.std R) (hT : ∀ k, TabOk P (F k).T) (hG : ∀ k f s, (F k).G f = some s → SpecOk P f s) (hmix : P.follows .mixedOrders = true) (hf : P.funcs[f]? = some fn) (hn : ∀ k, (F k).n = n) {r : R} {Rr : Ending → World → Prop} {b : Frame} (hbf : b.fn = f) (hbk : b.kind = .normal) {cs : List Frame}
    (hfin : ∀ k st c a, (F k).fin st = some r → Inv P E n st c a → ∃ v, (results fn a.tmps).run P c.w = .ok v c.w ∧ Rr (.returned v) c.w) :
    ∀ (k : Nat) (todo : List Item) (st : St) (c : Cx) (a : Act), runK F k todo st = some r → Inv P E n st c a → Ends P f cs Rr (lone (b.at a todo) cs c.w)
  | 0, _, _, _, _, h, _ => by cases h
  | k + 1, todo, st, c, a, h, inv => runT_ok (F := F k) (hA k) (hT k) (hG k) hmix hf (hn k) hbf hbk (runK_ok hA hT hG hmix hf hn hbf hbk hfin k) (hfin k) _ _ todo st c a h inv
end
end Go.Vm
end
section
namespace Go.Vm
open Go.RowKit
set_option linter.unusedVariables false
set_option linter.unusedSimpArgs false

theorem app_cur {R : Type} : ∀ (ps : List PK) (g : dens ps → R) (a : dens ps), app ps (cur ps g) a = g a
  | [], g, a => rfl
  | _ :: ps, g, (x, l) => app_cur ps (fun a => g (x, a)) l

section
variable {P : Program} {T : Tab} {E : Env} {G : Gam} {n : Nat}

theorem putP_ok {w : World} {S S1' : Nat → Prop} {flat : Bool} {c : Cx} (hw : c.w = w) (hE : E.w0 = w) (hE2 : ∀ b, ¬ E.W0 b) (h01 : ∀ b, S b → S1' b) (hlt : ∀ b, S1' b → b < w.heap.size) (hcS : c.S = E.S0) (hSS : ∀ b, S b → E.S0 b) (hfl : flat = true → ∀ b, S1' b → E.S0 b) {arr : Array Value} :
    ∀ (ps : List PK) (as : dens ps) (vs : List Value) (i : Nat) (st : St), RelArgs P w S S1' flat ps as vs → (∀ j v, vs[j]? = some v → arr.getD (i + j) undef = v) → (∀ t, RelV P E c (st.tmp t) (arr.getD t undef)) →
      (putP ps as i st).mem = st.mem ∧ ∀ t, RelV P E c ((putP ps as i st).tmp t) (arr.getD t undef)
  | [], _, _, _, st, _, _, ht => ⟨rfl, ht⟩
  | .val t :: ps, (x, l), _, i, st, ⟨v, vs, rfl, hx, hl⟩, hv, ht => by
    have := putP_ok hw hE hE2 h01 hlt hcS hSS hfl ps l vs (i + 1) ⟨upd st.tmp i (.dat ⟨t, x⟩), st.mem⟩ hl (fun j u hj => by rw [Nat.add_assoc, Nat.add_comm 1 j]; exact hv (j + 1) u (by simpa using hj)) (fun k => by
      simp only [upd]
      cases hb : Nat.beq k i with
      | false => exact ht k
      | true =>
        have := Nat.eq_of_beq_eq_true hb
        subst this
        rw [show arr.getD k undef = v from hv 0 v rfl]
        show RelD c.w c.S t x v
        rw [hw, hcS]
        exact hx.move (fun _ _ => rfl) hSS)
    exact this
  | .ro t :: ps, (x, l), _, i, st, ⟨v, vs, rfl, hf, hx, hl⟩, hv, ht => by
    have := putP_ok hw hE hE2 h01 hlt hcS hSS hfl ps l vs (i + 1) ⟨upd st.tmp i (.rptr ⟨t, x⟩), st.mem⟩ hl (fun j u hj => by rw [Nat.add_assoc, Nat.add_comm 1 j]; exact hv (j + 1) u (by simpa using hj)) (fun k => by
      simp only [upd]
      cases hb : Nat.beq k i with
      | false => exact ht k
      | true =>
        have := Nat.eq_of_beq_eq_true hb
        subst this
        rw [show arr.getD k undef = v from hv 0 v rfl]
        show RelP c.w c.S t x v
        rw [hw, hcS]
        exact hx.move (fun _ _ => rfl) (hfl hf))
    exact this
  | .rw _ :: _, _, _, _, _, h, _, _ => h.elim
  | .fn a r :: ps, (x, l), _, i, st, ⟨v, vs, rfl, hx, hl⟩, hv, ht => by
    have := putP_ok hw hE hE2 h01 hlt hcS hSS hfl ps l vs (i + 1) ⟨upd st.tmp i (.fnp a r x), st.mem⟩ hl (fun j u hj => by rw [Nat.add_assoc, Nat.add_comm 1 j]; exact hv (j + 1) u (by simpa using hj)) (fun k => by
      simp only [upd]
      cases hb : Nat.beq k i with
      | false => exact ht k
      | true =>
        have := Nat.eq_of_beq_eq_true hb
        subst this
        rw [show arr.getD k undef = v from hv 0 v rfl]
        refine ⟨S1', fun b hb => ⟨by rw [hE]; exact hlt b hb, hE2 b⟩, ?_⟩
        rw [hE]
        exact hx.move (fun _ _ => rfl) hSS (fun _ h => h) (Nat.le_refl _))
    exact this

def rvRun (tmps : Array Value) : ResultVar → Sem Value
  | .tmp t => pure (tmps.getD t undef)
  | .cell a t => do loadVar t (← asAddr (tmps.getD a undef))
theorem results_eq (fn : Func) (tmps : Array Value) (w : World) {vs : List Value} (h : (fn.results.toList.mapM (rvRun tmps)).run P w = .ok vs w) :
    (results fn tmps).run P w = .ok (if h : vs.toArray.size = 1 then vs.toArray[0] else .tuple vs.toArray) w := by
  have e : (results fn tmps) = (do let vs ← fn.results.mapM (rvRun tmps); pure (if h : vs.size = 1 then vs[0] else .tuple vs)) := by
    unfold results
    congr 1
  rw [e, Sem.run_bind, Array.mapM_eq_mapM_toList, Sem.run_map, h]
  rfl

theorem cutS_new {c : Cx} (hr : Rel E c) {b : Nat} (h : cutS c [] b) : Ext' E.S0 E.w0 c.w b := by
  rcases h with h | ⟨a, A, hA, ho, _, hb⟩
  · rcases hr.new b h with h' | h'
    · exact .inl h'
    · exact .inr ⟨h', hr.lt b h⟩
  · have := hr.arr a A hA
    unfold RelA at this
    rw [if_pos ho] at this
    obtain ⟨_, h1, _⟩ := this
    exact .inr (h1.lt b hb)
theorem readR_ok (hT : TabOk P T) {st : St} {c : Cx} {a : Act} (inv : Inv P E n st c a) {t : Ty} (hg : t.good = true) {rv : ResultVar} {y : t.den} (h : readR T st t rv = some y) :
    ∃ v, (rvRun a.tmps rv).run P c.w = .ok v c.w ∧ RelV1 c.w (Ext' E.S0 E.w0 c.w) t y v := by
  have hr := inv.rel
  cases rv with
  | tmp i =>
    have := readD_ok hr (O := []) (inv.tmp i) (fun _ _ => by simp) (by rw [inv.m]; exact h)
    exact ⟨_, rfl, (this.v1 hg).move (fun _ _ => rfl) (fun b hb => cutS_new hr hb)⟩
  | cell i ty =>
    simp only [readR] at h
    split at h
    · rename_i b t' u hv hty
      split at h
      · rename_i B hB
        split at h
        · rename_i he
          obtain ⟨he1, he2⟩ := he
          subst he2
          obtain ⟨Bt, Bx⟩ := B
          simp only at he1
          subst he1
          injection h with h
          subst h
          have hp := inv.tmp i
          rw [hv] at hp
          obtain ⟨B', hB', _, _, he⟩ := hp
          have hBc : c.m.box b = some ⟨Bt, Bx⟩ := by rw [inv.m]; exact hB
          obtain ⟨cs, tid, hh, hc⟩ := hr.box b _ hBc
          have hca := cells_in hh (a := []) (m := cs.toList) (b := []) (by simp)
          obtain ⟨v, hrun, hv1⟩ := load_ok (hT _ _ hty) hc hca (hT _ _ hty).np
          refine ⟨v, ?_, hv1.move (fun _ _ => rfl) (fun b hb => cutS_new hr (.inl hb))⟩
          have e0 : pathOff [] B'.t = 0 := rfl
          simp only [rvRun, he, Sem.run_bind, asAddr, Sem.run_pure, Result.andThen_ok, e0]
          exact hrun
        · cases h
      · cases h
    · cases h
theorem readRs_ok (hT : TabOk P T) {st : St} {c : Cx} {a : Act} (inv : Inv P E n st c a) : ∀ {t : Ty} {l : List ResultVar} {y : t.den}, t.good = true → readRs T st t l = some y →
    ∃ vs, (l.mapM (rvRun a.tmps)).run P c.w = .ok vs c.w ∧ RelT c.w (Ext' E.S0 E.w0 c.w) t y vs ∧ vs.length = l.length := by
  have single : ∀ {t : Ty} {rv : ResultVar} {y : t.den}, t.isPair = false → t.good = true → readR T st t rv = some y →
      ∃ vs, ([rv].mapM (rvRun a.tmps)).run P c.w = .ok vs c.w ∧ RelT c.w (Ext' E.S0 E.w0 c.w) t y vs ∧ vs.length = 1 := by
    intro t rv y hp hg h
    obtain ⟨v, hv, hr⟩ := readR_ok hT inv hg h
    refine ⟨[v], ?_, ?_, rfl⟩
    · simp only [List.mapM_cons, List.mapM_nil, Sem.run_bind, hv, Result.andThen_ok, Sem.run_pure]
    · cases t <;> first | (simp [Ty.isPair] at hp; done) | exact ⟨v, rfl, hr⟩
  intro t
  induction t with
  | pair x y ihx ihy =>
    intro l z hg h
    simp only [Ty.good, Bool.and_eq_true] at hg
    match l, h with
    | [], h => cases h
    | [rv], h =>
      simp only [readRs] at h
      obtain ⟨v, hv, hr⟩ := readR_ok hT inv (t := .pair x y) (by simp [Ty.good, hg]) h
      exact hr.elim
    | r :: q :: rs, h =>
      simp only [readRs] at h
      split at h
      · rename_i u1 u2 h1 h2
        injection h with h
        subst h
        obtain ⟨v, hv, hr⟩ := readR_ok hT inv hg.1 h1
        obtain ⟨vs, hvs, hrs, hl⟩ := ihy hg.2 h2
        refine ⟨v :: vs, ?_, ⟨v, vs, rfl, hr, hrs⟩, by simp [hl]⟩
        rw [List.mapM_cons, Sem.run_bind, hv]
        simp only [Result.andThen_ok, Sem.run_bind, hvs, Sem.run_pure]
      · cases h
  | _ =>
    intro l z hg h
    match l, h with
    | [], h => cases h
    | [rv], h => exact single rfl hg h
    | _ :: _ :: _, h => cases h

theorem finR_ok (hT : TabOk P T) {fn : Func} {t : Ty} {st : St} {c : Cx} {a : Act} (inv : Inv P E n st c a) {y : t.den} (h : finR T fn t st = some y) :
    ∃ v, (results fn a.tmps).run P c.w = .ok v c.w ∧ RelD c.w (Ext' E.S0 E.w0 c.w) t y v := by
  unfold finR at h
  generalize hl : fn.results.toList = ls at h
  split at h
  · refine ⟨.tuple #[], ?_, rfl⟩
    rw [results_eq (P := P) fn a.tmps c.w (vs := []) (by rw [hl]; rfl)]
    rfl
  · rename_i cc r q l
    split at h
    · rename_i hg
      obtain ⟨vs, hvs, hrs, hlen⟩ := readRs_ok hT inv hg h
      refine ⟨.tuple vs.toArray, ?_, vs.toArray, rfl, by simpa using hrs⟩
      rw [results_eq (P := P) fn a.tmps c.w (vs := vs) (by rw [hl]; exact hvs)]
      rw [dif_neg]
      simp only [List.size_toArray, hlen, List.length_cons]
      omega
    · cases h
  · rename_i r _ _
    split at h
    · rename_i hg
      obtain ⟨v, hv, hr⟩ := readR_ok hT inv hg h
      refine ⟨v, ?_, RelD.of_v1 hr⟩
      rw [results_eq (P := P) fn a.tmps c.w (vs := [v]) (by rw [hl]; simp only [List.mapM_cons, List.mapM_nil, Sem.run_bind, hv, Result.andThen_ok, Sem.run_pure])]
      rfl
    · cases h
  · cases h

theorem runF_ok {G : Nat → Gam} (hT : TabOk P T) (hG : ∀ k f s, G k f = some s → SpecOk P f s) (hmix : P.follows .mixedOrders = true) {f : FuncId} {fn : Func} (hf : P.funcs[f]? = some fn) (hen : Enters P f) (cuts : List (Nat × List CK)) (ps : List PK) (r : Ty)
    (hps : ps.length ≤ fn.ntmps) (k : Nat) : SpecOk P f (.pu ps r (runF Alg.std G T fn cuts ps r k)) := by
  refine ⟨hen, fun w S S1' as vs y h01 hlt hargs hy => ?_⟩
  unfold runF at hy
  rw [app_cur] at hy
  cases hb : fn.body with
  | none => rw [hb] at hy; cases hy
  | some code =>
    rw [hb] at hy
    simp only at hy
    let E : Env := ⟨w, fun b => S b ∨ (r.flat = true ∧ S1' b), fun _ => False⟩
    let c : Cx := ⟨E.S0, fun _ => 0, fun _ => undef, St.empty.mem, w⟩
    have hvl : vs.length = ps.length := by
      have : ∀ (ps : List PK) (as : dens ps) (vs : List Value), RelArgs P w S S1' r.flat ps as vs → vs.length = ps.length := by
        intro ps
        induction ps with
        | nil => intro as vs h; have : vs = [] := h; rw [this]; rfl
        | cons p ps ih =>
          intro as vs h
          cases p with
          | val t => obtain ⟨v, l, rfl, _, hl⟩ := h; simp [ih _ _ hl]
          | ro t => obtain ⟨v, l, rfl, _, _, hl⟩ := h; simp [ih _ _ hl]
          | rw t => exact h.elim
          | fn a r => obtain ⟨v, l, rfl, _, hl⟩ := h; simp [ih _ _ hl]
      exact this ps as vs hargs
    have hS0lt : ∀ b, E.S0 b → b < w.heap.size := fun b hb => by
      rcases hb with hb | hb
      · exact hlt b (h01 b hb)
      · exact hlt b hb.2
    have hrel : Rel E c := ⟨rfl, rfl, rfl, Nat.le_refl _, fun _ _ _ => rfl, fun _ h => h, hS0lt, fun _ h => .inl h, fun b B h => (by cases h), fun b h => absurd rfl h, fun a A h => (by cases h), fun b b' h => absurd rfl h,
      fun a a' A A' g h => (by cases h), fun b a A h => absurd rfl h⟩
    let arr : Array Value := vs.toArray ++ Array.replicate (fn.ntmps - vs.toArray.size) undef
    have hput := putP_ok (P := P) (E := E) (c := c) (w := w) (S := S) (S1' := S1') (flat := r.flat) (arr := arr) rfl rfl (fun _ h => h) h01 hlt rfl (fun _ h => .inl h) (fun hf b hb => .inr ⟨hf, hb⟩) ps as vs 0 St.empty hargs (fun j v hj => by
        have hjl : j < vs.length := (List.getElem?_eq_some_iff.1 hj).1
        have : arr[j]? = some v := by
          show (vs.toArray ++ _)[j]? = some v
          rw [Array.getElem?_append_left (by simpa using hjl)]
          simpa using hj
        simp [this]) (fun t => trivial)
    have inv : Inv P E fn.ntmps (putP ps as 0 St.empty) c ⟨arr, []⟩ := ⟨hput.1.symm, hrel, hput.2, rfl, by
      show (vs.toArray ++ Array.replicate (fn.ntmps - vs.toArray.size) undef).size = fn.ntmps
      simp only [Array.size_append, Array.size_replicate, List.size_toArray, hvl]
      omega⟩
    intro cs
    let b : Frame := { (default : Frame) with fn := f, kind := .normal }
    have henter : Frame.enter P f vs.toArray .normal = b.at ⟨arr, []⟩ [.code code] := by
      simp [Frame.enter, Frame.at, hf, hb, b, arr]
    have hfin : ∀ (k : Nat) (st : St) (c' : Cx) (a : Act), (Fn.of Alg.std G T fn cuts r k).fin st = some y → Inv P E fn.ntmps st c' a → ∃ v, (results fn a.tmps).run P c'.w = .ok v c'.w ∧ Ret w S r y (.returned v) c'.w := by
      intro _ st c' a h inv'
      obtain ⟨v, hv, hrd⟩ := finR_ok hT inv' h
      refine ⟨v, hv, v, rfl, ?_, ⟨inv'.rel.os, inv'.rel.tape, inv'.rel.output, inv'.rel.size, fun k hk => inv'.rel.keep k hk (fun h => h)⟩⟩
      cases hfl : r.flat with
      | true => exact hrd.flat hfl
      | false =>
        refine hrd.move (fun _ _ => rfl) (fun b hb => ?_)
        rcases hb with (hb | hb) | hb
        · exact .inl hb
        · rw [hfl] at hb; cases hb.1
        · exact .inr hb
    have hends := runT_ok (P := P) (E := E) (n := fn.ntmps) (fn := fn) (f := f) (F := Fn.of Alg.std G T fn cuts r k) rfl hT (hG k) hmix hf rfl (r := y) (Rr := Ret w S r y) (b := b) rfl rfl (cs := cs)
      (fun todo st c' a h inv' => runK_ok (F := Fn.of Alg.std G T fn cuts r) (fun _ => rfl) (fun _ => hT) hG hmix hf (fun _ => rfl) rfl rfl hfin k todo st c' a h inv') (hfin k) _ _ _ _ c ⟨arr, []⟩ hy inv
    rw [henter]
    exact hends

def ins (f : Nat) (s : Spec) (G : Gam) : Gam := fun g => bif Nat.beq f g then some s else G g
def GOk (P : Program) (G : Nat → Gam) : Prop := ∀ k f s, G k f = some s → SpecOk P f s
theorem GOk.none : GOk P (fun _ _ => none) := fun k f s h => by cases h
theorem GOk.ins {G : Nat → Gam} (h : GOk P G) {f : Nat} {s : Nat → Spec} (hs : ∀ k, SpecOk P f (s k)) : GOk P (fun k => ins f (s k) (G k)) := fun k g t ht => by
  unfold Vm.ins at ht
  simp only at ht
  cases hb : Nat.beq f g with
  | true =>
    rw [hb] at ht
    have := Nat.eq_of_beq_eq_true hb
    subst this
    injection ht with ht
    subst ht
    exact hs k
  | false => rw [hb] at ht; exact h k g t ht
end
end Go.Vm
end
section
namespace Go.Vm
open Go.RowKit
set_option linter.unusedVariables false
set_option linter.unusedSimpArgs false

noncomputable def sealed {α : Type} (x : α) : α := Classical.choose (⟨x, rfl⟩ : ∃ y, y = x)
theorem sealed_eq {α : Type} (x : α) : sealed x = x := Classical.choose_spec (⟨x, rfl⟩ : ∃ y, y = x)
def finO (fn : Func) (e : TypeId) (t : Ty) (st : St) : Option (List t.den) := match fn.results.toList with
  | [.tmp i] => match st.tmp i with
    | .nils => some []
    | .own a => match st.mem.arr a with
      | .at_ A => match A.open_ with
        | true => if h : Ty.sl A.e A.t = .sl e t then some (Ty.cast (a := .sl A.e A.t) (b := .sl e t) h A.xs) else none
        | false => none
      | _ => none
    | _ => none
  | _ => none
def Fn.ofO (A : (R : Type) → Alg R) (G : Nat → Gam) (T : Tab) (fn : Func) (cuts : List (Nat × List CK)) (e : TypeId) (t : Ty) (k : Nat) : Fn (List t.den) :=
  ⟨A _, G k, T, fn.ntmps, cuts, finO fn e t⟩
def runO (A : (R : Type) → Alg R) (G : Nat → Gam) (T : Tab) (fn : Func) (cuts : List (Nat × List CK)) (ps : List PK) (e : TypeId) (t : Ty) (k : Nat) : fns ps (Option (List t.den)) :=
  cur ps fun a => match fn.body with
    | some c => runT (Fn.ofO A G T fn cuts e t k) (runK (Fn.ofO A G T fn cuts e t) k) 100000 false [.code c] (putP ps a 0 St.empty)
    | none => none
def runOC (A : (R : Type) → Alg R) (G : Nat → Gam) (T : Tab) (fn : Func) (cuts : List (Nat × List CK)) (e : TypeId) (t : Ty) (n : Nat) (cs : List CK) (k : Nat) (l : cden cs) : Option (List t.den) :=
  match fn.body with
  | some c => match todoAt n 100000 [.code c] with
    | some todo => runK (Fn.ofO A G T fn cuts e t) k todo (putCs cs l)
    | none => none
  | none => none
abbrev SpecOkO (P : Program) (f : FuncId) (ps : List PK) (e : TypeId) (t : Ty) (fn : fns ps (Option (List t.den))) : Prop := SpecOk P f (.fr ps e t fn)
section
variable {P : Program} {T : Tab}
theorem runO_ok {G : Nat → Gam} (hT : TabOk P T) (hG : ∀ k f s, G k f = some s → SpecOk P f s) (hmix : P.follows .mixedOrders = true) {f : FuncId} {fn : Func} (hf : P.funcs[f]? = some fn) (hen : Enters P f) (cuts : List (Nat × List CK)) (ps : List PK) (e : TypeId) (t : Ty)
    (hps : ps.length ≤ fn.ntmps) (k : Nat) : SpecOkO P f ps e t (runO Alg.std G T fn cuts ps e t k) := by
  refine ⟨hen, fun w S S1' as vs y h01 hlt hargs hy => ?_⟩
  unfold runO at hy
  rw [app_cur] at hy
  cases hb : fn.body with
  | none => rw [hb] at hy; cases hy
  | some code =>
    rw [hb] at hy
    simp only at hy
    let E : Env := ⟨w, fun b => S b, fun _ => False⟩
    let c : Cx := ⟨E.S0, fun _ => 0, fun _ => undef, St.empty.mem, w⟩
    have hvl : vs.length = ps.length := by
      have : ∀ (ps : List PK) (as : dens ps) (vs : List Value), RelArgs P w S S1' false ps as vs → vs.length = ps.length := by
        intro ps
        induction ps with
        | nil => intro as vs h; have : vs = [] := h; rw [this]; rfl
        | cons p ps ih =>
          intro as vs h
          cases p with
          | val t => obtain ⟨v, l, rfl, _, hl⟩ := h; simp [ih _ _ hl]
          | ro t => obtain ⟨v, l, rfl, _, _, hl⟩ := h; simp [ih _ _ hl]
          | rw t => exact h.elim
          | fn a r => obtain ⟨v, l, rfl, _, hl⟩ := h; simp [ih _ _ hl]
      exact this ps as vs hargs
    have hS0lt : ∀ b, E.S0 b → b < w.heap.size := fun b hb => hlt b (h01 b hb)
    have hrel : Rel E c := ⟨rfl, rfl, rfl, Nat.le_refl _, fun _ _ _ => rfl, fun _ h => h, hS0lt, fun _ h => .inl h, fun b B h => (by cases h), fun b h => absurd rfl h, fun a A h => (by cases h), fun b b' h => absurd rfl h,
      fun a a' A A' g h => (by cases h), fun b a A h => absurd rfl h⟩
    let arr : Array Value := vs.toArray ++ Array.replicate (fn.ntmps - vs.toArray.size) undef
    have hput := putP_ok (P := P) (E := E) (c := c) (w := w) (S := S) (S1' := S1') (flat := false) (arr := arr) rfl rfl (fun _ h => h) h01 hlt rfl (fun _ h => h) (fun hf b hb => by cases hf) ps as vs 0 St.empty hargs (fun j v hj => by
        have hjl : j < vs.length := (List.getElem?_eq_some_iff.1 hj).1
        have : arr[j]? = some v := by
          show (vs.toArray ++ _)[j]? = some v
          rw [Array.getElem?_append_left (by simpa using hjl)]
          simpa using hj
        simp [this]) (fun t => trivial)
    have inv : Inv P E fn.ntmps (putP ps as 0 St.empty) c ⟨arr, []⟩ := ⟨hput.1.symm, hrel, hput.2, rfl, by
      show (vs.toArray ++ Array.replicate (fn.ntmps - vs.toArray.size) undef).size = fn.ntmps
      simp only [Array.size_append, Array.size_replicate, List.size_toArray, hvl]
      omega⟩
    intro cs
    let b : Frame := { (default : Frame) with fn := f, kind := .normal }
    have henter : Frame.enter P f vs.toArray .normal = b.at ⟨arr, []⟩ [.code code] := by
      simp [Frame.enter, Frame.at, hf, hb, b, arr]
    have hfin : ∀ (k : Nat) (st : St) (c' : Cx) (a : Act), (Fn.ofO Alg.std G T fn cuts e t k).fin st = some y → Inv P E fn.ntmps st c' a → ∃ v, (results fn a.tmps).run P c'.w = .ok v c'.w ∧ RetO w S e t y (.returned v) c'.w := by
      intro _ st c' a h inv'
      have hbel : Below w.heap.size w c'.w := ⟨inv'.rel.os, inv'.rel.tape, inv'.rel.output, inv'.rel.size, fun k hk => inv'.rel.keep k hk (fun h => h)⟩
      have hnew : ∀ b, c'.S b → Ext' S w c'.w b := fun b hb => by
        rcases inv'.rel.new b hb with h' | h'
        · exact .inl h'
        · exact .inr ⟨h', inv'.rel.lt b hb⟩
      have h0 : finO fn e t st = some y := h
      unfold finO at h0
      generalize hl : fn.results.toList = ls at h0
      split at h0
      · rename_i i
        have hres : ∀ v, a.tmps.getD i undef = v → (results fn a.tmps).run P c'.w = .ok v c'.w := fun v hv => by
          rw [results_eq (P := P) fn a.tmps c'.w (vs := [v]) (by rw [hl]; simp only [List.mapM_cons, List.mapM_nil, rvRun, hv, Sem.run_bind, Sem.run_pure, Result.andThen_ok])]
          rfl
        have htmp := inv'.tmp i
        split at h0
        · rename_i hv
          injection h0 with h0
          subst h0
          rw [hv] at htmp
          exact ⟨_, hres _ htmp, _, [], fun b => c'.S b, rfl, ⟨by simp, .inl ⟨rfl, rfl⟩⟩, rfl, fun g hg => by simp [Value.ownBlock] at hg, hnew, hbel⟩
        · rename_i a' hv
          rw [hv] at htmp
          split at h0
          · rename_i A hA
            split at h0
            · rename_i hop
              split at h0
              · rename_i he
                injection h0 with h0
                have hAc : c'.m.arr a' = .at_ A := by rw [inv'.m]; exact hA
                have hva := htmp.2 A hAc
                have hra := inv'.rel.arr a' A hAc
                unfold RelA at hra
                rw [if_pos hop] at hra
                obtain ⟨inner, h1, h2, h3⟩ := hra
                obtain ⟨Ae, At, Ax, Ao⟩ := A
                simp only [Ty.sl.injEq] at he
                obtain ⟨he1, he2⟩ := he
                subst he1 he2
                have hy2 : Ax = y := h0
                subst hy2
                exact ⟨_, hres _ hva, _, inner, c'.S, rfl, h1, h2, h3, hnew, hbel⟩
              · cases h0
            · cases h0
          · cases h0
        · cases h0
      · cases h0
    have hends := runT_ok (P := P) (E := E) (n := fn.ntmps) (fn := fn) (f := f) (F := Fn.ofO Alg.std G T fn cuts e t k) rfl hT (hG k) hmix hf rfl (r := y) (Rr := RetO w S e t y) (b := b) rfl rfl (cs := cs)
      (fun todo st c' a h inv' => runK_ok (F := Fn.ofO Alg.std G T fn cuts e t) (fun _ => rfl) (fun _ => hT) hG hmix hf (fun _ => rfl) rfl rfl hfin k todo st c' a h inv') (hfin k) _ _ _ _ c ⟨arr, []⟩ hy inv
    rw [henter]
    exact hends
end
end Go.Vm
end
section
namespace Go.Vm
set_option linter.unusedVariables false
def Ev {α : Type} (g : Nat → Option α) (r : α) : Prop := ∃ K, ∀ k, K ≤ k → g k = some r
namespace Ev
variable {α β : Type}
theorem const {g : Option α} {r : α} (h : g = some r) : Ev (fun _ => g) r := ⟨0, fun _ _ => h⟩
theorem some (r : α) : Ev (fun _ => Option.some r) r := ⟨0, fun _ _ => rfl⟩
theorem congr {f g : Nat → Option α} {r : α} (h : ∀ k, g k = f k) (hf : Ev f r) : Ev g r := by
  obtain ⟨K, hK⟩ := hf
  exact ⟨K, fun k hk => (h k).trans (hK k hk)⟩
theorem step {f g : Nat → Option α} {r : α} (h : ∀ k, g (k + 1) = f k) (hf : Ev f r) : Ev g r := by
  obtain ⟨K, hK⟩ := hf
  refine ⟨K + 1, fun k hk => ?_⟩
  obtain ⟨j, rfl⟩ : ∃ j, k = j + 1 := ⟨k - 1, by omega⟩
  rw [h]
  exact hK j (by omega)
theorem bind {g : Nat → Option α} {h : Nat → α → Option β} {a : α} {b : β} (hg : Ev g a) (hh : Ev (fun k => h k a) b) : Ev (fun k => (g k).bind fun x => h k x) b := by
  obtain ⟨K, hK⟩ := hg
  obtain ⟨L, hL⟩ := hh
  refine ⟨max K L, fun k hk => ?_⟩
  show (g k).bind (fun x => h k x) = _
  rw [hK k (by omega)]
  exact hL k (by omega)
theorem bif_tt {f g : Nat → Option α} {c : Bool} {r : α} (hc : c = true) (hf : Ev f r) : Ev (fun k => bif c then f k else g k) r := by subst hc; exact hf
theorem bif_ff {f g : Nat → Option α} {c : Bool} {r : α} (hc : c = false) (hg : Ev g r) : Ev (fun k => bif c then f k else g k) r := by subst hc; exact hg
theorem bif_ {f g : Nat → Option α} {c : Bool} {r : α} (hf : c = true → Ev f r) (hg : c = false → Ev g r) : Ev (fun k => bif c then f k else g k) r := by
  cases c
  · exact hg rfl
  · exact hf rfl
theorem out {g : Nat → Option α} {r : α} (h : Ev g r) : ∃ k, g k = Option.some r := by
  obtain ⟨K, hK⟩ := h
  exact ⟨K, hK K (Nat.le_refl _)⟩
end Ev
theorem lt_tt {i n : Nat} (h : i < n) : decide ((i : Int) < (n : Int)) = true := decide_eq_true (by omega)
theorem lt_ff {i n : Nat} (h : ¬ i < n) : decide ((i : Int) < (n : Int)) = false := decide_eq_false (by omega)
theorem inI_tt {i n : Nat} (h : i < n) : inI (i : Int) n = true := by unfold inI; rw [decide_eq_true (by omega), decide_eq_true (by omega)]; rfl
theorem getD_at {α : Type} {l : List α} {i : Nat} {d : α} (h : i < l.length) : l.getD (i : Int).toNat d = l[i] := by rw [Int.toNat_natCast]; simp [List.getD_eq_getElem?_getD, h]
theorem wrap_id {x : Int} (h1 : -9223372036854775808 ≤ x) (h2 : x ≤ 9223372036854775807) : IntKind.wrap .i64 x = x := by
  rw [IntKind.wrap_i64]
  omega
theorem wrap_at {i : Nat} (h : i ≤ 1000000000) : IntKind.wrap .i64 ((i : Int) + 1) = ((i + 1 : Nat) : Int) := by
  rw [wrap_id (by omega) (by omega)]; omega
theorem lt32 {n : Nat} (h : n < 4294967296) : decide (n < 4294967296) = true := decide_eq_true h
theorem drop_at {α : Type} {l : List α} {i : Nat} (h : i < l.length) : l.drop i = l[i] :: l.drop (i + 1) := List.drop_eq_getElem_cons h
theorem Ev.fold {α σ β : Type} (l : List α) (F : Nat → σ → Int → Option β) (st : σ → α → σ) (fin : σ → β) (ok : Nat → σ → Prop)
    (hend : ∀ s, ok l.length s → Ev (fun k => F k s (l.length : Int)) (fin s))
    (hstep : ∀ i s, (h : i < l.length) → ok i s → ok (i + 1) (st s l[i]) ∧ ∀ r, Ev (fun k => F k (st s l[i]) ((i + 1 : Nat) : Int)) r → Ev (fun k => F k s (i : Int)) r) :
    ∀ d i s, i + d = l.length → ok i s → Ev (fun k => F k s (i : Int)) (fin ((l.drop i).foldl st s))
  | 0, i, s, hi, hs => by
    obtain rfl : i = l.length := by omega
    rw [List.drop_length]
    exact hend s hs
  | d + 1, i, s, hi, hs => by
    have hil : i < l.length := by omega
    obtain ⟨h1, h2⟩ := hstep i s hil hs
    rw [drop_at hil, List.foldl_cons]
    exact h2 _ (Ev.fold l F st fin ok hend hstep d (i + 1) _ (by omega) h1)
theorem Ev.fold0 {α σ β : Type} (l : List α) (F : Nat → σ → Int → Option β) (st : σ → α → σ) (fin : σ → β) (ok : Nat → σ → Prop) (s : σ) (h0 : ok 0 s)
    (hend : ∀ s, ok l.length s → Ev (fun k => F k s (l.length : Int)) (fin s))
    (hstep : ∀ i s, (h : i < l.length) → ok i s → ok (i + 1) (st s l[i]) ∧ ∀ r, Ev (fun k => F k (st s l[i]) ((i + 1 : Nat) : Int)) r → Ev (fun k => F k s (i : Int)) r) :
    Ev (fun k => F k s 0) (fin (l.foldl st s)) := by
  have := Ev.fold l F st fin ok hend hstep l.length 0 s (by omega) h0
  simpa using this
theorem Ev.search {α β : Type} (l : List α) (F : Nat → Int → Option β) (p : α → Bool) (hit : Nat → β) (miss : β)
    (hend : Ev (fun k => F k (l.length : Int)) miss)
    (hstep : ∀ i, (h : i < l.length) → (p l[i] = true → Ev (fun k => F k (i : Int)) (hit i)) ∧ (p l[i] = false → ∀ r, Ev (fun k => F k ((i + 1 : Nat) : Int)) r → Ev (fun k => F k (i : Int)) r)) :
    ∀ d i, i + d = l.length → Ev (fun k => F k (i : Int)) (match (l.drop i).findIdx? p with | Option.some j => hit (i + j) | none => miss)
  | 0, i, hi => by
    obtain rfl : i = l.length := by omega
    rw [List.drop_length]
    exact hend
  | d + 1, i, hi => by
    have hil : i < l.length := by omega
    obtain ⟨h1, h2⟩ := hstep i hil
    rw [drop_at hil, List.findIdx?_cons]
    cases hp : p l[i] with
    | true => simpa using h1 hp
    | false =>
      have := h2 hp _ (Ev.search l F p hit miss hend hstep d (i + 1) (by omega))
      refine this |> fun h => ?_
      cases hf : (l.drop (i + 1)).findIdx? p with
      | none => rw [hf] at h; simpa using h
      | some j => rw [hf] at h; simpa [Nat.add_assoc, Nat.add_comm 1 j] using h
theorem Ev.any {α : Type} (l : List α) (F : Nat → Int → Option Bool) (p : α → Bool)
    (hend : Ev (fun k => F k (l.length : Int)) false)
    (hstep : ∀ i, (h : i < l.length) → (p l[i] = true → Ev (fun k => F k (i : Int)) true) ∧ (p l[i] = false → ∀ r, Ev (fun k => F k ((i + 1 : Nat) : Int)) r → Ev (fun k => F k (i : Int)) r)) :
    ∀ d i, i + d = l.length → Ev (fun k => F k (i : Int)) ((l.drop i).any p)
  | 0, i, hi => by
    obtain rfl : i = l.length := by omega
    rw [List.drop_length]
    exact hend
  | d + 1, i, hi => by
    have hil : i < l.length := by omega
    obtain ⟨h1, h2⟩ := hstep i hil
    rw [drop_at hil, List.any_cons]
    cases hp : p l[i] with
    | true => exact h1 hp
    | false => exact h2 hp _ (Ev.any l F p hend hstep d (i + 1) (by omega))
theorem search_at {α β : Type} (l : List α) (F : Nat → Int → Option β) (p : α → Bool) (hit : Nat → β) (miss : β) (hend : ∀ k, F (k + 1) (l.length : Int) = some miss)
    (hstep : ∀ k i, (h : i < l.length) → F (k + 1) (i : Int) = bif p l[i] then some (hit i) else F k ((i + 1 : Nat) : Int)) :
    ∀ d i, i + d = l.length → ∀ k, d < k → F k (i : Int) = some (match (l.drop i).findIdx? p with | some j => hit (i + j) | none => miss)
  | 0, i, hi, k, hk => by
    obtain rfl : i = l.length := by omega
    obtain ⟨k, rfl⟩ : ∃ j, k = j + 1 := ⟨k - 1, by omega⟩
    rw [List.drop_length]
    exact hend k
  | d + 1, i, hi, k, hk => by
    obtain ⟨k, rfl⟩ : ∃ j, k = j + 1 := ⟨k - 1, by omega⟩
    have hil : i < l.length := by omega
    rw [hstep k i hil, drop_at hil, List.findIdx?_cons]
    cases hp : p l[i] with
    | true => rfl
    | false =>
      rw [show (bif false then some (hit i) else F k ((i + 1 : Nat) : Int)) = F k ((i + 1 : Nat) : Int) from rfl, search_at l F p hit miss hend hstep d (i + 1) (by omega) k (by omega)]
      cases hf : (l.drop (i + 1)).findIdx? p with
      | none => simp
      | some j => simp [Nat.add_assoc, Nat.add_comm 1 j]
def idxOf {α : Type} (p : α → Bool) (l : List α) : Int := match l.findIdx? p with
  | some j => (j : Int)
  | none => -1
theorem idxOf_any {α : Type} (p : α → Bool) (l : List α) : decide (idxOf p l ≥ 0) = l.any p := by
  unfold idxOf
  cases h : l.findIdx? p with
  | none =>
    have : l.any p = false := by
      rw [List.any_eq_false]
      intro x hx
      rw [List.findIdx?_eq_none_iff] at h
      simpa using h x hx
    rw [this]
    exact decide_eq_false (by simp)
  | some j =>
    have : l.any p = true := by
      rw [List.any_eq_true]
      obtain ⟨hj, hp, _⟩ := List.findIdx?_eq_some_iff_getElem.1 h
      exact ⟨_, List.getElem_mem hj, hp⟩
    rw [this]
    exact decide_eq_true (by simp)
theorem Ev.all {α β : Type} {g : Nat → α → Option β} {p : α → β} : ∀ (l : List α), (∀ x ∈ l, Ev (fun k => g k x) (p x)) → ∃ K, ∀ k, K ≤ k → ∀ x ∈ l, g k x = Option.some (p x)
  | [], _ => ⟨0, fun _ _ x hx => by cases hx⟩
  | y :: l, h => by
    obtain ⟨K, hK⟩ := h y (by simp)
    obtain ⟨L, hL⟩ := Ev.all l (fun x hx => h x (List.mem_cons_of_mem _ hx))
    refine ⟨max K L, fun k hk x hx => ?_⟩
    rcases List.mem_cons.1 hx with rfl | hx
    · exact hK k (by omega)
    · exact hL k (by omega) x hx
theorem foldl_app {α β : Type} (f : α → β) : ∀ (l : List α) (s : List β), l.foldl (fun s x => s ++ [f x]) s = s ++ l.map f
  | [], s => by simp
  | x :: l, s => by rw [List.foldl_cons, foldl_app f l]; simp
end Go.Vm
end
section
namespace Go.Vm
open Go.RowKit Go.Deep Go.ChangeShapes Go.WideShapes
set_option linter.unusedVariables false
set_option linter.unusedSimpArgs false

def Wf : (t : Ty) → t.den → Prop
  | .int k, x => k.min ≤ (x : Int) ∧ (x : Int) ≤ k.max
  | .bool, _ => True
  | .str, x => ByteArray.size x ≤ maxLen
  | .sl _ t, x => List.length (α := t.den) x ≤ maxLen ∧ ∀ y ∈ (x : List t.den), Wf t y
  | .arr n t, x => List.length (α := t.den) x = n ∧ ∀ y ∈ (x : List t.den), Wf t y
  | .st c, x => Wf c x
  | .pair a b, x => Wf a x.1 ∧ Wf b x.2
  | .tup _, _ => False
  | .unit, _ => False

section
variable {H : Type} (enc : TypeId × Value → H) (P : Program) (w : World) (base : Nat) (spare : Nat → Bool) (held : Bool)
def OpT (ty : Ty) (t : TypeId) : Prop := ∀ fuel cs y, DataW.trod enc P w base spare held fuel t cs = some y → ∃ a : ty.den, RelC w (fun b => b < w.heap.size) ty a cs ∧ Wf ty a
variable {enc P w base spare held}
theorem choose_ {α : Type} {R : Nat → α → Prop} : ∀ n, (∀ i, i < n → ∃ a, R i a) → ∃ l : List α, l.length = n ∧ ∀ i a, l[i]? = some a → R i a
  | 0, _ => ⟨[], rfl, fun i a h => by simp at h⟩
  | n + 1, h => by
    obtain ⟨l, hl, hr⟩ := choose_ n (fun i hi => h i (by omega))
    obtain ⟨a, ha⟩ := h n (by omega)
    refine ⟨l ++ [a], by simp [hl], fun i b hb => ?_⟩
    rw [List.getElem?_append] at hb
    split at hb
    · exact hr i b hb
    · rename_i hge
      have : i = n := by
        have h2 := (List.getElem?_eq_some_iff.1 hb).1
        simp at h2
        omega
      subst this
      rw [hl] at hb
      simp at hb
      subst hb
      exact ha
theorem relL_of {α : Type} {R : α → List Value → Prop} {n : Nat} (hlen : ∀ y c, R y c → c.length = n) : ∀ (l : List α) (cs : List Value), cs.length = l.length * n → (∀ i y, l[i]? = some y → R y ((cs.drop (i * n)).take n)) → RelL R l cs
  | [], cs, hl, _ => List.eq_nil_of_length_eq_zero (by simpa using hl)
  | y :: l, cs, hl, h => by
    refine ⟨cs.take n, cs.drop n, (List.take_append_drop n cs).symm, by simpa using h 0 y rfl, relL_of hlen l (cs.drop n) ?_ fun i z hz => ?_⟩
    · rw [List.length_drop, hl, List.length_cons, Nat.add_mul, Nat.one_mul]; omega
    · have := h (i + 1) z (by simpa using hz)
      rw [List.drop_drop]
      rwa [Nat.add_mul, Nat.one_mul, Nat.add_comm] at this
theorem cellsOf_ty {T : Tab} {tid : TypeId} {ty : Ty} (h : TyOk P T tid ty) : P.cellsOf tid = ty.size := by
  obtain ⟨i, z, hi, hs, _⟩ := h.info
  unfold Program.cellsOf
  rw [hi]
  simpa using hs
theorem opFlds {T : Tab} (hT : TabOk P T) {n : Nat} {cs : List Value} : ∀ (ty : Ty) (fs : List Field) (off : Nat), (∀ (a : Ty) t, a.dep < ty.dep + 1 → T t = some a → OpT enc P w base spare held a t) → Flds T fs off ty → off + ty.size = cs.length →
    (∀ f ∈ fs, ∃ y, DataW.trod enc P w base spare held n f.type ((cs.drop f.offset).take (P.cellsOf f.type)) = some y) → ∃ a : ty.den, RelC w (fun b => b < w.heap.size) ty a (cs.drop off) ∧ Wf ty a := by
  intro ty
  have hone : ∀ (ty : Ty), (match ty with | .pair _ _ => False | _ => True) → ∀ (fs : List Field) (off : Nat), (∀ (a : Ty) t, a.dep < ty.dep + 1 → T t = some a → OpT enc P w base spare held a t) → Flds T fs off ty → off + ty.size = cs.length →
    (∀ f ∈ fs, ∃ y, DataW.trod enc P w base spare held n f.type ((cs.drop f.offset).take (P.cellsOf f.type)) = some y) → ∃ a : ty.den, RelC w (fun b => b < w.heap.size) ty a (cs.drop off) ∧ Wf ty a := by
    intro ty hp fs off ih hF hl hh
    have hF' : ∃ f, fs = [f] ∧ T f.type = some ty ∧ 0 < ty.size ∧ f.offset = off := by
      cases ty <;> (try exact hp.elim) <;> (unfold Flds at hF; split at hF <;> first | exact hF.elim | (rename_i f; exact ⟨_, rfl, hF.1, hF.2.1, hF.2.2.1⟩) | (simp_all))
    obtain ⟨f, rfl, hf, hp0, ho⟩ := hF'
    obtain ⟨y, hy⟩ := hh f (by simp)
    rw [cellsOf_ty (hT _ _ hf), ho, List.take_of_length_le (by rw [List.length_drop]; omega)] at hy
    exact ih ty _ (by omega) hf _ _ _ hy
  induction ty with
  | pair a b iha ihb =>
    intro fs off ih hF hl hh
    cases fs with
    | nil => exact hF.elim
    | cons f fs =>
      obtain ⟨hf, hp0, ho, _, hr⟩ := hF
      obtain ⟨y, hy⟩ := hh f (by simp)
      have hsz : Ty.size (.pair a b) = a.size + b.size := rfl
      have hd : Ty.dep (.pair a b) = max a.dep b.dep := rfl
      rw [cellsOf_ty (hT _ _ hf), ho] at hy
      obtain ⟨x, hx, wx⟩ := ih a _ (by omega) hf _ _ _ hy
      obtain ⟨z, hz, wz⟩ := ihb fs (off + a.size) (fun a' t h1 h2 => ih a' t (by omega) h2) hr (by omega) (fun f' h' => hh f' (List.mem_cons_of_mem _ h'))
      refine ⟨(x, z), ⟨_, _, ?_, hx, hz⟩, wx, wz⟩
      rw [← List.drop_drop, List.take_append_drop]
  | int k => exact hone _ trivial
  | bool => exact hone _ trivial
  | str => exact hone _ trivial
  | sl e t _ => exact hone _ trivial
  | arr n t _ => exact hone _ trivial
  | st c _ => exact hone _ trivial
  | tup c _ => exact hone _ trivial
  | unit => exact hone _ trivial
theorem opT {T : Tab} (hT : TabOk P T) : ∀ (d : Nat) (ty : Ty), ty.dep < d → ∀ t, T t = some ty → OpT enc P w base spare held ty t := by
  intro d
  induction d with
  | zero => intro ty h; omega
  | succ d ih =>
    intro ty hd t ht fuel cs y h
    have hu := (hT _ _ ht).und
    have hcs := cellsOf_ty (hT _ _ ht)
    cases ty with
    | int k =>
      obtain ⟨n, rfl, _, hw⟩ := DataW.trod_int hu h
      refine ⟨n, rfl, ?_⟩
      simp only [Lit.wf, Bool.and_eq_true, decide_eq_true_eq] at hw
      exact hw
    | bool =>
      obtain ⟨b, rfl, _⟩ := DataW.trod_bool hu h
      exact ⟨b, rfl, trivial⟩
    | str =>
      obtain ⟨s, rfl, _, hs⟩ := DataW.trod_string hu h
      exact ⟨s, rfl, hs⟩
    | sl e t' =>
      obtain ⟨hu, he, hpos⟩ := hu
      have hce := cellsOf_ty (hT _ _ he)
      rcases open_slice hu h with ⟨rfl, _⟩ | ⟨a, len, cap, m, n, D, Pl, rfl, hb, hl, hm, hmm, _, hi⟩
      · exact ⟨([] : List t'.den), ⟨none, 0, rfl, Nat.le_refl _, fun h => absurd h (Nat.lt_irrefl 0)⟩, Nat.zero_le _, fun y hy => by cases hy⟩
      · have hlm : len ≤ m := by rw [hmm]; split <;> omega
        obtain ⟨l, hlen, hR⟩ := choose_ (R := fun i (x : t'.den) => (∃ c, c.length = t'.size ∧ RelC w (fun b => b < w.heap.size) t' x c ∧ ∀ j u, c[j]? = some u → w.cell? (a.add (i * t'.size + j)) = some u) ∧ Wf t' x) len (fun i hil => by
          obtain ⟨cs', hc, ht'⟩ := hi i (by omega)
          obtain ⟨x, hK, hQ⟩ := ih t' (by have : Ty.dep (.sl e t') = t'.dep + 1 := rfl; omega) e he _ _ _ ht'
          rw [hce] at hc
          obtain ⟨_, hcl, hat⟩ := World.cells?_some hc
          refine ⟨x, ⟨cs', hK.len, hK, fun j u hu => ?_⟩, hQ⟩
          have hj : j < t'.size := by have := (List.getElem?_eq_some_iff.1 hu).1; rw [hK.len] at this; exact this
          have := hat j hj
          rw [Go.Deep.add_add] at this
          rw [this, hu])
        refine ⟨l, ⟨some a, cap, ?_, ?_, fun hn => ?_⟩, ?_, fun z hz => ?_⟩
        · show [Value.slice (some a) len cap] = [Value.slice (some a) l.length cap]; rw [hlen]
        · show l.length ≤ cap; omega
        · have hl0 : 0 < l.length := hn
          obtain ⟨inner, hin, hc⟩ : ∃ inner : List Value, inner.length = len * t'.size ∧ ∀ i u, inner[i]? = some u → w.cell? (a.add i) = some u := by
            obtain ⟨inner, hil, hiR⟩ := choose_ (R := fun i (u : Value) => w.cell? (a.add i) = some u) (len * t'.size) (fun i hi2 => by
              have hq : i / t'.size < len := by rw [Nat.div_lt_iff_lt_mul hpos]; exact hi2
              obtain ⟨⟨c, hcl, hr, hcc⟩, _⟩ := hR (i / t'.size) _ (List.getElem?_eq_getElem (by omega))
              have hj : i % t'.size < c.length := by rw [hcl]; exact Nat.mod_lt _ hpos
              have h0 := hcc (i % t'.size) _ (List.getElem?_eq_getElem hj)
              rw [Nat.mul_comm, Nat.div_add_mod] at h0
              exact ⟨_, h0⟩)
            exact ⟨inner, hil, hiR⟩
          have hsz1 : 0 < len * t'.size := Nat.mul_pos (by omega) hpos
          have hblk : a.block < w.heap.size := by
            have := hc 0 _ (List.getElem?_eq_getElem (by omega))
            have h2 := World.block_lt_of_cell? w _ this
            rw [Addr.add] at h2
            split at h2 <;> exact h2
          refine ⟨a, inner, rfl, hblk, by rw [hin, ← hlen], hc, relL_of (n := t'.size) (fun y c hyc => hyc.len) l inner (by rw [hin, hlen]) fun i z hz => ?_⟩
          obtain ⟨⟨c, hcl, hr, hcc⟩, _⟩ := hR i z hz
          have hi3 : i < len := by have := (List.getElem?_eq_some_iff.1 hz).1; omega
          have heq : (inner.drop (i * t'.size)).take t'.size = c := by
            have hle : i * t'.size + t'.size ≤ len * t'.size := by
              have := Nat.mul_le_mul_right t'.size (show i + 1 ≤ len by omega)
              rw [Nat.add_mul, Nat.one_mul] at this; exact this
            apply List.ext_getElem?
            intro j
            by_cases hj : j < t'.size
            · rw [List.getElem?_take_of_lt hj, List.getElem?_drop, List.getElem?_eq_getElem (by omega), List.getElem?_eq_getElem (by omega)]
              have h1 := hc (i * t'.size + j) _ (List.getElem?_eq_getElem (by omega))
              have h2 := hcc j _ (List.getElem?_eq_getElem (by omega))
              rw [h1] at h2
              exact h2
            · rw [List.getElem?_eq_none (by rw [List.length_take]; omega), List.getElem?_eq_none (by omega)]
          rw [heq]
          exact hr
        · show l.length ≤ maxLen; omega
        · obtain ⟨i, hil, rfl⟩ := List.getElem_of_mem hz
          exact (hR i _ (List.getElem?_eq_getElem hil)).2
    | arr n t' =>
      obtain ⟨e, hu, he, hpos, _⟩ := hu
      have hce := cellsOf_ty (hT _ _ he)
      obtain ⟨xs, n', _, _, hlen, hxl, hi⟩ := DataW.trod_array hu h
      obtain ⟨l, hl, hR⟩ := choose_ (R := fun i (x : t'.den) => RelC w (fun b => b < w.heap.size) t' x ((cs.drop (i * t'.size)).take t'.size) ∧ Wf t' x) n (fun i hin => by
        have h1 := hi i hin
        rw [List.getElem?_eq_getElem (by omega), hce] at h1
        exact ih t' (by have : Ty.dep (.arr n t') = t'.dep + 1 := rfl; omega) e he _ _ _ h1)
      refine ⟨l, ⟨hl, relL_of (n := t'.size) (fun y c hyc => hyc.len) l cs ?_ fun i y hy => (hR i y hy).1⟩, hl, fun z hz => ?_⟩
      · rw [hlen, hcs, hl]; rfl
      · obtain ⟨i, hil, rfl⟩ := List.getElem_of_mem hz
        exact (hR i _ (List.getElem?_eq_getElem hil)).2
    | st c =>
      obtain ⟨fs, hu, hF, _⟩ := hu
      obtain ⟨xs, n, _, _, hlen, hxl, hi⟩ := DataW.trod_struct hu h
      have hd2 : Ty.dep (.st c) = c.dep + 1 := rfl
      obtain ⟨a, ha, wa⟩ := opFlds (enc := enc) (base := base) (spare := spare) (held := held) hT (n := n) (cs := cs) c fs.toList 0 (fun a t h1 h2 => ih a (by omega) t h2) hF (by rw [hlen, hcs]; show 0 + c.size = c.size; omega) (fun f hf => by
        obtain ⟨i, hil, rfl⟩ := List.getElem_of_mem hf
        have h1 := hi i _ (show fs[i]? = some (fs.toList[i]) by rw [← Array.getElem?_toList]; exact List.getElem?_eq_getElem hil)
        have h2 : i < xs.length := by rw [hxl]; simpa using hil
        rw [List.getElem?_eq_getElem h2] at h1
        exact ⟨_, h1⟩)
      exact ⟨a, by rw [List.drop_zero] at ha; exact ha, wa⟩
    | pair a b => exact hu.elim
    | tup c => exact hu.elim
    | unit => exact hu.elim
theorem relV_arg {T : Tab} (hT : TabOk P T) {ty : Ty} {t : TypeId} (ht : T t = some ty) {v : Value} {b0 : Nat} (hv : Value.okWide P w .any b0 t v) {d : DataW H} {p : List MemPlace} (h : DataW.Trod enc P w base spare held t v d p) :
    ∃ a : ty.den, RelD w (fun b => b < w.heap.size) ty a v ∧ Wf ty a := by
  have h' := h
  obtain ⟨fuel, hf⟩ := h
  obtain ⟨a, ha, wa⟩ := opT hT _ ty (Nat.lt_succ_self _) t ht _ _ _ hf
  refine ⟨a, ?_, wa⟩
  have hu := (hT _ _ ht).und
  cases ty with
  | int k =>
    obtain ⟨n, rfl, _⟩ := open_int hu hv h'
    simpa [RelD, RelV1, Value.cells] using ha
  | bool =>
    obtain ⟨n, rfl, _⟩ := open_bool hu hv h'
    simpa [RelD, RelV1, Value.cells] using ha
  | str =>
    obtain ⟨n, rfl, _⟩ := Go.ChangeMaps.open_string hu hv h'
    simpa [RelD, RelV1, Value.cells] using ha
  | sl e t' =>
    obtain ⟨a', len, cap, rfl⟩ := okWide_slice hu.1 hv
    simpa [RelD, RelV1, Value.cells] using ha
  | arr n t' =>
    obtain ⟨e, hu, _⟩ := hu
    unfold Value.okWide at hv
    rw [hu] at hv
    obtain ⟨cs, rfl, _⟩ := hv
    exact ⟨cs, rfl, ha⟩
  | st c =>
    obtain ⟨fs, hu, _⟩ := hu
    unfold Value.okWide at hv
    rw [hu] at hv
    obtain ⟨cs, rfl, _⟩ := hv
    exact ⟨cs, rfl, ha⟩
  | pair a b => exact hu.elim
  | tup c => exact hu.elim
  | unit => exact hu.elim
def WfAll : (tys : List Ty) → dens (tys.map PK.val) → Prop
  | [], _ => True
  | t :: ts, a => Wf t a.1 ∧ WfAll ts a.2
def tysB (T : Tab) : List TypeId → List Ty → Bool
  | [], [] => true
  | t :: ts, y :: ys => decide (T t = some y) && tysB T ts ys
  | _, _ => false
theorem row_args {T : Tab} (hT : TabOk P T) {b0 : Nat} {fl : Bool} : ∀ (ts : List TypeId) (tys : List Ty), tysB T ts tys = true → ∀ {vs : List Value} {ds : List (DataW H)} {p : List MemPlace}, DataW.TrodAll enc P w base spare held ts vs ds p →
    (∀ (j : Nat) t v, ts[j]? = some t → vs[j]? = some v → Value.okWide P w .any b0 t v) →
    ∃ as : dens (tys.map PK.val), RelArgs P w (fun b => b < w.heap.size) (fun b => b < w.heap.size) fl (tys.map PK.val) as vs ∧ WfAll tys as
  | [], [], _, vs, ds, p, h, _ => by
    obtain ⟨rfl, rfl, rfl⟩ := trodAll_nil h
    exact ⟨(), rfl, trivial⟩
  | t :: ts, y :: ys, hty, vs, ds, p, h, hok => by
    simp only [tysB, Bool.and_eq_true, decide_eq_true_eq] at hty
    obtain ⟨v, vs', d, ds', p', q', rfl, rfl, rfl, h0, r0⟩ := trodAll_cons h
    obtain ⟨a, ha, wa⟩ := relV_arg hT hty.1 (hok 0 t v rfl rfl) h0
    obtain ⟨as, has, was⟩ := row_args hT (fl := fl) ts ys hty.2 r0 (fun j t' v' h1 h2 => hok (j + 1) t' v' (by simpa using h1) (by simpa using h2))
    exact ⟨(a, as), ⟨v, vs', rfl, ha, has⟩, wa, was⟩
  | [], _ :: _, h, _, _, _, _, _ => by simp [tysB] at h
  | _ :: _, [], h, _, _, _, _, _ => by simp [tysB] at h
theorem row_back (hl : laidOutB P = true) {w' : World} (hb : Below w.heap.size w w') : ∀ {ts : List TypeId} {vs : List Value} {ds : List (DataW H)} {p : List MemPlace}, ts.all (fun t => P.readableRec t && decide (t < P.types.size)) = true →
    DataW.TrodAll enc P w 0 (fun _ => true) true ts vs ds p → DataW.TrodAll enc P w' 0 (fun b => decide (b < w.heap.size)) true ts vs ds p
  | [], vs, ds, p, _, h => by
    obtain ⟨rfl, rfl, rfl⟩ := trodAll_nil h
    exact trodAll_mk0
  | t :: ts, vs, ds, p, hr, h => by
    simp only [List.all_cons, Bool.and_eq_true, decide_eq_true_eq] at hr
    obtain ⟨v, vs', d, ds', p', q', rfl, rfl, rfl, h0, r0⟩ := trodAll_cons h
    have k0 := h0
    have lt0 : ∀ x ∈ p', x.block < w.heap.size := by obtain ⟨m, hm⟩ := k0; exact DataW.trod_lt m _ _ _ hm
    exact trodAll_cons_mk (Below.trod hl hr.1.1 hr.1.2 h0 hb lt0) (row_back hl hb (by simpa using hr.2) r0)
theorem law_calls {f : FuncId} {tys : List Ty} {fn : Nat → fns (tys.map PK.val) (Option (Ty.den .bool))} (hs : ∀ k, SpecOk P f (.pu (tys.map PK.val) .bool (fn k))) {as : dens (tys.map PK.val)} (hp : ∃ k, app _ (fn k) as = some true) {vs : List Value}
    (h : RelArgs P w (fun b => b < w.heap.size) (fun b => b < w.heap.size) true (tys.map PK.val) as vs) : Calls P f vs.toArray w fun e w' => e = .returned (.bool true) ∧ Below w.heap.size w w' := by
  obtain ⟨k, hk⟩ := hp
  refine ((hs k).2 w _ _ as vs true (fun b hb => hb) (fun b hb => hb) h hk).mono fun e w' ⟨v, he, hv, hb⟩ => ⟨?_, hb⟩
  have : v = .bool true := by simpa [RelD, RelV1, RelC] using hv
  rw [he, this]
end
end Go.Vm
end
section
namespace Go.Vm
set_option linter.unusedVariables false
theorem Ev.nany {α : Type} (l : List α) (F : Nat → Int → Option Bool) (p : α → Bool)
    (hend : Ev (fun k => F k (l.length : Int)) true)
    (hstep : ∀ i, (h : i < l.length) → (p l[i] = true → Ev (fun k => F k (i : Int)) false) ∧ (p l[i] = false → ∀ r, Ev (fun k => F k ((i + 1 : Nat) : Int)) r → Ev (fun k => F k (i : Int)) r)) :
    ∀ d i, i + d = l.length → Ev (fun k => F k (i : Int)) (!(l.drop i).any p)
  | 0, i, hi => by
    obtain rfl : i = l.length := by omega
    rw [List.drop_length]
    exact hend
  | d + 1, i, hi => by
    have hil : i < l.length := by omega
    obtain ⟨h1, h2⟩ := hstep i hil
    rw [drop_at hil, List.any_cons]
    cases hp : p l[i] with
    | true => exact h1 hp
    | false => exact h2 hp _ (Ev.nany l F p hend hstep d (i + 1) (by omega))
theorem Ev.any0 {α : Type} (l : List α) (F : Nat → Int → Option Bool) (p : α → Bool)
    (hend : Ev (fun k => F k (l.length : Int)) false)
    (hstep : ∀ i, (h : i < l.length) → (p l[i] = true → Ev (fun k => F k (i : Int)) true) ∧ (p l[i] = false → ∀ r, Ev (fun k => F k ((i + 1 : Nat) : Int)) r → Ev (fun k => F k (i : Int)) r)) :
    Ev (fun k => F k 0) (l.any p) := by
  have := Ev.any l F p hend hstep l.length 0 (by omega)
  simpa using this

theorem cs (a b : Bool) : (bif a then some b else some false) = some (a && b) := by cases a <;> rfl
theorem csn (a b : Bool) : (bif !a then some false else some b) = some (a && b) := by cases a <;> rfl
theorem cso (a b : Bool) : (bif a then some false else some b) = some (!a && b) := by cases a <;> rfl
theorem cst (a b : Bool) : (bif a then some true else some b) = some (a || b) := by cases a <;> rfl
namespace Ev
variable {g : Nat → Option Bool} {a v : Bool}
theorem and_ (h : a = true → Ev g v) : Ev (fun k => bif a then g k else Option.some false) (a && v) := by
  cases a
  · exact Ev.some _
  · exact h rfl
theorem nand_ (h : a = true → Ev g v) : Ev (fun k => bif !a then Option.some false else g k) (a && v) := by
  cases a
  · exact Ev.some _
  · exact h rfl
theorem norr (h : a = false → Ev g v) : Ev (fun k => bif a then Option.some false else g k) (!a && v) := by
  cases a
  · exact h rfl
  · exact Ev.some _
theorem bne_ {α : Type} [BEq α] {x y : α} (h : (x == y) = true → Ev g v) : Ev (fun k => bif (x != y) then Option.some false else g k) ((x == y) && v) := nand_ h
theorem ret {α : Type} {g : Nat → Option α} {r : α} (h : Ev g r) : Ev (fun k => (g k).bind fun x => Option.some x) r := bind h (Ev.some _)
theorem map_ {α β : Type} {g : Nat → Option α} {r : α} (f : α → β) (h : Ev g r) : Ev (fun k => (g k).bind fun x => Option.some (f x)) (f r) := bind h (Ev.some _)
theorem at_ {α : Type} {g : Nat → Option α} {r : α} (h : ∀ k, g k = Option.some r) : Ev g r := ⟨0, fun k _ => h k⟩
theorem to {α : Type} {g : Nat → Option α} {r r' : α} (h : Ev g r) (e : r = r') : Ev g r' := e ▸ h
end Ev
theorem Ev.allL {α : Type} (l : List α) (F : Nat → Int → Option Bool) (p : α → Bool) (Q : Bool) (hend : Ev (fun k => F k (l.length : Int)) Q)
    (hstep : ∀ i, (h : i < l.length) → ∀ r, Ev (fun k => F k ((i + 1 : Nat) : Int)) r → Ev (fun k => F k (i : Int)) (p l[i] && r)) : Ev (fun k => F k 0) (l.all p && Q) := by
  have : ∀ d i, i + d = l.length → Ev (fun k => F k (i : Int)) ((l.drop i).all p && Q) := by
    intro d
    induction d with
    | zero =>
      intro i hi
      obtain rfl : i = l.length := by omega
      rw [List.drop_length]
      exact hend
    | succ d ih =>
      intro i hi
      have hil : i < l.length := by omega
      rw [drop_at hil, List.all_cons, Bool.and_assoc]
      exact hstep i hil _ (ih (i + 1) (by omega))
  have := this l.length 0 (by omega)
  simpa using this
theorem Ev.allN (n : Nat) (F : Nat → Int → Option Bool) (p : Nat → Bool) (Q : Bool) (hend : Ev (fun k => F k (n : Int)) Q)
    (hstep : ∀ i, i < n → ∀ r, Ev (fun k => F k ((i + 1 : Nat) : Int)) r → Ev (fun k => F k (i : Int)) (p i && r)) : Ev (fun k => F k 0) ((List.range n).all p && Q) :=
  Ev.allL (List.range n) F p Q (by simpa using hend) (fun i h r hr => by
    have hi : i < n := by simpa using h
    have := hstep i hi r hr
    simpa using this)
end Go.Vm
end
