/- What the claim SCO leans on: texts joined by bundle.py, a program of ours; the words cut down to what is used. -/
import Derived.Test.YtgffbbcoackfaaaDoorBSCO1
import Derived.Lib.OthersKept
import Derived.WideShapes
import Derived.ProofKit
import Derived.Deep.Slices
import Derived.OpenShut
import Derived.ChangeArms
import Derived.ShutString
import Derived.ChangeOld
import Derived.Below
import Derived.Carry
section
namespace Go.Vm
open Go.RowKit
set_option linter.unusedVariables false
set_option linter.unusedSimpArgs false

def RelArgs (P : Program) (w : World) (S S1 : Nat → Prop) (flat : Bool) : (ps : List PK) → dens ps → List Value → Prop
  | [], _, vs => vs = []
  | .val t :: ps, a, vs => ∃ v l, vs = v :: l ∧ RelD w S t a.1 v ∧ RelArgs P w S S1 flat ps a.2 l
  | .ro t :: ps, a, vs => ∃ v l, vs = v :: l ∧ flat = true ∧ RelP w S1 t a.1 v ∧ RelArgs P w S S1 flat ps a.2 l
  | .rw _ :: _, _, _ => False
  | .fn x r :: ps, a, vs => ∃ v l, vs = v :: l ∧ RelFn P w S S1 x r a.1 v ∧ RelArgs P w S S1 flat ps a.2 l

def RetO (w : World) (S : Nat → Prop) (e : TypeId) (t : Ty) (ys : List t.den) (en : Ending) (w' : World) : Prop :=
  ∃ v inner S', en = .returned v ∧ w'.ownsRow w.heap.size e t.size v ys.length inner ∧ RelL (RelC w' S' t) ys inner ∧ (∀ g, v.ownBlock = some g → ¬ S' g) ∧ (∀ b, S' b → Ext' S w w' b) ∧ Below w.heap.size w w'
def RetF (P : Program) (w : World) (S : Nat → Prop) (a r : Ty) (g : a.den → Option r.den) (en : Ending) (w' : World) : Prop :=
  ∃ v, en = .returned v ∧ RelFn P w' (Ext' S w w') (Ext' S w w') a r g v ∧ Below w.heap.size w w'
def RetW (w : World) (S : Nat → Prop) (b : Nat) (t r : Ty) (y : t.den × r.den) (en : Ending) (w' : World) : Prop :=
  ∃ v cs tid, en = .returned v ∧ RelD w' (Ext' S w w') r y.2 v ∧ w'.heap[b]? = some (.cells cs tid (0, 0)) ∧ RelC w' (Ext' S w w') t y.1 cs.toList ∧
    w'.os = w.os ∧ w'.tape = w.tape ∧ w'.output = w.output ∧ w.heap.size ≤ w'.heap.size ∧ ∀ i, i < w.heap.size → i ≠ b → w'.heap[i]? = w.heap[i]?
def Stored (P : Program) (it st : TypeId) : List (Addr × Bool) → List (Int ⊕ ByteArray) → World → World → Prop
  | _, [], w, w' => w' = w
  | p :: l, .inl n :: ys, w, w' => ∃ w1, (Instr.storeAt it (.pointer (some p.1)) (.int .i64 n)).run P w = .ok () w1 ∧ Stored P it st l ys w1 w'
  | p :: l, .inr s :: ys, w, w' => ∃ w1, (Instr.storeAt st (.pointer (some p.1)) (.string s)).run P w = .ok () w1 ∧ Stored P it st l ys w1 w'
  | [], _ :: _, _, _ => False
def Fits : List Bool → List (Int ⊕ ByteArray) → Prop
  | _, [] => True
  | true :: ks, .inl _ :: ys => Fits ks ys
  | false :: ks, .inr _ :: ys => Fits ks ys
  | _, _ => False
def PlaceOk (w : World) (S : Nat → Prop) (p : Addr × Bool) : Prop := p.1.spot = none ∧ ¬ S p.1.block ∧ ∃ cs tid, w.heap[p.1.block]? = some (.cells cs tid (0, 0)) ∧ p.1.off < cs.size
def ifaceOf (pi pst : TypeId) (p : Addr × Bool) : Value := .iface (bif p.2 then pi else pst) (.pointer (some p.1))
def SpecOk (P : Program) (f : FuncId) : Spec → Prop
  | .pu ps r fn => Enters P f ∧ ∀ (w : World) (S S1 : Nat → Prop) (as : dens ps) (vs : List Value) (y : r.den), (∀ b, S b → S1 b) → (∀ b, S1 b → b < w.heap.size) →
      RelArgs P w S S1 r.flat ps as vs → app ps fn as = some y → Calls P f vs.toArray w (Ret w S r y)
  | .fr ps e t fn => Enters P f ∧ ∀ (w : World) (S S1 : Nat → Prop) (as : dens ps) (vs : List Value) (ys : List t.den), (∀ b, S b → S1 b) → (∀ b, S1 b → b < w.heap.size) →
      RelArgs P w S S1 false ps as vs → app ps fn as = some ys → Calls P f vs.toArray w (RetO w S e t ys)
  | .cl ps a r fn => Enters P f ∧ ∀ (w : World) (S S1 : Nat → Prop) (as : dens ps) (vs : List Value) (g : a.den → Option r.den), (∀ b, S b → S1 b) → (∀ b, S1 b → b < w.heap.size) →
      RelArgs P w S S1 false ps as vs → app ps fn as = some g → Calls P f vs.toArray w (RetF P w S a r g)
  | .wr t ps r fn => Enters P f ∧ ∀ (w : World) (S S1 : Nat → Prop) (b : Nat) (cs : Array Value) (tid : TypeId) (x : t.den) (as : dens ps) (vs : List Value) (y : t.den × r.den), (∀ i, S i → S1 i) → (∀ i, S1 i → i < w.heap.size ∧ i ≠ b) →
      w.heap[b]? = some (.cells cs tid (0, 0)) → RelC w S t x cs.toList → RelArgs P w S S1 true ps as vs → app ps (fn x) as = some y → Calls P f (.pointer (some ⟨b, 0, none⟩) :: vs).toArray w (RetW w S b t r y)
  | .tk ae se it st pi pst fn => Enters P f ∧ (∀ T, TyOk P T it (.int .i64)) ∧ (∀ T, TyOk P T st .str) ∧ (∀ a wd ks y, fn a wd ks = some y → Fits ks y.2) ∧ ∀ (w : World) (S : Nat → Prop) (a : List (Option (Int ⊕ ByteArray))) (wd : List ByteArray) (l : List (Addr × Bool)) (v0 v1 : Value) (g : Nat) (y : Bool × List (Int ⊕ ByteArray)),
      (∀ b, S b → b < w.heap.size) → RelD w S (.sl ae (.any it st)) a v0 → RelD w S (.sl se .str) wd v1 → S g → CellsAt w ⟨g, 0, none⟩ (l.map (ifaceOf pi pst)) → (∀ p ∈ l, PlaceOk w S p) → fn a wd (l.map (·.2)) = some y →
      Calls P f #[v0, v1, .slice (some ⟨g, 0, none⟩) l.length l.length] w fun e w' => e = .returned (.bool y.1) ∧ Stored P it st l y.2 w w'

section
variable {P : Program} {T : Tab} {E : Env}

theorem RelArgs.move {w w' : World} {S S' S1 S1' : Nat → Prop} (hs : SameOn S1 w w') (h01 : ∀ b, S b → S1 b) (hS : ∀ b, S b → S' b) (hS1 : ∀ b, S1 b → S1' b) {flat : Bool} :
    ∀ {ps : List PK} {as : dens ps} {vs : List Value}, RelArgs P w S S1 flat ps as vs → RelArgs P w' S' S1' flat ps as vs
  | [], _, _, h => h
  | .val t :: ps, _, _, ⟨v, l, e, h0, h1⟩ => ⟨v, l, e, h0.move (fun b hb => hs b (h01 b hb)) hS, RelArgs.move hs h01 hS hS1 h1⟩
  | .ro t :: ps, _, _, ⟨v, l, e, hf, h0, h1⟩ => ⟨v, l, e, hf, h0.move hs hS1, RelArgs.move hs h01 hS hS1 h1⟩
  | .rw _ :: _, _, _, h => h.elim
  | .fn x r :: ps, _, _, ⟨v, l, e, h0, h1⟩ => ⟨v, l, e, h0.move hs hS hS1, RelArgs.move hs h01 hS hS1 h1⟩

def S1 (E : Env) (c : Cx) : Nat → Prop := fun b => c.S b ∨ (∃ i, c.m.box i ≠ none ∧ c.bx i = b) ∨ (b < E.w0.heap.size ∧ ¬ E.W0 b)
theorem S1.lt {c : Cx} (hr : Rel E c) {b : Nat} (h : S1 E c b) : b < c.w.heap.size := by
  rcases h with h | ⟨i, hi, rfl⟩ | h
  · exact hr.lt b h
  · cases hB : c.m.box i with
    | none => exact absurd hB hi
    | some B => exact hr.boxLt hB
  · exact Nat.lt_of_lt_of_le h.1 hr.size
theorem S1.ext {c c' : Cx} (h : Ext c c') {b : Nat} (hb : S1 E c b) : S1 E c' b := by
  rcases hb with hb | ⟨i, hi, rfl⟩ | hb
  · exact .inl (h.S b hb)
  · cases hB : c.m.box i with
    | none => exact absurd hB hi
    | some B =>
      obtain ⟨B', e, _, x⟩ := h.box i B hB
      exact .inr (.inl ⟨i, by rw [e]; simp, x⟩)
  · exact .inr (.inr hb)

theorem box_p {c : Cx} (hr : Rel E c) {b : Nat} {B : Box} (hB : c.m.box b = some B) (hf : lkFree B.lk = true) (hg : B.t.good = true) : RelP c.w (S1 E c) B.t B.x (.pointer (some ⟨c.bx b, 0, none⟩)) := by
  obtain ⟨cs, tid, hh, hc⟩ := (hr.box b B hB).cells (good_ni hg)
  refine ⟨⟨c.bx b, 0, none⟩, cs.toList, rfl, .inr (.inl ⟨b, by rw [hB]; simp, rfl⟩), (hc.free hf).move (fun _ _ => rfl) (fun _ h => .inl h), ?_⟩
  have := cells_in hh (a := []) (m := cs.toList) (b := []) (by simp)
  exact this
theorem peekD_ok {c : Cx} (hr : Rel E c) {t : Ty} {x : V} {u : Value} (hx : RelV P E c x u) {y : t.den} {m' : Mem} {fp fp' : FP} (h : (peekD t x).ev c.m fp = some (y, m', fp')) :
    m' = c.m ∧ RelP c.w (S1 E c) t y u := by
  unfold peekD at h
  split at h
  · rename_i b t'
    obtain ⟨B, hB, hpt, _, rfl⟩ := hx
    simp only [Res.ev, hB] at h
    split at h
    · rename_i hf
      rw [Bool.and_eq_true] at hf
      split at h
      · rename_i he
        subst he
        obtain ⟨rfl, rfl⟩ := ok_inj h
        exact ⟨rfl, box_p hr hB hf.1 hf.2⟩
      · exact (fail_ne h).elim
    · exact (fail_ne h).elim
  · rename_i d
    split at h
    · rename_i he
      obtain ⟨dt, dx⟩ := d
      simp only at he
      subst he
      obtain ⟨rfl, rfl⟩ := ok_inj h
      exact ⟨rfl, RelP.move (S := c.S) (fun _ _ => rfl) (fun _ h => .inl h) hx⟩
    · exact (fail_ne h).elim
  · exact (fail_ne h).elim
theorem relCap_v {c : Cx} {k : Cap} {v : Value} (h : RelCap c k v) : RelV P E c (capV k) v := by
  cases k with
  | ptr b t =>
    obtain ⟨⟨B, hB, ht⟩, e⟩ := h
    exact ⟨B, hB, by rw [pathTy, ht], trivial, by rw [e]; rfl⟩
  | dat d => exact h
theorem capsOf_ok {c : Cx} (hr : Rel E c) {flat : Bool} : ∀ {ps : List PK} {ks : List Cap} {vs : List Value}, RelCaps c ks vs → ∀ {l : dens ps} {m' : Mem} {fp fp' : FP}, (capsOf flat ps ks).ev c.m fp = some (l, m', fp') →
    m' = c.m ∧ RelArgs P c.w c.S (S1 E c) flat ps l vs
  | [], [], vs, hk, l, m', fp, fp', h => by
    simp only [capsOf] at h
    obtain ⟨rfl, rfl⟩ := ok_inj h
    exact ⟨rfl, hk⟩
  | .val t :: ps, k :: ks, vs, ⟨v, l', e, hk, hks⟩, l, m', fp, fp', h => by
    cases k with
    | ptr b t => simp only [capsOf] at h; exact (fail_ne h).elim
    | dat d =>
      simp only [capsOf] at h
      split at h
      · rename_i he
        obtain ⟨dt, dx⟩ := d
        simp only at he
        subst he
        obtain ⟨l2, m1, fp1, h1, h2⟩ := Res.bind_some h
        obtain ⟨rfl, hl⟩ := capsOf_ok hr hks h1
        obtain ⟨rfl, rfl⟩ := ok_inj h2
        exact ⟨rfl, v, l', e, hk, hl⟩
      · exact (fail_ne h).elim
  | .ro t :: ps, k :: ks, vs, ⟨v, l', e, hk, hks⟩, l, m', fp, fp', h => by
    cases flat with
    | false => simp only [capsOf] at h; exact (fail_ne h).elim
    | true =>
      simp only [capsOf] at h
      obtain ⟨x, m1, fp1, h1, h2⟩ := Res.bind_some h
      obtain ⟨rfl, hx⟩ := peekD_ok (P := P) hr (relCap_v hk) h1
      obtain ⟨l2, m2, fp2, h3, h4⟩ := Res.bind_some h2
      obtain ⟨rfl, hl⟩ := capsOf_ok hr hks h3
      obtain ⟨rfl, rfl⟩ := ok_inj h4
      exact ⟨rfl, v, l', e, rfl, hx, hl⟩
  | .rw _ :: _, _ :: _, _, _, _, _, _, _, h => by simp only [capsOf] at h; exact (fail_ne h).elim
  | .fn _ _ :: _, _ :: _, _, _, _, _, _, _, h => by simp only [capsOf] at h; exact (fail_ne h).elim
  | [], _ :: _, _, _, _, _, _, _, h => by simp only [capsOf] at h; exact (fail_ne h).elim
  | .val _ :: _, [], _, _, _, _, _, _, h => by simp only [capsOf] at h; exact (fail_ne h).elim
  | .ro _ :: _, [], _, _, _, _, _, _, h => by simp only [capsOf] at h; exact (fail_ne h).elim
  | .rw _ :: _, [], _, _, _, _, _, _, h => by simp only [capsOf] at h; exact (fail_ne h).elim
  | .fn _ _ :: _, [], _, _, _, _, _, _, h => by simp only [capsOf] at h; exact (fail_ne h).elim

variable {G : Gam} (hG : ∀ f s, G f = some s → SpecOk P f s)
include hG
theorem fnOf_ok {c : Cx} (hr : Rel E c) {a r : Ty} {x : V} {u : Value} (hx : RelV P E c x u) {g : a.den → Option r.den} {m' : Mem} {fp fp' : FP} (h : (fnOf G a r x).ev c.m fp = some (g, m', fp')) :
    m' = c.m ∧ RelFn P c.w c.S (S1 E c) a r g u := by
  unfold fnOf at h
  split at h
  · rename_i a' r' g'
    split at h
    · rename_i he
      obtain ⟨he1, he2⟩ := he
      subst he1 he2
      obtain ⟨rfl, rfl⟩ := ok_inj h
      obtain ⟨S2, hS2, f, cv, e, hen, hh⟩ := hx
      refine ⟨rfl, f, cv, e, hen, fun w' S' h1 h2 h3 y vy z hy hz => ?_⟩
      refine hh w' S' (fun b hb => ?_) (fun b hb => h2 b (hr.old b hb)) h3 y vy z hy ?_
      · obtain ⟨k1, k2⟩ := hS2 b hb
        exact (h1 b (.inr (.inr ⟨k1, k2⟩))).trans (hr.keep b k1 k2)
      · exact hz
    · exact (fail_ne h).elim
  · rename_i a' r' g'
    split at h
    · rename_i he
      obtain ⟨he1, he2⟩ := he
      subst he1 he2
      obtain ⟨rfl, rfl⟩ := ok_inj h
      exact ⟨rfl, RelFn.move (w := c.w) (S := c.S) (S1 := c.S) (fun _ _ => rfl) (fun _ h => h) (fun _ h => .inl h) hx⟩
    · exact (fail_ne h).elim
  · rename_i f caps
    split at h
    · rename_i a' ps r' fn hf
      split at h
      · rename_i he
        obtain ⟨he1, he2⟩ := he
        subst he1 he2
        obtain ⟨l, m1, fp1, h1, h2⟩ := Res.bind_some h
        obtain ⟨cv, e, hk⟩ := hx
        obtain ⟨rfl, hl⟩ := capsOf_ok (P := P) hr hk h1
        obtain ⟨rfl, rfl⟩ := ok_inj h2
        obtain ⟨hen, hs⟩ := hG f _ hf
        refine ⟨rfl, f, cv, e, hen, fun w' S' k1 k2 k3 y vy z hy hz => ?_⟩
        have hz' : app (.val a' :: ps) fn (y, l) = some z := hz
        have := hs w' S' (fun b => S' b ∨ S1 E c b) (y, l) (vy :: cv.toList) z (fun b hb => .inl hb) (fun b hb => by
          rcases hb with hb | hb
          · exact k3 b hb
          · have hlt := S1.lt hr hb
            have he2 := k1 b hb
            rw [Array.getElem?_eq_getElem hlt] at he2
            exact (Array.getElem?_eq_some_iff.1 he2).1) ⟨vy, cv.toList, rfl, hy, hl.move k1 (fun b hb => .inl hb) k2 (fun b hb => .inr hb)⟩ hz'
        have e3 : (vy :: cv.toList).toArray = #[vy] ++ cv := by apply Array.ext'; simp
        rw [← e3]
        exact this
      · exact (fail_ne h).elim
    · exact (fail_ne h).elim
  · exact (fail_ne h).elim

def RelVs (P : Program) (E : Env) (c : Cx) : List V → List Value → Prop
  | [], us => us = []
  | v :: vs, us => ∃ u l, us = u :: l ∧ RelV P E c v u ∧ RelVs P E c vs l
omit hG in
theorem RelVs.ext {c c' : Cx} (h : Ext c c') : ∀ {vs : List V} {us : List Value}, RelVs P E c vs us → RelVs P E c' vs us
  | [], _, e => e
  | _ :: _, _, ⟨u, l, e, h0, h1⟩ => ⟨u, l, e, h0.ext h, h1.ext h⟩
omit hG in
theorem RelVs.map {c : Cx} {ρ : Operand → V} {ρ' : Operand → Value} (hρ : ∀ x, RelV P E c (ρ x) (ρ' x)) : ∀ (l : List Operand), RelVs P E c (l.map ρ) (l.map ρ')
  | [] => rfl
  | x :: l => ⟨ρ' x, l.map ρ', rfl, hρ x, RelVs.map hρ l⟩
omit hG in
theorem RelVs.append {c : Cx} : ∀ {vs ws : List V} {us xs : List Value}, RelVs P E c vs us → RelVs P E c ws xs → RelVs P E c (vs ++ ws) (us ++ xs)
  | [], _, _, _, h, k => by cases h; exact k
  | _ :: _, _, _, _, ⟨u, l, e, h0, h1⟩, k => ⟨u, l ++ _, by rw [e]; rfl, h0, h1.append k⟩
omit hG in
theorem RelVs.caps {c : Cx} : ∀ {ks : List Cap} {us : List Value}, RelCaps c ks us → RelVs P E c (ks.map capV) us
  | [], _, e => e
  | _ :: _, _, ⟨v, l, e, h0, h1⟩ => ⟨v, l, e, relCap_v h0, RelVs.caps h1⟩

theorem argsOf_ok {flat : Bool} : ∀ {ps : List PK} {vs : List V} {us : List Value} {c : Cx}, Rel E c → RelVs P E c vs us → ∀ {as : dens ps} {m' : Mem} {fp fp' : FP}, (argsOf G flat ps vs).ev c.m fp = some (as, m', fp') →
    ∃ S', Rel E { c with S := S', m := m' } ∧ Ext c { c with S := S', m := m' } ∧ RelArgs P c.w S' (S1 E { c with S := S', m := m' }) flat ps as us
  | [], [], us, c, hr, hv, as, m', fp, fp', h => by
    simp only [argsOf] at h
    obtain ⟨rfl, rfl⟩ := ok_inj h
    exact ⟨c.S, hr, Ext.refl c, hv⟩
  | .val t :: ps, v :: vs, us, c, hr, ⟨u, l, e, hv, hvs⟩, as, m', fp, fp', h => by
    simp only [argsOf] at h
    obtain ⟨x, m1, fp1, h1, h2⟩ := Res.bind_some h
    obtain ⟨S', r1, e1, hx⟩ := asDat_ok hr hv h1
    obtain ⟨l2, m2, fp2, h3, h4⟩ := Res.bind_some h2
    obtain ⟨S'', r2, e2, hl⟩ := argsOf_ok (c := { c with S := S', m := m1 }) r1 (hvs.ext e1) h3
    obtain ⟨rfl, rfl⟩ := ok_inj h4
    exact ⟨S'', r2, e1.trans e2, u, l, e, hx.move e2.w e2.S, hl⟩
  | .ro t :: ps, v :: vs, us, c, hr, ⟨u, l, e, hv, hvs⟩, as, m', fp, fp', h => by
    cases flat with
    | false => simp only [argsOf] at h; exact (fail_ne h).elim
    | true =>
      simp only [argsOf] at h
      obtain ⟨x, m1, fp1, h1, h2⟩ := Res.bind_some h
      obtain ⟨rfl, hx⟩ := peekD_ok (P := P) hr hv h1
      obtain ⟨l2, m2, fp2, h3, h4⟩ := Res.bind_some h2
      obtain ⟨S'', r2, e2, hl⟩ := argsOf_ok hr hvs h3
      obtain ⟨rfl, rfl⟩ := ok_inj h4
      exact ⟨S'', r2, e2, u, l, e, rfl, hx.move (fun _ _ => rfl) (fun b hb => S1.ext e2 hb), hl⟩
  | .fn a r :: ps, v :: vs, us, c, hr, ⟨u, l, e, hv, hvs⟩, as, m', fp, fp', h => by
    simp only [argsOf] at h
    obtain ⟨x, m1, fp1, h1, h2⟩ := Res.bind_some h
    obtain ⟨rfl, hx⟩ := fnOf_ok hG hr hv h1
    obtain ⟨l2, m2, fp2, h3, h4⟩ := Res.bind_some h2
    obtain ⟨S'', r2, e2, hl⟩ := argsOf_ok hr hvs h3
    obtain ⟨rfl, rfl⟩ := ok_inj h4
    exact ⟨S'', r2, e2, u, l, e, hx.move (fun _ _ => rfl) e2.S (fun b hb => S1.ext e2 hb), hl⟩
  | .rw _ :: _, _ :: _, _, _, _, _, _, _, _, _, h => by simp only [argsOf] at h; exact (fail_ne h).elim
  | [], _ :: _, _, _, _, _, _, _, _, _, h => by simp only [argsOf] at h; exact (fail_ne h).elim
  | .val _ :: _, [], _, _, _, _, _, _, _, _, h => by simp only [argsOf] at h; exact (fail_ne h).elim
  | .ro _ :: _, [], _, _, _, _, _, _, _, _, h => by simp only [argsOf] at h; exact (fail_ne h).elim
  | .rw _ :: _, [], _, _, _, _, _, _, _, _, h => by simp only [argsOf] at h; exact (fail_ne h).elim
  | .fn _ _ :: _, [], _, _, _, _, _, _, _, _, h => by simp only [argsOf] at h; exact (fail_ne h).elim

def S2 (E : Env) (c : Cx) (b : Nat) : Nat → Prop := fun i => S1 E c i ∧ i ≠ c.bx b
omit hG in
theorem S2.ofS {c : Cx} (hr : Rel E c) {b : Nat} {B : Box} (hB : c.m.box b = some B) {i : Nat} (h : c.S i) : S2 E c b i := ⟨.inl h, fun e => (hr.priv b (by rw [hB]; simp)).2 (e ▸ h)⟩
omit hG in
theorem S2.ext {c c' : Cx} (h : Ext c c') {b : Nat} {B : Box} (hB : c.m.box b = some B) {i : Nat} (hb : S2 E c b i) : S2 E c' b i := by
  obtain ⟨B', _, _, x⟩ := h.box b B hB
  exact ⟨S1.ext h hb.1, by rw [x]; exact hb.2⟩
omit hG in
theorem peekW_ok {c : Cx} (hr : Rel E c) {b : Nat} {B : Box} (hB : c.m.box b = some B) {t : Ty} {x : V} (hoff : ∀ b' p t', x = .ptr b' p t' → Nat.beq b b' = false) {u : Value} (hx : RelV P E c x u) {y : t.den} {m' : Mem} {fp fp' : FP} (h : (peekD t x).ev c.m fp = some (y, m', fp')) :
    m' = c.m ∧ RelP c.w (S2 E c b) t y u := by
  unfold peekD at h
  split at h
  · rename_i b' t'
    have hne := hoff b' [] t' rfl
    obtain ⟨B', hB', hpt, _, rfl⟩ := hx
    simp only [Res.ev, hB'] at h
    split at h
    · rename_i hf
      split at h
      case isFalse => exact (fail_ne h).elim
      rename_i he
      subst he
      obtain ⟨rfl, rfl⟩ := ok_inj h
      refine ⟨rfl, ?_⟩
      rw [Bool.and_eq_true] at hf
      obtain ⟨cs, tid, hh, hc0⟩ := (hr.box b' B' hB').cells (good_ni hf.2)
      have hc := hc0.free hf.1
      refine ⟨⟨c.bx b', 0, none⟩, cs.toList, rfl, ⟨.inr (.inl ⟨b', by rw [hB']; simp, rfl⟩), fun e => ?_⟩, hc.move (fun _ _ => rfl) (fun _ h => S2.ofS hr hB h), ?_⟩
      · have := hr.bb b' b (by rw [hB']; simp) (by rw [hB]; simp) e
        subst this
        rw [Nat.beq_refl] at hne
        cases hne
      · have := cells_in hh (a := []) (m := cs.toList) (b := []) (by simp)
        exact this
    · exact (fail_ne h).elim
  · rename_i d
    split at h
    · rename_i he
      obtain ⟨dt, dx⟩ := d
      simp only at he
      subst he
      obtain ⟨rfl, rfl⟩ := ok_inj h
      exact ⟨rfl, RelP.move (S := c.S) (fun _ _ => rfl) (fun _ h => S2.ofS hr hB h) hx⟩
    · exact (fail_ne h).elim
  · exact (fail_ne h).elim
omit hG in
theorem offB_cons {b : Nat} {v : V} {vs : List V} (h : offB b (v :: vs) = true) : (∀ b' p t', v = .ptr b' p t' → Nat.beq b b' = false) ∧ (∀ f caps, v ≠ .clo f caps) ∧ (∀ a r g, v ≠ .fnp a r g) ∧ (∀ a r g, v ≠ .fnc a r g) ∧ offB b vs = true := by
  cases v with
  | ptr b' p t =>
    simp only [offB, Bool.and_eq_true, Bool.not_eq_true'] at h
    exact ⟨fun b2 p2 t2 e => by injection e with e1; rw [← e1]; exact h.1, fun _ _ e => (by cases e), fun _ _ _ e => (by cases e), fun _ _ _ e => (by cases e), h.2⟩
  | clo f c => simp [offB] at h
  | fnp a r g => simp [offB] at h
  | fnc a r g => simp [offB] at h
  | bad => exact ⟨fun _ _ _ e => (by cases e), fun _ _ e => (by cases e), fun _ _ _ e => (by cases e), fun _ _ _ e => (by cases e), h⟩
  | und => exact ⟨fun _ _ _ e => (by cases e), fun _ _ e => (by cases e), fun _ _ _ e => (by cases e), fun _ _ _ e => (by cases e), h⟩
  | dat d => exact ⟨fun _ _ _ e => (by cases e), fun _ _ e => (by cases e), fun _ _ _ e => (by cases e), fun _ _ _ e => (by cases e), h⟩
  | agg d nl => exact ⟨fun _ _ _ e => (by cases e), fun _ _ e => (by cases e), fun _ _ _ e => (by cases e), fun _ _ _ e => (by cases e), h⟩
  | nils => exact ⟨fun _ _ _ e => (by cases e), fun _ _ e => (by cases e), fun _ _ _ e => (by cases e), fun _ _ _ e => (by cases e), h⟩
  | nili => exact ⟨fun _ _ _ e => (by cases e), fun _ _ e => (by cases e), fun _ _ _ e => (by cases e), fun _ _ _ e => (by cases e), h⟩
  | ifp t b p pt => exact ⟨fun _ _ _ e => (by cases e), fun _ _ e => (by cases e), fun _ _ _ e => (by cases e), fun _ _ _ e => (by cases e), h⟩
  | prow l => exact ⟨fun _ _ _ e => (by cases e), fun _ _ e => (by cases e), fun _ _ _ e => (by cases e), fun _ _ _ e => (by cases e), h⟩
  | ifv t d => exact ⟨fun _ _ _ e => (by cases e), fun _ _ e => (by cases e), fun _ _ _ e => (by cases e), fun _ _ _ e => (by cases e), h⟩
  | own a => exact ⟨fun _ _ _ e => (by cases e), fun _ _ e => (by cases e), fun _ _ _ e => (by cases e), fun _ _ _ e => (by cases e), h⟩
  | rptr d => exact ⟨fun _ _ _ e => (by cases e), fun _ _ e => (by cases e), fun _ _ _ e => (by cases e), fun _ _ _ e => (by cases e), h⟩
omit hG in
theorem argsW_ok {b : Nat} {B : Box} : ∀ {ps : List PK} {vs : List V} {us : List Value} {c : Cx}, Rel E c → c.m.box b = some B → offB b vs = true → RelVs P E c vs us → ∀ {as : dens ps} {m' : Mem} {fp fp' : FP}, (argsOf G true ps vs).ev c.m fp = some (as, m', fp') →
    ∃ S', Rel E { c with S := S', m := m' } ∧ Ext c { c with S := S', m := m' } ∧ RelArgs P c.w S' (S2 E { c with S := S', m := m' } b) true ps as us
  | [], [], us, c, hr, hB, ho, hv, as, m', fp, fp', h => by
    simp only [argsOf] at h
    obtain ⟨rfl, rfl⟩ := ok_inj h
    exact ⟨c.S, hr, Ext.refl c, hv⟩
  | .val t :: ps, v :: vs, us, c, hr, hB, ho, ⟨u, l, e, hv, hvs⟩, as, m', fp, fp', h => by
    simp only [argsOf] at h
    obtain ⟨x, m1, fp1, h1, h2⟩ := Res.bind_some h
    obtain ⟨S', r1, e1, hx⟩ := asDat_ok hr hv h1
    obtain ⟨l2, m2, fp2, h3, h4⟩ := Res.bind_some h2
    obtain ⟨B', hB', _, _⟩ := e1.box b B hB
    obtain ⟨S'', r2, e2, hl⟩ := argsW_ok (c := { c with S := S', m := m1 }) r1 hB' (offB_cons ho).2.2.2.2 (hvs.ext e1) h3
    obtain ⟨rfl, rfl⟩ := ok_inj h4
    exact ⟨S'', r2, e1.trans e2, u, l, e, hx.move e2.w e2.S, hl⟩
  | .ro t :: ps, v :: vs, us, c, hr, hB, ho, ⟨u, l, e, hv, hvs⟩, as, m', fp, fp', h => by
    simp only [argsOf] at h
    obtain ⟨x, m1, fp1, h1, h2⟩ := Res.bind_some h
    obtain ⟨rfl, hx⟩ := peekW_ok (P := P) hr hB (offB_cons ho).1 hv h1
    obtain ⟨l2, m2, fp2, h3, h4⟩ := Res.bind_some h2
    obtain ⟨S'', r2, e2, hl⟩ := argsW_ok hr hB (offB_cons ho).2.2.2.2 hvs h3
    obtain ⟨rfl, rfl⟩ := ok_inj h4
    exact ⟨S'', r2, e2, u, l, e, rfl, hx.move (fun _ _ => rfl) (fun i hi => S2.ext e2 hB hi), hl⟩
  | .fn a r :: ps, v :: vs, us, c, hr, hB, ho, ⟨u, l, e, hv, hvs⟩, as, m', fp, fp', h => by
    simp only [argsOf] at h
    obtain ⟨x, m1, fp1, h1, h2⟩ := Res.bind_some h
    obtain ⟨_, h5, h6, h7, _⟩ := offB_cons ho
    unfold fnOf at h1
    split at h1
    · exact (h6 _ _ _ rfl).elim
    · exact (h7 _ _ _ rfl).elim
    · exact (h5 _ _ rfl).elim
    · exact (fail_ne h1).elim
  | .rw _ :: _, _ :: _, _, _, _, _, _, _, _, _, _, _, h => by simp only [argsOf] at h; exact (fail_ne h).elim
  | [], _ :: _, _, _, _, _, _, _, _, _, _, _, h => by simp only [argsOf] at h; exact (fail_ne h).elim
  | .val _ :: _, [], _, _, _, _, _, _, _, _, _, _, h => by simp only [argsOf] at h; exact (fail_ne h).elim
  | .ro _ :: _, [], _, _, _, _, _, _, _, _, _, _, h => by simp only [argsOf] at h; exact (fail_ne h).elim
  | .rw _ :: _, [], _, _, _, _, _, _, _, _, _, _, h => by simp only [argsOf] at h; exact (fail_ne h).elim
  | .fn _ _ :: _, [], _, _, _, _, _, _, _, _, _, _, h => by simp only [argsOf] at h; exact (fail_ne h).elim
omit hG in
theorem chain_le : ∀ {c : Ty} {i : Nat} {t : Ty}, chainTy c i = some t → chainOff c i + t.size ≤ c.size
  | .pair a b, 0, t, h => by injection h with h; subst h; show 0 + a.size ≤ a.size + b.size; omega
  | .pair a b, i + 1, t, h => by
    have := chain_le (c := b) (i := i) h
    show a.size + chainOff b i + t.size ≤ a.size + b.size
    omega
  | .int _, i, t, h => by cases i with | zero => injection h with h; subst h; exact Nat.le_of_eq (Nat.zero_add _) | succ i => cases h
  | .bool, i, t, h => by cases i with | zero => injection h with h; subst h; exact Nat.le_of_eq (Nat.zero_add _) | succ i => cases h
  | .str, i, t, h => by cases i with | zero => injection h with h; subst h; exact Nat.le_of_eq (Nat.zero_add _) | succ i => cases h
  | .sl _ _, i, t, h => by cases i with | zero => injection h with h; subst h; exact Nat.le_of_eq (Nat.zero_add _) | succ i => cases h
  | .mp _ _, i, t, h => by cases i with | zero => injection h with h; subst h; exact Nat.le_of_eq (Nat.zero_add _) | succ i => cases h
  | .arr _ _, i, t, h => by cases i with | zero => injection h with h; subst h; exact Nat.le_of_eq (Nat.zero_add _) | succ i => cases h
  | .st _, i, t, h => by cases i with | zero => injection h with h; subst h; exact Nat.le_of_eq (Nat.zero_add _) | succ i => cases h
  | .tup _, i, t, h => by cases i with | zero => injection h with h; subst h; exact Nat.le_of_eq (Nat.zero_add _) | succ i => cases h
  | .unit, i, t, h => by cases i with | zero => injection h with h; subst h; exact Nat.le_of_eq (Nat.zero_add _) | succ i => cases h
  | .any _ _, i, t, h => by cases i with | zero => injection h with h; subst h; exact Nat.le_of_eq (Nat.zero_add _) | succ i => cases h
  | .pt _, i, t, h => by cases i with | zero => injection h with h; subst h; exact Nat.le_of_eq (Nat.zero_add _) | succ i => cases h
  | .iter, i, t, h => by cases i with | zero => injection h with h; subst h; exact Nat.le_of_eq (Nat.zero_add _) | succ i => cases h
omit hG in
theorem path_le : ∀ {p : List PS} {t u : Ty}, PathIn p t → pathTy p t = some u → pathOff p t + u.size ≤ t.size
  | [], t, u, _, h => by injection h with h; subst h; exact Nat.le_of_eq (Nat.zero_add _)
  | .fld i :: p, t, u, hp, h => by
    obtain ⟨ct, ti, rfl, hti, hq⟩ := pathIn_fld hp
    simp only [pathTy, hti] at h
    have h1 := path_le hq h
    have h2 := chain_le hti
    simp only [pathOff, hti]
    show chainOff ct i + pathOff p ti + u.size ≤ ct.size
    omega
  | .idx i :: p, t, u, hp, h => by
    cases t with
    | arr n t =>
      obtain ⟨h0, h1, hq⟩ := hp
      simp only [pathTy] at h
      have h2 := path_le hq h
      show i.toNat * t.size + pathOff p t + u.size ≤ n * t.size
      have : (i.toNat + 1) * t.size ≤ n * t.size := Nat.mul_le_mul_right _ (by omega)
      rw [Nat.add_mul, Nat.one_mul] at this
      omega
    | _ => exact hp.elim
def RelPa (c : Cx) : List (TypeId × Nat × List PS × Ty) → List (Addr × Bool) → Prop
  | [], ads => ads = []
  | x :: l, ads => ∃ a ads', ads = a :: ads' ∧ RelPt c x.2.1 x.2.2.1 x.2.2.2 (.pointer (some a.1)) ∧ RelPa c l ads'
omit hG in
theorem RelPa.ext {c c' : Cx} (h : Ext c c') : ∀ {l : List (TypeId × Nat × List PS × Ty)} {ads : List (Addr × Bool)}, RelPa c l ads → RelPa c' l ads
  | [], _, e => e
  | _ :: _, _, ⟨a, ads', e, h0, h1⟩ => ⟨a, ads', e, h0.ext h, h1.ext h⟩
omit hG in
theorem place_ok {c : Cx} (hr : Rel E c) {b : Nat} {p : List PS} {pt : Ty} {u : Value} (hu : RelPt c b p pt u) (hpt : pt ≠ .iter) (hpos : 0 < pt.size) (k : Bool) : ∃ ad, u = .pointer (some ad) ∧ PlaceOk c.w c.S (ad, k) := by
  obtain ⟨B, hB, hty, hp, rfl⟩ := hu
  have hni : B.t ≠ .iter := by
    intro e
    rw [e] at hty
    cases p with
    | nil => simp only [pathTy] at hty; injection hty with hty; exact hpt hty.symm
    | cons s q => cases s <;> cases hty
  obtain ⟨cs, tid, hh, hc⟩ := (hr.box b B hB).cells hni
  have hle := path_le hp hty
  have hl := hc.len
  exact ⟨⟨c.bx b, pathOff p B.t, none⟩, rfl, rfl, (hr.priv b (by rw [hB]; simp)).2, cs, tid, hh, by rw [← Array.length_toList]; show pathOff p B.t < _; omega⟩
omit hG in
theorem kinds_ok {c : Cx} (hr : Rel E c) {pi pst : TypeId} : ∀ {l : List (TypeId × Nat × List PS × Ty)} {ks : List Bool} {cs : List Value}, kindsOf pi pst l = some ks → RelPs c l cs →
    ∃ ads : List (Addr × Bool), ads.map (·.2) = ks ∧ ads.length = l.length ∧ cs = ads.map (ifaceOf pi pst) ∧ (∀ p ∈ ads, PlaceOk c.w c.S p) ∧ RelPa c l ads
  | [], ks, cs, h, hc => by
    injection h with h
    subst h
    cases hc
    exact ⟨[], rfl, rfl, rfl, fun p hp => (by cases hp), rfl⟩
  | (t, b, p, pt) :: l, ks, cs, h, ⟨u, cs', e, hp, hl⟩ => by
    cases pt with
    | int k =>
      cases k with
      | i64 =>
        simp only [kindsOf] at h
        split at h
        · rename_i r hb hr'
          injection h with h
          subst h
          have hb := Nat.eq_of_beq_eq_true hb
          subst hb
          obtain ⟨ads, h1, h2, h3, h4, h5⟩ := kinds_ok hr hr' hl
          obtain ⟨ad, hu, hpl⟩ := place_ok (pt := .int .i64) hr hp (by simp) (by decide) true
          refine ⟨(ad, true) :: ads, by simp [h1], by simp [h2], ?_, fun q hq => ?_, ⟨(ad, true), ads, rfl, by rw [← hu]; exact hp, h5⟩⟩
          · rw [e, List.map_cons, ← h3, hu]; rfl
          · rcases List.mem_cons.1 hq with rfl | hq
            · exact hpl
            · exact h4 q hq
        · cases h
      | _ => simp [kindsOf] at h
    | str =>
      simp only [kindsOf] at h
      split at h
      · rename_i r hb hr'
        injection h with h
        subst h
        have hb := Nat.eq_of_beq_eq_true hb
        subst hb
        obtain ⟨ads, h1, h2, h3, h4, h5⟩ := kinds_ok hr hr' hl
        obtain ⟨ad, hu, hpl⟩ := place_ok (pt := .str) hr hp (by simp) (by decide) false
        refine ⟨(ad, false) :: ads, by simp [h1], by simp [h2], ?_, fun q hq => ?_, ⟨(ad, false), ads, rfl, by rw [← hu]; exact hp, h5⟩⟩
        · rw [e, List.map_cons, ← h3, hu]; rfl
        · rcases List.mem_cons.1 hq with rfl | hq
          · exact hpl
          · exact h4 q hq
      · cases h
    | _ => simp [kindsOf] at h
omit hG in
theorem chainSet_get : ∀ (c : Ty) (x : c.den) (i : Nat) (e : D), chainGet c x i = some e → chainSet c x i e = some x
  | .pair a b, x, 0, e, h => by
    injection h with h
    subst h
    simp only [chainSet, dite_true, Ty.cast]
  | .pair a b, x, i + 1, e, h => by
    have := chainSet_get b x.2 i e h
    simp only [chainSet, this]
  | .int _, x, i, e, h => by cases i with | zero => injection h with h; subst h; simp only [chainSet, dite_true, Ty.cast] | succ i => cases h
  | .bool, x, i, e, h => by cases i with | zero => injection h with h; subst h; simp only [chainSet, dite_true, Ty.cast] | succ i => cases h
  | .str, x, i, e, h => by cases i with | zero => injection h with h; subst h; simp only [chainSet, dite_true, Ty.cast] | succ i => cases h
  | .sl _ _, x, i, e, h => by cases i with | zero => injection h with h; subst h; simp only [chainSet, dite_true, Ty.cast] | succ i => cases h
  | .mp _ _, x, i, e, h => by cases i with | zero => injection h with h; subst h; simp only [chainSet, dite_true, Ty.cast] | succ i => cases h
  | .arr _ _, x, i, e, h => by cases i with | zero => injection h with h; subst h; simp only [chainSet, dite_true, Ty.cast] | succ i => cases h
  | .st _, x, i, e, h => by cases i with | zero => injection h with h; subst h; simp only [chainSet, dite_true, Ty.cast] | succ i => cases h
  | .tup _, x, i, e, h => by cases i with | zero => injection h with h; subst h; simp only [chainSet, dite_true, Ty.cast] | succ i => cases h
  | .unit, x, i, e, h => by cases i with | zero => injection h with h; subst h; simp only [chainSet, dite_true, Ty.cast] | succ i => cases h
  | .any _ _, x, i, e, h => by cases i with | zero => injection h with h; subst h; simp only [chainSet, dite_true, Ty.cast] | succ i => cases h
  | .pt _, x, i, e, h => by cases i with | zero => injection h with h; subst h; simp only [chainSet, dite_true, Ty.cast] | succ i => cases h
  | .iter, x, i, e, h => by cases i with | zero => injection h with h; subst h; simp only [chainSet, dite_true, Ty.cast] | succ i => cases h
omit hG in
theorem set_getD {α : Type} (z : α) : ∀ (xs : List α) (i : Nat), xs.set i (xs.getD i z) = xs
  | [], _ => rfl
  | x :: xs, 0 => rfl
  | x :: xs, i + 1 => by
    rw [List.set_cons_succ]
    have := set_getD z xs i
    simp only [List.getD_cons_succ]
    rw [this]
omit hG in
theorem setP_get : ∀ (p : List PS) (t : Ty) (x : t.den) (d : D), getP p t x = some d → setP p t x d = some x
  | [], t, x, d, h => by
    injection h with h
    subst h
    simp only [setP, dite_true, Ty.cast]
  | .fld i :: p, .st c, x, d, h => by
    simp only [getP] at h
    split at h
    · rename_i e he
      have h1 := setP_get p e.t e.x d h
      have h2 := chainSet_get c x i e he
      simp only [setP, he, h1]
      exact h2
    · cases h
  | .idx i :: p, .arr n t, x, d, h => by
    have h1 := setP_get p t _ d h
    simp only [setP, h1]
    exact congrArg some (set_getD t.zero x i.toNat)
  | .fld _ :: _, .int _, _, _, h | .fld _ :: _, .bool, _, _, h | .fld _ :: _, .str, _, _, h | .fld _ :: _, .sl _ _, _, _, h | .fld _ :: _, .mp _ _, _, _, h | .fld _ :: _, .arr _ _, _, _, h | .fld _ :: _, .pair _ _, _, _, h | .fld _ :: _, .tup _, _, _, h | .fld _ :: _, .unit, _, _, h | .fld _ :: _, .any _ _, _, _, h | .fld _ :: _, .iter, _, _, h | .fld _ :: _, .pt _, _, _, h => by cases h
  | .idx _ :: _, .int _, _, _, h | .idx _ :: _, .bool, _, _, h | .idx _ :: _, .str, _, _, h | .idx _ :: _, .sl _ _, _, _, h | .idx _ :: _, .mp _ _, _, _, h | .idx _ :: _, .st _, _, _, h | .idx _ :: _, .pair _ _, _, _, h | .idx _ :: _, .tup _, _, _, h | .idx _ :: _, .unit, _, _, h | .idx _ :: _, .any _ _, _, _, h | .idx _ :: _, .iter, _, _, h | .idx _ :: _, .pt _, _, _, h => by cases h
omit hG in
theorem setB_same {m : Mem} {b : Nat} {B : Box} (h : m.box b = some B) : m.setB b B = m := by
  obtain ⟨f, g⟩ := m
  unfold Mem.setB
  congr 1
  funext j
  unfold upd
  cases hj : Nat.beq j b with
  | true =>
    have := Nat.eq_of_beq_eq_true hj
    subst this
    exact h.symm
  | false => rfl
omit hG in
theorem storeV_same {m : Mem} {fp fp' : FP} {b : Nat} {p : List PS} {pt t : Ty} {x : t.den} (hB : m.box b = some ⟨t, x, []⟩) {d : D} (hd : getP p t x = some d) {v : V} {m' : Mem} (h : (storeV d.t (.ptr b p pt) (.dat d)).ev m fp = some (v, m', fp')) : m' = m := by
  unfold storeV at h
  simp only at h
  split at h
  · have hs := setP_get p t x d hd
    have hs : setP p t x ⟨d.t, d.x⟩ = some x := hs
    have hc : asDat d.t (.dat d) = .ok d.x := by
      simp only [asDat, dite_true]
      rfl
    simp only [Res.ev, hB] at h
    cases p with
    | nil =>
      simp only [hc, Res.bind, hs, Res.ev, nilsOf, List.map_nil] at h
      obtain ⟨_, rfl⟩ := ok_inj h
      exact setB_same hB
    | cons s p =>
      have hl : lkHit [] (s :: p) = .free := by
        cases s with
        | fld i => cases p <;> rfl
        | idx i => rfl
      rw [hl] at h
      simp only [hc, Res.bind, hs, Res.ev, nilsOf, List.map_nil] at h
      obtain ⟨_, rfl⟩ := ok_inj h
      exact setB_same hB
  · exact (fail_ne h).elim
omit hG in
theorem storeAll_none : ∀ (l : List (TypeId × Nat × List PS × Ty)) (i : Nat) (ys : List (Int ⊕ ByteArray)) {m : Mem} {v : V} {m' : Mem} {fp fp' : FP}, ys[i]? = none → (storeAll l i ys).ev m fp = some (v, m', fp') → m' = m
  | [], i, ys, m, v, m', fp, fp', hn, h => by
    obtain ⟨_, rfl⟩ := ok_inj h
    rfl
  | (t, b, p, pt) :: l, i, ys, m, v, m', fp, fp', hn, h => by
    have hn1 : ys[i + 1]? = none := by
      rw [List.getElem?_eq_none_iff] at hn ⊢
      omega
    simp only [storeAll, Res.ev] at h
    split at h
    · rename_i tb x hB
      split at h
      · rename_i n hg
        obtain ⟨z, m1, fp1, k1, k2⟩ := Res.bind_some h
        have e : newI ys i n = n := by unfold newI; rw [hn]
        rw [e] at k1
        have := storeV_same hB hg k1
        subst this
        exact storeAll_none l (i + 1) ys hn1 k2
      · rename_i s hg
        obtain ⟨z, m1, fp1, k1, k2⟩ := Res.bind_some h
        have e : newS ys i s = s := by unfold newS; rw [hn]
        rw [e] at k1
        have := storeV_same hB hg k1
        subst this
        exact storeAll_none l (i + 1) ys hn1 k2
      · exact (fail_ne h).elim
    · exact (fail_ne h).elim
omit hG in
theorem storeV_ty {ty pt : Ty} {b : Nat} {p : List PS} {x v : V} {m m' : Mem} {fp fp' : FP} (h : (storeV ty (.ptr b p pt) x).ev m fp = some (v, m', fp')) : pt = ty := by
  unfold storeV at h
  simp only at h
  split at h
  · assumption
  · exact (fail_ne h).elim
omit hG in
theorem storeAll_ok {it st pi pst : TypeId} (hi : TyOk P T it (.int .i64)) (hs : TyOk P T st .str) : ∀ (l : List (TypeId × Nat × List PS × Ty)) (ads : List (Addr × Bool)) (i : Nat) (ys zs : List (Int ⊕ ByteArray)) (ks : List Bool) (c : Cx) {v : V} {m' : Mem} {fp fp' : FP} {w' : World}, ys.drop i = zs → kindsOf pi pst l = some ks → Fits ks zs → Rel E c → RelPa c l ads →
    (storeAll l i ys).ev c.m fp = some (v, m', fp') → Stored P it st ads zs c.w w' → ∃ c', c'.m = m' ∧ c'.w = w' ∧ Rel E c' ∧ Ext c c'
  | l, ads, i, ys, [], ks, c, v, m', fp, fp', w', hd, hk, hf, hr, hp, h, hw => by
    have hn : ys[i]? = none := by
      rw [List.getElem?_eq_none_iff]
      exact List.drop_eq_nil_iff.1 hd
    have := storeAll_none l i ys hn h
    have hw : w' = c.w := by cases ads <;> exact hw
    exact ⟨c, this.symm, hw.symm, hr, Ext.refl c⟩
  | [], ads, i, ys, y :: zs, ks, c, v, m', fp, fp', w', hd, hk, hf, hr, hp, h, hw => by
    injection hk with hk
    subst hk
    cases y <;> exact False.elim hf
  | (t, b, p, pt) :: l, ads, i, ys, y :: zs, ks, c, v, m', fp, fp', w', hd, hk, hf, hr, ⟨a, ads', e, h0, h1⟩, h, hw => by
    subst e
    have hyi : ys[i]? = some y := by
      have := List.getElem?_drop (xs := ys) (i := i) (j := 0)
      rw [hd] at this
      simpa using this.symm
    have hd1 : ys.drop (i + 1) = zs := by
      have := List.drop_drop (l := ys) (i := 1) (j := i)
      rw [hd] at this
      simpa using this.symm
    simp only [storeAll, Res.ev] at h
    split at h
    · rename_i tb x hB
      split at h
      · rename_i n hg
        obtain ⟨z, m1, fp1, k1, k2⟩ := Res.bind_some h
        obtain rfl := storeV_ty k1
        simp only [kindsOf] at hk
        split at hk
        · rename_i r _ hr'
          injection hk with hk
          subst hk
          cases y with
          | inr s => exact False.elim hf
          | inl q =>
            have e : newI ys i n = q := by unfold newI; rw [hyi]
            rw [e] at k1
            obtain ⟨w1, hrun, hrest⟩ := hw
            obtain ⟨c1, hm1, r1, e1, _, hrun1⟩ := storeV_okT hi hr (x := .ptr b p (.int .i64)) (y := .dat ⟨.int .i64, q⟩) (u0 := .pointer (some a.1)) (u1 := .int .i64 q) h0 rfl k1
            rw [hrun1] at hrun
            injection hrun with _ hrun
            subst hrun
            obtain ⟨c2, g1, g2, g3, g4⟩ := storeAll_ok hi hs l ads' (i + 1) ys zs r c1 hd1 hr' hf r1 (h1.ext e1) (by rw [hm1]; exact k2) hrest
            exact ⟨c2, g1, g2, g3, e1.trans g4⟩
        · cases hk
      · rename_i s hg
        obtain ⟨z, m1, fp1, k1, k2⟩ := Res.bind_some h
        obtain rfl := storeV_ty k1
        simp only [kindsOf] at hk
        split at hk
        · rename_i r _ hr'
          injection hk with hk
          subst hk
          cases y with
          | inl q => exact False.elim hf
          | inr q =>
            have e : newS ys i s = q := by unfold newS; rw [hyi]
            rw [e] at k1
            obtain ⟨w1, hrun, hrest⟩ := hw
            obtain ⟨c1, hm1, r1, e1, _, hrun1⟩ := storeV_okT hs hr (x := .ptr b p .str) (y := .dat ⟨.str, q⟩) (u0 := .pointer (some a.1)) (u1 := .string q) h0 rfl k1
            rw [hrun1] at hrun
            injection hrun with _ hrun
            subst hrun
            obtain ⟨c2, g1, g2, g3, g4⟩ := storeAll_ok hi hs l ads' (i + 1) ys zs r c1 hd1 hr' hf r1 (h1.ext e1) (by rw [hm1]; exact k2) hrest
            exact ⟨c2, g1, g2, g3, e1.trans g4⟩
        · cases hk
      · exact (fail_ne h).elim
    · exact (fail_ne h).elim
omit hG in
theorem wrote_ok {c : Cx} (hr : Rel E c) {b : Nat} {B : Box} (hB : c.m.box b = some B) {x : B.t.den} {w' : World} {cs : Array Value} {tid : TypeId} (hos : w'.os = c.w.os) (htape : w'.tape = c.w.tape) (hout : w'.output = c.w.output) (hsz : c.w.heap.size ≤ w'.heap.size)
    (hoth : ∀ i, i < c.w.heap.size → i ≠ c.bx b → w'.heap[i]? = c.w.heap[i]?) (hh : w'.heap[c.bx b]? = some (.cells cs tid (0, 0))) (hx : RelC w' (Ext' c.S c.w w') B.t x cs.toList) :
    Rel E { c with S := Ext' c.S c.w w', m := c.m.setB b ⟨B.t, x, []⟩, w := w' } ∧ Ext c { c with S := Ext' c.S c.w w', m := c.m.setB b ⟨B.t, x, []⟩, w := w' } := by
  obtain ⟨o0, hh0⟩ := (hr.box b B hB).some
  have hlt : c.bx b < c.w.heap.size := hr.boxLt hB
  have hlt' : c.bx b < w'.heap.size := by omega
  let w1 : World := { w' with heap := w'.heap.setIfInBounds (c.bx b) o0 }
  have hs1 : w1.heap.size = w'.heap.size := by simp [w1]
  have hat : w1.heap[c.bx b]? = c.w.heap[c.bx b]? := by rw [hh0]; simp [w1, hlt']
  have hne : ∀ i, i ≠ c.bx b → w'.heap[i]? = w1.heap[i]? := fun i hi => by simp [w1, Array.getElem?_setIfInBounds_ne (Ne.symm hi)]
  have hb : Below c.w.heap.size c.w w1 := ⟨hos, htape, hout, by rw [hs1]; exact hsz, fun i hi => by
    by_cases e : i = c.bx b
    · rw [e]; exact hat
    · rw [← hne i e]; exact hoth i hi e⟩
  obtain ⟨r1, e1⟩ := below_ok hr hb (S' := Ext' c.S c.w w') (fun _ h => .inl h) (fun i h => by
    rcases h with h | h
    · exact .inl h
    · exact .inr ⟨h.1, by rw [hs1]; exact h.2⟩)
  have hnS : ∀ i, Ext' c.S c.w w' i → i ≠ c.bx b := fun i hi e => by
    rcases hi with h | h
    · exact (hr.priv b (by rw [hB]; simp)).2 (e ▸ h)
    · omega
  obtain ⟨r2, e2⟩ := setBox_ok (c := { c with S := Ext' c.S c.w w', w := w1 }) r1 hB (x := x) (w' := w') rfl rfl rfl hs1.symm (fun g hg => hne g hg)
    (.inr ⟨cs, tid, hh, RelB.of (RelC.move (w := w') (S := Ext' c.S c.w w') (fun i hi => (hne i (hnS i hi)).symm) (fun _ h => h) hx)⟩)
  exact ⟨r2, e1.trans e2⟩
theorem callF_ok {c : Cx} (hr : Rel E c) {f : FuncId} {vs : List V} {us : List Value} (hv : RelVs P E c vs us) {v : V} {m' : Mem} {fp fp' : FP} {dst : Option Tmp} (h : (callF G dst f vs).ev c.m fp = some (v, m', fp')) :
    Enters P f ∧ Calls P f us.toArray c.w fun e w' => ∃ u, e = .returned u ∧ ∃ c', c'.m = m' ∧ c'.w = w' ∧ Rel E c' ∧ Ext c c' ∧ RelV P E c' v u := by
  unfold callF at h
  split at h
  · rename_i ps r fn hf
    obtain ⟨as, m1, fp1, h1, h2⟩ := Res.bind_some h
    obtain ⟨S', r1, e1, hargs⟩ := argsOf_ok hG hr hv h1
    simp only [Res.ev] at h2
    cases hy : app ps fn as with
    | none => rw [hy] at h2; cases h2
    | some y =>
      rw [hy] at h2
      obtain ⟨rfl, rfl⟩ := ok_inj h2
      obtain ⟨hen, hs⟩ := hG f _ hf
      refine ⟨hen, (hs c.w S' _ as us y (fun b hb => .inl hb) (fun b hb => S1.lt r1 hb) hargs hy).mono fun e w' hret => ?_⟩
      obtain ⟨u, he, hru, hb⟩ := hret
      obtain ⟨r2, e2⟩ := below_ok r1 hb (S' := Ext' S' c.w w') (fun _ h => .inl h) (fun _ h => h)
      exact ⟨u, he, _, rfl, rfl, r2, e1.trans e2, hru⟩
  · rename_i ps el t fn hf
    split at h
    · rename_i d
      obtain ⟨as, m1, fp1, h1, h2⟩ := Res.bind_some h
      obtain ⟨S', r1, e1, hargs⟩ := argsOf_ok hG hr hv h1
      have h2' : (app ps fn as).bind (fun u => (newArr d el t u).ev m1 fp1) = some (v, m', fp') := h2
      cases hy : app ps fn as with
      | none => rw [hy] at h2'; cases h2'
      | some ys =>
        rw [hy] at h2'
        have h3 : (newArr d el t ys).ev m1 fp1 = some (v, m', fp') := h2'
        obtain ⟨hen, hs⟩ := hG f _ hf
        refine ⟨hen, (hs c.w S' _ as us ys (fun b hb => .inl hb) (fun b hb => S1.lt r1 hb) hargs hy).mono fun e w' hret => ?_⟩
        obtain ⟨u, inner, S2, he, ho, hrl, hno, hS2, hb⟩ := hret
        obtain ⟨r2, e2⟩ := below_ok r1 hb (S' := fun b => S' b ∨ S2 b) (fun _ h => .inl h) (fun b hb' => by
          rcases hb' with hb' | hb'
          · exact .inl hb'
          · exact hS2 b hb')
        have hloose : Loose E { c with S := fun b => S' b ∨ S2 b, m := m1, w := w' } el t ys u := by
          have hge : ∀ g, u.ownBlock = some g → c.w.heap.size ≤ g := fun g hg => by
            rcases ho.2 with ⟨rfl, _⟩ | ⟨g', cap, cur, rfl, hb', _⟩
            · simp [Value.ownBlock] at hg
            · have : g' = g := by simpa [Value.ownBlock] using hg
              omega
          refine ⟨⟨inner, ⟨ho.1, ?_⟩, hrl.imp fun _ _ hh => hh.move (fun _ _ => rfl) (fun b hb' => .inr hb')⟩, fun g hg => ⟨fun hh => ?_, fun b hb' e => ?_, fun a A hA hop hg' => ?_⟩⟩
          · rcases ho.2 with h | ⟨g', cap, cur, he', hb', hr'⟩
            · exact .inl h
            · exact .inr ⟨g', cap, cur, he', Nat.le_trans hr.size hb', hr'⟩
          · rcases hh with hh | hh
            · have h1 : g < c.w.heap.size := r1.lt g hh; have := hge g hg; omega
            · exact hno g hg hh
          · cases hB : m1.box b with
            | none => exact hb' hB
            | some B => have h1 : c.bx b < c.w.heap.size := r1.boxLt (b := b) (B := B) hB; have h2 : c.bx b = g := e; have := hge g hg; omega
          · have h1 : g < c.w.heap.size := r1.arrLt (a := a) (A := A) hA hop hg'; have := hge g hg; omega
        obtain ⟨c4, hm4, hw4, r4, e4, hv4⟩ := newArr_ok (P := P) r2 h3 hloose
        exact ⟨u, he, c4, hm4, hw4, r4, e1.trans (e2.trans e4), hv4⟩
    · exact (fail_ne h).elim
  · rename_i ps a r fn hf
    obtain ⟨as, m1, fp1, h1, h2⟩ := Res.bind_some h
    obtain ⟨S', r1, e1, hargs⟩ := argsOf_ok hG hr hv h1
    simp only [Res.ev] at h2
    cases hy : app ps fn as with
    | none => rw [hy] at h2; cases h2
    | some y =>
      rw [hy] at h2
      obtain ⟨rfl, rfl⟩ := ok_inj h2
      obtain ⟨hen, hs⟩ := hG f _ hf
      refine ⟨hen, (hs c.w S' _ as us y (fun b hb => .inl hb) (fun b hb => S1.lt r1 hb) hargs hy).mono fun e w' hret => ?_⟩
      obtain ⟨u, he, hru, hb⟩ := hret
      obtain ⟨r2, e2⟩ := below_ok r1 hb (S' := Ext' S' c.w w') (fun _ h => .inl h) (fun _ h => h)
      exact ⟨u, he, _, rfl, rfl, r2, e1.trans e2, hru⟩
  · rename_i t ps r fn hf
    split at h
    · rename_i b t' vs' 
      split at h
      · rename_i hc
        simp only [Bool.and_eq_true, decide_eq_true_eq] at hc
        obtain ⟨⟨rfl, hgd⟩, hoff⟩ := hc
        obtain ⟨u0, us', rfl, hv0, hvs⟩ := hv
        obtain ⟨B, hB, hpt, _, rfl⟩ := hv0
        obtain ⟨as, m1, fp1, h1, h2⟩ := Res.bind_some h
        obtain ⟨S', r1, e1, hargs⟩ := argsW_ok hr hB hoff hvs h1
        obtain ⟨B1, hB1, ht1, hbx⟩ := e1.box b B hB
        have hB1' : m1.box b = some B1 := hB1
        simp only [Res.ev, hB1'] at h2
        split at h2
        case h_2 => exact (fail_ne h2).elim
        rename_i hfr
        split at h2
        · rename_i hbt
          subst hbt
          simp only [Res.ev] at h2
          cases hy : app ps (fn B1.x) as with
          | none =>
            have h3 : (app ps (fn B1.x) as).bind _ = some (v, m', fp') := h2
            rw [hy] at h3; cases h3
          | some y =>
            have h3 : (app ps (fn B1.x) as).bind _ = some (v, m', fp') := h2
            rw [hy] at h3
            obtain ⟨rfl, rfl⟩ := ok_inj h3
            obtain ⟨hen, hs⟩ := hG f _ hf
            obtain ⟨cs, tid, hh, hcr0⟩ := (r1.box b B1 hB1).cells (good_ni hgd)
            have hcr := hcr0.free hfr
            refine ⟨hen, (hs c.w S' _ (c.bx b) cs tid B1.x as us' y (fun i hi => S2.ofS r1 hB1 hi) (fun i hi => ⟨S1.lt r1 hi.1, hi.2⟩) hh hcr hargs hy).mono fun e w' hret => ?_⟩
            obtain ⟨u, cs', tid', he, hru, hh', hcr', ho, htp, hou, hsz, hoth⟩ := hret
            obtain ⟨r2, e2⟩ := wrote_ok r1 hB1 (x := y.1) ho htp hou hsz hoth hh' hcr'
            exact ⟨u, he, _, rfl, rfl, r2, e1.trans e2, hru⟩
        · exact (fail_ne h2).elim
      · exact (fail_ne h).elim
    · exact (fail_ne h).elim
  · rename_i ae se it st pi pst fn hf
    split at h
    · rename_i va vb l
      split at h
      · rename_i ks hks
        obtain ⟨u0, us0, rfl, hv0, u1, us1, rfl, hv1, u2, us2, rfl, hv2, rfl⟩ := hv
        obtain ⟨x, m1, fp1, h1, h2⟩ := Res.bind_some h
        obtain ⟨S1', r1, e1, hx⟩ := asDat_ok hr hv0 h1
        obtain ⟨y, m2, fp2, h3, h4⟩ := Res.bind_some h2
        obtain ⟨S2', r2, e2, hy⟩ := asDat_ok r1 (hv1.ext e1) h3
        obtain ⟨g, cs, rfl, hg, hps, hcells⟩ := (hv2.ext e1).ext e2
        obtain ⟨ads, a1, a2, a3, a4, a5⟩ := kinds_ok r2 hks hps
        simp only [Res.ev] at h4
        cases hz : fn x y ks with
        | none => rw [hz] at h4; cases h4
        | some z =>
          rw [hz] at h4
          obtain ⟨q, m3, fp3, h5, h6⟩ := Res.bind_some (show ((storeAll l 0 z.2).bind fun _ => Res.ok (boolV z.1)).ev m2 fp2 = some (v, m', fp') from h4)
          obtain ⟨rfl, rfl⟩ := ok_inj h6
          obtain ⟨hen, hti, hts, hfit, hs⟩ := hG f _ hf
          have hcall := hs c.w S2' x y ads u0 u1 g z (fun b hb => r2.lt b hb) (RelD.move (fun _ _ => rfl) e2.S hx) hy hg (by rw [← a3]; exact hcells) a4 (by rw [a1]; exact hz)
          rw [a2] at hcall
          refine ⟨hen, hcall.mono fun e w' hret => ?_⟩
          obtain ⟨he, hst⟩ := hret
          obtain ⟨c3, g1, g2, g3, g4⟩ := storeAll_ok (T := fun _ => none) (hti _) (hts _) l ads 0 z.2 z.2 ks _ rfl hks (hfit _ _ _ _ hz) r2 a5 h5 hst
          exact ⟨_, he, c3, g1, g2, g3, (e1.trans e2).trans g4, rfl⟩
      · exact (fail_ne h).elim
    · exact (fail_ne h).elim
  · exact (fail_ne h).elim
end
end Go.Vm
end
section
namespace Go.Vm
open Go.RowKit
set_option linter.unusedVariables false
set_option linter.unusedSimpArgs false
section
variable {P : Program} {T : Tab} {E : Env} {G : Gam}

theorem constV_ok {c : Cx} (v : Value) : RelV P E c (constV v) v := by
  unfold constV
  split
  · rfl
  · rfl
  · rfl
  · rfl
  · rfl
  · exact ⟨#[], rfl, rfl⟩
  · trivial
theorem assert_ok {c : Cx} {it st asserted xt : TypeId} {y : Option (Int ⊕ ByteArray)} {ok : Bool} {v : V} {m m' : Mem} {fp fp' : FP} (hu : Und P T xt (.any it st)) (h : (assertV asserted ok it st y).ev m fp = some (v, m', fp')) (w : World) :
    m' = m ∧ ∃ u, RelV P E c v u ∧ (Instr.typeAssert (anyV it st y) xt asserted ok).run P w = .ok u w := by
  obtain ⟨_, hne, hi, hs, ⟨ii, zi, hii, hzi, hci⟩, ⟨is, zs, his, hzs, hcs⟩⟩ := hu
  have hzi' : zi = .int .i64 0 := by simpa [Ty.zc] using hci.symm
  have hzs' : zs = .string ⟨#[]⟩ := by simpa [Ty.zc] using hcs.symm
  have zri : (zeroValue it).run P w = .ok (.int .i64 0) w := by simp [zeroValue, typeInfo, hii, hzi, hzi']
  have zrs : (zeroValue st).run P w = .ok (.string ⟨#[]⟩) w := by simp [zeroValue, typeInfo, his, hzs, hzs']
  unfold assertV at h
  split at h
  · rename_i h1
    have h1 := of_decide_eq_true h1
    subst h1
    cases ok with
    | true =>
      obtain ⟨rfl, rfl⟩ := ok_inj h
      refine ⟨rfl, .tuple #[.int .i64 ((anyI y).getD 0), .bool (anyI y).isSome], ⟨_, rfl, _, _, rfl, rfl, _, rfl, rfl⟩, ?_⟩
      rcases y with _ | (n | s)
      · simp [Instr.typeAssert, anyV, anyI, run_underlying hi, zri]
      · simp [Instr.typeAssert, anyV, anyI, run_underlying hi]
      · simp [Instr.typeAssert, anyV, anyI, run_underlying hi, zri, Ne.symm hne]
    | false =>
      obtain ⟨hb, h⟩ := Res.chk_some h
      obtain ⟨rfl, rfl⟩ := ok_inj h
      rcases y with _ | (n | s)
      · cases hb
      · exact ⟨rfl, .int .i64 n, rfl, by simp [Instr.typeAssert, anyV, run_underlying hi]⟩
      · cases hb
  · rename_i h1 h2
    have h2 := of_decide_eq_true h2
    subst h2
    cases ok with
    | true =>
      obtain ⟨rfl, rfl⟩ := ok_inj h
      refine ⟨rfl, .tuple #[.string ((anyS y).getD ⟨#[]⟩), .bool (anyS y).isSome], ⟨_, rfl, _, _, rfl, rfl, _, rfl, rfl⟩, ?_⟩
      rcases y with _ | (n | s)
      · simp [Instr.typeAssert, anyV, anyS, run_underlying hs, zrs]
      · simp [Instr.typeAssert, anyV, anyS, run_underlying hs, zrs, hne]
      · simp [Instr.typeAssert, anyV, anyS, run_underlying hs]
    | false =>
      obtain ⟨hb, h⟩ := Res.chk_some h
      obtain ⟨rfl, rfl⟩ := ok_inj h
      rcases y with _ | (n | s)
      · cases hb
      · cases hb
      · exact ⟨rfl, .string s, rfl, by simp [Instr.typeAssert, anyV, run_underlying hs]⟩
  · exact (fail_ne h).elim
theorem evalV_ok {c : Cx} {tmp : Nat → V} {a : Act} (h : ∀ t, RelV P E c (tmp t) (a.tmps.getD t undef)) (x : Operand) : RelV P E c (evalV tmp x) (a.eval x) := by
  cases x with
  | tmp t => exact h t
  | const v => exact constV_ok v
  | global g => trivial
  | func f => exact ⟨#[], rfl, rfl⟩

theorem pts_fill {c : Cx} {ρ : Operand → V} {ρ' : Operand → Value} (hρ : ∀ x, RelV P E c (ρ x) (ρ' x)) : ∀ (l : List (Nat × Operand)) (i : Nat) (r : List (TypeId × Nat × List PS × Ty)) (pre : List Value), pre.length = i → ptsOf i (l.map fun p => (p.1, ρ p.2)) = some r →
    ∃ cs, RelPs c r cs ∧ cs.length = l.length ∧ r.length = l.length ∧ Instr.fill (fun i => some (i * 1, 1)) (pre ++ List.replicate l.length Value.nilIface).toArray (l.map fun p => (p.1, ρ' p.2)) = some (pre ++ cs).toArray
  | [], i, r, pre, hp, h => by
    injection h with h
    subst h
    exact ⟨[], rfl, rfl, rfl, by simp [Instr.fill]⟩
  | (j, o) :: l, i, r, pre, hp, h => by
    simp only [List.map_cons] at h
    cases ho : ρ o with
    | ifp t b p pt =>
      rw [ho] at h
      simp only [ptsOf] at h
      split at h
      · rename_i r' hb hr'
        injection h with h
        subst h
        have hb := Nat.eq_of_beq_eq_true hb
        subst hb
        have hv := hρ o
        rw [ho] at hv
        obtain ⟨u, hu, hpt⟩ := hv
        obtain ⟨cs, h1, h2, h3, h4⟩ := pts_fill hρ l (i + 1) r' (pre ++ [.iface t u]) (by simp [hp]) hr'
        refine ⟨.iface t u :: cs, ⟨u, cs, rfl, hpt, h1⟩, by simp [h2], by simp [h3], ?_⟩
        have hst := fill_step (place := fun i => some (i * 1, 1)) (i := i) (off := i * 1) (size := 1) rfl (v := .iface t u) rfl (a := pre) (m := [Value.nilIface]) (b := List.replicate l.length Value.nilIface) rfl (by omega) (l.map fun p => (p.1, ρ' p.2))
        rw [List.map_cons, hu, List.length_cons, List.replicate_succ]
        have e1 : pre ++ Value.nilIface :: List.replicate l.length Value.nilIface = pre ++ [Value.nilIface] ++ List.replicate l.length Value.nilIface := by simp
        have e2 : pre ++ Value.iface t u :: cs = pre ++ [Value.iface t u] ++ cs := by simp
        rw [e1, hst, e2]
        exact h4
      · cases h
    | _ => rw [ho] at h; simp [ptsOf] at h
theorem prow_pts {n : Nat} {l : List (Nat × V)} {r : List (TypeId × Nat × List PS × Ty)} (h : prowOf n l = some r) : l.length = n ∧ n ≤ 4096 ∧ 0 < n ∧ ptsOf 0 l = some r := by
  unfold prowOf at h
  split at h
  · rename_i j t b p pt l
    split at h
    · rename_i hb
      rw [Bool.and_eq_true, decide_eq_true_eq, decide_eq_true_eq] at hb
      exact ⟨hb.1, hb.2, by omega, h⟩
    · cases h
  · cases h
theorem goes_wp {c : Cx} {o : Oper} {a : Act} {v : V} {m' : Mem} {K : Act → World → Prop} {Q : Exit → Act → World → Prop}
    (hK : ∀ (c' : Cx) (u : Value), c'.m = m' → Rel E c' → Ext c c' → RelV P E c' v u → K (a.put o.dst u) c'.w) (h : Goes P E c a.eval o v m') : o.wp P a c.w K Q := by
  obtain ⟨c', u, hm, hr, he, hv, hrun⟩ := h
  unfold Oper.wp
  rcases hrun with hrun | ⟨hrun, hu⟩
  · rw [hrun]; exact hK c' u hm hr he hv
  · rw [hrun]; subst hu; exact hK c' undef hm hr he hv

theorem maxI (x y : Int) : (if y > x then y else x) = max x y := by omega
theorem minI (x y : Int) : (if y < x then y else x) = min x y := by omega
theorem max2_run (k : IntKind) (x y : Int) (w : World) : (Builtin.max2 (.int k x) (.int k y)).run P w = .ok (.int k (max x y)) w := by
  simp only [Builtin.max2, Sem.run_pure, maxI]
theorem min2_run (k : IntKind) (x y : Int) (w : World) : (Builtin.min2 (.int k x) (.int k y)).run P w = .ok (.int k (min x y)) w := by
  simp only [Builtin.min2, Sem.run_pure, minI]

theorem flat_rep (l : List Value) : ∀ (n i : Nat), i < n * l.length → (List.replicate n l).flatten[i]? = l[i % l.length]?
  | 0, i, h => by omega
  | n + 1, i, h => by
    rw [List.replicate_succ, List.flatten_cons]
    by_cases hi : i < l.length
    · rw [List.getElem?_append_left hi, Nat.mod_eq_of_lt hi]
    · rw [List.getElem?_append_right (by omega), flat_rep l n (i - l.length) (by rw [Nat.add_mul] at h; omega)]
      rw [← Nat.mod_eq_sub_mod (by omega)]
theorem zero_cells {z : Value} {t : Ty} (hsz : z.cells.size = t.size) (hzc : z.cells.toList = t.zc) (n : Nat) : ((Array.range (n * t.size)).map (fun i => z.cells[i % z.cells.size]!)) = (List.replicate n t.zc).flatten.toArray := by
  have hl : t.zc.length = t.size := by rw [← hzc, Array.length_toList, hsz]
  apply Array.ext
  · simp [hl]
  · intro i h1 h2
    have hi : i < n * t.size := by simpa using h1
    have hpos : 0 < t.size := by
      rcases Nat.eq_zero_or_pos t.size with h | h
      · rw [h] at hi; omega
      · exact h
    have hm : i % t.size < z.cells.size := by rw [hsz]; exact Nat.mod_lt _ hpos
    have e1 := flat_rep t.zc n i (by rw [hl]; exact hi)
    have e2 : t.zc[i % t.size]? = some z.cells[i % t.size] := by rw [← hzc, Array.getElem?_toList, Array.getElem?_eq_getElem hm]
    rw [hl, e2] at e1
    simp only [Array.getElem_map, Array.getElem_range, hsz]
    rw [getElem!_pos z.cells _ hm]
    have e3 : (List.replicate n t.zc).flatten.toArray[i]? = some z.cells[i % t.size] := by rw [List.getElem?_toArray]; exact e1
    rw [Array.getElem?_eq_getElem h2] at e3
    exact (Option.some.inj e3).symm
theorem builtV_ok (hT : TabOk P T) {c : Cx} (hr : Rel E c) {ρ : Operand → V} {ρ' : Operand → Value} (hρ : ∀ x, RelV P E c (ρ x) (ρ' x)) {dst : Option Tmp} {b : Builtin} {ats : Array TypeId} {args : Array Operand} {ty : TypeId} {cons : Array Bool}
    {v : V} {m' : Mem} {fp fp' : FP} (h : (builtV T dst b ats.toList (args.toList.map ρ)).ev c.m fp = some (v, m', fp')) :
    ∃ c' u, c'.m = m' ∧ Rel E c' ∧ Ext c c' ∧ RelV P E c' v u ∧ (builtin b ats ty cons (args.map ρ')).run P c.w = .ok (.value u) c'.w := by
  obtain ⟨args⟩ := args
  obtain ⟨ats⟩ := ats
  simp only at h
  unfold builtV at h
  split at h
  · -- len
    rename_i t x hargs
    cases args with
    | nil => simp at hargs
    | cons p args =>
      cases args with
      | cons q r => simp at hargs
      | nil =>
        simp only [List.map_cons, List.map_nil, List.cons.injEq, and_true] at hargs
        have hx := hρ p
        rw [hargs] at hx
        unfold lenV at h
        split at h
        · rename_i e t' ht
          obtain ⟨rfl, rfl⟩ := ok_inj h
          have : ρ' p = .slice none 0 0 := hx
          have hund := ((hT _ _ ht).und).1
          exact ⟨c, _, rfl, hr, Ext.refl c, relV_intV, by simp [builtin, Builtin.len_, run_underlying hund, this, goInt]⟩
        · rename_i e t' e2 t2 xs ht
          obtain ⟨rfl, rfl⟩ := ok_inj h
          obtain ⟨A, cap, he, _⟩ := hx
          have : ρ' p = .slice A (List.length (α := t2.den) xs) cap := by simpa using he
          have hund := ((hT _ _ ht).und).1
          exact ⟨c, _, rfl, hr, Ext.refl c, relV_intV, by simp [builtin, Builtin.len_, run_underlying hund, this, goInt]⟩
        · rename_i s ht
          obtain ⟨rfl, rfl⟩ := ok_inj h
          have := relV_str hx
          have hund := (hT _ _ ht).und
          exact ⟨c, _, rfl, hr, Ext.refl c, relV_intV, by simp [builtin, Builtin.len_, run_underlying (show P.underlying t = some .string from hund), this, goInt]⟩
        · rename_i e t' a ht
          simp only [Res.ev] at h
          cases ha : c.m.arr a with
          | no => rw [ha] at h; exact (fail_ne h).elim
          | dead => rw [ha] at h; exact (fail_ne h).elim
          | mp M => rw [ha] at h; exact (fail_ne h).elim
          | at_ A =>
            rw [ha] at h
            obtain ⟨rfl, rfl⟩ := ok_inj h
            have hu := hx.2.1 A ha
            have hund := ((hT _ _ ht).und).1
            obtain ⟨B, cap, he⟩ : ∃ B cap, c.ar a = .slice B A.xs.length cap := by
              have := hr.arr a A ha
              unfold RelA at this
              split at this
              · obtain ⟨_, ho, _⟩ := this
                rcases ho.2 with ⟨e1, e2⟩ | ⟨g, cap, cur, e1, _⟩
                · exact ⟨none, 0, by rw [e1, e2]⟩
                · exact ⟨_, _, e1⟩
              · obtain ⟨B, cap, he, _⟩ := this
                exact ⟨B, cap, by simpa using he⟩
            rw [he] at hu
            exact ⟨c, _, rfl, hr, Ext.refl c, relV_intV, by simp [builtin, Builtin.len_, run_underlying hund, hu, goInt]⟩
        · exact (fail_ne h).elim
  · -- max
    rename_i k n l hargs
    cases args with
    | nil => simp at hargs
    | cons p args =>
      simp only [List.map_cons, List.cons.injEq] at hargs
      obtain ⟨h1, rfl⟩ := hargs
      have hx := hρ p
      rw [h1] at hx
      have hp := relV_int hx
      obtain ⟨e, u, hu, hrun⟩ := foldInt_ok (P := P) hρ (f := fun a b => max a b) (g := Builtin.max2) (fun k x y w => max2_run k x y w) args n v c.m m' fp fp' h
      refine ⟨c, u, e.symm, hr, Ext.refl c, hu, ?_⟩
      simp only [builtin, Builtin.max_, List.map_toArray, List.map_cons, hp, Sem.run_bind]
      rw [hrun]; rfl
  · -- min
    rename_i k n l hargs
    cases args with
    | nil => simp at hargs
    | cons p args =>
      simp only [List.map_cons, List.cons.injEq] at hargs
      obtain ⟨h1, rfl⟩ := hargs
      have hx := hρ p
      rw [h1] at hx
      have hp := relV_int hx
      obtain ⟨e, u, hu, hrun⟩ := foldInt_ok (P := P) hρ (f := fun a b => min a b) (g := Builtin.min2) (fun k x y w => min2_run k x y w) args n v c.m m' fp fp' h
      refine ⟨c, u, e.symm, hr, Ext.refl c, hu, ?_⟩
      simp only [builtin, Builtin.min_, List.map_toArray, List.map_cons, hp, Sem.run_bind]
      rw [hrun]; rfl
  · -- append
    rename_i t t' s x hargs
    split at h
    · rename_i d e tt heq ht
      have htt : t = t' := by simpa using heq
      subst htt
      cases args with
      | nil => simp at hargs
      | cons p args =>
        cases args with
        | nil => simp at hargs
        | cons q args =>
          cases args with
          | cons _ _ => simp at hargs
          | nil =>
            simp only [List.map_cons, List.map_nil, List.cons.injEq, and_true] at hargs
            obtain ⟨hp, hq⟩ := hargs
            have hxp := hρ p
            have hxq := hρ q
            rw [hp] at hxp
            rw [hq] at hxq
            obtain ⟨xs, m1, fp1, h1, h2⟩ := Res.bind_some h
            obtain ⟨r1, e1, hl1⟩ := baseV_ok hr hxp h1
            obtain ⟨ys, m2, fp2, h3, h4⟩ := Res.bind_some h2
            obtain ⟨S2, r2, e2, hy, hlo⟩ := asDat_loose r1 h3 (hxq.ext e1)
            have hl2 := hlo _ _ _ _ hl1
            obtain ⟨hlen, h5⟩ := Res.chk_some h4
            obtain ⟨v', w', hrun, c3, hm3, hw3, r3, e3, hl3⟩ := append_run hT ht ty r2 hl2 hy (of_decide_eq_true hlen)
            subst hw3
            have h6 : (newArr d e tt (xs ++ ys)).ev c3.m fp2 = some (v, m', fp') := by rw [hm3]; exact h5
            obtain ⟨c4, hm4, hw4, r4, e4, hv4⟩ := newArr_ok (P := P) r3 h6 hl3
            refine ⟨c4, v', hm4, r4, ((e1.trans e2).trans e3).trans e4, hv4, ?_⟩
            rw [hw4]
            simp only [builtin, List.map_toArray, List.map_cons, List.map_nil, Sem.run_bind, hrun, Result.andThen_ok, Sem.run_pure]
    · exact (fail_ne h).elim
  · exact (fail_ne h).elim

theorem vop_ok (hT : TabOk P T) (hG : ∀ f s, G f = some s → SpecOk P f s) {o : Oper} {a : Act} {c : Cx} {ρ : Operand → V} (hr : Rel E c) (hρ : ∀ x, RelV P E c (ρ x) (a.eval x))
    {v : V} {m' : Mem} {fp fp' : FP} (h : (vop G T o.dst ρ o.op).ev c.m fp = some (v, m', fp')) {K : Act → World → Prop} {Q : Exit → Act → World → Prop}
    (hK : ∀ (c' : Cx) (u : Value), c'.m = m' → Rel E c' → Ext c c' → RelV P E c' v u → K (a.put o.dst u) c'.w) : o.wp P a c.w K Q := by
  obtain ⟨dst, op, type, pos, after, guard⟩ := o
  simp only at h
  cases op with
  | move x =>
    obtain ⟨rfl, rfl⟩ := ok_inj h
    exact goes_wp hK (Goes.pure hr (hρ x) (by simp [execOp]))
  | assign x =>
    obtain ⟨rfl, rfl⟩ := ok_inj h
    exact goes_wp hK (Goes.pure hr (hρ x) (by simp [execOp]))
  | pick p x y =>
    simp only [vop] at h
    split at h
    · rename_i b hb
      have hp := hρ p
      rw [hb] at hp
      have hpv := relV_bool hp
      split at h
      · rename_i dx dy hx hy
        split at h
        · rename_i he
          obtain ⟨rfl, rfl⟩ := ok_inj h
          have h1 := hρ x
          have h2 := hρ y
          rw [hx] at h1
          rw [hy] at h2
          obtain ⟨tx, vx⟩ := dx
          obtain ⟨ty, vy⟩ := dy
          simp only at he
          subst he
          refine goes_wp hK (Goes.pure hr (u := if b then a.eval x else a.eval y) ?_ (by simp [execOp, hpv, asBool]))
          cases b
          · exact h2
          · exact h1
        · exact (fail_ne h).elim
      · cases b
        · obtain ⟨rfl, rfl⟩ := ok_inj (show (Res.ok (ρ y)).ev c.m fp = some (v, m', fp') from h)
          exact goes_wp hK (Goes.pure hr (hρ y) (by simp [execOp, hpv, asBool]))
        · obtain ⟨rfl, rfl⟩ := ok_inj (show (Res.ok (ρ x)).ev c.m fp = some (v, m', fp') from h)
          exact goes_wp hK (Goes.pure hr (hρ x) (by simp [execOp, hpv, asBool]))
    · exact (fail_ne h).elim
  | alloc e =>
    simp only [vop] at h
    split at h
    · rename_i d t ht
      obtain ⟨z, hz, hzc⟩ := (hT _ _ ht).zero c.w
      obtain ⟨c', hm, hw, r', e', hv⟩ := newBox_ok (P := P) hr h z.cells e (by rw [hzc]; exact relC_zero _ _ _ (hT _ _ ht).good) (by rw [hzc]; exact NilsIn.zero c.w (hT _ _ ht).good)
      refine goes_wp hK ⟨c', _, hm, r', e', hv, .inl ?_⟩
      rw [hw]
      simp [execOp, Instr.alloc, hz, newVar, newRow]
    · exact (fail_ne h).elim
  | box e x =>
    simp only [vop] at h
    split at h
    · rename_i d t ht
      obtain ⟨y, m1, fp1, h1, h2⟩ := Res.bind_some h
      obtain ⟨S', r1, e1, hy⟩ := asDat_ok hr (hρ x) h1
      obtain ⟨c', hm, hw, r', e', hv⟩ := newBox_ok (P := P) r1 h2 (a.eval x).cells e (hy.v1 (hT _ _ ht).good).cells (nilsOf_ok (hρ x) h1)
      refine goes_wp hK ⟨c', _, hm, r', e1.trans e', hv, .inl ?_⟩
      rw [hw]
      simp [execOp, Instr.box, newVar, newRow]
    · exact (fail_ne h).elim
  | build t ps =>
    simp only [vop] at h
    split at h
    · rename_i cc ht
      obtain ⟨y, m1, fp1, h1, h2⟩ := Res.bind_some h
      have hok := hT _ _ ht
      obtain ⟨z, hz, hzc⟩ := hok.zero c.w
      obtain ⟨fs, hund, hfl, _⟩ := hok.und
      obtain ⟨l, hl, hli⟩ := run_places hT fs.toList c.w hfl.mem
      have hgd := hok.good
      obtain ⟨S', cs', r', e', hfill, hR, hKeep⟩ := buildC_ok (P := P) (E := E) (ct := cc) (place := fun i => l[i]?) (fun i t' hi => by
        obtain ⟨f, hf, hft, hfo, _⟩ := hfl.at_ hi
        exact ⟨by rw [hli i f t' hf hft, hfo, Nat.zero_add], (hT _ _ hft).good⟩) ps.toList c cc.zero cc.zc y m1 fp fp1 hr hρ (relC_zero _ _ (.st cc) hgd) h1
      have hRD : RelD c.w S' (.st cc) y (.agg cs'.toArray) := ⟨cs'.toArray, rfl, by show RelC c.w S' cc y _; simpa using hR⟩
      have hmv : m' = m1 ∧ RelV P E { c with S := S', m := m1 } v (.agg cs'.toArray) := by
        split at h2
        · obtain ⟨rfl, rfl⟩ := ok_inj h2
          exact ⟨rfl, hRD⟩
        · obtain ⟨rfl, rfl⟩ := ok_inj h2
          refine ⟨rfl, hRD, (chainSl_nodup cc).filter _, fun i hi => ?_⟩
          obtain ⟨hi1, hi2⟩ := List.mem_filter.1 hi
          obtain ⟨e, u, hsl⟩ := chainSl_mem hi1
          refine ⟨⟨cc, e, u, rfl, hsl⟩, ?_⟩
          have hk := hKeep i e u hsl (fun p hp e' => by
            have : (ps.toList.any fun p => Nat.beq p.1 i) = true := List.any_eq_true.2 ⟨p, hp, by rw [e']; exact Nat.beq_refl i⟩
            rw [this] at hi2
            cases hi2)
          have hz0 := zc_at (c := cc) c.w hgd hsl
          show (Value.agg cs'.toArray).cells.toList[chainOff cc i]? = some nilCell
          rw [← hz0, ← hk]
          rfl
      obtain ⟨rfl, hvv⟩ := hmv
      refine goes_wp hK ⟨_, .agg cs'.toArray, rfl, r', e', hvv, .inl ?_⟩
      have hmap : (fs.mapM fun f => (do pure (f.offset, ← sizeOf f.type) : Sem (Nat × Nat))).run P c.w = .ok l.toArray c.w := by
        rw [Array.mapM_eq_mapM_toList, Sem.run_map, hl]; rfl
      have hzz : z.cells = (Ty.zc (.st cc)).toArray := by apply Array.ext'; rw [hzc]
      have hps : (ps.map fun (i, x) => (i, a.eval x)).toList = ps.toList.map fun p => (p.1, a.eval p.2) := by simp
      simp only [execOp, Instr.build, Sem.run_bind, hz, Result.andThen_ok, run_underlying hund, hmap, hps, hzz]
      have hfill' : Instr.fill (fun i => l.toArray[i]?) (Ty.zc (.st cc)).toArray (ps.toList.map fun p => (p.1, a.eval p.2)) = some cs'.toArray := by simpa [Ty.zc] using hfill
      rw [hfill']
      rfl
    · rename_i n tt ht
      obtain ⟨y, m1, fp1, h1, h2⟩ := Res.bind_some h
      obtain ⟨rfl, rfl⟩ := ok_inj h2
      have hok := hT _ _ ht
      obtain ⟨z, hz, hzc⟩ := hok.zero c.w
      obtain ⟨e, hund, hte, _⟩ := hok.und
      have hgd := hok.good
      have hz0 : RelC c.w c.S (.arr n tt) (List.replicate n tt.zero) (Ty.zc (.arr n tt)) := relC_zero _ _ (.arr n tt) hgd
      obtain ⟨S', cs', r', e', hfill, hR, hlen⟩ := buildL_ok (P := P) (E := E) (t := tt) (hT _ _ hte).good (place := fun i => some (i * tt.size, tt.size)) (fun i => rfl) ps.toList c (List.replicate n tt.zero) _ y m' fp fp1 hr hρ hz0.2 h1
      refine goes_wp hK ⟨_, .agg cs'.toArray, rfl, r', e', ⟨cs'.toArray, rfl, by rw [hlen, List.length_replicate], by simpa using hR⟩, .inl ?_⟩
      have hzz : z.cells = (Ty.zc (.arr n tt)).toArray := by apply Array.ext'; rw [hzc]
      have hps : (ps.map fun (i, x) => (i, a.eval x)).toList = ps.toList.map fun p => (p.1, a.eval p.2) := by simp
      simp only [execOp, Instr.build, Sem.run_bind, hz, Result.andThen_ok, run_underlying hund, (hT _ _ hte).sizeOf c.w, hps, hzz, hfill, Sem.run_pure]
    · exact (fail_ne h).elim
  | buildSlice t n ps =>
    simp only [vop] at h
    split at h
    · rename_i l hl
      obtain ⟨hlen, hn', hn0, hpts⟩ := prow_pts hl
      rw [List.length_map] at hlen
      split at h
      · rename_i e it st ht
        obtain ⟨rfl, rfl⟩ := ok_inj h
        obtain ⟨hund, hte, hpos⟩ := (hT _ _ ht).und
        have hok := hT _ _ hte
        obtain ⟨z, hz, hzc⟩ := hok.zero c.w
        obtain ⟨cs, h1, h2, h3, h4⟩ := pts_fill (P := P) (E := E) hρ ps.toList 0 l [] rfl hpts
        rw [hlen] at h2 h3 h4
        rw [List.nil_append, List.nil_append] at h4
        have hb := alloc_below c.w (.cells cs.toArray e)
        obtain ⟨r1, e1⟩ := below_ok hr hb (S' := fun b => c.S b ∨ b = c.w.heap.size) (fun _ h => .inl h) (fun b h => by
          rcases h with h | h
          · exact .inl h
          · exact .inr ⟨by omega, by rw [h]; simp⟩)
        have hnew : ({ c.w with heap := c.w.heap.push (.cells cs.toArray e) } : World).heap[c.w.heap.size]? = some (.cells cs.toArray e (0, 0)) := by simp
        refine goes_wp hK ⟨{ c with S := fun b => c.S b ∨ b = c.w.heap.size, w := { c.w with heap := c.w.heap.push (.cells cs.toArray e) } }, .slice (some ⟨c.w.heap.size, 0, none⟩) n n, rfl, r1, e1, ⟨c.w.heap.size, cs, by rw [h3], .inr rfl, h1.ext e1, ?_⟩, .inl ?_⟩
        · have := cells_in hnew (a := []) (m := cs) (b := []) (by simp)
          exact this
        · have hps : (ps.map fun (i, x) => (i, a.eval x)).toList = ps.toList.map fun p => (p.1, a.eval p.2) := by simp
          have hsz1 : (Ty.any it st).size = 1 := rfl
          have hsz : z.cells.size = (Ty.any it st).size := by
            have := (relC_zero c.w c.S (.any it st) hok.good).len
            rw [← Array.length_toList, hzc, this]
          have hzz : ((Array.range (n * (Ty.any it st).size)).map (fun i => z.cells[i % z.cells.size]!)) = (List.replicate n (Ty.any it st).zc).flatten.toArray := zero_cells hsz hzc n
          have hrep : (List.replicate n (Ty.any it st).zc).flatten = List.replicate n Value.nilIface := by
            show (List.replicate n [Value.nilIface]).flatten = _
            simp
          rw [hrep] at hzz
          have hbig : ¬ (n * (Ty.any it st).size > 2 ^ 24) := by rw [hsz1]; omega
          have hne : ¬ (n * (Ty.any it st).size = 0) := by rw [hsz1]; omega
          have h4' : Instr.fill (fun i => some (i * (Ty.any it st).size, (Ty.any it st).size)) (List.replicate n Value.nilIface).toArray (ps.toList.map fun p => (p.1, a.eval p.2)) = some cs.toArray := h4
          simp only [execOp, Instr.buildSlice, Sem.run_bind, run_underlying hund, Result.andThen_ok, hok.sizeOf c.w, if_neg hbig, Sem.run_pure, Sem.run_ite]
          simp only [if_neg hne, hz, Result.andThen_ok, hps, hzz, h4']
          simp [newRow]
      · exact (fail_ne h).elim
    split at h
    · rename_i d e tt ht hn
      have hn' : n ≤ 4096 := of_decide_eq_true hn
      obtain ⟨y, m1, fp1, h1, h2⟩ := Res.bind_some h
      obtain ⟨hund, hte, hpos⟩ := (hT _ _ ht).und
      have hok := hT _ _ hte
      obtain ⟨z, hz, hzc⟩ := hok.zero c.w
      have hz0 : RelL (RelC c.w c.S tt) (List.replicate n tt.zero) (List.replicate n tt.zc).flatten := by
        have : RelC c.w c.S (.arr n tt) (Ty.zero (.arr n tt)) (Ty.zc (.arr n tt)) := relC_zero _ _ (.arr n tt) hok.good
        exact this.2
      obtain ⟨S', cs', r', e', hfill, hR, hlen⟩ := buildL_ok (P := P) (E := E) (t := tt) hok.good (place := fun i => some (i * tt.size, tt.size)) (fun i => rfl) ps.toList c (List.replicate n tt.zero) _ y m1 fp fp1 hr hρ hz0 h1
      rw [List.length_replicate] at hlen
      obtain ⟨c2, hm2, hw2, r2, e2, hl2⟩ := fresh_loose r' (e := e) (cells := cs'.toArray) (by simpa using hR) (by rw [hlen]; simp only [maxLen]; omega)
      have h3 : (newArr d e tt y).ev c2.m fp1 = some (v, m', fp') := by rw [hm2]; exact h2
      obtain ⟨c3, hm3, hw3, r3, e3, hv3⟩ := newArr_ok (P := P) r2 h3 hl2
      refine goes_wp hK ⟨c3, _, hm3, r3, (e'.trans e2).trans e3, hv3, .inl ?_⟩
      rw [hw3, hw2]
      have hps : (ps.map fun (i, x) => (i, a.eval x)).toList = ps.toList.map fun p => (p.1, a.eval p.2) := by simp
      have hsz : z.cells.size = tt.size := by
        have := (relC_zero c.w c.S tt hok.good).len
        rw [← Array.length_toList, hzc, this]
      have hzz : ((Array.range (n * tt.size)).map (fun i => z.cells[i % z.cells.size]!)) = (List.replicate n tt.zc).flatten.toArray := zero_cells hsz hzc n
      have hbig : ¬ (n * tt.size > 2 ^ 24) := by
        have := hok.small
        have : n * tt.size ≤ 4096 * 4096 := Nat.mul_le_mul hn' this
        omega
      simp only [execOp, Instr.buildSlice, Sem.run_bind, run_underlying hund, Result.andThen_ok, hok.sizeOf c.w, if_neg hbig, Sem.run_pure, Sem.run_ite]
      by_cases h0 : n * tt.size = 0
      · have hn0 : n = 0 := by
          rcases Nat.mul_eq_zero.1 h0 with h | h
          · exact h
          · omega
        subst hn0
        simp only [Nat.zero_mul, if_true, Result.andThen_ok, hps]
        have : ((Array.range 0).map (fun i => (#[] : Array Value)[i % (#[] : Array Value).size]!)) = (List.replicate 0 tt.zc).flatten.toArray := by simp
        rw [this, hfill]
        simp [newRow, hlen]
      · simp only [if_neg h0, hz, Result.andThen_ok, hps, hzz, hfill]
        simp [newRow, hlen]
    · exact (fail_ne h).elim
  | load t p =>
    simp only [vop] at h
    split at h
    · rename_i ty ht
      obtain ⟨c', hm, hw, r', e', u, hu, hrun⟩ := loadV_ok hT ht hr (hρ p) h
      exact goes_wp hK ⟨c', u, hm, r', e', hu, .inl (by rw [hw]; simp [execOp, hrun])⟩
    · exact (fail_ne h).elim
  | store t p x =>
    simp only [vop] at h
    split at h
    · rename_i ty ht
      obtain ⟨c', hm, r', e', hv, hrun⟩ := storeV_ok hT ht hr (hρ p) (hρ x) h
      exact goes_wp hK ⟨c', undef, hm, r', e', hv, .inr ⟨by simp [execOp, hrun], rfl⟩⟩
    · exact (fail_ne h).elim
  | nilCheck x =>
    simp only [vop] at h
    have hx := hρ x
    split at h
    · rename_i b p t hv
      obtain ⟨rfl, rfl⟩ := ok_inj h
      rw [hv] at hx
      have hx' := hx
      obtain ⟨B, _, _, _, he⟩ := hx'
      exact goes_wp hK (Goes.pure hr hx (by simp [execOp, he]))
    · rename_i d hv
      obtain ⟨rfl, rfl⟩ := ok_inj h
      rw [hv] at hx
      have hx' := hx
      obtain ⟨ad, cs, he, _⟩ := hx'
      exact goes_wp hK (Goes.pure hr hx (by simp [execOp, he]))
    · rename_i f cs hv
      obtain ⟨rfl, rfl⟩ := ok_inj h
      rw [hv] at hx
      have hx' := hx
      obtain ⟨cv, he, _⟩ := hx'
      exact goes_wp hK (Goes.pure hr hx (by simp [execOp, he]))
    · rename_i x' r' g hv
      obtain ⟨rfl, rfl⟩ := ok_inj h
      rw [hv] at hx
      have hx' := hx
      obtain ⟨S1, _, f, cv, he, _⟩ := hx'
      exact goes_wp hK (Goes.pure hr hx (by simp [execOp, he]))
    · exact (fail_ne h).elim
  | binOp op xt x y yt =>
    simp only [vop] at h
    split at h
    · rename_i d1 d2 h1 h2
      have hx := hρ x
      have hy := hρ y
      rw [h1] at hx
      rw [h2] at hy
      obtain ⟨rfl, u, hu, hrun⟩ := binD_ok hT (px := x) (py := y) hx hy h
      refine goes_wp hK (Goes.pure hr hu ?_)
      simp only [execOp, Sem.run_bind] at hrun ⊢
      rw [hrun]; rfl
    · exact (fail_ne h).elim
  | unOp op xt x =>
    simp only [vop] at h
    split at h
    · rename_i d hd
      have hx := hρ x
      rw [hd] at hx
      unfold unD at h
      split at h
      · rename_i b
        have := relV_bool hx
        split at h
        · obtain ⟨rfl, rfl⟩ := ok_inj h
          exact goes_wp hK (Goes.pure hr relV_boolV (by simp [execOp, Op.unary, this]))
        · exact (fail_ne h).elim
      · rename_i k n
        have := relV_int hx
        split at h
        · obtain ⟨rfl, rfl⟩ := ok_inj h
          exact goes_wp hK (Goes.pure hr relV_intV (by simp [execOp, Op.unary, Op.intArith, this]))
        · exact (fail_ne h).elim
      · exact (fail_ne h).elim
    · exact (fail_ne h).elim
  | convert src d x =>
    simp only [vop] at h
    split at h
    · rename_i ts td dx h1 h2 h3
      have hx := hρ x
      rw [h3] at hx
      obtain ⟨rfl, u, hu, hrun⟩ := convD_ok hT h1 h2 hx h
      exact goes_wp hK (Goes.pure hr hu (by simp [execOp, hrun]))
    · exact (fail_ne h).elim
  | makeFunc fn first caps =>
    simp only [vop] at h
    split at h
    · rename_i f l hfi hl
      obtain ⟨rfl, rfl⟩ := ok_inj h
      have hf0 : first = #[] := by apply Array.ext'; exact hfi
      subst hf0
      refine goes_wp hK (Goes.pure hr (u := .func (.func f) #[] (caps.map a.eval)) ⟨_, rfl, ?_⟩ (by simp [execOp, Instr.makeFunc]))
      rw [Array.toList_map]
      exact toCaps_ok hρ _ _ hl
    · exact (fail_ne h).elim
  | slice t x lo hi mx =>
    cases mx with
    | some _ => exact (fail_ne h).elim
    | none =>
    simp only [vop] at h
    split at h
    · rename_i e tt ht
      obtain ⟨xs, m1, fp1, h1, h2⟩ := Res.bind_some h
      obtain ⟨S', r1, e1, hx⟩ := asDat_ok hr (hρ x) h1
      split at h2
      · rename_i l hh hl hhi
        obtain ⟨hc, h3⟩ := Res.chk_some h2
        obtain ⟨rfl, rfl⟩ := ok_inj h3
        simp only [Bool.and_eq_true, decide_eq_true_eq] at hc
        obtain ⟨⟨c1, c2⟩, c3⟩ := hc
        obtain ⟨hund, hte, hpos⟩ := (hT _ _ ht).und
        obtain ⟨A, cap, he, hcap, hcc⟩ := hx
        have he2 : a.eval x = .slice A (List.length (α := tt.den) xs) cap := by simpa using he
        have hx2 : RelC c.w S' (.sl e tt) xs [.slice A (List.length (α := tt.den) xs) cap] := ⟨A, cap, rfl, hcap, hcc⟩
        obtain ⟨_, _, hcut⟩ := cut_ok hx2 (l := l.toNat) (h' := hh.toNat) (by omega) (by omega)
        have hsz := (hT _ _ hte).sizeOf c.w
        refine goes_wp hK ⟨_, .slice (if cap = l.toNat then A else A.map (·.add (l.toNat * tt.size))) (hh.toNat - l.toNat) (cap - l.toNat), rfl, r1, e1, hcut, .inl ?_⟩
        simp only [execOp, Instr.sliceAt, Sem.run_bind, run_underlying hund, Result.andThen_ok, Option.map_none]
        rcases intOf_ok hρ hl with ⟨rfl, el⟩ | ⟨ol, kl, rfl, el⟩ <;> rcases intOf_ok hρ hhi with ⟨rfl, eh⟩ | ⟨oh, kh, rfl, eh⟩
        · subst el eh
          simp [Instr.slice, Instr.sliceBounds, run_underlying hund, he2, hsz]
        · subst el
          have g1 : hh ≤ (cap : Int) := by omega
          simp [Instr.slice, Instr.sliceBounds, Instr.sliceBound, run_underlying hund, he2, hsz, eh, asIntOf, g1, c2]
        · subst eh
          have g1 : l ≤ ((List.length (α := tt.den) xs : Nat) : Int) := c2
          simp [Instr.slice, Instr.sliceBounds, Instr.sliceBound, run_underlying hund, he2, hsz, el, asIntOf, c1, g1]
        · have g1 : hh ≤ (cap : Int) := by omega
          have g0 : 0 ≤ hh := by omega
          have g2 : l ≤ ((hh.toNat : Nat) : Int) := by omega
          simp [Instr.slice, Instr.sliceBounds, Instr.sliceBound, run_underlying hund, he2, hsz, el, eh, asIntOf, g1, g0, g2, c1]
          intro hlt; exact absurd hlt (by omega)
      · exact (fail_ne h2).elim
    · rename_i ht
      have hund : P.underlying t = some .string := (hT _ _ ht).und
      split at h
      · rename_i s hs
        split at h
        · rename_i l hh hl hhi
          obtain ⟨hc, h3⟩ := Res.chk_some h
          obtain ⟨rfl, rfl⟩ := ok_inj h3
          simp only [Bool.and_eq_true, decide_eq_true_eq] at hc
          obtain ⟨⟨c1, c2⟩, c3⟩ := hc
          have hx := hρ x
          rw [hs] at hx
          have he2 := relV_str hx
          refine goes_wp hK (Goes.pure hr relV_strV ?_)
          simp only [execOp, Instr.sliceAt, Sem.run_bind, run_underlying hund, Result.andThen_ok, Option.map_none]
          rcases intOf_ok hρ hl with ⟨rfl, el⟩ | ⟨ol, kl, rfl, el⟩ <;> rcases intOf_ok hρ hhi with ⟨rfl, eh⟩ | ⟨oh, kh, rfl, eh⟩
          · subst el eh
            simp [Instr.slice, Instr.sliceBounds, run_underlying hund, he2]
          · subst el
            simp [Instr.slice, Instr.sliceBounds, Instr.sliceBound, run_underlying hund, he2, eh, asIntOf, c3, c2]
          · subst eh
            simp [Instr.slice, Instr.sliceBounds, Instr.sliceBound, run_underlying hund, he2, el, asIntOf, c1, c2]
          · have g0 : 0 ≤ hh := by omega
            have g2 : l ≤ ((hh.toNat : Nat) : Int) := by omega
            simp [Instr.slice, Instr.sliceBounds, Instr.sliceBound, run_underlying hund, he2, el, eh, asIntOf, c3, g0, g2, c1]
            intro hlt; exact absurd hlt (by omega)
        · exact (fail_ne h).elim
      · exact (fail_ne h).elim
    · exact (fail_ne h).elim
  | fieldAddr s x f =>
    simp only [vop] at h
    split at h
    · rename_i cc b p c' ht hv
      split at h
      · rename_i hcc
        subst hcc
        split at h
        · rename_i t' ht'
          obtain ⟨rfl, rfl⟩ := ok_inj h
          have hx := hρ x
          rw [hv] at hx
          obtain ⟨B, hB, hpt, hp, he⟩ := hx
          obtain ⟨fs, hund, hfl, _⟩ := (hT _ _ ht).und
          obtain ⟨fd, hf, hft, hfo, hfp⟩ := hfl.at_ ht'
          have hf2 : fs[f]? = some fd := by rw [← Array.getElem?_toList]; exact hf
          refine goes_wp hK (Goes.pure hr (u := .pointer (some ⟨c.bx b, pathOff (p ++ [.fld f]) B.t, none⟩)) ⟨B, hB, ?_, pathIn_app hpt hp ⟨t', ht', trivial⟩, rfl⟩ ?_)
          · rw [pathTy_app hpt]; simp [pathTy, ht']
          · have hsz := (hT _ _ hft).sizeOf c.w
            have hne : ¬ t'.size = 0 := by omega
            have hoff : pathOff (p ++ [.fld f]) B.t = pathOff p B.t + fd.offset := by
              rw [pathOff_app hpt, hfo]; simp [pathOff, ht']
            simp only [execOp, Instr.fieldAt, Sem.run_bind, run_underlying hund, Result.andThen_ok, hf2, he, Instr.sureAddr, Sem.run_pure, fieldPlace, hsz, Sem.run_ite, if_neg hne, Addr.add_mid, hoff]
        · exact (fail_ne h).elim
      · exact (fail_ne h).elim
    · rename_i cc c' y ht hv
      split at h
      · rename_i hcc
        subst hcc
        split at h
        · rename_i d hd
          obtain ⟨rfl, rfl⟩ := ok_inj h
          have hx := hρ x
          rw [hv] at hx
          obtain ⟨ad, cs, he, hs, hc, hca⟩ := hx
          obtain ⟨hty, p, m, q, e2, hl, hm⟩ := chainGet_rel (c := c') (show RelC c.w c.S c' y cs from hc) hd
          obtain ⟨fs, hund, hfl, _⟩ := (hT _ _ ht).und
          obtain ⟨fd, hf, hft, hfo, hfp⟩ := hfl.at_ hty
          have hf2 : fs[f]? = some fd := by rw [← Array.getElem?_toList]; exact hf
          rw [e2] at hca
          refine goes_wp hK (Goes.pure hr (u := .pointer (some (ad.add p.length))) ⟨ad.add p.length, m, rfl, by rw [add_block']; exact hs, hm, hca.mid⟩ ?_)
          have hsz := (hT _ _ hft).sizeOf c.w
          have hne : ¬ d.t.size = 0 := by omega
          have ho : fd.offset = p.length := by rw [hfo, hl]; omega
          simp only [execOp, Instr.fieldAt, Sem.run_bind, run_underlying hund, Result.andThen_ok, hf2, he, Instr.sureAddr, Sem.run_pure, fieldPlace, hsz, Sem.run_ite, if_neg hne, ho]
        · exact (fail_ne h).elim
      · exact (fail_ne h).elim
    · exact (fail_ne h).elim
  | field s x f =>
    simp only [vop] at h
    split at h
    · rename_i cc c' y ht hv
      split at h
      · rename_i hcc
        subst hcc
        split at h
        · rename_i d hd
          obtain ⟨rfl, rfl⟩ := ok_inj h
          have hx := hρ x
          rw [hv] at hx
          obtain ⟨cs, he, hc⟩ := (show ∃ cs, a.eval x = .agg cs ∧ RelC c.w c.S (.st c') y cs.toList from hx)
          obtain ⟨hty, p, m, q, e2, hl, hm⟩ := chainGet_rel (c := c') (show RelC c.w c.S c' y cs.toList from hc) hd
          obtain ⟨fs, hund, hfl, _⟩ := (hT _ _ ht).und
          obtain ⟨fd, hf, hft, hfo, hfp⟩ := hfl.at_ hty
          have hf2 : fs[f]? = some fd := by rw [← Array.getElem?_toList]; exact hf
          obtain ⟨u, hu, hru⟩ := part_ok (hT _ _ hft) e2 (off := fd.offset) (by rw [hfo, hl]; omega) hm c.w
          refine goes_wp hK (Goes.pure hr (RelD.of_v1 hru) ?_)
          simp only [execOp, Instr.field, Sem.run_bind, run_underlying hund, Result.andThen_ok, hf2, he, asAgg, Sem.run_pure, hu]
        · exact (fail_ne h).elim
      · exact (fail_ne h).elim
    · exact (fail_ne h).elim
  | indexAddr t x i =>
    simp only [vop] at h
    split at h
    · rename_i k n hi
      have hiv := hρ i
      rw [hi] at hiv
      have hin := relV_int hiv
      split at h
      · rename_i len tt ht
        obtain ⟨e, hund, hte, hpos, _⟩ := (hT _ _ ht).und
        have hsz := (hT _ _ hte).sizeOf c.w
        split at h
        · rename_i b p n' t' hv
          split at h
          · rename_i hc
            obtain ⟨rfl, rfl⟩ := hc
            obtain ⟨hb, h2⟩ := Res.chk_some h
            obtain ⟨rfl, rfl⟩ := ok_inj h2
            simp only [inI, Bool.and_eq_true, decide_eq_true_eq] at hb
            have hx := hρ x
            rw [hv] at hx
            obtain ⟨B, hB, hpt, hp, he⟩ := hx
            refine goes_wp hK (Goes.pure hr (u := .pointer (some ⟨c.bx b, pathOff (p ++ [.idx n]) B.t, none⟩)) ⟨B, hB, ?_, pathIn_app hpt hp ⟨hb.1, hb.2, trivial⟩, rfl⟩ ?_)
            · rw [pathTy_app hpt]; rfl
            · have hoff : pathOff (p ++ [.idx n]) B.t = pathOff p B.t + n.toNat * t'.size := by
                rw [pathOff_app hpt]; simp [pathOff]
              simp only [execOp, Instr.indexAt, Sem.run_bind, hin, asIntOf, Sem.run_pure, Result.andThen_ok, run_underlying hund, he, Instr.sureAddr, hsz, Sem.run_ite, if_pos hb, Addr.add_mid, hoff]
          · exact (fail_ne h).elim
        · rename_i n' t' xs hv
          split at h
          · rename_i hc
            obtain ⟨rfl, rfl⟩ := hc
            obtain ⟨hb, h2⟩ := Res.chk_some h
            obtain ⟨rfl, rfl⟩ := ok_inj h2
            simp only [inI, Bool.and_eq_true, decide_eq_true_eq] at hb
            have hx := hρ x
            rw [hv] at hx
            obtain ⟨ad, cs, he, hs, ⟨hn, hrl⟩, hca⟩ := hx
            obtain ⟨p, m, q, e2, hl, hm⟩ := getD_rel (fun _ _ h => RelC.len h) hrl (j := n.toNat) (by rw [hn]; omega) t'.zero
            rw [e2] at hca
            refine goes_wp hK (Goes.pure hr (u := .pointer (some (ad.add p.length))) ⟨ad.add p.length, m, rfl, by rw [add_block']; exact hs, hm, hca.mid⟩ ?_)
            simp only [execOp, Instr.indexAt, Sem.run_bind, hin, asIntOf, Sem.run_pure, Result.andThen_ok, run_underlying hund, he, Instr.sureAddr, hsz, Sem.run_ite, if_pos hb, hl]
          · exact (fail_ne h).elim
        · exact (fail_ne h).elim
      · rename_i e tt ht
        obtain ⟨hund, hte, hpos⟩ := (hT _ _ ht).und
        have hsz := (hT _ _ hte).sizeOf c.w
        obtain ⟨xs, m1, fp1, h1, h2⟩ := Res.bind_some h
        obtain ⟨S', r1, e1, hx⟩ := asDat_ok hr (hρ x) h1
        obtain ⟨hb, h3⟩ := Res.chk_some h2
        obtain ⟨rfl, rfl⟩ := ok_inj h3
        simp only [inI, Bool.and_eq_true, decide_eq_true_eq] at hb
        obtain ⟨A, cap, he, hcap, hcc⟩ := hx
        have he2 : a.eval x = .slice A (List.length (α := tt.den) xs) cap := by simpa using he
        obtain ⟨ad, inner, rfl, hs, hil, hca, hrl⟩ := hcc (by omega)
        obtain ⟨p, m, q, e2, hl, hm⟩ := getD_rel (fun _ _ h => RelC.len h) hrl (j := n.toNat) (by omega) tt.zero
        rw [e2] at hca
        refine goes_wp hK ⟨_, .pointer (some (ad.add p.length)), rfl, r1, e1, ⟨ad.add p.length, m, rfl, by rw [add_block']; exact hs, hm, hca.mid⟩, .inl ?_⟩
        simp only [execOp, Instr.indexAt, Sem.run_bind, hin, asIntOf, Sem.run_pure, Result.andThen_ok, run_underlying hund, he2, hsz, Sem.run_ite, if_pos hb, hl]
      · exact (fail_ne h).elim
    · exact (fail_ne h).elim
  | index t x i =>
    simp only [vop] at h
    split at h
    · rename_i k n len tt n' t' xs hi ht hv
      have hiv := hρ i
      rw [hi] at hiv
      have hin := relV_int hiv
      split at h
      · rename_i hc
        obtain ⟨rfl, rfl⟩ := hc
        obtain ⟨hb, h2⟩ := Res.chk_some h
        obtain ⟨rfl, rfl⟩ := ok_inj h2
        simp only [inI, Bool.and_eq_true, decide_eq_true_eq] at hb
        obtain ⟨e, hund, hte, hpos, _⟩ := (hT _ _ ht).und
        have hsz := (hT _ _ hte).sizeOf c.w
        have hx := hρ x
        rw [hv] at hx
        obtain ⟨cs, he, hn, hrl⟩ := (show ∃ cs, a.eval x = .agg cs ∧ RelC c.w c.S (.arr n' t') xs cs.toList from hx)
        obtain ⟨p, m, q, e2, hl, hm⟩ := getD_rel (fun _ _ h => RelC.len h) hrl (j := n.toNat) (by rw [hn]; omega) t'.zero
        obtain ⟨u, hu, hru⟩ := part_ok (hT _ _ hte) e2 (off := n.toNat * t'.size) hl hm c.w
        refine goes_wp hK (Goes.pure hr (RelD.of_v1 hru) ?_)
        simp only [execOp, Instr.index, Sem.run_bind, hin, asIntOf, Sem.run_pure, Result.andThen_ok, run_underlying hund, he, hsz, Sem.run_ite, if_pos hb, hu]
      · exact (fail_ne h).elim
    · rename_i k n s hi ht hv
      have hiv := hρ i
      rw [hi] at hiv
      have hin := relV_int hiv
      obtain ⟨hb, h2⟩ := Res.chk_some h
      obtain ⟨rfl, rfl⟩ := ok_inj h2
      have hund : P.underlying t = some .string := (hT _ _ ht).und
      have hx := hρ x
      rw [hv] at hx
      have he := relV_str hx
      obtain ⟨b, hb1, hb2⟩ := strAt_ok hb
      simp only [inI, Bool.and_eq_true, decide_eq_true_eq] at hb
      refine goes_wp hK (Goes.pure hr relV_intV ?_)
      simp only [execOp, Instr.index, Sem.run_bind, hin, asIntOf, Sem.run_pure, Result.andThen_ok, run_underlying hund, he, if_pos hb.1, hb1, hb2]
    · exact (fail_ne h).elim
  | extract x i =>
    simp only [vop] at h
    split at h
    · rename_i cc y hv
      split at h
      · rename_i d hd
        obtain ⟨rfl, rfl⟩ := ok_inj h
        have hx := hρ x
        rw [hv] at hx
        obtain ⟨vs, he, ht⟩ := (show ∃ vs, a.eval x = .tuple vs ∧ RelT c.w c.S cc y vs.toList from hx)
        obtain ⟨u, hu, hru⟩ := chainGet_tup ht hd
        have hu2 : vs[i]? = some u := by rw [← Array.getElem?_toList]; exact hu
        exact goes_wp hK (Goes.pure hr (RelD.of_v1 hru) (by simp [execOp, Instr.extract, he, hu2]))
      · exact (fail_ne h).elim
    · exact (fail_ne h).elim
  | lookup t mm x ok =>
    simp only [vop] at h
    have look : ∀ {w : World} {S : Nat → Prop} {k v : Ty} {es : List (k.den × v.den)} {key : k.den} {r : Value}, RelLook w S v (mapGet k v key es) ok r → RelV P E { c with S := S, w := w } (lookV k v es key ok) r := by
      intro w S k v es key r hr2
      cases ok with
      | false => exact hr2
      | true => exact hr2
    split at h
    · rename_i k v0 k' v' es d ht hm hx
      split at h
      · rename_i hc
        obtain ⟨he1, he2, he3⟩ := hc
        subst he1 he2
        obtain ⟨dt, dx⟩ := d
        simp only at he3
        subst he3
        obtain ⟨rfl, rfl⟩ := ok_inj h
        have hmv := hρ mm
        rw [hm] at hmv
        have hxv := hρ x
        rw [hx] at hxv
        obtain ⟨r, hr1, hr2⟩ := lookup_ok hT ht (w := c.w) (S := c.S) (by exact hmv) (key := dx) (by exact hxv) ok
        refine goes_wp hK (Goes.pure hr (u := r) (look (w := c.w) (S := c.S) hr2) ?_)
        simp only [execOp, Sem.run_bind, hr1, Result.andThen_ok, Sem.run_pure]
      · exact (fail_ne h).elim
    · rename_i k v0 am d ht hm hx
      simp only [Res.ev] at h
      cases ham : c.m.arr am with
      | no => rw [ham] at h; exact (fail_ne h).elim
      | dead => rw [ham] at h; exact (fail_ne h).elim
      | at_ A => rw [ham] at h; exact (fail_ne h).elim
      | mp M =>
        rw [ham] at h
        simp only at h
        split at h
        · rename_i hc
          obtain ⟨Mk, Mv, Mes⟩ := M
          obtain ⟨he1, he2, he3⟩ := hc
          simp only at he1 he2 he3
          subst he1 he2
          obtain ⟨dt, dx⟩ := d
          simp only at he3
          subst he3
          obtain ⟨rfl, rfl⟩ := ok_inj h
          have hmv := hρ mm
          rw [hm] at hmv
          have hxv := hρ x
          rw [hx] at hxv
          have hu := hmv.2.2 _ ham
          obtain ⟨hk, hv, g, en, cl, e, h0, hS, hh, hE⟩ := hr.ms.mps am _ ham
          obtain ⟨r, hr1, hr2⟩ := lookup_ok hT ht (w := c.w) (S := fun _ => True) (es := Mes) (u := a.eval mm) (.inr ⟨g, en, cl, by rw [hu, e], trivial, hh, hE.imp (fun _ _ hh => RelC.flat (keyT_flat hk) hh) (fun _ _ hh => RelC.flat (valT_flat hv) hh)⟩) (key := dx) (RelD.flat (keyT_flat hk) (by exact hxv)) ok
          have hr3 : RelLook c.w c.S Mv (mapGet dt Mv dx Mes) ok r := by
            cases ok with
            | false => exact RelD.flat (valT_flat hv) hr2
            | true => exact RelD.flat (t := .tup (.pair Mv .bool)) (by show (Mv.flat && true) = true; rw [valT_flat hv]; rfl) hr2
          refine goes_wp hK (Goes.pure hr (u := r) (look (w := c.w) (S := c.S) hr3) ?_)
          simp only [execOp, Sem.run_bind, hr1, Result.andThen_ok, Sem.run_pure]
        · exact (fail_ne h).elim
    · exact (fail_ne h).elim
  | makeMap t res =>
    cases res with
    | some r => exact (fail_ne h).elim
    | none =>
      simp only [vop] at h
      split at h
      · rename_i dd k v0 ht
        simp only [Res.ev] at h
        cases had : c.m.arr dd with
        | at_ A => rw [had] at h; exact (fail_ne h).elim
        | dead => rw [had] at h; exact (fail_ne h).elim
        | mp M => rw [had] at h; exact (fail_ne h).elim
        | no =>
          rw [had] at h
          simp only [Res.ev] at h
          obtain ⟨rfl, rfl⟩ := ok_inj h
          have hgood := (hT _ _ ht).good
          simp only [Ty.good, Bool.and_eq_true] at hgood
          let w' : World := { c.w with heap := c.w.heap.push (.map #[] 0) }
          have hb : Below c.w.heap.size c.w w' := ⟨rfl, rfl, rfl, by simp [w'], fun i hi => by simp [w', Array.getElem?_push, Nat.ne_of_lt hi]⟩
          obtain ⟨r1, e1⟩ := below_ok hr hb (S' := c.S) (fun _ h => h) (fun _ h => .inl h)
          obtain ⟨r2, e2⟩ := addMap_ok (c := { c with w := w' }) r1 (d := dd) had (M := ⟨k, v0, []⟩) (g := c.w.heap.size) (es := #[]) (cl := 0) hgood.1 hgood.2 (by simp [w']) hr.size (fun hs => by have := hr.lt _ hs; omega) trivial
            (fun x X hx e => by
              obtain ⟨_, _, g, _, _, e3, _, _, hh, _⟩ := hr.ms.mps x X hx
              have e4 : c.ar x = .map (some c.w.heap.size) := e
              rw [e3] at e4
              injection e4 with e4
              injection e4 with e4
              have := (Array.getElem?_eq_some_iff.1 hh).1
              omega)
          refine goes_wp hK ⟨_, .map (some c.w.heap.size), rfl, r2, e1.trans e2, ⟨by simp [Mem.setA, upd], fun A hA => by simp [Mem.setA, upd] at hA, fun M hM => by simp [upd]⟩, .inl ?_⟩
          simp [execOp, Instr.makeMap, newObj, Sem.run_bind, w']
          rfl
      · exact (fail_ne h).elim
  | mapUpdate t mm x y =>
    simp only [vop] at h
    split at h
    · rename_i k v0 am d e ht hm hx hy
      simp only [Res.ev] at h
      cases ham : c.m.arr am with
      | no => rw [ham] at h; exact (fail_ne h).elim
      | dead => rw [ham] at h; exact (fail_ne h).elim
      | at_ A => rw [ham] at h; exact (fail_ne h).elim
      | mp M =>
        rw [ham] at h
        simp only at h
        split at h
        · rename_i hc
          obtain ⟨Mk, Mv, Mes⟩ := M
          obtain ⟨he1, he2, he3, he4⟩ := hc
          simp only at he1 he2 he3 he4
          subst he1 he2
          obtain ⟨dt, dx⟩ := d
          obtain ⟨et, ex⟩ := e
          simp only at he3 he4
          subst he3 he4
          simp only [Res.ev] at h
          obtain ⟨rfl, rfl⟩ := ok_inj h
          have hmv := hρ mm
          rw [hm] at hmv
          have hxv := hρ x
          rw [hx] at hxv
          have hyv := hρ y
          rw [hy] at hyv
          have hu := hmv.2.2 _ ham
          obtain ⟨hk, hv, g, en, cl, eg, h0, hS, hh, hE⟩ := hr.ms.mps am _ ham
          obtain ⟨en', cl', hrun, hE'⟩ := update_ok hT ht hh hE (key := dx) (by exact hxv) (x := ex) (by exact hyv)
          obtain ⟨r2, e2⟩ := setMap_ok hr ham (xs := mapPut dt et dx ex Mes) eg (es := en') (cl := cl') hE'
          refine goes_wp hK ⟨_, undef, rfl, r2, e2, trivial, .inr ⟨?_, rfl⟩⟩
          simp only [execOp, hu, eg]
          rw [Sem.run_bind, hrun]
          simp
        · exact (fail_ne h).elim
    · exact (fail_ne h).elim
  | call cl =>
    obtain ⟨callee, args, ats⟩ := cl
    simp only [vop, callV] at h
    cases callee with
    | builtin b =>
      obtain ⟨c', u, hm, r', e', hv, hrun⟩ := builtV_ok hT hr hρ (ty := type) (cons := args.map fun | .const _ => true | _ => false) h
      refine goes_wp hK ⟨c', u, hm, r', e', hv, .inl ?_⟩
      simp only [execOp, resolve, invoke, Sem.run_bind, Sem.run_pure, Result.andThen_ok]
      exact hrun
    | invoke r m => exact (fail_ne h).elim
    | value f =>
      simp only at h
      split at h
      · rename_i g caps hf
        have hfv := hρ f
        rw [hf] at hfv
        obtain ⟨cv, he, hk⟩ := hfv
        obtain ⟨hen, hc⟩ := callF_ok hG hr ((RelVs.map hρ args.toList).append (RelVs.caps hk)) h
        have harr : (args.toList.map a.eval ++ cv.toList).toArray = args.map a.eval ++ cv := by apply Array.ext'; simp
        unfold Oper.wp
        have hrun : (execOp a.eval ⟨dst, .call { callee := .value f, args := args, argTypes := ats }, type, pos, after, guard⟩).run P c.w = .ok (.enter g (args.map a.eval ++ cv)) c.w := by
          simp [execOp, resolve, he, Deferred.ofValue, invoke, hen _ _]
        rw [hrun]
        show Calls P g _ c.w _
        rw [← harr]
        refine hc.mono fun e w' hh => ?_
        obtain ⟨u, rfl, c', hm, rfl, r', e', hv⟩ := hh
        exact hK c' u hm r' e' hv
      · rename_i a' r' g hf
        split at h
        · rename_i x hx
          have hfv := hρ f
          rw [hf] at hfv
          obtain ⟨y, m1, fp1, h1, h2⟩ := Res.bind_some h
          obtain ⟨S', r1, e1, hy⟩ := asDat_ok hr (hρ x) h1
          simp only [Res.ev] at h2
          cases hz : g y with
          | none => rw [hz] at h2; cases h2
          | some z =>
            rw [hz] at h2
            obtain ⟨rfl, rfl⟩ := ok_inj h2
            obtain ⟨S2, hS2, f', cv, he, hen, hh⟩ := hfv
            have hc := hh c.w S' (fun b hb => hr.keep b (hS2 b hb).1 (hS2 b hb).2) (fun b hb => r1.old b hb) (fun b hb => r1.lt b hb) y (a.eval x) z hy hz
            have hargs : args = #[x] := by apply Array.ext'; exact hx
            subst hargs
            unfold Oper.wp
            have hrun : (execOp a.eval ⟨dst, .call { callee := .value f, args := #[x], argTypes := ats }, type, pos, after, guard⟩).run P c.w = .ok (.enter f' (#[a.eval x] ++ cv)) c.w := by
              simp [execOp, resolve, he, Deferred.ofValue, invoke, hen _ _]
            rw [hrun]
            show Calls P f' _ c.w _
            refine hc.mono fun e w' hret => ?_
            obtain ⟨u, rfl, hru, hb⟩ := hret
            obtain ⟨r2, e2⟩ := below_ok r1 hb (S' := Ext' S' c.w w') (fun _ h => .inl h) (fun _ h => h)
            exact hK _ u rfl r2 (e1.trans e2) hru
        · exact (fail_ne h).elim
      · exact (fail_ne h).elim
  | range t x =>
    simp only [vop] at h
    split at h
    · rename_i d s ht hx
      have hu : a.eval x = .string s := relV_str (by have := hρ x; rw [hx] at this; exact this)
      obtain ⟨c', hm, hw, r', e', hv⟩ := newBoxO_ok (P := P) hr h (.stringIter s 0) (.inl ⟨rfl, rfl⟩)
      refine goes_wp hK ⟨c', _, hm, r', e', hv, .inl ?_⟩
      have hund := (hT _ _ ht).und
      rw [hw]
      simp [execOp, hu, Instr.range, run_underlying hund, newObj]
      rfl
    · exact (fail_ne h).elim
  | next x isS =>
    cases isS with
    | false => exact (fail_ne h).elim
    | true =>
      simp only [vop] at h
      split at h
      · rename_i b hx
        have hp := hρ x
        rw [hx] at hp
        obtain ⟨B, hB, hpt, _, hv⟩ := hp
        simp only [Res.ev, hB] at h
        obtain ⟨Bt, Bx, Bl⟩ := B
        simp only [pathTy] at hpt
        injection hpt with hpt
        subst hpt
        have hit : c.w.heap[c.bx b]? = some (.stringIter Bx.1 Bx.2) := by
          rcases hr.box b _ hB with ⟨h, _⟩ | ⟨_, _, _, cs', h, _⟩
          · exact h
          · exact h.elim
        simp only [iterNext, Res.ev] at h
        by_cases hlt : Bx.2 < ByteArray.size Bx.1
        · rw [decide_eq_true hlt] at h
          simp only [cond_true, Res.ev] at h
          obtain ⟨rfl, rfl⟩ := ok_inj h
          obtain ⟨r2, e2⟩ := setBox_ok hr hB (x := (Bx.1, Bx.2 + (Utf8.decode Bx.1 Bx.2).2)) (lk := []) (w' := c.w.iterAt (c.bx b) Bx.1 (Bx.2 + (Utf8.decode Bx.1 Bx.2).2)) rfl rfl rfl (Lib.iterAt_size _ _ _ _)
            (fun g hg => Lib.iterAt_other _ _ _ _ _ hg) (.inl ⟨Lib.iterAt_heap _ _ _ _ _ hit, rfl⟩)
          refine goes_wp hK ⟨_, _, rfl, r2, e2, ⟨_, rfl, ⟨_, _, rfl, rfl, _, _, rfl, rfl, _, rfl, rfl⟩⟩, .inl ?_⟩
          have := Lib.run_next_any_at (P := P) c.w (c.bx b) Bx.1 Bx.2 type hit hlt
          simp [execOp, hv, pathOff, this]
        · rw [decide_eq_false hlt] at h
          simp only [cond_false, Res.ev] at h
          obtain ⟨rfl, rfl⟩ := ok_inj h
          have := Lib.run_next_end_at (P := P) c.w (c.bx b) Bx.1 Bx.2 type hit hlt
          exact goes_wp hK (Goes.pure hr (u := .tuple #[.bool false]) ⟨_, rfl, _, rfl, rfl⟩ (by simp [execOp, hv, pathOff, this]))
      · exact (fail_ne h).elim
  | makeInterface t x =>
    simp only [vop] at h
    split at h
    · rename_i n ht hx
      obtain ⟨rfl, rfl⟩ := ok_inj h
      have hu : a.eval x = .int .i64 n := relV_int (by have := hρ x; rw [hx] at this; exact this)
      have hund := (hT _ _ ht).und
      exact goes_wp hK (Goes.pure hr (u := .iface t (.int .i64 n)) ⟨_, rfl, rfl⟩ (by simp [execOp, Instr.makeInterface, run_underlying hund, hu]))
    · rename_i s ht hx
      obtain ⟨rfl, rfl⟩ := ok_inj h
      have hu : a.eval x = .string s := relV_str (by have := hρ x; rw [hx] at this; exact this)
      have hund := (hT _ _ ht).und
      exact goes_wp hK (Goes.pure hr (u := .iface t (.string s)) ⟨_, rfl, rfl⟩ (by simp [execOp, Instr.makeInterface, run_underlying hund, hu]))
    · rename_i e b p pt ht hx
      obtain ⟨rfl, rfl⟩ := ok_inj h
      have hp := hρ x
      rw [hx] at hp
      have hund : P.underlying t = some (.pointer e) := (hT _ _ ht).und
      exact goes_wp hK (Goes.pure hr (u := .iface t (a.eval x)) ⟨_, rfl, hp⟩ (by simp [execOp, Instr.makeInterface, run_underlying hund]))
    · exact (fail_ne h).elim
  | typeAssert x xt asserted ok =>
    simp only [vop] at h
    split at h
    · rename_i it st it' st' y ht hx
      split at h
      · rename_i hb
        rw [Bool.and_eq_true, decide_eq_true_eq, decide_eq_true_eq] at hb
        obtain ⟨rfl, rfl⟩ := hb
        have hu : a.eval x = anyV it' st' y := by
          have := hρ x
          rw [hx] at this
          simpa [RelV, RelD, RelV1, RelC] using this
        obtain ⟨rfl, u, hv, hrun⟩ := assert_ok (P := P) (E := E) (c := c) (hT _ _ ht).und h c.w
        exact goes_wp hK (Goes.pure hr hv (by simp [execOp, hu, hrun]))
      · exact (fail_ne h).elim
    · exact (fail_ne h).elim
  | _ => exact (fail_ne h).elim
end
end Go.Vm
end
section
namespace Go.Vm
open Go.RowKit
set_option linter.unusedVariables false
set_option linter.unusedSimpArgs false

def oneEv (G : Gam) (T : Tab) (o : Oper) (st : St) : Option (St × FP) :=
  ((vop G T o.dst (evalV st.tmp) o.op).ev st.mem ⟨[], []⟩).map fun p => (⟨putV st.tmp o.dst p.1, p.2.1⟩, p.2.2)
def guardEv (G : Gam) (T : Tab) (ops : Array Oper) (o : Oper) (st : St) : Option (St × FP) :=
  match o.guard with
  | none => oneEv G T o st
  | some (j, want) => match dstAt ops j with
    | some t => match st.tmp t with
      | .dat ⟨.bool, b⟩ => if b = want then oneEv G T o st else some (skipOp o st, ⟨[], []⟩)
      | .und => some (skipOp o st, ⟨[], []⟩)
      | _ => none
    | none => none
theorem oneOp_std {R : Type} (G : Gam) (T : Tab) (o : Oper) (st : St) (k : St → FP → Option R) : oneOp (Alg.std R) G T o st k = (oneEv G T o st).bind fun p => k p.1 p.2 := by
  unfold oneOp oneEv
  rw [Res.run_std]
  cases (vop G T o.dst (evalV st.tmp) o.op).ev st.mem ⟨[], []⟩ <;> rfl
theorem upd_same {α : Type} {f : Nat → α} {t : Nat} {v : α} (h : f t = v) : upd f t v = f := by
  funext i
  unfold upd
  cases hb : Nat.beq i t with
  | true => rw [Nat.eq_of_beq_eq_true hb, h]; rfl
  | false => rfl
theorem guardOp_std {R : Type} (G : Gam) (T : Tab) (ops : Array Oper) (o : Oper) (st : St) (k : St → FP → Option R) : guardOp (Alg.std R) G T ops o st k = (guardEv G T ops o st).bind fun p => k p.1 p.2 := by
  unfold guardOp guardEv
  cases o.guard with
  | none => exact oneOp_std G T o st k
  | some jw =>
    obtain ⟨j, want⟩ := jw
    simp only
    cases dstAt ops j with
    | none => rfl
    | some t =>
      simp only
      generalize hb : st.tmp t = tv
      split
      · rename_i b
        cases b <;> cases want
        · show oneOp (Alg.std R) G T o ⟨upd st.tmp t (boolV false), st.mem⟩ k = _
          rw [upd_same (show st.tmp t = boolV false from hb)]
          show _ = Option.bind (if false = false then _ else _) _
          rw [if_pos rfl]
          exact oneOp_std G T o st k
        · show k (skipOp o ⟨upd st.tmp t (boolV false), st.mem⟩) _ = _
          rw [upd_same (show st.tmp t = boolV false from hb)]
          rfl
        · show k (skipOp o ⟨upd st.tmp t (boolV true), st.mem⟩) _ = _
          rw [upd_same (show st.tmp t = boolV true from hb)]
          rfl
        · show oneOp (Alg.std R) G T o ⟨upd st.tmp t (boolV true), st.mem⟩ k = _
          rw [upd_same (show st.tmp t = boolV true from hb)]
          show _ = Option.bind (if true = true then _ else _) _
          rw [if_pos rfl]
          exact oneOp_std G T o st k
      · rfl
      · rename_i hne hne2
        first
          | rfl
          | (split
             · rename_i b
               exact (hne b rfl).elim
             · exact (hne2 rfl).elim
             · rfl)

section
variable (G : Gam) (T : Tab) (ops : Array Oper)
def Run (F : Nat → FP) : List Nat → St → St → Prop
  | [], s, s' => s = s'
  | i :: l, s, s' => ∃ o s1, ops[i]? = some o ∧ guardEv G T ops o s = some (s1, F i) ∧ Run F l s1 s'

theorem runOps_run {R : Type} (k : St → List FP → Option R) (r : R) : ∀ (os : List Oper) (n : Nat) (st : St) (acc : List FP), (∀ i o, os[i]? = some o → ops[n + i]? = some o) → acc.length = n →
    runOps (Alg.std R) G T ops os st acc k = some r → ∃ st' fps, k st' (acc.reverse ++ fps) = some r ∧ fps.length = os.length ∧
      ∀ F : Nat → FP, (∀ i f, fps[i]? = some f → F (n + i) = f) → Run G T ops F (List.range' n os.length) st st'
  | [], n, st, acc, _, _, h => ⟨st, [], by simpa [runOps] using h, rfl, fun _ _ => rfl⟩
  | o :: os, n, st, acc, ho, hn, h => by
    unfold runOps at h
    rw [guardOp_std] at h
    cases hg : guardEv G T ops o st with
    | none => rw [hg] at h; cases h
    | some p =>
      obtain ⟨s1, f⟩ := p
      rw [hg] at h
      obtain ⟨st', fps, hk, hl, hr⟩ := runOps_run k r os (n + 1) s1 (f :: acc) (fun i o' hi => by
        have := ho (i + 1) o' (by simpa using hi)
        rwa [← Nat.add_assoc, Nat.add_right_comm] at this) (by simp [hn]) h
      refine ⟨st', f :: fps, by simpa [List.reverse_cons, List.append_assoc] using hk, by simp [hl], fun F hF => ?_⟩
      rw [List.length_cons, List.range'_succ]
      refine ⟨o, s1, by simpa using ho 0 o rfl, ?_, hr F (fun i f' hi => ?_)⟩
      · rw [hg, ← hF 0 f rfl]; rfl
      · have := hF (i + 1) f' (by simpa using hi)
        rwa [← Nat.add_assoc, Nat.add_right_comm] at this
end

def SameAt (i : Nat) (m m' : Mem) : Prop := (∀ b, i = idB b → m.box b = m'.box b) ∧ ∀ a, i = idA a → m.arr a = m'.arr a
theorem SameAt.refl (i : Nat) (m : Mem) : SameAt i m m := ⟨fun _ _ => rfl, fun _ _ => rfl⟩
theorem SameAt.symm {i : Nat} {m m' : Mem} (h : SameAt i m m') : SameAt i m' m := ⟨fun b e => (h.1 b e).symm, fun a e => (h.2 a e).symm⟩
theorem SameAt.trans {i : Nat} {m m' m'' : Mem} (h : SameAt i m m') (k : SameAt i m' m'') : SameAt i m m'' := ⟨fun b e => (h.1 b e).trans (k.1 b e), fun a e => (h.2 a e).trans (k.2 a e)⟩
theorem idB_inj {a b : Nat} (h : idB a = idB b) : a = b := by unfold idB at h; omega
theorem idA_inj {a b : Nat} (h : idA a = idA b) : a = b := by unfold idA at h; omega
theorem idB_ne_idA {a b : Nat} (h : idB a = idA b) : False := by unfold idA idB at h; omega
theorem Mem.ext_same {m m' : Mem} (h : ∀ i, SameAt i m m') : m = m' := by
  obtain ⟨b, a⟩ := m
  obtain ⟨b', a'⟩ := m'
  have h1 : b = b' := funext fun i => (h (idB i)).1 i rfl
  have h2 : a = a' := funext fun i => (h (idA i)).2 i rfl
  rw [h1, h2]
theorem setB_at {m m' : Mem} {b : Nat} {x : Box} {i : Nat} (h : i ≠ idB b → SameAt i m m') : SameAt i (m.setB b x) (m'.setB b x) := by
  by_cases hi : i = idB b
  · subst hi
    exact ⟨fun b' e => by rw [← idB_inj e]; simp [Mem.setB, upd], fun a e => (idB_ne_idA e).elim⟩
  · obtain ⟨h1, h2⟩ := h hi
    refine ⟨fun b' e => ?_, h2⟩
    simp only [Mem.setB, upd]
    cases hb : Nat.beq b' b with
    | true => rfl
    | false => exact h1 b' e
theorem setA_at {m m' : Mem} {b : Nat} {x : AS} {i : Nat} (h : i ≠ idA b → SameAt i m m') : SameAt i (m.setA b x) (m'.setA b x) := by
  by_cases hi : i = idA b
  · subst hi
    exact ⟨fun a e => (idB_ne_idA e.symm).elim, fun b' e => by rw [← idA_inj e]; simp [Mem.setA, upd]⟩
  · obtain ⟨h1, h2⟩ := h hi
    refine ⟨h1, fun b' e => ?_⟩
    simp only [Mem.setA, upd]
    cases hb : Nat.beq b' b with
    | true => rfl
    | false => exact h2 b' e
theorem setB_off {m : Mem} {b : Nat} {x : Box} {i : Nat} (h : i ≠ idB b) : SameAt i m (m.setB b x) :=
  ⟨fun b' e => by
    simp only [Mem.setB, upd]
    cases hb : Nat.beq b' b with
    | true => exact absurd (by rw [e, Nat.eq_of_beq_eq_true hb]) h
    | false => rfl, fun _ _ => rfl⟩
theorem setA_off {m : Mem} {b : Nat} {x : AS} {i : Nat} (h : i ≠ idA b) : SameAt i m (m.setA b x) :=
  ⟨fun _ _ => rfl, fun b' e => by
    simp only [Mem.setA, upd]
    cases hb : Nat.beq b' b with
    | true => exact absurd (by rw [e, Nat.eq_of_beq_eq_true hb]) h
    | false => rfl⟩

theorem Res.reads {α : Type} : ∀ (r : Res α) (m : Mem) (fp : FP) (v : α) (m' : Mem) (fp' : FP), r.ev m fp = some (v, m', fp') → ∀ i, i ∈ fp.r → i ∈ fp'.r
  | .fail, _, _, _, _, _, h, _, _ => by cases h
  | .ok a, m, fp, v, m', fp', h, i, hi => by
    injection h with h; injection h with h1 h2; injection h2 with h2 h3; subst h3; exact hi
  | .br b x y, m, fp, v, m', fp', h, i, hi => by
    cases b
    · exact Res.reads y m fp v m' fp' h i hi
    · exact Res.reads x m fp v m' fp' h i hi
  | .call o f, m, fp, v, m', fp', h, i, hi => by
    cases o with
    | none => cases h
    | some u => exact Res.reads (f u) m fp v m' fp' h i hi
  | .getB b f, m, fp, v, m', fp', h, i, hi => Res.reads (f (m.box b)) m _ v m' fp' h i (List.mem_cons_of_mem _ hi)
  | .setB b x r, m, fp, v, m', fp', h, i, hi => Res.reads r _ _ v m' fp' h i hi
  | .getA a f, m, fp, v, m', fp', h, i, hi => Res.reads (f (m.arr a)) m _ v m' fp' h i (List.mem_cons_of_mem _ hi)
  | .setA a x r, m, fp, v, m', fp', h, i, hi => Res.reads r _ _ v m' fp' h i hi

theorem Res.frame {α : Type} : ∀ (r : Res α) (m m2 : Mem) (fp : FP) (v : α) (m' : Mem) (fp' : FP), r.ev m fp = some (v, m', fp') → (∀ i, i ∈ fp'.r → SameAt i m m2) →
    ∃ m2' nw, r.ev m2 fp = some (v, m2', fp') ∧ fp'.w = nw ++ fp.w ∧ (∀ i, i ∉ nw → SameAt i m m' ∧ SameAt i m2 m2') ∧ ∀ i, i ∈ nw → SameAt i m' m2'
  | .fail, _, _, _, _, _, _, h, _ => by cases h
  | .ok a, m, m2, fp, v, m', fp', h, hs => by
    injection h with h; injection h with h1 h2; injection h2 with h2 h3; subst h1 h2 h3
    exact ⟨m2, [], rfl, rfl, fun i _ => ⟨SameAt.refl i _, SameAt.refl i _⟩, fun i hi => by simp at hi⟩
  | .br b x y, m, m2, fp, v, m', fp', h, hs => by
    cases b
    · exact Res.frame y m m2 fp v m' fp' h hs
    · exact Res.frame x m m2 fp v m' fp' h hs
  | .call o f, m, m2, fp, v, m', fp', h, hs => by
    cases o with
    | none => cases h
    | some u => exact Res.frame (f u) m m2 fp v m' fp' h hs
  | .getB b f, m, m2, fp, v, m', fp', h, hs => by
    have hb : m.box b = m2.box b := (hs (idB b) (Res.reads (f (m.box b)) m ⟨idB b :: fp.r, fp.w⟩ v m' fp' h (idB b) List.mem_cons_self)).1 b rfl
    obtain ⟨m2', nw, h1, h2, h3, h4⟩ := Res.frame (f (m.box b)) m m2 _ v m' fp' h hs
    exact ⟨m2', nw, by simp only [Res.ev]; rw [← hb]; exact h1, h2, h3, h4⟩
  | .getA b f, m, m2, fp, v, m', fp', h, hs => by
    have hb : m.arr b = m2.arr b := (hs (idA b) (Res.reads (f (m.arr b)) m ⟨idA b :: fp.r, fp.w⟩ v m' fp' h (idA b) List.mem_cons_self)).2 b rfl
    obtain ⟨m2', nw, h1, h2, h3, h4⟩ := Res.frame (f (m.arr b)) m m2 _ v m' fp' h hs
    exact ⟨m2', nw, by simp only [Res.ev]; rw [← hb]; exact h1, h2, h3, h4⟩
  | .setB b x r, m, m2, fp, v, m', fp', h, hs => by
    obtain ⟨m2', nw, h1, h2, h3, h4⟩ := Res.frame r (m.setB b x) (m2.setB b x) _ v m' fp' h (fun i hi => setB_at fun _ => hs i hi)
    refine ⟨m2', nw ++ [idB b], h1, by rw [h2]; simp, fun i hi => ?_, fun i hi => ?_⟩
    · simp only [List.mem_append, List.mem_singleton, not_or] at hi
      exact ⟨(setB_off hi.2).trans (h3 i hi.1).1, (setB_off hi.2).trans (h3 i hi.1).2⟩
    · by_cases hn : i ∈ nw
      · exact h4 i hn
      · have hb : i = idB b := by simpa [hn] using hi
        exact ((h3 i hn).1.symm.trans (setB_at fun hne => absurd hb hne)).trans (h3 i hn).2
  | .setA b x r, m, m2, fp, v, m', fp', h, hs => by
    obtain ⟨m2', nw, h1, h2, h3, h4⟩ := Res.frame r (m.setA b x) (m2.setA b x) _ v m' fp' h (fun i hi => setA_at fun _ => hs i hi)
    refine ⟨m2', nw ++ [idA b], h1, by rw [h2]; simp, fun i hi => ?_, fun i hi => ?_⟩
    · simp only [List.mem_append, List.mem_singleton, not_or] at hi
      exact ⟨(setA_off hi.2).trans (h3 i hi.1).1, (setA_off hi.2).trans (h3 i hi.1).2⟩
    · by_cases hn : i ∈ nw
      · exact h4 i hn
      · have hb : i = idA b := by simpa [hn] using hi
        exact ((h3 i hn).1.symm.trans (setA_at fun hne => absurd hb hne)).trans (h3 i hn).2

section
variable {G : Gam} {T : Tab} {ops : Array Oper}
theorem vop_congr {dst : Option Tmp} {ρ ρ' : Operand → V} : ∀ (op : Op), (∀ x ∈ op.operands, ρ x = ρ' x) → vop G T dst ρ op = vop G T dst ρ' op := by
  have opt : ∀ (o : Option Operand), (∀ x ∈ o.toArray, ρ x = ρ' x) → o.map ρ = o.map ρ' := fun o h => by
    cases o with
    | none => rfl
    | some x => simp only [Option.map_some]; rw [h x (by simp)]
  have pairs : ∀ ps : Array (Nat × Operand), (∀ x ∈ (ps.toList.map (·.2)).toArray, ρ x = ρ' x) → (ps.toList.map fun p => (p.1, ρ p.2)) = ps.toList.map fun p => (p.1, ρ' p.2) := fun ps h =>
    List.map_congr_left fun p hp => by rw [h p.2 (by simpa using ⟨p.1, by simpa using hp⟩)]
  have arr : ∀ xs : Array Operand, (∀ x ∈ xs, ρ x = ρ' x) → xs.toList.map ρ = xs.toList.map ρ' := fun xs h => List.map_congr_left fun x hx => h x (by simpa using hx)
  intro op h
  cases op with
  | move x => simp only [vop]; rw [h x (by simp [Op.operands])]
  | assign x => simp only [vop]; rw [h x (by simp [Op.operands])]
  | pick c a b => simp only [vop]; rw [h c (by simp [Op.operands]), h a (by simp [Op.operands]), h b (by simp [Op.operands])]
  | alloc e => rfl
  | box e x => simp only [vop]; rw [h x (by simp [Op.operands])]
  | build t ps => simp only [vop]; rw [pairs ps (by simpa [Op.operands] using h)]
  | buildSlice t n ps => simp only [vop]; rw [pairs ps (by simpa [Op.operands] using h)]
  | load t x => simp only [vop]; rw [h x (by simp [Op.operands])]
  | store t a x => simp only [vop]; rw [h a (by simp [Op.operands]), h x (by simp [Op.operands])]
  | nilCheck x => simp only [vop]; rw [h x (by simp [Op.operands])]
  | binOp o t x y t' => simp only [vop]; rw [h x (by simp [Op.operands]), h y (by simp [Op.operands])]
  | unOp o t x => simp only [vop]; rw [h x (by simp [Op.operands])]
  | convert s d x => simp only [vop]; rw [h x (by simp [Op.operands])]
  | makeFunc fn first caps => simp only [vop]; rw [arr caps (fun x hx => h x (by simp [Op.operands, hx]))]
  | slice t x lo hi mx =>
    cases mx with
    | some _ => rfl
    | none =>
      simp only [vop]
      rw [h x (by simp [Op.operands]), opt lo (fun x hx => h x (by simp [Op.operands] at hx ⊢; simp [hx])), opt hi (fun x hx => h x (by simp [Op.operands] at hx ⊢; simp [hx]))]
  | fieldAddr s x f => simp only [vop]; rw [h x (by simp [Op.operands])]
  | field s x f => simp only [vop]; rw [h x (by simp [Op.operands])]
  | indexAddr t x i => simp only [vop]; rw [h x (by simp [Op.operands]), h i (by simp [Op.operands])]
  | index t x i => simp only [vop]; rw [h x (by simp [Op.operands]), h i (by simp [Op.operands])]
  | extract x i => simp only [vop]; rw [h x (by simp [Op.operands])]
  | makeMap t r =>
    cases r with
    | none => rfl
    | some _ => rfl
  | mapUpdate t m x y => simp only [vop]; rw [h m (by simp [Op.operands]), h x (by simp [Op.operands]), h y (by simp [Op.operands])]
  | lookup t m x ok => simp only [vop]; rw [h m (by simp [Op.operands]), h x (by simp [Op.operands])]
  | range t x => simp only [vop]; rw [h x (by simp [Op.operands])]
  | makeInterface t x => simp only [vop]; rw [h x (by simp [Op.operands])]
  | typeAssert x xt a ok => simp only [vop]; rw [h x (by simp [Op.operands])]
  | next x b =>
    cases b with
    | false => rfl
    | true => simp only [vop]; rw [h x (by simp [Op.operands])]
  | call cl =>
    obtain ⟨callee, args, ats⟩ := cl
    simp only [vop, callV]
    have hargs : args.toList.map ρ = args.toList.map ρ' := arr args (fun x hx => h x (by simp [Op.operands, Call.operands, hx]))
    cases callee with
    | builtin b => simp only; rw [hargs]
    | invoke r m => rfl
    | value f =>
      simp only
      rw [h f (by simp [Op.operands, Call.operands]), hargs]
      split
      · rfl
      · split
        · rename_i x hx
          rw [h x (by
            have : args = #[x] := by apply Array.ext'; exact hx
            simp [Op.operands, Call.operands, this])]
        · rfl
      · rfl
  | _ => rfl

theorem evalV_put {tmp : Nat → V} {dst : Option Tmp} {v : V} {x : Operand} (h : ∀ d, dst = some d → x ≠ .tmp d) : evalV (putV tmp dst v) x = evalV tmp x := by
  cases dst with
  | none => rfl
  | some d =>
    cases x with
    | tmp t =>
      simp only [evalV, putV, upd]
      cases hb : Nat.beq t d with
      | true => exact absurd (by rw [Nat.eq_of_beq_eq_true hb]) (h d rfl)
      | false => rfl
    | _ => rfl
theorem putV_comm {tmp : Nat → V} {x y : Option Tmp} {u v : V} (h : ∀ d, x = some d → y ≠ some d) : putV (putV tmp x u) y v = putV (putV tmp y v) x u := by
  cases x with
  | none => rfl
  | some d =>
    cases y with
    | none => rfl
    | some e =>
      have hne : d ≠ e := fun he => h d rfl (by rw [he])
      funext i
      simp only [putV, upd]
      cases h1 : Nat.beq i e with
      | true =>
        cases h2 : Nat.beq i d with
        | true => exact absurd ((Nat.eq_of_beq_eq_true h2).symm.trans (Nat.eq_of_beq_eq_true h1)) hne
        | false => rfl
      | false => rfl
theorem putV_at {tmp : Nat → V} {dst : Option Tmp} {v : V} {t : Tmp} (h : ∀ d, dst = some d → d ≠ t) : putV tmp dst v t = tmp t := by
  cases dst with
  | none => rfl
  | some d =>
    simp only [putV, upd]
    cases hb : Nat.beq t d with
    | true => exact absurd (Nat.eq_of_beq_eq_true hb).symm (h d rfl)
    | false => rfl

theorem guardEv_some {o : Oper} {st s1 : St} {f : FP} (h : guardEv G T ops o st = some (s1, f)) :
    (∃ v, s1.tmp = putV st.tmp o.dst v ∧ (vop G T o.dst (evalV st.tmp) o.op).ev st.mem ⟨[], []⟩ = some (v, s1.mem, f) ∧
      ∀ st' : St, (∀ d ∈ o.looksAt ops, st'.tmp d = st.tmp d) → guardEv G T ops o st' = oneEv G T o st') ∨
    (s1 = skipOp o st ∧ f = ⟨[], []⟩ ∧ ∀ st' : St, (∀ d ∈ o.looksAt ops, st'.tmp d = st.tmp d) → guardEv G T ops o st' = some (skipOp o st', ⟨[], []⟩)) := by
  have one : oneEv G T o st = some (s1, f) → ∃ v, s1.tmp = putV st.tmp o.dst v ∧ (vop G T o.dst (evalV st.tmp) o.op).ev st.mem ⟨[], []⟩ = some (v, s1.mem, f) := by
    intro h
    unfold oneEv at h
    cases he : (vop G T o.dst (evalV st.tmp) o.op).ev st.mem ⟨[], []⟩ with
    | none => rw [he] at h; cases h
    | some p =>
      rw [he] at h
      injection h with h
      injection h with h1 h2
      subst h1 h2
      exact ⟨p.1, rfl, rfl⟩
  unfold guardEv at h
  cases hg : o.guard with
  | none =>
    rw [hg] at h
    obtain ⟨v, h1, h2⟩ := one h
    exact .inl ⟨v, h1, h2, fun st' _ => by unfold guardEv; rw [hg]⟩
  | some jw =>
    obtain ⟨j, want⟩ := jw
    rw [hg] at h
    simp only at h
    cases hd : dstAt ops j with
    | none => rw [hd] at h; cases h
    | some t =>
      rw [hd] at h
      simp only at h
      have hlook : t ∈ o.looksAt ops := by
        unfold Oper.looksAt
        rw [hg]
        refine List.mem_append_right _ ?_
        unfold dstAt at hd
        simp only [hd]
        simp
      split at h
      · rename_i b hb
        split at h
        · rename_i hw
          obtain ⟨v, h1, h2⟩ := one h
          refine .inl ⟨v, h1, h2, fun st' hs => ?_⟩
          unfold guardEv
          rw [hg]
          simp only [hd, hs t hlook, hb, if_pos hw]
        · rename_i hw
          injection h with h
          injection h with h1 h2
          refine .inr ⟨h1.symm, h2.symm, fun st' hs => ?_⟩
          unfold guardEv
          rw [hg]
          simp only [hd, hs t hlook, hb, if_neg hw]
      · rename_i hb
        injection h with h
        injection h with h1 h2
        refine .inr ⟨h1.symm, h2.symm, fun st' hs => ?_⟩
        unfold guardEv
        rw [hg]
        simp only [hd, hs t hlook, hb]
      · cases h

def Ind (ops : Array Oper) (F : Nat → FP) (i j : Nat) : Prop := ∀ x y, ops[i]? = some x → ops[j]? = some y → x.apart ops y = true ∧ fpOk (F i) (F j) = true
theorem disj_spec {l m : List Nat} (h : disj l m = true) : ∀ i, i ∈ l → i ∉ m := fun i hi hm => by
  unfold disj at h
  have := List.all_eq_true.1 h i hi
  simp only [Bool.not_eq_true'] at this
  have h2 : (m.any fun y => Nat.beq i y) = true := List.any_eq_true.2 ⟨i, hm, Nat.beq_refl i⟩
  rw [h2] at this
  cases this
theorem operand_look {o : Oper} {x : Operand} (hx : x ∈ o.op.operands) {d : Tmp} (hd : d ∉ o.looksAt ops) : x ≠ .tmp d := fun e => by
  subst e
  exact hd (List.mem_append_left _ (List.mem_filterMap.2 ⟨.tmp d, by simpa using hx, rfl⟩))

theorem swap {F : Nat → FP} {i j : Nat} {s s2 : St} {l : List Nat} (hi : Ind ops F i j) (h : Run G T ops F (i :: j :: l) s s2) : Run G T ops F (j :: i :: l) s s2 := by
  obtain ⟨x, s1, hx, hgx, y, s3, hy, hgy, hrest⟩ := h
  obtain ⟨hap, hfp⟩ := hi x y hx hy
  obtain ⟨hax, hay, haz⟩ := Oper.apart_spec hap
  simp only [fpOk, Bool.and_eq_true] at hfp
  have dwr := disj_spec hfp.1.1
  have dww := disj_spec hfp.1.2
  have dwr' := disj_spec hfp.2
  have ytmp : ∀ v, ∀ d ∈ y.looksAt ops, putV s.tmp x.dst v d = s.tmp d := fun v d hd => putV_at fun d' hd' e => hax d' hd' (e ▸ hd)
  have xtmp : ∀ v, ∀ d ∈ x.looksAt ops, putV s.tmp y.dst v d = s.tmp d := fun v d hd => putV_at fun d' hd' e => haz d' hd' (e ▸ hd)
  have yop : ∀ v, vop G T y.dst (evalV (putV s.tmp x.dst v)) y.op = vop G T y.dst (evalV s.tmp) y.op := fun v => vop_congr _ fun z hz => evalV_put fun d hd => operand_look hz (hax d hd)
  have xop : ∀ v, vop G T x.dst (evalV (putV s.tmp y.dst v)) x.op = vop G T x.dst (evalV s.tmp) x.op := fun v => vop_congr _ fun z hz => evalV_put fun d hd => operand_look hz (haz d hd)
  rcases guardEv_some hgx with ⟨vx, ex, hvx, cx⟩ | ⟨ex, fx, cx⟩
  · rcases guardEv_some hgy with ⟨vy, ey, hvy, cy⟩ | ⟨ey, fy, cy⟩
    · -- both run
      rw [ex, yop] at hvy
      obtain ⟨_, nwx, _, hwx, hoffx, _⟩ := Res.frame _ s.mem s.mem ⟨[], []⟩ vx s1.mem (F i) hvx (fun i _ => SameAt.refl i _)
      simp only [List.append_nil] at hwx
      obtain ⟨my, nwy, hy1, hwy, hoffy, hony⟩ := Res.frame _ s1.mem s.mem ⟨[], []⟩ vy s3.mem (F j) hvy (fun k hk => (hoffx k (fun hn => dwr k (by rw [hwx]; exact hn) hk)).1.symm)
      simp only [List.append_nil] at hwy
      obtain ⟨mx, nwx2, hx1, hwx2, hoffx2, honx2⟩ := Res.frame _ s.mem my ⟨[], []⟩ vx s1.mem (F i) hvx (fun k hk => (hoffy k (fun hn => dwr' k (by rw [hwy]; exact hn) hk)).2)
      simp only [List.append_nil] at hwx2
      have hmem : mx = s3.mem := Mem.ext_same fun k => by
        by_cases hkx : k ∈ (F i).w
        · have hky : k ∉ nwy := by rw [← hwy]; exact dww k hkx
          exact (honx2 k (by rw [← hwx2]; exact hkx)).symm.trans (hoffy k hky).1
        · have hkx2 : k ∉ nwx2 := by rw [← hwx2]; exact hkx
          have hkx3 : k ∉ nwx := by rw [← hwx]; exact hkx
          by_cases hky : k ∈ (F j).w
          · exact (hoffx2 k hkx2).2.symm.trans (hony k (by rw [← hwy]; exact hky)).symm
          · have hky2 : k ∉ nwy := by rw [← hwy]; exact hky
            exact ((hoffx2 k hkx2).2.symm.trans (hoffy k hky2).2.symm).trans ((hoffx k hkx3).1.trans (hoffy k hky2).1)
      have e1 : oneEv G T y s = some (⟨putV s.tmp y.dst vy, my⟩, F j) := by unfold oneEv; rw [hy1]; rfl
      have e2 : oneEv G T x ⟨putV s.tmp y.dst vy, my⟩ = some (⟨putV (putV s.tmp y.dst vy) x.dst vx, mx⟩, F i) := by unfold oneEv; rw [xop, hx1]; rfl
      have g1 : guardEv G T ops y s = oneEv G T y s := cy s (fun d hd => by rw [ex]; exact (ytmp vx d hd).symm)
      have g2 : guardEv G T ops x ⟨putV s.tmp y.dst vy, my⟩ = oneEv G T x _ := cx _ (fun d hd => xtmp vy d hd)
      refine ⟨y, _, hy, g1.trans e1, x, _, hx, g2.trans e2, ?_⟩
      have hs3 : (⟨putV (putV s.tmp y.dst vy) x.dst vx, mx⟩ : St) = s3 := by
        obtain ⟨t3, m3⟩ := s3
        simp only at hmem ey
        rw [hmem, ey, ex, putV_comm hay]
      rw [hs3]
      exact hrest
    · -- y is passed by
      subst ey
      have g1 : guardEv G T ops y s = some (skipOp y s, ⟨[], []⟩) := cy s (fun d hd => by rw [ex]; exact (ytmp vx d hd).symm)
      have g2 : guardEv G T ops x (skipOp y s) = oneEv G T x _ := cx _ (fun d hd => xtmp .und d hd)
      have e2 : oneEv G T x (skipOp y s) = some (⟨putV (putV s.tmp y.dst .und) x.dst vx, s1.mem⟩, F i) := by unfold oneEv skipOp; rw [xop, hvx]; rfl
      refine ⟨y, _, hy, by rw [g1, fy], x, _, hx, g2.trans e2, ?_⟩
      have hs3 : (⟨putV (putV s.tmp y.dst .und) x.dst vx, s1.mem⟩ : St) = skipOp y s1 := by
        obtain ⟨t1, m1⟩ := s1
        simp only at ex
        unfold skipOp
        rw [ex, putV_comm hay]
      rw [hs3]
      exact hrest
  · subst ex
    rcases guardEv_some hgy with ⟨vy, ey, hvy, cy⟩ | ⟨ey, fy, cy⟩
    · unfold skipOp at hvy ey
      simp only at hvy ey
      rw [yop] at hvy
      have g1 : guardEv G T ops y s = oneEv G T y s := cy s (fun d hd => (ytmp .und d hd).symm)
      have e1 : oneEv G T y s = some (⟨putV s.tmp y.dst vy, s3.mem⟩, F j) := by unfold oneEv; rw [hvy]; rfl
      have g2 : guardEv G T ops x ⟨putV s.tmp y.dst vy, s3.mem⟩ = some (skipOp x _, ⟨[], []⟩) := cx _ (fun d hd => xtmp vy d hd)
      refine ⟨y, _, hy, g1.trans e1, x, _, hx, by rw [g2, fx], ?_⟩
      have hs3 : skipOp x ⟨putV s.tmp y.dst vy, s3.mem⟩ = s3 := by
        obtain ⟨t3, m3⟩ := s3
        simp only at ey
        unfold skipOp
        rw [ey, putV_comm hay]
      rw [hs3]
      exact hrest
    · subst ey
      have g1 : guardEv G T ops y s = some (skipOp y s, ⟨[], []⟩) := cy s (fun d hd => (ytmp .und d hd).symm)
      have g2 : guardEv G T ops x (skipOp y s) = some (skipOp x (skipOp y s), ⟨[], []⟩) := cx _ (fun d hd => xtmp .und d hd)
      refine ⟨y, _, hy, by rw [g1, fy], x, _, hx, by rw [g2, fx], ?_⟩
      have hs3 : skipOp x (skipOp y s) = skipOp y (skipOp x s) := by
        unfold skipOp
        rw [putV_comm hay]
      rw [hs3]
      exact hrest
theorem front {F : Nat → FP} {i : Nat} {l : List Nat} : ∀ {r : List Nat} {s s' : St}, (∀ k ∈ r, Ind ops F k i) → Run G T ops F (r ++ i :: l) s s' → Run G T ops F (i :: r ++ l) s s'
  | [], _, _, _, h => h
  | k :: r, s, s', hk, h => by
    obtain ⟨o, s1, ho, hg, hr⟩ := h
    have := front (fun k' hk' => hk k' (List.mem_cons_of_mem _ hk')) hr
    exact swap (hk k List.mem_cons_self) ⟨o, s1, ho, hg, this⟩
end
end Go.Vm
end
section
namespace Go.Vm
open Go.RowKit
set_option linter.unusedVariables false
set_option linter.unusedSimpArgs false

structure Inv (P : Program) (E : Env) (n : Nat) (st : St) (c : Cx) (a : Act) : Prop where
  m : c.m = st.mem
  rel : Rel E c
  tmp : ∀ t, RelV P E c (st.tmp t) (a.tmps.getD t undef)
  def_ : a.defers = []
  n : a.tmps.size = n

section
variable {P : Program} {T : Tab} {E : Env} {G : Gam} {n : Nat} {ops : Array Oper} {Q : Exit → Act → World → Prop}

theorem Inv.put {st : St} {c c' : Cx} {a : Act} {dst : Option Tmp} {v : V} {u : Value} {m' : Mem} (h : Inv P E n st c a) (hm : c'.m = m') (hr : Rel E c') (he : Ext c c') (hv : RelV P E c' v u)
    (hd : ∀ d, dst = some d → d < n) : Inv P E n ⟨putV st.tmp dst v, m'⟩ c' (a.put dst u) := by
  refine ⟨hm, hr, fun t => ?_, ?_, ?_⟩
  · cases dst with
    | none => exact (h.tmp t).ext he
    | some d =>
      have hlt : d < a.tmps.size := by rw [h.n]; exact hd d rfl
      simp only [putV, upd, Act.put]
      cases hb : Nat.beq t d with
      | true =>
        have := Nat.eq_of_beq_eq_true hb
        subst this
        simp only [cond_true]
        have : (a.tmps.setIfInBounds t u).getD t undef = u := by simp [hlt]
        rw [this]; exact hv
      | false =>
        simp only [cond_false]
        have hne : d ≠ t := fun e => by subst e; simp at hb
        have : (a.tmps.setIfInBounds d u).getD t undef = a.tmps.getD t undef := by simp [Array.getElem?_setIfInBounds_ne hne]
        rw [this]; exact (h.tmp t).ext he
  · cases dst <;> simp [Act.put, h.def_]
  · cases dst <;> simp [Act.put, h.n]

theorem op_wp (hT : TabOk P T) (hG : ∀ f s, G f = some s → SpecOk P f s) {st s1 : St} {c : Cx} {a : Act} (inv : Inv P E n st c a) {i : Nat} {o : Oper} (hi : ops[i]? = some o) (hd : ∀ d, o.dst = some d → d < n) {f : FP}
    (h : guardEv G T ops o st = some (s1, f)) {K : Act → World → Prop} (hK : ∀ c' a', Inv P E n s1 c' a' → K a' c'.w) : wpOp P ops Q i K a c.w := by
  have one : oneEv G T o st = some (s1, f) → o.wp P a c.w K Q := by
    intro h1
    unfold oneEv at h1
    cases he : (vop G T o.dst (evalV st.tmp) o.op).ev st.mem ⟨[], []⟩ with
    | none => rw [he] at h1; cases h1
    | some p =>
      rw [he] at h1
      injection h1 with h1
      injection h1 with h1 h2
      subst h1 h2
      obtain ⟨v, m', fp'⟩ := p
      rw [← inv.m] at he
      exact vop_ok hT hG inv.rel (fun x => evalV_ok inv.tmp x) he (fun c' u hm hr hx hv => hK c' _ (inv.put hm hr hx hv hd))
  have skip : K (a.put o.dst undef) c.w → True := fun _ => trivial
  unfold wpOp
  simp only [hi]
  unfold guardEv at h
  cases hg : o.guard with
  | none =>
    rw [hg] at h
    have hw : Region.wanted o (yielded ops a.tmps) = true := by unfold Region.wanted; rw [hg]
    rw [if_pos hw]
    exact .inl (one h)
  | some jw =>
    obtain ⟨j, want⟩ := jw
    rw [hg] at h
    simp only at h
    cases hj : dstAt ops j with
    | none => rw [hj] at h; cases h
    | some t =>
      rw [hj] at h
      simp only at h
      split at h
      · rename_i b hb
        have hv := inv.tmp t
        rw [hb] at hv
        have hbv := relV_bool hv
        have hy : yielded ops a.tmps j = some b := by
          unfold yielded
          unfold dstAt at hj
          rw [hj]
          simp only [Option.bind_some]
          have : a.tmps[t]? = some (.bool b) := by
            cases hx : a.tmps[t]? with
            | none =>
              have : a.tmps.getD t undef = undef := by simp [hx]
              rw [this] at hbv
              cases hbv
            | some z =>
              have : a.tmps.getD t undef = z := by simp [hx]
              rw [this] at hbv
              rw [hbv]
          rw [this]
        have hw : Region.wanted o (yielded ops a.tmps) = decide (b = want) := by
          unfold Region.wanted
          rw [hg]
          simp only [hy]
          cases b <;> cases want <;> rfl
        rw [hw]
        split at h
        · rename_i hbw
          rw [if_pos (by simpa using hbw)]
          exact .inl (one h)
        · rename_i hbw
          rw [if_neg (by simpa using hbw)]
          injection h with h
          injection h with h1 h2
          subst h1
          exact hK c _ (inv.put inv.m inv.rel (Ext.refl c) rfl hd)
      · rename_i hb
        have hv := inv.tmp t
        rw [hb] at hv
        have hv' : a.tmps.getD t undef = undef := hv
        have hy : yielded ops a.tmps j = none := by
          unfold yielded
          unfold dstAt at hj
          rw [hj]
          simp only [Option.bind_some]
          cases hx : a.tmps[t]? with
          | none => rfl
          | some z =>
            have : a.tmps.getD t undef = z := by simp [hx]
            rw [this] at hv'
            rw [hv']
            rfl
        have hw : Region.wanted o (yielded ops a.tmps) = false := by
          unfold Region.wanted
          rw [hg]
          simp only [hy]
          rfl
        rw [hw, if_neg (by simp)]
        injection h with h
        injection h with h1 h2
        subst h1
        exact hK c _ (inv.put inv.m inv.rel (Ext.refl c) rfl hd)
      · cases h

theorem run_wp (hT : TabOk P T) (hG : ∀ f s, G f = some s → SpecOk P f s) (hd : ∀ (i : Nat) (o : Oper) (d : Tmp), ops[i]? = some o → o.dst = some d → d < n) {F : Nat → FP} {st' : St} (hQ : ∀ c a, Inv P E n st' c a → Q .normal a c.w) :
    ∀ (l : List Nat) (st : St) (c : Cx) (a : Act), Inv P E n st c a → Run G T ops F l st st' → wpOps P ops Q l a c.w
  | [], st, c, a, inv, h => by
    have : st = st' := h
    subst this
    exact hQ c a inv
  | i :: l, st, c, a, inv, ⟨o, s1, ho, hg, hr⟩ => by
    rw [wpOps_cons]
    exact op_wp hT hG inv ho (fun d hdd => hd i o d ho hdd) hg (fun c' a' inv' => run_wp hT hG hd hQ l s1 c' a' inv' hr)

def foldBits (o : Oper) (pre : List Nat) : Nat := o.after.toList.foldl (fun s e => bif Region.binds .any e then s ||| 2 ^ e.on ||| pre.getD e.on 0 else s) 0
theorem aheadGo_spec : ∀ (os : List Oper) (acc : List Nat), ∃ tail, aheadGo os acc = acc ++ tail ∧ tail.length = os.length ∧ ∀ i o, os[i]? = some o → tail[i]? = some (foldBits o ((acc ++ tail).take (acc.length + i)))
  | [], acc => ⟨[], by simp [aheadGo], rfl, fun i o h => by simp at h⟩
  | o :: os, acc => by
    obtain ⟨tail, h1, h2, h3⟩ := aheadGo_spec os (acc ++ [foldBits o acc])
    refine ⟨foldBits o acc :: tail, ?_, by simp [h2], fun i o' hi => ?_⟩
    · show aheadGo os (acc ++ [foldBits o acc]) = _
      rw [h1]; simp [List.append_assoc]
    · cases i with
      | zero =>
        have : o = o' := by simpa using hi
        subst this
        simp
      | succ i =>
        have := h3 i o' (by simpa using hi)
        simp only [List.getElem?_cons_succ, this, List.length_append, List.length_singleton, List.append_assoc, List.singleton_append]
        congr 3
        omega
theorem foldBits_test (pre : List Nat) : ∀ (l : List Edge) (s : Nat) (i : Nat), (l.foldl (fun s e => bif Region.binds .any e then s ||| 2 ^ e.on ||| pre.getD e.on 0 else s) s).testBit i = true →
    s.testBit i = true ∨ ∃ e ∈ l, Region.binds .any e = true ∧ (e.on = i ∨ (pre.getD e.on 0).testBit i = true)
  | [], s, i, h => .inl h
  | e :: l, s, i, h => by
    rcases foldBits_test pre l _ i h with h1 | ⟨e', he', hb, hh⟩
    · simp only at h1
      cases hb : Region.binds .any e with
      | false => rw [hb] at h1; exact .inl h1
      | true =>
        rw [hb] at h1
        simp only [cond_true, Nat.testBit_or, Bool.or_eq_true, Nat.testBit_two_pow, decide_eq_true_eq] at h1
        rcases h1 with (h1 | h1) | h1
        · exact .inl h1
        · exact .inr ⟨e, List.mem_cons_self, hb, .inl h1⟩
        · exact .inr ⟨e, List.mem_cons_self, hb, .inr h1⟩
    · exact .inr ⟨e', List.mem_cons_of_mem _ he', hb, hh⟩

def bitsOf (ops : Array Oper) : List Nat := aheadGo ops.toList []
def Listed (l : Array Bool) (i : Nat) : Prop := l.getD i false = true
def Closed (ops : Array Oper) (l : Array Bool) : Prop := ∀ i o, ops[i]? = some o → Listed l i → ∀ e ∈ o.after.toList, Region.binds .any e = true → Listed l e.on
theorem back_spec (h : backB ops = true) {i : Nat} {o : Oper} (ho : ops[i]? = some o) {e : Edge} (he : e ∈ o.after.toList) (hb : Region.binds .any e = true) : e.on < i := by
  unfold backB at h
  have hm : (o, i) ∈ ops.toList.zipIdx := by
    rw [List.mem_iff_getElem?]
    exact ⟨i, by simp [List.getElem?_zipIdx, ho]⟩
  have := List.all_eq_true.1 h _ hm
  have := List.all_eq_true.1 this e he
  simpa [hb] using this
theorem ahead_listed (hback : backB ops = true) {l : Array Bool} (hc : Closed ops l) : ∀ (j : Nat) (o : Oper), ops[j]? = some o → (∀ e ∈ o.after.toList, Region.binds .any e = true → Listed l e.on) →
    ∀ i, ((bitsOf ops).getD j 0).testBit i = true → Listed l i := by
  intro j
  induction j using Nat.strongRecOn with
  | _ j ih =>
    intro o ho hall i hi
    obtain ⟨tail, h1, h2, h3⟩ := aheadGo_spec ops.toList []
    have hb : bitsOf ops = tail := by unfold bitsOf; rw [h1]; rfl
    have hj := h3 j o (by rw [Array.getElem?_toList]; exact ho)
    rw [hb, List.getD_eq_getElem?_getD, hj] at hi
    simp only [Option.getD_some, List.nil_append, List.length_nil, Nat.zero_add] at hi
    rcases foldBits_test _ _ _ _ hi with h | ⟨e, he, hbd, hh⟩
    · simp at h
    · rcases hh with rfl | hh
      · exact hall e he hbd
      · have hlt := back_spec hback ho he hbd
        have hl := hall e he hbd
        rw [List.getD_eq_getElem?_getD, List.getElem?_take_of_lt hlt, ← List.getD_eq_getElem?_getD, ← hb] at hh
        cases hoe : ops[e.on]? with
        | none =>
          have : tail.length ≤ e.on := by
            rw [h2, Array.length_toList]
            exact Array.getElem?_eq_none_iff.1 hoe
          rw [hb, List.getD_eq_getElem?_getD, List.getElem?_eq_none this] at hh
          simp at hh
        | some oe => exact ih e.on hlt oe hoe (fun e' he' hb' => hc e.on oe hoe hl e' he' hb') i hh

theorem indep_spec {fps : List FP} (h : indep ops fps = true) {F : Nat → FP} (hF : ∀ i f, fps[i]? = some f → F i = f) (hl : fps.length = ops.size) {i j : Nat} (hij : i < j) (hnb : ((bitsOf ops).getD j 0).testBit i = false) : Ind ops F i j := by
  intro x y hx hy
  unfold indep at h
  simp only at h
  have hjs : j < ops.size := (Array.getElem?_eq_some_iff.1 hy).1
  have his : i < ops.size := by omega
  obtain ⟨fj, hfj⟩ : ∃ f, fps[j]? = some f := ⟨fps[j]'(by omega), List.getElem?_eq_getElem (by omega)⟩
  obtain ⟨fi, hfi⟩ : ∃ f, fps[i]? = some f := ⟨fps[i]'(by omega), List.getElem?_eq_getElem (by omega)⟩
  have hrj : (ops.toList.zip fps)[j]? = some (y, fj) := by
    rw [List.getElem?_zip_eq_some]
    exact ⟨by rw [Array.getElem?_toList]; exact hy, hfj⟩
  have hri : (ops.toList.zip fps)[i]? = some (x, fi) := by
    rw [List.getElem?_zip_eq_some]
    exact ⟨by rw [Array.getElem?_toList]; exact hx, hfi⟩
  have hmj : ((y, fj), j) ∈ (ops.toList.zip fps).zipIdx := by
    rw [List.mem_iff_getElem?]
    exact ⟨j, by simp [List.getElem?_zipIdx, hrj]⟩
  have h1 := List.all_eq_true.1 h _ hmj
  have hmi : ((x, fi), i) ∈ ((ops.toList.zip fps).take j).zipIdx := by
    rw [List.mem_iff_getElem?]
    exact ⟨i, by simp [List.getElem?_zipIdx, List.getElem?_take_of_lt hij, hri]⟩
  have h2 := List.all_eq_true.1 h1 _ hmi
  simp only [Bool.or_eq_true, Bool.and_eq_true] at h2
  rcases h2 with h2 | h2
  · have : ((bitsOf ops).getD j 0).testBit i = true := h2
    rw [hnb] at this; cases this
  · rw [hF i fi hfi, hF j fj hfj]
    exact h2

theorem ready_spec {l : Array Bool} (hs : l.size = ops.size) {i : Nat} (h : i ∈ Region.ready .any ops l) : i < ops.size ∧ ¬ Listed l i ∧ ∃ o, ops[i]? = some o ∧ ∀ e ∈ o.after.toList, Region.binds .any e = true → Listed l e.on := by
  unfold Region.ready at h
  rw [List.mem_filter, List.mem_range] at h
  obtain ⟨hlt, h⟩ := h
  simp only [Bool.and_eq_true, Bool.not_eq_true'] at h
  obtain ⟨h1, h2⟩ := h
  refine ⟨hlt, ?_, ops[i], by simp [hlt], ?_⟩
  · unfold Listed
    have hli : i < l.size := by omega
    simp [hli] at h1 ⊢
    exact h1
  · simp only [Array.getElem?_eq_getElem hlt, Option.map_some, Option.getD_some] at h2
    intro e he hb
    have := Array.all_eq_true_iff_forall_mem.1 h2 e (by simpa using he)
    simpa [hb, Listed] using this

theorem any_wp (hT : TabOk P T) (hG : ∀ f s, G f = some s → SpecOk P f s) (hd : ∀ (i : Nat) (o : Oper) (d : Tmp), ops[i]? = some o → o.dst = some d → d < n) (hback : backB ops = true) {F : Nat → FP}
    (hind : ∀ i j, i < j → ((bitsOf ops).getD j 0).testBit i = false → Ind ops F i j) {st' : St} (hQ : ∀ c a, Inv P E n st' c a → Q .normal a c.w) :
    ∀ (fuel : Nat) (l : Array Bool) (r : List Nat) (st : St) (c : Cx) (a : Act), l.size = ops.size → Closed ops l → (∀ i, i ∈ r ↔ i < ops.size ∧ ¬ Listed l i) → r.Pairwise (· < ·) → r.length ≤ fuel → Inv P E n st c a →
    Run G T ops F r st st' → wpAny P .any ops Q fuel l a c.w := by
  have none_left : ∀ (l : Array Bool) (r : List Nat), l.size = ops.size → (∀ i, i ∈ r ↔ i < ops.size ∧ ¬ Listed l i) → r.Pairwise (· < ·) → Region.ready .any ops l = [] → r = [] := by
    intro l r hs hr hp he
    cases r with
    | nil => rfl
    | cons i r =>
      exfalso
      obtain ⟨hlt, hnl⟩ := (hr i).1 List.mem_cons_self
      have hmem : i ∈ Region.ready .any ops l := by
        unfold Region.ready
        rw [List.mem_filter, List.mem_range]
        refine ⟨hlt, ?_⟩
        simp only [Bool.and_eq_true, Bool.not_eq_true']
        constructor
        · unfold Listed at hnl
          have hli : i < l.size := by omega
          simp [hli] at hnl ⊢
          exact hnl
        · simp only [Array.getElem?_eq_getElem hlt, Option.map_some, Option.getD_some]
          rw [Array.all_eq_true_iff_forall_mem]
          intro e he
          cases hb : Region.binds .any e with
          | false => rfl
          | true =>
            have hlt2 := back_spec hback (i := i) (o := ops[i]) (by simp [hlt]) (e := e) (by simpa using he) hb
            simp only [Bool.not_true, Bool.false_or]
            by_cases hl : Listed l e.on
            · exact hl
            · exfalso
              have hm := (hr e.on).2 ⟨by omega, hl⟩
              rcases List.mem_cons.1 hm with h | h
              · omega
              · have := (List.pairwise_cons.1 hp).1 _ h
                omega
      rw [he] at hmem
      simp at hmem
  intro fuel
  induction fuel with
  | zero =>
    intro l r st c a hs hc hr hp hlen inv hrun
    have : r = [] := List.eq_nil_of_length_eq_zero (by omega)
    subst this
    have : st = st' := hrun
    subst this
    refine ⟨?_, hQ c a inv⟩
    rw [List.eq_nil_iff_forall_not_mem]
    intro i hi
    obtain ⟨h1, h2, _⟩ := ready_spec hs hi
    have := (hr i).2 ⟨h1, h2⟩
    simp at this
  | succ fuel ih =>
    intro l r st c a hs hc hr hp hlen inv hrun
    refine ⟨fun he => ?_, fun i hi => ?_⟩
    · have := none_left l r hs hr hp he
      subst this
      have : st = st' := hrun
      subst this
      exact hQ c a inv
    · obtain ⟨hlt, hnl, o, ho, hall⟩ := ready_spec hs hi
      have hir : i ∈ r := (hr i).2 ⟨hlt, hnl⟩
      obtain ⟨r1, r2, rfl⟩ := List.append_of_mem hir
      have hp1 := List.pairwise_append.1 hp
      have hfront : Run G T ops F (i :: r1 ++ r2) st st' := by
        refine front (fun k hk => ?_) hrun
        have hki : k < i := hp1.2.2 k hk i List.mem_cons_self
        refine hind k i hki ?_
        cases hb : ((bitsOf ops).getD i 0).testBit k with
        | false => rfl
        | true =>
          exfalso
          exact ((hr k).1 (List.mem_append_left _ hk)).2 (ahead_listed hback hc i o ho hall k hb)
      obtain ⟨o', s1, ho', hg, hrest⟩ := hfront
      refine op_wp hT hG inv ho' (fun d hdd => hd i o' d ho' hdd) hg (fun c' a' inv' => ?_)
      have hset : ∀ k, Listed (l.setIfInBounds i true) k ↔ k = i ∨ Listed l k := by
        intro k
        unfold Listed
        by_cases hk : k = i
        · subst hk
          have : k < l.size := by omega
          simp [this]
        · simp [Array.getElem?_setIfInBounds_ne (Ne.symm hk), hk]
      refine ih (l.setIfInBounds i true) (r1 ++ r2) s1 c' a' (by simpa using hs) ?_ ?_ ?_ ?_ inv' hrest
      · intro k ok hok hk e he hb
        rw [hset] at hk ⊢
        rcases hk with rfl | hk
        · rw [ho] at hok
          injection hok with hok
          subst hok
          exact .inr (hall e he hb)
        · exact .inr (hc k ok hok hk e he hb)
      · intro k
        have hk := hr k
        rw [hset]
        simp only [List.mem_append, List.mem_cons] at hk ⊢
        constructor
        · intro hm
          have h1 : k < ops.size ∧ ¬ Listed l k := hk.1 (by rcases hm with h | h <;> simp [h])
          refine ⟨h1.1, ?_⟩
          rintro (rfl | h)
          · rcases hm with h | h
            · have := hp1.2.2 k h k List.mem_cons_self; omega
            · have := (List.pairwise_cons.1 hp1.2.1).1 k h; omega
          · exact h1.2 h
        · rintro ⟨h1, h2⟩
          have := hk.2 ⟨h1, fun h => h2 (.inr h)⟩
          rcases this with h | h | h
          · exact .inl h
          · exact absurd (.inl h) h2
          · exact .inr h
      · rw [List.pairwise_append]
        exact ⟨hp1.1, (List.pairwise_cons.1 hp1.2.1).2, fun x hx y hy => hp1.2.2 x hx y (List.mem_cons_of_mem _ hy)⟩
      · simp only [List.length_append, List.length_cons] at hlen ⊢
        omega

theorem region_ok {R : Type} (hT : TabOk P T) (hG : ∀ f s, G f = some s → SpecOk P f s) (hmix : P.follows .mixedOrders = true) {draw : Bool} {id : Nat} {st : St} {k : St → Option R} {r : R}
    (h : region (Alg.std R) G T n ops draw st k = some r) {c : Cx} {a : Act} (inv : Inv P E n st c a) (hQ : ∀ st' c' a', k st' = some r → Inv P E n st' c' a' → Q .normal a' c'.w) :
    (Code.region id ops draw).wp P Q a c.w := by
  unfold region at h
  split at h
  · cases h
  · rename_i hdb
    have hd : ∀ (i : Nat) (o : Oper) (d : Tmp), ops[i]? = some o → o.dst = some d → d < n := fun i o d ho hdd => by
      unfold dstB at hdb
      have := List.all_eq_true.1 hdb o (by rw [List.mem_iff_getElem?]; exact ⟨i, by rw [Array.getElem?_toList]; exact ho⟩)
      rw [hdd] at this
      exact of_decide_eq_true this
    obtain ⟨st', fps, hk, hl, hrun⟩ := runOps_run G T ops _ r ops.toList 0 st [] (fun i o ho => by rw [Nat.zero_add, ← Array.getElem?_toList]; exact ho) rfl h
    have hF : ∀ i f, fps[i]? = some f → (fun i => fps.getD i ⟨[], []⟩) (0 + i) = f := fun i f hf => by simp [List.getD_eq_getElem?_getD, hf]
    have hr := hrun (fun i => fps.getD i ⟨[], []⟩) hF
    have hrange : List.range' 0 ops.toList.length = List.range ops.size := by rw [Array.length_toList, ← List.range_eq_range']
    rw [hrange] at hr
    simp only [List.reverse_nil, List.nil_append] at hk
    cases draw with
    | false =>
      simp only at hk
      exact wp_region (run_wp hT hG hd (fun c' a' inv' => hQ st' c' a' hk inv') _ st c a inv hr)
    | true =>
      simp only at hk
      split at hk
      · rename_i hc
        simp only [Bool.and_eq_true] at hc
        refine wp_region_any hmix ?_
        have hb := below_ok inv.rel (w' := { c.w with drawn := c.w.drawn + 1 }) ⟨rfl, rfl, rfl, Nat.le_refl _, fun _ _ => rfl⟩ (S' := c.S) (fun _ h => h) (fun _ h => .inl h)
        have inv' : Inv P E n st { c with w := { c.w with drawn := c.w.drawn + 1 } } a := ⟨inv.m, hb.1, fun t => (inv.tmp t).ext hb.2, inv.def_, inv.n⟩
        refine any_wp hT hG hd hc.2 (F := fun i => fps.getD i ⟨[], []⟩) (fun i j hij hnb => indep_spec hc.1 (fun i f hf => by simp [List.getD_eq_getElem?_getD, hf]) (by rw [hl, Array.length_toList]) hij hnb)
          (fun c' a' inv'' => hQ st' c' a' hk inv'') ops.size (Array.replicate ops.size false) (List.range ops.size) st _ a (by simp) ?_ ?_ List.pairwise_lt_range (by simp) inv' hr
        · intro i o ho hl' e he hbd
          unfold Listed at hl'
          have : i < ops.size := (Array.getElem?_eq_some_iff.1 ho).1
          simp [this] at hl'
        · intro i
          rw [List.mem_range]
          refine ⟨fun hi => ⟨hi, fun hl' => ?_⟩, fun hi => hi.1⟩
          unfold Listed at hl'
          simp [hi] at hl'
      · cases hk
end
end Go.Vm
end
section
namespace Go.Vm
open Go.RowKit
set_option linter.unusedVariables false
set_option linter.unusedSimpArgs false

section
variable {P : Program} {T : Tab} {E : Env} {G : Gam} {n : Nat}

theorem notmem_of_disj {l m : List Nat} (h : disj l m = true) {i : Nat} (hi : i ∈ l) : i ∉ m := disj_spec h i hi
theorem nodup_cons {x : Nat} {l : List Nat} (h : nodupB (x :: l) = true) : x ∉ l ∧ nodupB l = true := by
  simp only [nodupB, Bool.and_eq_true, Bool.not_eq_true'] at h
  refine ⟨fun hm => ?_, h.2⟩
  have : (l.any fun y => Nat.beq x y) = true := List.any_eq_true.2 ⟨x, hm, Nat.beq_refl x⟩
  rw [this] at h
  cases h.1

def cutS (c : Cx) (O : List Nat) : Nat → Prop := fun b => c.S b ∨ (∃ a A, c.m.arr a = .at_ A ∧ A.open_ = true ∧ a ∉ O ∧ (c.ar a).ownBlock = some b) ∨ ∃ a M, c.m.arr a = .mp M ∧ a ∉ O ∧ c.ar a = .map (some b)

theorem readD_ok {c : Cx} (hr : Rel E c) {O : List Nat} {t : Ty} {x : V} {u : Value} (hx : RelV P E c x u) (hO : ∀ a, x = .own a → a ∉ O) {y : t.den} (h : readD t c.m x = some y) : RelD c.w (cutS c O) t y u := by
  have hS : ∀ b, c.S b → cutS c O b := fun b hb => .inl hb
  cases x with
  | dat d =>
    simp only [readD] at h
    split at h
    · rename_i he
      obtain ⟨dt, dx⟩ := d
      simp only at he
      subst he
      injection h with h
      subst h
      exact RelD.move (S := c.S) (fun _ _ => rfl) hS hx
    · cases h
  | agg d nl =>
    simp only [readD] at h
    split at h
    · rename_i he
      obtain ⟨dt, dx⟩ := d
      simp only at he
      subst he
      injection h with h
      subst h
      exact RelD.move (S := c.S) (fun _ _ => rfl) hS hx.1
    · cases h
  | nils =>
    cases t with
    | sl e t =>
      simp only [readD] at h
      injection h with h
      subst h
      have : u = .slice none 0 0 := hx
      subst this
      exact ⟨none, 0, rfl, Nat.le_refl _, fun hp => absurd hp (Nat.lt_irrefl 0)⟩
    | _ => cases h
  | nili =>
    cases t with
    | any it st =>
      simp only [readD] at h
      injection h with h
      subst h
      show [u] = [Value.nilIface]
      rw [show u = .nilIface from hx]
    | _ => cases h
  | ifv i d => cases h
  | ifp i b p pt => cases h
  | prow l => cases h
  | own a =>
    simp only [readD] at h
    cases ha : c.m.arr a with
    | no => rw [ha] at h; cases h
    | dead => rw [ha] at h; cases h
    | mp M =>
      rw [ha] at h
      simp only at h
      split at h
      · rename_i he
        subst he
        injection h with h
        subst h
        have hu : u = c.ar a := hx.2.2 M ha
        subst hu
        obtain ⟨hk, hv, g, es, cl, e, h0, hS', hh, hE⟩ := hr.ms.mps a M ha
        refine .inr ⟨g, es, cl, by rw [e], .inr (.inr ⟨a, M, ha, hO a rfl, e⟩), hh, hE.imp (fun _ _ hh => RelC.flat (keyT_flat hk) hh) (fun _ _ hh => RelC.flat (valT_flat hv) hh)⟩
      · cases h
    | at_ A =>
      rw [ha] at h
      simp only at h
      split at h
      · rename_i he
        subst he
        injection h with h
        subst h
        have hu : u = c.ar a := hx.2.1 A ha
        subst hu
        have hA := hr.arr a A ha
        unfold RelA at hA
        split at hA
        · rename_i ho
          obtain ⟨inner, h1, h2, h3⟩ := hA
          rcases h1.2 with ⟨hv, hn⟩ | ⟨g, cap, cur, hv, hb, hh, hle, _⟩
          · refine ⟨none, 0, ?_, Nat.le_of_eq hn, fun hp => absurd hp (by show ¬ 0 < A.xs.length; omega)⟩
            show [c.ar a] = [Value.slice none A.xs.length 0]
            rw [hv, hn]
          · refine ⟨some ⟨g, 0, none⟩, cap, by rw [hv]; rfl, hle, fun _ => ⟨⟨g, 0, none⟩, inner, rfl, .inr (.inl ⟨a, A, ha, ho, hO a rfl, by rw [hv]; rfl⟩), h1.1, ?_, h2.imp (fun _ _ hh => hh.move (fun _ _ => rfl) hS)⟩⟩
            exact fun i u hu => h1.cells (g := g) (by rw [hv]; rfl) i u hu
        · exact RelC.move (fun _ _ => rfl) hS hA
      · cases h
  | bad => cases h
  | und => cases h
  | ptr b p t' => cases h
  | rptr d => cases h
  | clo f cs => cases h
  | fnp a r g => cases h
  | fnc a r g => cases h

structure CutInv (P : Program) (E : Env) (n : Nat) (c : Cx) (a : Act) (O : List Nat) (st : St) (cs : List CK) (st' : St) (c' : Cx) : Prop where
  m : c'.m = st'.mem
  w : c'.w = c.w
  S : c'.S = cutS c O
  rel : Rel E c'
  tmp : ∀ t, RelV P E c' (st'.tmp t) (a.tmps.getD t undef)
  box : ∀ b B, c'.m.box b = some B → c'.bx b = c.bx b ∧ (∃ B0, c.m.box b = some B0 ∧ B0.t = B.t) ∧ boxIn b cs = true
  boxR : ∀ b ty, boxB b ty cs = true → ∃ B, c'.m.box b = some B ∧ B.t = ty ∧ c'.bx b = c.bx b
  arr : ∀ i A, c'.m.arr i = .at_ A → (∃ t, i = t + ownBase ∧ ownIn t cs = true) ∧ ((c'.ar i).ownBlock = none ∨ ∃ a0 A0, a0 ∈ ownsOf st cs ∧ c.m.arr a0 = .at_ A0 ∧ A0.open_ = true ∧ c'.ar i = c.ar a0)
  dead : ∀ i, c'.m.arr i ≠ .no → ∃ t, i = t + ownBase ∧ ownIn t cs = true
  mps : ∀ i M, c'.m.arr i = .mp M → ∃ a0 M0, a0 ∈ ownsOf st cs ∧ c.m.arr a0 = .mp M0 ∧ c'.ar i = c.ar a0
  hole : ∀ b i u, holeB b i u cs = true → ∃ B', c'.m.box b = some B' ∧ (i, .hole) ∈ B'.lk ∧ (∃ ct, B'.t = .st ct ∧ chainTy ct i = some u) ∧ c'.bx b = c.bx b

theorem cut_base {c : Cx} {st : St} {a : Act} (inv : Inv P E n st c a) (O : List Nat) : CutInv P E n c a O st [] St.empty { c with S := cutS c O, m := St.empty.mem } := by
  have hr := inv.rel
  refine ⟨rfl, rfl, rfl, ⟨hr.os, hr.tape, hr.output, hr.size, hr.keep, fun b hb => .inl (hr.old b hb), ?_, ?_, ?_, ?_, ?_, ?_, ?_, ?_, ⟨fun a M h => (by cases h), fun a a' M M' h => (by cases h)⟩⟩, fun t => trivial, ?_, ?_, ?_, ?_, fun i M h => (by cases h), fun b i u h => (by cases h)⟩
  · rintro b (hb | ⟨i, A, hA, ho, _, hb⟩ | ⟨i, M, hM, _, hb⟩)
    · exact hr.lt b hb
    · exact hr.arrLt hA ho hb
    · obtain ⟨_, _, g, _, _, e, _, _, hh, _⟩ := hr.ms.mps i M hM
      rw [hb] at e
      injection e with e
      injection e with e
      subst e
      exact (Array.getElem?_eq_some_iff.1 hh).1
  · rintro b (hb | ⟨i, A, hA, ho, _, hb⟩ | ⟨i, M, hM, _, hb⟩)
    · exact hr.new b hb
    · have := hr.arr i A hA
      unfold RelA at this
      rw [if_pos ho] at this
      obtain ⟨_, h1, _⟩ := this
      exact .inr (h1.lt b hb).1
    · obtain ⟨_, _, g, _, _, e, h0, _⟩ := hr.ms.mps i M hM
      rw [hb] at e
      injection e with e
      injection e with e
      subst e
      exact .inr h0
  · intro b B h; cases h
  · intro b h; exact absurd rfl h
  · intro b B h; cases h
  · intro b b' h; exact absurd rfl h
  · intro b b' A A' g h; cases h
  · intro b i A h; exact absurd rfl h
  · intro b B h; cases h
  · intro b ty h; cases h
  · intro i A h; cases h
  · intro i h; exact absurd rfl h

theorem boxIn_of_boxB {b : Nat} {ty : Ty} : ∀ {cs : List CK}, boxB b ty cs = true → boxIn b cs = true
  | .box b' t' _ :: cs, h => by
    simp only [boxB, Bool.or_eq_true, Bool.and_eq_true] at h
    simp only [boxIn, Bool.or_eq_true]
    rcases h with h | h
    · exact .inl h.1
    · exact .inr (boxIn_of_boxB h)
  | .tmp _ _ :: cs, h => boxIn_of_boxB (cs := cs) h
  | .rptr _ _ :: cs, h => boxIn_of_boxB (cs := cs) h
  | .fnp _ _ _ :: cs, h => boxIn_of_boxB (cs := cs) h
  | .clo _ _ _ :: cs, h => boxIn_of_boxB (cs := cs) h
  | .own _ _ _ :: cs, h => boxIn_of_boxB (cs := cs) h
  | .mapo _ _ _ :: cs, h => boxIn_of_boxB (cs := cs) h
  | .ptr _ _ _ :: cs, h => boxIn_of_boxB (cs := cs) h
  | .lnk _ _ _ _ _ :: cs, h => boxIn_of_boxB (cs := cs) h

theorem caps_ok {c c' : Cx} {cs : List CK} (hS : SameOn c.S c.w c'.w) (hSS : ∀ b, c.S b → c'.S b) (hbox : ∀ b ty, boxB b ty cs = true → ∃ B, c'.m.box b = some B ∧ B.t = ty ∧ c'.bx b = c.bx b) :
    ∀ {ks : List CapK} {caps : List Cap} {vs : List Value} {l : capden ks}, capsB cs ks = true → readCaps ks caps = some l → RelCaps c caps vs → RelCaps c' (putCaps ks l) vs
  | [], [], vs, l, _, _, h => h
  | .ptr b ty :: ks, .ptr b' ty' :: caps, _, l, hb, hr, ⟨v, vs, rfl, h0, h1⟩ => by
    simp only [capsB, Bool.and_eq_true] at hb
    simp only [readCaps] at hr
    split at hr
    · rename_i hc
      simp only [Bool.and_eq_true, decide_eq_true_eq] at hc
      obtain ⟨hb1, rfl⟩ := hc
      have := Nat.eq_of_beq_eq_true hb1
      subst this
      obtain ⟨B', hB', ht', hbx⟩ := hbox b ty' hb.1
      exact ⟨v, vs, rfl, ⟨⟨B', hB', ht'⟩, by rw [hbx]; exact h0.2⟩, caps_ok hS hSS hbox hb.2 hr h1⟩
    · cases hr
  | .dat ty :: ks, .dat d :: caps, _, l, hb, hr, ⟨v, vs, rfl, h0, h1⟩ => by
    simp only [readCaps] at hr
    split at hr
    · rename_i he
      obtain ⟨dt, dx⟩ := d
      simp only at he
      subst he
      split at hr
      · rename_i l' hl'
        injection hr with hr
        subst hr
        exact ⟨v, vs, rfl, RelD.move (S := c.S) hS hSS h0, caps_ok hS hSS hbox hb hl' h1⟩
      · cases hr
    · cases hr
  | [], _ :: _, _, _, _, hr, _ => by cases hr
  | .ptr _ _ :: _, [], _, _, _, hr, _ => by cases hr
  | .dat _ :: _, [], _, _, _, hr, _ => by cases hr
  | .ptr _ _ :: _, .dat _ :: _, _, _, _, hr, _ => by cases hr
  | .dat _ :: _, .ptr _ _ :: _, _, _, _, hr, _ => by cases hr

theorem nodup_of : ∀ {l : List Nat}, nodupB l = true → l.Nodup
  | [], _ => List.nodup_nil
  | x :: l, h => by
    obtain ⟨h1, h2⟩ := nodup_cons h
    exact List.nodup_cons.2 ⟨h1, nodup_of h2⟩
theorem RelB.holes {c : Cx} {B : Box} {cs : List Value} (h : RelB c B cs) {hs : List Nat} (hh : holesB B.lk hs = true) (hn : hs.Nodup) : RelB c ⟨B.t, B.x, hs.map fun i => (i, .hole)⟩ cs := by
  obtain ⟨cs', hc, hl, hj, hnd, hk⟩ := h
  simp only [holesB, Bool.and_eq_true] at hh
  obtain ⟨h1, h2⟩ := hh
  refine ⟨cs', hc, hl, fun j hjn => ?_, by simpa [Function.comp_def] using hn, fun e he => ?_⟩
  · by_cases hm : ∀ e ∈ B.lk, fldOff B.t e.1 ≠ j
    · exact hj j hm
    · simp only [Classical.not_forall, Classical.not_not] at hm
      obtain ⟨e, he, rfl⟩ := hm
      have := (List.all_eq_true.1 h1) e he
      simp only [Bool.or_eq_true] at this
      obtain ⟨_, k2, k3⟩ := hk e he
      rcases this with hnil | hin
      · cases hl : e.2 with
        | nil => rw [hl] at k3; rw [k2]; exact k3
        | own a => rw [hl] at hnil; cases hnil
        | hole => rw [hl] at hnil; cases hnil
      · obtain ⟨i, hi, hie⟩ := List.any_eq_true.1 hin
        have := Nat.eq_of_beq_eq_true hie
        exact absurd (by show fldOff B.t i = _; rw [this]) (hjn (i, .hole) (List.mem_map.2 ⟨i, hi, rfl⟩))
  · obtain ⟨i, hi, rfl⟩ := List.mem_map.1 he
    have := (List.all_eq_true.1 h2) i hi
    cases hl : lkAt B.lk i with
    | none => rw [hl] at this; cases this
    | some l =>
      obtain ⟨k1, k2, _⟩ := hk _ (lkAt_some hl)
      exact ⟨k1, k2, trivial⟩
theorem CutInv.arrNo {c c' : Cx} {a : Act} {O : List Nat} {st st' : St} {cs : List CK} (ci : CutInv P E n c a O st cs st' c') {t : Nat} (h : ownIn t cs = false) : c'.m.arr (t + ownBase) = .no := by
  have key : c'.m.arr (t + ownBase) ≠ .no → False := fun hn => by
    obtain ⟨t', h1, h2⟩ := ci.dead (t + ownBase) hn
    have : t = t' := by omega
    subst this
    rw [h2] at h; cases h
  cases hn : c'.m.arr (t + ownBase) with
  | no => rfl
  | dead => exact (key (by rw [hn]; simp)).elim
  | at_ A => exact (key (by rw [hn]; simp)).elim
  | mp A => exact (key (by rw [hn]; simp)).elim
theorem own_loose {c c' : Cx} {a : Act} {O : List Nat} {st st' : St} {cs : List CK} (inv : Inv P E n st c a) (ci : CutInv P E n c a O st cs st' c') {a0 : Nat} {A : Arr} (hac : c.m.arr a0 = .at_ A) (ho : A.open_ = true) (hnm : a0 ∉ ownsOf st cs) (hO : a0 ∈ O) :
    Loose E c' A.e A.t A.xs (c.ar a0) := by
  have hr := inv.rel
  have hS : ∀ b, c.S b → cutS c O b := fun b hb => .inl hb
  have hA := hr.arr a0 A hac
  unfold RelA at hA
  rw [if_pos ho] at hA
  obtain ⟨inner, h1, h2, h3⟩ := hA
  refine ⟨⟨inner, by rw [ci.w]; exact h1, by rw [ci.w, ci.S]; exact h2.imp (fun _ _ h => h.move (fun _ _ => rfl) hS)⟩, fun g hg => ⟨?_, ?_, ?_⟩⟩
  · rw [ci.S]
    rintro (h | ⟨i, A', hA', ho', hni, hg'⟩ | ⟨i, M, hM, hni, hg'⟩)
    · exact h3 g hg h
    · have := hr.aa a0 i _ A' g hac hA' ho ho' hg hg'
      subst this
      exact hni hO
    · obtain ⟨_, _, g2, _, _, e2, _, _, hh2, _⟩ := hr.ms.mps i M hM
      rw [hg'] at e2
      injection e2 with e2
      injection e2 with e2
      subst e2
      rcases h1.2 with ⟨hv', _⟩ | ⟨g3, cap3, cur3, hv', hb3, hh3, _⟩
      · rw [hv'] at hg; cases hg
      · rw [hv'] at hg
        have : g3 = g := by simpa [Value.ownBlock] using hg
        subst this
        rw [hh3] at hh2; cases hh2
  · intro b hb e'
    cases hn : c'.m.box b with
    | none => exact hb hn
    | some B' =>
      obtain ⟨g1, ⟨B0, g2, _⟩, g3⟩ := ci.box b B' hn
      rw [g1] at e'
      exact hr.ba b a0 _ (by rw [g2]; simp) hac ho (by rw [hg, e'])
  · intro i A' hA' ho' hg'
    rcases (ci.arr i A' hA').2 with h | ⟨a1, A1, k1, k2, k3, k4⟩
    · rw [h] at hg'; cases hg'
    · rw [k4] at hg'
      have := hr.aa a0 a1 _ A1 g hac k2 ho k3 hg hg'
      subst this
      exact hnm k1

theorem cut_ok' {c : Cx} {st : St} {a : Act} (inv : Inv P E n st c a) (O : List Nat) : ∀ (cs : List CK) (l : cden cs), cutOk cs = true → nodupB (ownsOf st cs) = true → (∀ x ∈ ownsOf st cs, x ∈ O) → (∀ x ∈ datsOf st cs, x ∉ O) →
    readCs st cs = some l → ∃ c', CutInv P E n c a O st cs (putCs cs l) c'
  | [], l, _, _, _, _, _ => ⟨_, cut_base inv O⟩
  | k :: cs, (x, l), hok, hnd, hO, hD, hrd => by
    have hr := inv.rel
    simp only [readCs] at hrd
    split at hrd
    · rename_i x' l' hx hl
      injection hrd with hrd
      injection hrd with h1 h2
      subst h1 h2
      have hS : ∀ b, c.S b → cutS c O b := fun b hb => .inl hb
      cases k with
      | rptr t ty =>
        obtain ⟨c', ci⟩ := cut_ok' inv O cs l' hok hnd hO hD hl
        refine ⟨c', ci.m, ci.w, ci.S, ci.rel, fun i => ?_, ci.box, ci.boxR, ci.arr, ci.dead, ci.mps, ci.hole⟩
        simp only [putCs, putC, upd]
        cases hb : Nat.beq i t with
        | false => exact ci.tmp i
        | true =>
          have := Nat.eq_of_beq_eq_true hb
          subst this
          have hp := inv.tmp i
          simp only [readC] at hx
          split at hx
          · rename_i d hv
            rw [hv] at hp
            split at hx
            · rename_i he
              obtain ⟨dt, dx⟩ := d
              simp only at he
              subst he
              injection hx with hx
              subst hx
              show RelP c'.w c'.S _ _ _
              rw [ci.w, ci.S]
              exact RelP.move (S := c.S) (fun _ _ => rfl) hS hp
            · cases hx
          · cases hx
      | fnp t aa rr =>
        obtain ⟨c', ci⟩ := cut_ok' inv O cs l' hok hnd hO hD hl
        refine ⟨c', ci.m, ci.w, ci.S, ci.rel, fun i => ?_, ci.box, ci.boxR, ci.arr, ci.dead, ci.mps, ci.hole⟩
        simp only [putCs, putC, upd]
        cases hb : Nat.beq i t with
        | false => exact ci.tmp i
        | true =>
          have := Nat.eq_of_beq_eq_true hb
          subst this
          have hp := inv.tmp i
          simp only [readC] at hx
          split at hx
          · rename_i a' r' g hv
            rw [hv] at hp
            split at hx
            · rename_i he
              obtain ⟨rfl, rfl⟩ := he
              injection hx with hx
              subst hx
              exact hp
            · cases hx
          · cases hx
      | clo t f ks =>
        simp only [cutOk, Bool.and_eq_true] at hok
        obtain ⟨c', ci⟩ := cut_ok' inv O cs l' hok.2 hnd hO hD hl
        refine ⟨c', ci.m, ci.w, ci.S, ci.rel, fun i => ?_, ci.box, ci.boxR, ci.arr, ci.dead, ci.mps, ci.hole⟩
        simp only [putCs, putC, upd]
        cases hb : Nat.beq i t with
        | false => exact ci.tmp i
        | true =>
          have := Nat.eq_of_beq_eq_true hb
          subst this
          have hp := inv.tmp i
          simp only [readC] at hx
          split at hx
          · rename_i f' caps hv
            rw [hv] at hp
            split at hx
            · rename_i he
              have := Nat.eq_of_beq_eq_true he
              subst this
              obtain ⟨cv, he2, hk⟩ := hp
              exact ⟨cv, he2, caps_ok (c := c) (c' := c') (fun b _ => by rw [ci.w]) (fun b hb => by rw [ci.S]; exact hS b hb) ci.boxR hok.1 hx hk⟩
            · cases hx
          · cases hx
      | tmp t ty =>
        have hO' : ∀ y ∈ ownsOf st cs, y ∈ O := hO
        obtain ⟨c', ci⟩ := cut_ok' inv O cs l' hok hnd hO' (fun y hy => hD y (by
          simp only [datsOf]
          split
          · exact List.mem_cons_of_mem _ hy
          · exact hy)) hl
        refine ⟨c', ci.m, ci.w, ci.S, ci.rel, fun i => ?_, ci.box, ci.boxR, ci.arr, ci.dead, ci.mps, ci.hole⟩
        simp only [putCs, putC, upd]
        cases hb : Nat.beq i t with
        | false => exact ci.tmp i
        | true =>
          have := Nat.eq_of_beq_eq_true hb
          subst this
          have hrd : RelD c.w (cutS c O) ty x' (a.tmps.getD i undef) := by
            refine readD_ok hr (inv.tmp i) (fun z hz => hD z ?_) (by rw [inv.m]; exact hx)
            simp only [datsOf, hz]
            exact List.mem_cons_self
          show RelD c'.w c'.S ty x' _
          rw [ci.w, ci.S]
          exact hrd
      | ptr t b ty =>
        simp only [cutOk, Bool.and_eq_true] at hok
        obtain ⟨c', ci⟩ := cut_ok' inv O cs l' hok.2 hnd hO hD hl
        refine ⟨c', ci.m, ci.w, ci.S, ci.rel, fun i => ?_, ci.box, ci.boxR, ci.arr, ci.dead, ci.mps, ci.hole⟩
        simp only [putCs, putC, upd]
        cases hb : Nat.beq i t with
        | false => exact ci.tmp i
        | true =>
          have := Nat.eq_of_beq_eq_true hb
          subst this
          simp only [readC] at hx
          split at hx
          · rename_i b' ty' hv
            split at hx
            · rename_i hc
              simp only [Bool.and_eq_true, decide_eq_true_eq] at hc
              obtain ⟨hb1, rfl⟩ := hc
              have := Nat.eq_of_beq_eq_true hb1
              subst this
              have hp := inv.tmp i
              rw [hv] at hp
              obtain ⟨B, hB, hpt, _, he⟩ := hp
              obtain ⟨B', hB', ht', hbx⟩ := ci.boxR b ty' hok.1
              refine ⟨B', hB', by rw [ht']; rfl, trivial, ?_⟩
              rw [he, hbx]
              rfl
            · cases hx
          · cases hx
      | box b ty hs =>
        simp only [cutOk, Bool.and_eq_true, Bool.not_eq_true'] at hok
        obtain ⟨c', ci⟩ := cut_ok' inv O cs l' hok.2 hnd hO hD hl
        simp only [readC] at hx
        cases hB : st.mem.box b with
        | none => rw [hB] at hx; cases hx
        | some B =>
          rw [hB] at hx
          simp only at hx
          split at hx
          case h_2 => cases hx
          rename_i hholes
          split at hx
          · rename_i hty
            obtain ⟨Bt, Bx, Bl⟩ := B
            simp only at hty
            subst hty
            injection hx with hx
            subst hx
            have hBc : c.m.box b = some ⟨Bt, Bx, Bl⟩ := by rw [inv.m]; exact hB
            have hbr := hr.box b _ hBc
            have hlt := hr.boxLt hBc
            have hnone : c'.m.box b = none := by
              cases hn : c'.m.box b with
              | none => rfl
              | some B' =>
                have := (ci.box b B' hn).2.2
                rw [this] at hok
                cases hok.1.1
            obtain ⟨r2, e2⟩ := addBox_ok ci.rel hnone (t := Bt) (x := Bx) (lk := hs.map fun i => (i, .hole)) (g := c.bx b) (by rw [ci.w]; exact hlt) (by
              rw [ci.w]
              rcases hbr with ⟨hit, hl0⟩ | ⟨cells, tid, hh, hc⟩
              · refine .inl ⟨hit, ?_⟩
                simp only at hl0
                subst hl0
                cases hs with
                | nil => rfl
                | cons i hs => simp [holesB, lkAt] at hholes
              · refine .inr ⟨cells, tid, hh, ?_⟩
                obtain ⟨cs', k1, k2, k3, k4, k5⟩ := hc.holes hholes (nodup_of hok.1.2)
                exact ⟨cs', by rw [ci.w, ci.S]; exact RelC.move (S := c.S) (fun _ _ => rfl) hS k1, k2, k3, k4, fun e he => ⟨(k5 e he).1, (k5 e he).2.1, by
                  obtain ⟨i, _, rfl⟩ := List.mem_map.1 he
                  trivial⟩⟩) (hr.priv b (by rw [hBc]; simp)).1
              (by
                rw [ci.S]
                rintro (h | ⟨i, A, hA, ho, _, hg⟩ | ⟨i, M, hM, _, hg⟩)
                · exact (hr.priv b (by rw [hBc]; simp)).2 h
                · exact hr.ba b i A (by rw [hBc]; simp) hA ho hg
                · obtain ⟨_, _, g, _, _, e, _, _, hh', _⟩ := hr.ms.mps i M hM
                  rw [hg] at e
                  injection e with e
                  injection e with e
                  subst e
                  exact hbr.notMap hh')
              (fun b' hb' e => by
                cases hn : c'.m.box b' with
                | none => exact hb' hn
                | some B' =>
                  obtain ⟨g1, g2, g3⟩ := ci.box b' B' hn
                  rw [g1] at e
                  have := hr.bb b' b (by rw [g2.choose_spec.1]; simp) (by rw [hBc]; simp) e
                  subst this
                  rw [g3] at hok
                  cases hok.1.1)
              (fun i A hA ho hg => by
                rcases (ci.arr i A hA).2 with h | ⟨a0, A0, _, h2, h3, h4⟩
                · rw [h] at hg; cases hg
                · rw [h4] at hg
                  exact hr.ba b a0 A0 (by rw [hBc]; simp) h2 h3 hg)
            refine ⟨{ c' with bx := upd c'.bx b (c.bx b), m := c'.m.setB b ⟨Bt, Bx, hs.map fun i => (i, .hole)⟩ }, ?_, ci.w, ci.S, r2, fun i => (ci.tmp i).ext e2, ?_, ?_, ci.arr, ci.dead, ci.mps, ?_⟩
            · show c'.m.setB b ⟨Bt, Bx, hs.map fun i => (i, .hole)⟩ = (putCs cs l').mem.setB b ⟨Bt, Bx, hs.map fun i => (i, .hole)⟩
              rw [ci.m]
            · intro b' B' hB'
              simp only [Mem.setB, upd] at hB' ⊢
              cases hbb : Nat.beq b' b with
              | true =>
                have := Nat.eq_of_beq_eq_true hbb
                subst this
                rw [hbb] at hB'
                injection hB' with hB'
                subst hB'
                exact ⟨rfl, ⟨_, hBc, rfl⟩, by simp [boxIn]⟩
              | false =>
                rw [hbb] at hB'
                obtain ⟨g1, g2, g3⟩ := ci.box b' B' hB'
                exact ⟨g1, g2, by simp [boxIn, g3]⟩
            · intro b' ty hbt
              simp only [boxB, Bool.or_eq_true, Bool.and_eq_true, decide_eq_true_eq] at hbt
              simp only [Mem.setB, upd]
              cases hbb : Nat.beq b' b with
              | true =>
                have := Nat.eq_of_beq_eq_true hbb
                subst this
                rcases hbt with ⟨_, rfl⟩ | hbt
                · exact ⟨_, rfl, rfl, rfl⟩
                · have := boxIn_of_boxB hbt
                  rw [this] at hok
                  cases hok.1.1
              | false =>
                rcases hbt with ⟨h1, _⟩ | hbt
                · rw [h1] at hbb; cases hbb
                · exact ci.boxR b' ty hbt
            · intro b' i u hbt
              simp only [holeB] at hbt
              simp only [Mem.setB, upd]
              cases hbb : Nat.beq b' b with
              | true =>
                have := Nat.eq_of_beq_eq_true hbb
                subst this
                rw [hbb] at hbt
                simp only [cond_true, Bool.and_eq_true] at hbt
                obtain ⟨h1, h2⟩ := hbt
                obtain ⟨j, hj, hji⟩ := List.any_eq_true.1 h1
                have := Nat.eq_of_beq_eq_true hji
                subst this
                refine ⟨_, rfl, List.mem_map.2 ⟨j, hj, rfl⟩, ?_, rfl⟩
                cases Bt with
                | st ct => exact ⟨ct, rfl, of_decide_eq_true h2⟩
                | _ => cases h2
              | false =>
                rw [hbb] at hbt
                exact ci.hole b' i u hbt
          · cases hx
      | own t e ty =>
        simp only [cutOk, Bool.and_eq_true, Bool.not_eq_true'] at hok
        have fin : ∀ c' u, CutInv P E n c a O st cs (putCs cs l') c' → Loose E c' e ty x' u → a.tmps.getD t undef = u → (u.ownBlock = none ∨ ∃ a0 A0, a0 ∈ ownsOf st (.own t e ty :: cs) ∧ c.m.arr a0 = .at_ A0 ∧ A0.open_ = true ∧ u = c.ar a0) →
            (∀ y ∈ ownsOf st cs, y ∈ ownsOf st (.own t e ty :: cs)) → ∃ c', CutInv P E n c a O st (.own t e ty :: cs) (putCs (.own t e ty :: cs) (x', l')) c' := by
          intro c' u ci hl2 hu hsrc hsub
          obtain ⟨r2, e2⟩ := addArr_ok ci.rel (ci.arrNo hok.1) hl2
          refine ⟨{ c' with ar := upd c'.ar (t + ownBase) u, m := c'.m.setA (t + ownBase) (.at_ ⟨e, ty, x', true⟩) }, ?_, ci.w, ci.S, r2, fun i => ?_, ci.box, ci.boxR, ?_, ?_, fun i M hM => ?_, ci.hole⟩
          · show c'.m.setA _ _ = (putCs cs l').mem.setA _ _
            rw [ci.m]
          · simp only [putCs, putC, upd]
            cases hb : Nat.beq i t with
            | false => exact (ci.tmp i).ext e2
            | true =>
              have := Nat.eq_of_beq_eq_true hb
              subst this
              refine ⟨by simp [Mem.setA, upd], fun A hA => ?_, fun M hM => by simp [Mem.setA, upd] at hM⟩
              rw [hu]
              simp [upd]
          · intro i A hA
            simp only [Mem.setA, upd] at hA ⊢
            cases hb : Nat.beq i (t + ownBase) with
            | true =>
              have := Nat.eq_of_beq_eq_true hb
              subst this
              exact ⟨⟨t, rfl, by simp [ownIn]⟩, hsrc⟩
            | false =>
              rw [hb] at hA
              obtain ⟨⟨t', h1, h2⟩, h3⟩ := ci.arr i A hA
              refine ⟨⟨t', h1, by simp [ownIn, h2]⟩, ?_⟩
              rcases h3 with h3 | ⟨a0, A0, k1, k2, k3, k4⟩
              · exact .inl h3
              · exact .inr ⟨a0, A0, hsub a0 k1, k2, k3, k4⟩
          · intro i hi
            simp only [Mem.setA, upd] at hi
            cases hb : Nat.beq i (t + ownBase) with
            | true =>
              have := Nat.eq_of_beq_eq_true hb
              exact ⟨t, this, by simp [ownIn]⟩
            | false =>
              rw [hb] at hi
              obtain ⟨t', h1, h2⟩ := ci.dead i hi
              exact ⟨t', h1, by simp [ownIn, h2]⟩
          · simp only [Mem.setA, upd] at hM ⊢
            cases hb : Nat.beq i (t + ownBase) with
            | true => rw [hb] at hM; cases hM
            | false =>
              rw [hb] at hM
              obtain ⟨a0, M0, k1, k2, k3⟩ := ci.mps i M hM
              exact ⟨a0, M0, hsub a0 k1, k2, k3⟩
        simp only [readC] at hx
        split at hx
        · rename_i hv
          injection hx with hx
          subst hx
          have hos : ownsOf st (.own t e ty :: cs) = ownsOf st cs := by simp only [ownsOf, hv]
          rw [hos] at hnd hO
          obtain ⟨c', ci⟩ := cut_ok' inv O cs l' hok.2 hnd hO hD hl
          have hp := inv.tmp t
          rw [hv] at hp
          have hu : a.tmps.getD t undef = .slice none 0 0 := hp
          exact fin c' _ ci ⟨⟨[], World.ownsRow_nil _ _ _ _, rfl⟩, fun g hg => by cases hg⟩ hu (.inl rfl) (fun y hy => by rw [hos]; exact hy)
        · rename_i a0 hv
          cases ha : st.mem.arr a0 with
          | no => rw [ha] at hx; cases hx
          | dead => rw [ha] at hx; cases hx
          | mp M => rw [ha] at hx; cases hx
          | at_ A =>
            rw [ha] at hx
            simp only at hx
            split at hx
            · rename_i ho
              split at hx
              · rename_i hty
                injection hx with hx
                subst hx
                have hos : ownsOf st (.own t e ty :: cs) = a0 :: ownsOf st cs := by simp only [ownsOf, hv]
                rw [hos] at hnd hO
                obtain ⟨hnm, hnd'⟩ := nodup_cons hnd
                obtain ⟨c', ci⟩ := cut_ok' inv O cs l' hok.2 hnd' (fun y hy => hO y (List.mem_cons_of_mem _ hy)) hD hl
                have hac : c.m.arr a0 = .at_ A := by rw [inv.m]; exact ha
                have hp := inv.tmp t
                rw [hv] at hp
                have hu : a.tmps.getD t undef = c.ar a0 := hp.2.1 A hac
                have hl2 := own_loose inv ci hac ho hnm (hO a0 List.mem_cons_self)
                obtain ⟨Ae, At, Ax, Ao⟩ := A
                simp only [Ty.sl.injEq] at hty
                obtain ⟨q1, q2⟩ := hty
                subst q1 q2
                exact fin c' _ ci hl2 hu (.inr ⟨a0, _, by rw [hos]; exact List.mem_cons_self, hac, ho, rfl⟩) (fun y hy => by rw [hos]; exact List.mem_cons_of_mem _ hy)
              · cases hx
            · cases hx
        · cases hx
      | lnk t b i e ty =>
        simp only [cutOk, Bool.and_eq_true, Bool.not_eq_true'] at hok
        have fin : ∀ c' u, CutInv P E n c a O st cs (putCs cs l') c' → Loose E c' e ty x' u → (∀ cells tid, c.w.heap[c.bx b]? = some (.cells cells tid (0, 0)) → ∀ ct, c.m.box b ≠ none → (∃ B0, c.m.box b = some B0 ∧ B0.t = .st ct) → cells.toList[fldOff (.st ct) i]? = some u) → (u.ownBlock = none ∨ ∃ a0 A0, a0 ∈ ownsOf st (.lnk t b i e ty :: cs) ∧ c.m.arr a0 = .at_ A0 ∧ A0.open_ = true ∧ u = c.ar a0) →
            (∀ y ∈ ownsOf st cs, y ∈ ownsOf st (.lnk t b i e ty :: cs)) → ∃ c', CutInv P E n c a O st (.lnk t b i e ty :: cs) (putCs (.lnk t b i e ty :: cs) (x', l')) c' := by
          intro c' u ci hl2 hu hsrc hsub
          obtain ⟨r2, e2⟩ := addArr_ok ci.rel (ci.arrNo hok.1.1) hl2
          obtain ⟨B', hB', hmem, ⟨ct, hBt, hct⟩, hbx⟩ := ci.hole b i _ hok.1.2
          obtain ⟨g1, ⟨B0, hB0, hB0t⟩, _⟩ := ci.box b B' hB'
          obtain ⟨cells, tid, hh, hc⟩ : ∃ cs tid, c'.w.heap[c'.bx b]? = some (.cells cs tid (0, 0)) ∧ RelB { c' with ar := upd c'.ar (t + ownBase) u, m := c'.m.setA (t + ownBase) (.at_ ⟨e, ty, x', true⟩) } B' cs.toList := by
            rcases r2.box b B' hB' with ⟨_, h0⟩ | h
            · rw [h0] at hmem; cases hmem
            · exact h
          have hh' : c.w.heap[c.bx b]? = some (.cells cells tid (0, 0)) := by rw [← hbx, ← ci.w]; exact hh
          have hcell := hu cells tid hh' ct (by rw [hB0]; simp) ⟨B0, hB0, by rw [hB0t, hBt]⟩
          rw [← hBt] at hcell
          have hrl := RelB.relink (u := u) (l := .own (t + ownBase)) hc hmem ⟨by simp [Mem.setA, upd], fun A hA => by
            rw [set_self hcell, hcell]
            simp [upd], fun M hM => by simp [Mem.setA, upd] at hM⟩
          rw [set_self hcell] at hrl
          obtain ⟨r3, e3⟩ := setBox_ok (c := { c' with ar := upd c'.ar (t + ownBase) u, m := c'.m.setA (t + ownBase) (.at_ ⟨e, ty, x', true⟩) }) r2 hB' (x := B'.x) (lk := (i, .own (t + ownBase)) :: lkDrop B'.lk i) (w' := c'.w) rfl rfl rfl rfl (fun _ _ => rfl) (.inr ⟨cells, tid, hh, hrl⟩)
          have hput : (putCs (.lnk t b i e ty :: cs) (x', l')) = ⟨(putCs cs l').tmp, ((putCs cs l').mem.setB b ⟨B'.t, B'.x, (i, .own (t + ownBase)) :: lkDrop B'.lk i⟩).setA (t + ownBase) (.at_ ⟨e, ty, x', true⟩)⟩ := by
            have hb' : (putCs cs l').mem.box b = some B' := by rw [← ci.m]; exact hB'
            simp only [putCs, putC, hb']
          refine ⟨{ c' with ar := upd c'.ar (t + ownBase) u, m := (c'.m.setA (t + ownBase) (.at_ ⟨e, ty, x', true⟩)).setB b ⟨B'.t, B'.x, (i, .own (t + ownBase)) :: lkDrop B'.lk i⟩ }, ?_, ci.w, ci.S, r3, fun j => ?_, ?_, ?_, ?_, ?_, fun j M hM => ?_, ?_⟩
          · rw [hput, ← ci.m]; rfl
          · rw [hput]; exact (ci.tmp j).ext (e2.trans e3)
          · intro b2 B2 hB2
            simp only [Mem.setB, Mem.setA, upd] at hB2
            cases hb : Nat.beq b2 b with
            | true =>
              have := Nat.eq_of_beq_eq_true hb
              subst this
              rw [hb] at hB2
              injection hB2 with hB2
              subst hB2
              obtain ⟨k1, k2, k3⟩ := ci.box b2 B' hB'
              exact ⟨k1, k2, k3⟩
            | false => rw [hb] at hB2; exact ci.box b2 B2 hB2
          · intro b2 ty2 hb2
            obtain ⟨B2, k1, k2, k3⟩ := ci.boxR b2 ty2 hb2
            simp only [Mem.setB, Mem.setA, upd]
            cases hb : Nat.beq b2 b with
            | true =>
              have := Nat.eq_of_beq_eq_true hb
              subst this
              rw [hB'] at k1
              injection k1 with k1
              subst k1
              exact ⟨_, rfl, k2, k3⟩
            | false => exact ⟨B2, k1, k2, k3⟩
          · intro j A hA
            simp only [Mem.setB, Mem.setA, upd] at hA ⊢
            cases hb : Nat.beq j (t + ownBase) with
            | true =>
              have := Nat.eq_of_beq_eq_true hb
              subst this
              exact ⟨⟨t, rfl, by simp [ownIn]⟩, hsrc⟩
            | false =>
              rw [hb] at hA
              obtain ⟨⟨t', h1, h2⟩, h3⟩ := ci.arr j A hA
              refine ⟨⟨t', h1, by simp [ownIn, h2]⟩, ?_⟩
              rcases h3 with h3 | ⟨a0, A0, k1, k2, k3, k4⟩
              · exact .inl h3
              · exact .inr ⟨a0, A0, hsub a0 k1, k2, k3, k4⟩
          · intro j hj
            simp only [Mem.setB, Mem.setA, upd] at hj
            cases hb : Nat.beq j (t + ownBase) with
            | true =>
              have := Nat.eq_of_beq_eq_true hb
              exact ⟨t, this, by simp [ownIn]⟩
            | false =>
              rw [hb] at hj
              obtain ⟨t', h1, h2⟩ := ci.dead j hj
              exact ⟨t', h1, by simp [ownIn, h2]⟩
          · simp only [Mem.setB, Mem.setA, upd] at hM ⊢
            cases hb : Nat.beq j (t + ownBase) with
            | true => rw [hb] at hM; cases hM
            | false =>
              rw [hb] at hM
              obtain ⟨a0, M0, k1, k2, k3⟩ := ci.mps j M hM
              exact ⟨a0, M0, hsub a0 k1, k2, k3⟩
          · intro b2 i2 u2 hh2
            simp only [holeB, Bool.and_eq_true, Bool.not_eq_true', Bool.and_eq_false_iff] at hh2
            obtain ⟨hne, hh2⟩ := hh2
            obtain ⟨B2, k1, k2, k3, k4⟩ := ci.hole b2 i2 u2 hh2
            simp only [Mem.setB, Mem.setA, upd]
            cases hb : Nat.beq b2 b with
            | true =>
              have := Nat.eq_of_beq_eq_true hb
              subst this
              rw [hB'] at k1
              injection k1 with k1
              subst k1
              refine ⟨_, rfl, List.mem_cons_of_mem _ (lkDrop_mem.2 ⟨k2, fun e' => ?_⟩), k3, k4⟩
              rcases hne with h | h
              · rw [Nat.beq_refl] at h; cases h
              · simp only at e'
                rw [e', Nat.beq_refl] at h; cases h
            | false => exact ⟨B2, k1, k2, k3, k4⟩
        simp only [readC] at hx
        cases hB : st.mem.box b with
        | none => rw [hB] at hx; cases hx
        | some B =>
          rw [hB] at hx
          simp only at hx
          have hBc : c.m.box b = some B := by rw [inv.m]; exact hB
          have hbr := hr.box b B hBc
          split at hx
          · rename_i hlk
            injection hx with hx
            subst hx
            have hos : ownsOf st (.lnk t b i e ty :: cs) = ownsOf st cs := by simp only [ownsOf, hB, hlk]
            rw [hos] at hnd hO
            obtain ⟨c', ci⟩ := cut_ok' inv O cs l' hok.2 hnd hO hD hl
            obtain ⟨cells0, tid0, hh0, _, _, _, _, _, hk0⟩ : ∃ cs tid, c.w.heap[c.bx b]? = some (.cells cs tid (0, 0)) ∧ RelB c B cs.toList := by
              rcases hbr with ⟨_, h0⟩ | h
              · rw [h0] at hlk; cases hlk
              · exact h
            refine fin c' nilCell ci ⟨⟨[], World.ownsRow_nil _ _ _ _, rfl⟩, fun g hg => by cases hg⟩ (fun cells tid hh ct _ hct => ?_) (.inl rfl) (fun y hy => by rw [hos]; exact hy)
            obtain ⟨B1, hB1, hBt⟩ := hct
            rw [hBc] at hB1
            injection hB1 with hB1
            subst hB1
            rw [hh0] at hh
            injection hh with hh
            injection hh with hh _ _
            subst hh
            rw [← hBt]
            exact (hk0 _ (lkAt_some hlk)).2.2
          · rename_i a0 hlk
            cases ha : st.mem.arr a0 with
            | no => rw [ha] at hx; cases hx
            | dead => rw [ha] at hx; cases hx
            | mp M => rw [ha] at hx; cases hx
            | at_ A =>
              rw [ha] at hx
              simp only at hx
              split at hx
              · rename_i ho
                split at hx
                · rename_i hty
                  injection hx with hx
                  subst hx
                  have hos : ownsOf st (.lnk t b i e ty :: cs) = a0 :: ownsOf st cs := by simp only [ownsOf, hB, hlk]
                  rw [hos] at hnd hO
                  obtain ⟨hnm, hnd'⟩ := nodup_cons hnd
                  obtain ⟨c', ci⟩ := cut_ok' inv O cs l' hok.2 hnd' (fun y hy => hO y (List.mem_cons_of_mem _ hy)) hD hl
                  have hac : c.m.arr a0 = .at_ A := by rw [inv.m]; exact ha
                  obtain ⟨cells0, tid0, hh0, _, _, _, _, _, hk0⟩ : ∃ cs tid, c.w.heap[c.bx b]? = some (.cells cs tid (0, 0)) ∧ RelB c B cs.toList := by
                    rcases hbr with ⟨_, h0⟩ | h
                    · rw [h0] at hlk; cases hlk
                    · exact h
                  have hl2 := own_loose inv ci hac ho hnm (hO a0 List.mem_cons_self)
                  obtain ⟨Ae, At, Ax, Ao⟩ := A
                  simp only [Ty.sl.injEq] at hty
                  obtain ⟨q1, q2⟩ := hty
                  subst q1 q2
                  refine fin c' _ ci hl2 (fun cells tid hh ct _ hct => ?_) (.inr ⟨a0, _, by rw [hos]; exact List.mem_cons_self, hac, ho, rfl⟩) (fun y hy => by rw [hos]; exact List.mem_cons_of_mem _ hy)
                  obtain ⟨B1, hB1, hBt⟩ := hct
                  rw [hBc] at hB1
                  injection hB1 with hB1
                  subst hB1
                  rw [hh0] at hh
                  injection hh with hh
                  injection hh with hh _ _
                  subst hh
                  rw [← hBt]
                  exact (hk0 _ (lkAt_some hlk)).2.2.2.1 _ hac
                · cases hx
              · cases hx
          · cases hx
      | mapo t kt vt =>
        simp only [cutOk, Bool.and_eq_true, Bool.not_eq_true'] at hok
        simp only [readC] at hx
        split at hx
        · rename_i a0 hv
          cases ha : st.mem.arr a0 with
          | no => rw [ha] at hx; cases hx
          | dead => rw [ha] at hx; cases hx
          | at_ A => rw [ha] at hx; cases hx
          | mp M =>
            rw [ha] at hx
            simp only at hx
            split at hx
            · rename_i hty
              obtain ⟨Mk, Mv, Mes⟩ := M
              have hty' := hty
              simp only [Ty.mp.injEq] at hty'
              obtain ⟨q1, q2⟩ := hty'
              subst q1 q2
              injection hx with hx
              subst hx
              have hos : ownsOf st (.mapo t Mk Mv :: cs) = a0 :: ownsOf st cs := by simp only [ownsOf, hv]
              rw [hos] at hnd hO
              obtain ⟨hnm, hnd'⟩ := nodup_cons hnd
              obtain ⟨c', ci⟩ := cut_ok' inv O cs l' hok.2 hnd' (fun y hy => hO y (List.mem_cons_of_mem _ hy)) hD hl
              have hac : c.m.arr a0 = .mp ⟨Mk, Mv, Mes⟩ := by rw [inv.m]; exact ha
              have hp := inv.tmp t
              rw [hv] at hp
              have hu : a.tmps.getD t undef = c.ar a0 := hp.2.2 _ hac
              obtain ⟨hk, hvt, g, es, cl, eg, h0, hS', hh, hE⟩ := hr.ms.mps a0 _ hac
              have hno := ci.arrNo hok.1
              obtain ⟨r2, e2⟩ := addMap_ok ci.rel hno (M := ⟨Mk, Mv, Mes⟩) (g := g) (es := es) (cl := cl) hk hvt (by rw [ci.w]; exact hh) h0
                (by
                  rw [ci.S]
                  rintro (h | ⟨i, A', hA', ho', hni, hg'⟩ | ⟨i, M, hM, hni, hg'⟩)
                  · exact hS' h
                  · have hA := hr.arr i A' hA'
                    unfold RelA at hA
                    rw [if_pos ho'] at hA
                    obtain ⟨inner, h1, _, _⟩ := hA
                    rcases h1.2 with ⟨hv', _⟩ | ⟨g3, cap3, cur3, hv', hb3, hh3, _⟩
                    · rw [hv'] at hg'; cases hg'
                    · rw [hv'] at hg'
                      have : g3 = g := by simpa [Value.ownBlock] using hg'
                      subst this
                      rw [hh3] at hh; cases hh
                  · have := hr.ms.mm i a0 M _ hM hac (by rw [hg', eg])
                    subst this
                    exact hni (hO i List.mem_cons_self))
                (hE.imp (fun _ _ hh => RelC.flat (keyT_flat hk) hh) (fun _ _ hh => RelC.flat (valT_flat hvt) hh))
                (fun i M hM e => by
                  obtain ⟨a1, M1, k1, k2, k3⟩ := ci.mps i M hM
                  rw [k3] at e
                  have := hr.ms.mm a1 a0 M1 _ k2 hac (by rw [e, eg])
                  subst this
                  exact hnm k1)
              refine ⟨{ c' with ar := upd c'.ar (t + ownBase) (.map (some g)), m := c'.m.setA (t + ownBase) (.mp ⟨Mk, Mv, Mes⟩) }, ?_, ci.w, ci.S, r2, fun i => ?_, ci.box, ci.boxR, ?_, ?_, fun i M hM => ?_, ci.hole⟩
              · show c'.m.setA _ _ = (putCs cs l').mem.setA _ _
                rw [ci.m]; rfl
              · simp only [putCs, putC, upd]
                cases hb : Nat.beq i t with
                | false => exact (ci.tmp i).ext e2
                | true =>
                  have := Nat.eq_of_beq_eq_true hb
                  subst this
                  refine ⟨by simp [Mem.setA, upd], fun A hA => by simp [Mem.setA, upd] at hA, fun M hM => ?_⟩
                  rw [hu, eg]
                  simp [upd]
              · intro i A hA
                simp only [Mem.setA, upd] at hA ⊢
                cases hb : Nat.beq i (t + ownBase) with
                | true => rw [hb] at hA; cases hA
                | false =>
                  rw [hb] at hA
                  obtain ⟨⟨t', h1, h2⟩, h3⟩ := ci.arr i A hA
                  refine ⟨⟨t', h1, by simp [ownIn, h2]⟩, ?_⟩
                  rcases h3 with h3 | ⟨a1, A1, k1, k2, k3, k4⟩
                  · exact .inl h3
                  · exact .inr ⟨a1, A1, by rw [hos]; exact List.mem_cons_of_mem _ k1, k2, k3, k4⟩
              · intro i hi
                simp only [Mem.setA, upd] at hi
                cases hb : Nat.beq i (t + ownBase) with
                | true =>
                  have := Nat.eq_of_beq_eq_true hb
                  exact ⟨t, this, by simp [ownIn]⟩
                | false =>
                  rw [hb] at hi
                  obtain ⟨t', h1, h2⟩ := ci.dead i hi
                  exact ⟨t', h1, by simp [ownIn, h2]⟩
              · simp only [Mem.setA, upd] at hM ⊢
                cases hb : Nat.beq i (t + ownBase) with
                | true => exact ⟨a0, _, by rw [hos]; exact List.mem_cons_self, hac, eg.symm⟩
                | false =>
                  rw [hb] at hM
                  obtain ⟨a1, M1, k1, k2, k3⟩ := ci.mps i M hM
                  exact ⟨a1, M1, by rw [hos]; exact List.mem_cons_of_mem _ k1, k2, k3⟩
            · cases hx
        · cases hx
    · cases hrd
theorem cut_inv {c : Cx} {st : St} {a : Act} (inv : Inv P E n st c a) {cs : List CK} {l : cden cs} (h : (cutOk cs && nodupB (ownsOf st cs) && disj (datsOf st cs) (ownsOf st cs)) = true) (hl : readCs st cs = some l) :
    ∃ c', c'.w = c.w ∧ Inv P E n (putCs cs l) c' a := by
  simp only [Bool.and_eq_true] at h
  obtain ⟨c', ci⟩ := cut_ok' inv (ownsOf st cs) cs l h.1.1 h.1.2 (fun _ hx => hx) (fun x hx => notmem_of_disj h.2 hx) hl
  exact ⟨c', ci.w, ci.m, ci.rel, ci.tmp, inv.def_, inv.n⟩

def Ends (P : Program) (f : FuncId) (cs : List Frame) (R : Ending → World → Prop) (m : Machine) : Prop :=
  ∃ e w' fr, R e w' ∧ Comes P m (lone fr cs w') e ∧ fr.fn = f ∧ fr.leaving P w' e
theorem Ends.steps {f : FuncId} {cs : List Frame} {R : Ending → World → Prop} {m m' : Machine} (h : Steps P m m') (k : Ends P f cs R m') : Ends P f cs R m := by
  obtain ⟨e, w', fr, h1, h2, h3, h4⟩ := k
  exact ⟨e, w', fr, h1, Comes.of_steps h h2, h3, h4⟩
theorem Ends.head {f : FuncId} {cs : List Frame} {R : Ending → World → Prop} {m m' : Machine} (h : step P m = .next m') (k : Ends P f cs R m') : Ends P f cs R m := k.steps (.one h)

variable {f : FuncId} {fn : Func}
theorem runT_ok {R : Type} {F : Fn R} (hA : F.A = Alg.std R) (hT : TabOk P F.T) (hG : ∀ f s, F.G f = some s → SpecOk P f s) (hmix : P.follows .mixedOrders = true) (hf : P.funcs[f]? = some fn) (hn : F.n = n) {r : R} {Rr : Ending → World → Prop} {b : Frame} (hbf : b.fn = f) (hbk : b.kind = .normal) {cs : List Frame}
    {next : List Item → St → Option R} (hnext : ∀ todo st c a, next todo st = some r → Inv P E n st c a → Ends P f cs Rr (lone (b.at a todo) cs c.w))
    (hfin : ∀ st c a, F.fin st = some r → Inv P E n st c a → ∃ v, (results fn a.tmps).run P c.w = .ok v c.w ∧ Rr (.returned v) c.w) :
    ∀ (s : Nat) (fr : Bool) (todo : List Item) (st : St) (c : Cx) (a : Act), runT F next s fr todo st = some r → Inv P E n st c a → Ends P f cs Rr (lone (b.at a todo) cs c.w) := by
  have fin : ∀ st c a todo, F.fin st = some r → Inv P E n st c a → Ends P f cs Rr (lone { b.at a todo with mode := .returning } cs c.w) := by
    intro st c a todo h inv
    obtain ⟨v, hv, hR⟩ := hfin st c a h inv
    exact ⟨.returned v, c.w, { b.at a todo with mode := .returning }, hR, Steps.refl P _, hbf, rfl, inv.def_, hbk, fn, by show P.funcs[b.fn]? = some fn; rw [hbf]; exact hf, hv⟩
  intro s
  induction s with
  | zero => intro fr todo st c a h; cases h
  | succ s ih =>
    intro fr todo st c a h inv
    cases todo with
    | nil =>
      simp only [runT] at h
      exact (fin st c a [] h inv).head step_end
    | cons it k =>
      cases it with
      | code cc =>
        cases cc with
        | skip => exact (ih fr k st c a h inv).head step_skip
        | label l => exact (ih fr k st c a h inv).head step_label
        | ret => exact (fin st c a _ h inv).head step_ret
        | seq x y => exact (ih fr _ st c a h inv).head step_seq
        | cond p x y =>
          simp only [runT] at h
          split at h
          · rename_i bb hb
            have hv := evalV_ok inv.tmp p
            rw [hb] at hv
            have hbv := relV_bool hv
            rw [hA] at h
            cases bb with
            | true => exact (ih fr _ st c a h inv).head (by have := step_cond (P := P) (b := b) (a := a) (k := k) (cs := cs) (w := c.w) (c := p) (x := x) (y := y) hbv; simpa using this)
            | false => exact (ih fr _ st c a h inv).head (by have := step_cond (P := P) (b := b) (a := a) (k := k) (cs := cs) (w := c.w) (c := p) (x := x) (y := y) hbv; simpa using this)
          · cases h
        | block id x => exact (ih fr _ st c a h inv).head step_block
        | loop x => exact (ih fr _ st c a h inv).head step_loop
        | scope x => exact (ih fr _ st c a h inv).head (step_lone_go (by simp [stepG, stepG.exec, Frame.at]))
        | exit id =>
          simp only [runT] at h
          split at h
          · rename_i k' hk
            exact (ih fr k' st c a h inv).head (step_exit hk)
          · cases h
        | region id ops draw =>
          simp only [runT] at h
          split at h
          · split at h
            · rename_i l hc hl
              obtain ⟨c', hw, inv'⟩ := cut_inv inv hc hl
              rw [← hw]
              exact hnext _ _ c' a h inv'
            · cases h
          · rw [hA, hn] at h
            have hwp := region_ok (id := id) hT hG hmix h inv (Q := fun e a' w' => e = .normal ∧ ∃ st' c', c'.w = w' ∧ runT F next s false k st' = some r ∧ Inv P E n st' c' a') (fun st' c' a' hk' inv' => ⟨rfl, st', c', rfl, hk', inv'⟩)
            obtain ⟨e, a', w', ⟨rfl, st', c', rfl, hk', inv'⟩, harr⟩ := hwp b k cs
            exact (ih false k st' c' a' hk' inv').steps harr
        | rangeFunc _ _ _ _ => cases h
        | goto l => cases h
        | refuse w => cases h
      | inBlock id => exact (ih fr k st c a h inv).head step_inBlock
      | inScope x => exact (ih fr k st c a h inv).head (step_lone_go (by simp [stepG, stepG.exec, Frame.at]))
      | inLoop x => exact (ih fr _ st c a h inv).head step_inLoop
      | _ => cases h
theorem runK_ok {R : Type} {F : Nat → Fn R} (hA : ∀ k, (F k).A = Alg.std R) (hT : ∀ k, TabOk P (F k).T) (hG : ∀ k f s, (F k).G f = some s → SpecOk P f s) (hmix : P.follows .mixedOrders = true) (hf : P.funcs[f]? = some fn) (hn : ∀ k, (F k).n = n) {r : R} {Rr : Ending → World → Prop} {b : Frame} (hbf : b.fn = f) (hbk : b.kind = .normal) {cs : List Frame}
    (hfin : ∀ k st c a, (F k).fin st = some r → Inv P E n st c a → ∃ v, (results fn a.tmps).run P c.w = .ok v c.w ∧ Rr (.returned v) c.w) :
    ∀ (k : Nat) (todo : List Item) (st : St) (c : Cx) (a : Act), runK F k todo st = some r → Inv P E n st c a → Ends P f cs Rr (lone (b.at a todo) cs c.w)
  | 0, _, _, _, _, h, _ => by cases h
  | k + 1, todo, st, c, a, h, inv => runT_ok (F := F k) (hA k) (hT k) (hG k) hmix hf (hn k) hbf hbk (runK_ok hA hT hG hmix hf hn hbf hbk hfin k) (hfin k) _ _ todo st c a h inv
end
end Go.Vm
end
section
namespace Go.Vm
open Go.RowKit
set_option linter.unusedVariables false
set_option linter.unusedSimpArgs false

theorem app_cur {R : Type} : ∀ (ps : List PK) (g : dens ps → R) (a : dens ps), app ps (cur ps g) a = g a
  | [], g, a => rfl
  | _ :: ps, g, (x, l) => app_cur ps (fun a => g (x, a)) l

section
variable {P : Program} {T : Tab} {E : Env} {G : Gam} {n : Nat}

theorem putP_ok {w : World} {S S1' : Nat → Prop} {flat : Bool} {c : Cx} (hw : c.w = w) (hE : E.w0 = w) (hE2 : ∀ b, ¬ E.W0 b) (h01 : ∀ b, S b → S1' b) (hlt : ∀ b, S1' b → b < w.heap.size) (hcS : c.S = E.S0) (hSS : ∀ b, S b → E.S0 b) (hfl : flat = true → ∀ b, S1' b → E.S0 b) {arr : Array Value} :
    ∀ (ps : List PK) (as : dens ps) (vs : List Value) (i : Nat) (st : St), RelArgs P w S S1' flat ps as vs → (∀ j v, vs[j]? = some v → arr.getD (i + j) undef = v) → (∀ t, RelV P E c (st.tmp t) (arr.getD t undef)) →
      (putP ps as i st).mem = st.mem ∧ ∀ t, RelV P E c ((putP ps as i st).tmp t) (arr.getD t undef)
  | [], _, _, _, st, _, _, ht => ⟨rfl, ht⟩
  | .val t :: ps, (x, l), _, i, st, ⟨v, vs, rfl, hx, hl⟩, hv, ht => by
    have := putP_ok hw hE hE2 h01 hlt hcS hSS hfl ps l vs (i + 1) ⟨upd st.tmp i (.dat ⟨t, x⟩), st.mem⟩ hl (fun j u hj => by rw [Nat.add_assoc, Nat.add_comm 1 j]; exact hv (j + 1) u (by simpa using hj)) (fun k => by
      simp only [upd]
      cases hb : Nat.beq k i with
      | false => exact ht k
      | true =>
        have := Nat.eq_of_beq_eq_true hb
        subst this
        rw [show arr.getD k undef = v from hv 0 v rfl]
        show RelD c.w c.S t x v
        rw [hw, hcS]
        exact hx.move (fun _ _ => rfl) hSS)
    exact this
  | .ro t :: ps, (x, l), _, i, st, ⟨v, vs, rfl, hf, hx, hl⟩, hv, ht => by
    have := putP_ok hw hE hE2 h01 hlt hcS hSS hfl ps l vs (i + 1) ⟨upd st.tmp i (.rptr ⟨t, x⟩), st.mem⟩ hl (fun j u hj => by rw [Nat.add_assoc, Nat.add_comm 1 j]; exact hv (j + 1) u (by simpa using hj)) (fun k => by
      simp only [upd]
      cases hb : Nat.beq k i with
      | false => exact ht k
      | true =>
        have := Nat.eq_of_beq_eq_true hb
        subst this
        rw [show arr.getD k undef = v from hv 0 v rfl]
        show RelP c.w c.S t x v
        rw [hw, hcS]
        exact hx.move (fun _ _ => rfl) (hfl hf))
    exact this
  | .rw _ :: _, _, _, _, _, h, _, _ => h.elim
  | .fn a r :: ps, (x, l), _, i, st, ⟨v, vs, rfl, hx, hl⟩, hv, ht => by
    have := putP_ok hw hE hE2 h01 hlt hcS hSS hfl ps l vs (i + 1) ⟨upd st.tmp i (.fnp a r x), st.mem⟩ hl (fun j u hj => by rw [Nat.add_assoc, Nat.add_comm 1 j]; exact hv (j + 1) u (by simpa using hj)) (fun k => by
      simp only [upd]
      cases hb : Nat.beq k i with
      | false => exact ht k
      | true =>
        have := Nat.eq_of_beq_eq_true hb
        subst this
        rw [show arr.getD k undef = v from hv 0 v rfl]
        refine ⟨S1', fun b hb => ⟨by rw [hE]; exact hlt b hb, hE2 b⟩, ?_⟩
        rw [hE]
        exact hx.move (fun _ _ => rfl) hSS (fun _ h => h))
    exact this

def rvRun (tmps : Array Value) : ResultVar → Sem Value
  | .tmp t => pure (tmps.getD t undef)
  | .cell a t => do loadVar t (← asAddr (tmps.getD a undef))
theorem results_eq (fn : Func) (tmps : Array Value) (w : World) {vs : List Value} (h : (fn.results.toList.mapM (rvRun tmps)).run P w = .ok vs w) :
    (results fn tmps).run P w = .ok (if h : vs.toArray.size = 1 then vs.toArray[0] else .tuple vs.toArray) w := by
  have e : (results fn tmps) = (do let vs ← fn.results.mapM (rvRun tmps); pure (if h : vs.size = 1 then vs[0] else .tuple vs)) := by
    unfold results
    congr 1
  rw [e, Sem.run_bind, Array.mapM_eq_mapM_toList, Sem.run_map, h]
  rfl

theorem cutS_new {c : Cx} (hr : Rel E c) {b : Nat} (h : cutS c [] b) : Ext' E.S0 E.w0 c.w b := by
  rcases h with h | ⟨a, A, hA, ho, _, hb⟩ | ⟨a, M, hM, _, hb⟩
  · rcases hr.new b h with h' | h'
    · exact .inl h'
    · exact .inr ⟨h', hr.lt b h⟩
  · have := hr.arr a A hA
    unfold RelA at this
    rw [if_pos ho] at this
    obtain ⟨_, h1, _⟩ := this
    exact .inr (h1.lt b hb)
  · obtain ⟨_, _, g, _, _, e, h0, _, hh, _⟩ := hr.ms.mps a M hM
    rw [hb] at e
    injection e with e
    injection e with e
    subst e
    exact .inr ⟨h0, (Array.getElem?_eq_some_iff.1 hh).1⟩
theorem readR_ok (hT : TabOk P T) {st : St} {c : Cx} {a : Act} (inv : Inv P E n st c a) {t : Ty} (hg : t.good = true) {rv : ResultVar} {y : t.den} (h : readR T st t rv = some y) :
    ∃ v, (rvRun a.tmps rv).run P c.w = .ok v c.w ∧ RelV1 c.w (Ext' E.S0 E.w0 c.w) t y v := by
  have hr := inv.rel
  cases rv with
  | tmp i =>
    have := readD_ok hr (O := []) (inv.tmp i) (fun _ _ => by simp) (by rw [inv.m]; exact h)
    exact ⟨_, rfl, (this.v1 hg).move (fun _ _ => rfl) (fun b hb => cutS_new hr hb)⟩
  | cell i ty =>
    simp only [readR] at h
    split at h
    · rename_i b t' u hv hty
      split at h
      · rename_i B hB
        split at h
        case h_2 => cases h
        rename_i hfr
        split at h
        · rename_i he
          obtain ⟨he1, he2⟩ := he
          subst he2
          obtain ⟨Bt, Bx, Bl⟩ := B
          simp only at he1
          subst he1
          injection h with h
          subst h
          have hp := inv.tmp i
          rw [hv] at hp
          obtain ⟨B', hB', _, _, he⟩ := hp
          have hBc : c.m.box b = some ⟨Bt, Bx, Bl⟩ := by rw [inv.m]; exact hB
          obtain ⟨cs, tid, hh, hc0⟩ := (hr.box b _ hBc).cells (good_ni hg)
          have hc := hc0.free hfr
          have hca := cells_in hh (a := []) (m := cs.toList) (b := []) (by simp)
          obtain ⟨v, hrun, hv1⟩ := load_ok (hT _ _ hty) hc hca (hT _ _ hty).np
          refine ⟨v, ?_, hv1.move (fun _ _ => rfl) (fun b hb => cutS_new hr (.inl hb))⟩
          have e0 : pathOff [] B'.t = 0 := rfl
          simp only [rvRun, he, Sem.run_bind, asAddr, Sem.run_pure, Result.andThen_ok, e0]
          exact hrun
        · cases h
      · cases h
    · cases h
theorem readRs_ok (hT : TabOk P T) {st : St} {c : Cx} {a : Act} (inv : Inv P E n st c a) : ∀ {t : Ty} {l : List ResultVar} {y : t.den}, t.good = true → readRs T st t l = some y →
    ∃ vs, (l.mapM (rvRun a.tmps)).run P c.w = .ok vs c.w ∧ RelT c.w (Ext' E.S0 E.w0 c.w) t y vs ∧ vs.length = l.length := by
  have single : ∀ {t : Ty} {rv : ResultVar} {y : t.den}, t.isPair = false → t.good = true → readR T st t rv = some y →
      ∃ vs, ([rv].mapM (rvRun a.tmps)).run P c.w = .ok vs c.w ∧ RelT c.w (Ext' E.S0 E.w0 c.w) t y vs ∧ vs.length = 1 := by
    intro t rv y hp hg h
    obtain ⟨v, hv, hr⟩ := readR_ok hT inv hg h
    refine ⟨[v], ?_, ?_, rfl⟩
    · simp only [List.mapM_cons, List.mapM_nil, Sem.run_bind, hv, Result.andThen_ok, Sem.run_pure]
    · cases t <;> first | (simp [Ty.isPair] at hp; done) | exact ⟨v, rfl, hr⟩
  intro t
  induction t with
  | pair x y ihx ihy =>
    intro l z hg h
    simp only [Ty.good, Bool.and_eq_true] at hg
    match l, h with
    | [], h => cases h
    | [rv], h =>
      simp only [readRs] at h
      obtain ⟨v, hv, hr⟩ := readR_ok hT inv (t := .pair x y) (by simp [Ty.good, hg]) h
      exact hr.elim
    | r :: q :: rs, h =>
      simp only [readRs] at h
      split at h
      · rename_i u1 u2 h1 h2
        injection h with h
        subst h
        obtain ⟨v, hv, hr⟩ := readR_ok hT inv hg.1 h1
        obtain ⟨vs, hvs, hrs, hl⟩ := ihy hg.2 h2
        refine ⟨v :: vs, ?_, ⟨v, vs, rfl, hr, hrs⟩, by simp [hl]⟩
        rw [List.mapM_cons, Sem.run_bind, hv]
        simp only [Result.andThen_ok, Sem.run_bind, hvs, Sem.run_pure]
      · cases h
  | _ =>
    intro l z hg h
    match l, h with
    | [], h => cases h
    | [rv], h => exact single rfl hg h
    | _ :: _ :: _, h => cases h

theorem finR_ok (hT : TabOk P T) {fn : Func} {t : Ty} {st : St} {c : Cx} {a : Act} (inv : Inv P E n st c a) {y : t.den} (h : finR T fn t st = some y) :
    ∃ v, (results fn a.tmps).run P c.w = .ok v c.w ∧ RelD c.w (Ext' E.S0 E.w0 c.w) t y v := by
  unfold finR at h
  generalize hl : fn.results.toList = ls at h
  split at h
  · refine ⟨.tuple #[], ?_, rfl⟩
    rw [results_eq (P := P) fn a.tmps c.w (vs := []) (by rw [hl]; rfl)]
    rfl
  · rename_i cc r q l
    split at h
    · rename_i hg
      obtain ⟨vs, hvs, hrs, hlen⟩ := readRs_ok hT inv hg h
      refine ⟨.tuple vs.toArray, ?_, vs.toArray, rfl, by simpa using hrs⟩
      rw [results_eq (P := P) fn a.tmps c.w (vs := vs) (by rw [hl]; exact hvs)]
      rw [dif_neg]
      simp only [List.size_toArray, hlen, List.length_cons]
      omega
    · cases h
  · rename_i r _ _
    split at h
    · rename_i hg
      obtain ⟨v, hv, hr⟩ := readR_ok hT inv hg h
      refine ⟨v, ?_, RelD.of_v1 hr⟩
      rw [results_eq (P := P) fn a.tmps c.w (vs := [v]) (by rw [hl]; simp only [List.mapM_cons, List.mapM_nil, Sem.run_bind, hv, Result.andThen_ok, Sem.run_pure])]
      rfl
    · cases h
  · cases h

theorem runF_ok {G : Nat → Gam} (hT : TabOk P T) (hG : ∀ k f s, G k f = some s → SpecOk P f s) (hmix : P.follows .mixedOrders = true) {f : FuncId} {fn : Func} (hf : P.funcs[f]? = some fn) (hen : Enters P f) (cuts : List (Nat × List CK)) (ps : List PK) (r : Ty)
    (hps : ps.length ≤ fn.ntmps) (k : Nat) : SpecOk P f (.pu ps r (runF Alg.std G T fn cuts ps r k)) := by
  refine ⟨hen, fun w S S1' as vs y h01 hlt hargs hy => ?_⟩
  unfold runF at hy
  rw [app_cur] at hy
  cases hb : fn.body with
  | none => rw [hb] at hy; cases hy
  | some code =>
    rw [hb] at hy
    simp only at hy
    let E : Env := ⟨w, fun b => S b ∨ (r.flat = true ∧ S1' b), fun _ => False⟩
    let c : Cx := ⟨E.S0, fun _ => 0, fun _ => undef, St.empty.mem, w⟩
    have hvl : vs.length = ps.length := by
      have : ∀ (ps : List PK) (as : dens ps) (vs : List Value), RelArgs P w S S1' r.flat ps as vs → vs.length = ps.length := by
        intro ps
        induction ps with
        | nil => intro as vs h; have : vs = [] := h; rw [this]; rfl
        | cons p ps ih =>
          intro as vs h
          cases p with
          | val t => obtain ⟨v, l, rfl, _, hl⟩ := h; simp [ih _ _ hl]
          | ro t => obtain ⟨v, l, rfl, _, _, hl⟩ := h; simp [ih _ _ hl]
          | rw t => exact h.elim
          | fn a r => obtain ⟨v, l, rfl, _, hl⟩ := h; simp [ih _ _ hl]
      exact this ps as vs hargs
    have hS0lt : ∀ b, E.S0 b → b < w.heap.size := fun b hb => by
      rcases hb with hb | hb
      · exact hlt b (h01 b hb)
      · exact hlt b hb.2
    have hrel : Rel E c := ⟨rfl, rfl, rfl, Nat.le_refl _, fun _ _ _ => rfl, fun _ h => h, hS0lt, fun _ h => .inl h, fun b B h => (by cases h), fun b h => absurd rfl h, fun a A h => (by cases h), fun b b' h => absurd rfl h,
      fun a a' A A' g h => (by cases h), fun b a A h => absurd rfl h, ⟨fun a M h => (by cases h), fun a a' M M' h => (by cases h)⟩⟩
    let arr : Array Value := vs.toArray ++ Array.replicate (fn.ntmps - vs.toArray.size) undef
    have hput := putP_ok (P := P) (E := E) (c := c) (w := w) (S := S) (S1' := S1') (flat := r.flat) (arr := arr) rfl rfl (fun _ h => h) h01 hlt rfl (fun _ h => .inl h) (fun hf b hb => .inr ⟨hf, hb⟩) ps as vs 0 St.empty hargs (fun j v hj => by
        have hjl : j < vs.length := (List.getElem?_eq_some_iff.1 hj).1
        have : arr[j]? = some v := by
          show (vs.toArray ++ _)[j]? = some v
          rw [Array.getElem?_append_left (by simpa using hjl)]
          simpa using hj
        simp [this]) (fun t => trivial)
    have inv : Inv P E fn.ntmps (putP ps as 0 St.empty) c ⟨arr, []⟩ := ⟨hput.1.symm, hrel, hput.2, rfl, by
      show (vs.toArray ++ Array.replicate (fn.ntmps - vs.toArray.size) undef).size = fn.ntmps
      simp only [Array.size_append, Array.size_replicate, List.size_toArray, hvl]
      omega⟩
    intro cs
    let b : Frame := { (default : Frame) with fn := f, kind := .normal }
    have henter : Frame.enter P f vs.toArray .normal = b.at ⟨arr, []⟩ [.code code] := by
      simp [Frame.enter, Frame.at, hf, hb, b, arr]
    have hfin : ∀ (k : Nat) (st : St) (c' : Cx) (a : Act), (Fn.of Alg.std G T fn cuts r k).fin st = some y → Inv P E fn.ntmps st c' a → ∃ v, (results fn a.tmps).run P c'.w = .ok v c'.w ∧ Ret w S r y (.returned v) c'.w := by
      intro _ st c' a h inv'
      obtain ⟨v, hv, hrd⟩ := finR_ok hT inv' h
      refine ⟨v, hv, v, rfl, ?_, ⟨inv'.rel.os, inv'.rel.tape, inv'.rel.output, inv'.rel.size, fun k hk => inv'.rel.keep k hk (fun h => h)⟩⟩
      cases hfl : r.flat with
      | true => exact hrd.flat hfl
      | false =>
        refine hrd.move (fun _ _ => rfl) (fun b hb => ?_)
        rcases hb with (hb | hb) | hb
        · exact .inl hb
        · rw [hfl] at hb; cases hb.1
        · exact .inr hb
    have hends := runT_ok (P := P) (E := E) (n := fn.ntmps) (fn := fn) (f := f) (F := Fn.of Alg.std G T fn cuts r k) rfl hT (hG k) hmix hf rfl (r := y) (Rr := Ret w S r y) (b := b) rfl rfl (cs := cs)
      (fun todo st c' a h inv' => runK_ok (F := Fn.of Alg.std G T fn cuts r) (fun _ => rfl) (fun _ => hT) hG hmix hf (fun _ => rfl) rfl rfl hfin k todo st c' a h inv') (hfin k) _ _ _ _ c ⟨arr, []⟩ hy inv
    rw [henter]
    exact hends

def ins (f : Nat) (s : Spec) (G : Gam) : Gam := fun g => bif Nat.beq f g then some s else G g
def GOk (P : Program) (G : Nat → Gam) : Prop := ∀ k f s, G k f = some s → SpecOk P f s
theorem GOk.none : GOk P (fun _ _ => none) := fun k f s h => by cases h
theorem GOk.ins {G : Nat → Gam} (h : GOk P G) {f : Nat} {s : Nat → Spec} (hs : ∀ k, SpecOk P f (s k)) : GOk P (fun k => ins f (s k) (G k)) := fun k g t ht => by
  unfold Vm.ins at ht
  simp only at ht
  cases hb : Nat.beq f g with
  | true =>
    rw [hb] at ht
    have := Nat.eq_of_beq_eq_true hb
    subst this
    injection ht with ht
    subst ht
    exact hs k
  | false => rw [hb] at ht; exact h k g t ht
end
end Go.Vm
end
section
namespace Go.Vm
open Go.RowKit
set_option linter.unusedVariables false
set_option linter.unusedSimpArgs false

noncomputable def sealed {α : Type} (x : α) : α := Classical.choose (⟨x, rfl⟩ : ∃ y, y = x)
theorem sealed_eq {α : Type} (x : α) : sealed x = x := Classical.choose_spec (⟨x, rfl⟩ : ∃ y, y = x)
def finO (fn : Func) (e : TypeId) (t : Ty) (st : St) : Option (List t.den) := match fn.results.toList with
  | [.tmp i] => match st.tmp i with
    | .nils => some []
    | .own a => match st.mem.arr a with
      | .at_ A => match A.open_ with
        | true => if h : Ty.sl A.e A.t = .sl e t then some (Ty.cast (a := .sl A.e A.t) (b := .sl e t) h A.xs) else none
        | false => none
      | _ => none
    | _ => none
  | _ => none
def Fn.ofO (A : (R : Type) → Alg R) (G : Nat → Gam) (T : Tab) (fn : Func) (cuts : List (Nat × List CK)) (e : TypeId) (t : Ty) (k : Nat) : Fn (List t.den) :=
  ⟨A _, G k, T, fn.ntmps, cuts, finO fn e t⟩
def runO (A : (R : Type) → Alg R) (G : Nat → Gam) (T : Tab) (fn : Func) (cuts : List (Nat × List CK)) (ps : List PK) (e : TypeId) (t : Ty) (k : Nat) : fns ps (Option (List t.den)) :=
  cur ps fun a => match fn.body with
    | some c => runT (Fn.ofO A G T fn cuts e t k) (runK (Fn.ofO A G T fn cuts e t) k) 100000 false [.code c] (putP ps a 0 St.empty)
    | none => none
def runOC (A : (R : Type) → Alg R) (G : Nat → Gam) (T : Tab) (fn : Func) (cuts : List (Nat × List CK)) (e : TypeId) (t : Ty) (n : Nat) (cs : List CK) (k : Nat) (l : cden cs) : Option (List t.den) :=
  match fn.body with
  | some c => match todoAt n 100000 [.code c] with
    | some todo => runK (Fn.ofO A G T fn cuts e t) k todo (putCs cs l)
    | none => none
  | none => none
abbrev SpecOkO (P : Program) (f : FuncId) (ps : List PK) (e : TypeId) (t : Ty) (fn : fns ps (Option (List t.den))) : Prop := SpecOk P f (.fr ps e t fn)
section
variable {P : Program} {T : Tab}
theorem runO_ok {G : Nat → Gam} (hT : TabOk P T) (hG : ∀ k f s, G k f = some s → SpecOk P f s) (hmix : P.follows .mixedOrders = true) {f : FuncId} {fn : Func} (hf : P.funcs[f]? = some fn) (hen : Enters P f) (cuts : List (Nat × List CK)) (ps : List PK) (e : TypeId) (t : Ty)
    (hps : ps.length ≤ fn.ntmps) (k : Nat) : SpecOkO P f ps e t (runO Alg.std G T fn cuts ps e t k) := by
  refine ⟨hen, fun w S S1' as vs y h01 hlt hargs hy => ?_⟩
  unfold runO at hy
  rw [app_cur] at hy
  cases hb : fn.body with
  | none => rw [hb] at hy; cases hy
  | some code =>
    rw [hb] at hy
    simp only at hy
    let E : Env := ⟨w, fun b => S b, fun _ => False⟩
    let c : Cx := ⟨E.S0, fun _ => 0, fun _ => undef, St.empty.mem, w⟩
    have hvl : vs.length = ps.length := by
      have : ∀ (ps : List PK) (as : dens ps) (vs : List Value), RelArgs P w S S1' false ps as vs → vs.length = ps.length := by
        intro ps
        induction ps with
        | nil => intro as vs h; have : vs = [] := h; rw [this]; rfl
        | cons p ps ih =>
          intro as vs h
          cases p with
          | val t => obtain ⟨v, l, rfl, _, hl⟩ := h; simp [ih _ _ hl]
          | ro t => obtain ⟨v, l, rfl, _, _, hl⟩ := h; simp [ih _ _ hl]
          | rw t => exact h.elim
          | fn a r => obtain ⟨v, l, rfl, _, hl⟩ := h; simp [ih _ _ hl]
      exact this ps as vs hargs
    have hS0lt : ∀ b, E.S0 b → b < w.heap.size := fun b hb => hlt b (h01 b hb)
    have hrel : Rel E c := ⟨rfl, rfl, rfl, Nat.le_refl _, fun _ _ _ => rfl, fun _ h => h, hS0lt, fun _ h => .inl h, fun b B h => (by cases h), fun b h => absurd rfl h, fun a A h => (by cases h), fun b b' h => absurd rfl h,
      fun a a' A A' g h => (by cases h), fun b a A h => absurd rfl h, ⟨fun a M h => (by cases h), fun a a' M M' h => (by cases h)⟩⟩
    let arr : Array Value := vs.toArray ++ Array.replicate (fn.ntmps - vs.toArray.size) undef
    have hput := putP_ok (P := P) (E := E) (c := c) (w := w) (S := S) (S1' := S1') (flat := false) (arr := arr) rfl rfl (fun _ h => h) h01 hlt rfl (fun _ h => h) (fun hf b hb => by cases hf) ps as vs 0 St.empty hargs (fun j v hj => by
        have hjl : j < vs.length := (List.getElem?_eq_some_iff.1 hj).1
        have : arr[j]? = some v := by
          show (vs.toArray ++ _)[j]? = some v
          rw [Array.getElem?_append_left (by simpa using hjl)]
          simpa using hj
        simp [this]) (fun t => trivial)
    have inv : Inv P E fn.ntmps (putP ps as 0 St.empty) c ⟨arr, []⟩ := ⟨hput.1.symm, hrel, hput.2, rfl, by
      show (vs.toArray ++ Array.replicate (fn.ntmps - vs.toArray.size) undef).size = fn.ntmps
      simp only [Array.size_append, Array.size_replicate, List.size_toArray, hvl]
      omega⟩
    intro cs
    let b : Frame := { (default : Frame) with fn := f, kind := .normal }
    have henter : Frame.enter P f vs.toArray .normal = b.at ⟨arr, []⟩ [.code code] := by
      simp [Frame.enter, Frame.at, hf, hb, b, arr]
    have hfin : ∀ (k : Nat) (st : St) (c' : Cx) (a : Act), (Fn.ofO Alg.std G T fn cuts e t k).fin st = some y → Inv P E fn.ntmps st c' a → ∃ v, (results fn a.tmps).run P c'.w = .ok v c'.w ∧ RetO w S e t y (.returned v) c'.w := by
      intro _ st c' a h inv'
      have hbel : Below w.heap.size w c'.w := ⟨inv'.rel.os, inv'.rel.tape, inv'.rel.output, inv'.rel.size, fun k hk => inv'.rel.keep k hk (fun h => h)⟩
      have hnew : ∀ b, c'.S b → Ext' S w c'.w b := fun b hb => by
        rcases inv'.rel.new b hb with h' | h'
        · exact .inl h'
        · exact .inr ⟨h', inv'.rel.lt b hb⟩
      have h0 : finO fn e t st = some y := h
      unfold finO at h0
      generalize hl : fn.results.toList = ls at h0
      split at h0
      · rename_i i
        have hres : ∀ v, a.tmps.getD i undef = v → (results fn a.tmps).run P c'.w = .ok v c'.w := fun v hv => by
          rw [results_eq (P := P) fn a.tmps c'.w (vs := [v]) (by rw [hl]; simp only [List.mapM_cons, List.mapM_nil, rvRun, hv, Sem.run_bind, Sem.run_pure, Result.andThen_ok])]
          rfl
        have htmp := inv'.tmp i
        split at h0
        · rename_i hv
          injection h0 with h0
          subst h0
          rw [hv] at htmp
          exact ⟨_, hres _ htmp, _, [], fun b => c'.S b, rfl, ⟨by simp, .inl ⟨rfl, rfl⟩⟩, rfl, fun g hg => by simp [Value.ownBlock] at hg, hnew, hbel⟩
        · rename_i a' hv
          rw [hv] at htmp
          split at h0
          · rename_i A hA
            split at h0
            · rename_i hop
              split at h0
              · rename_i he
                injection h0 with h0
                have hAc : c'.m.arr a' = .at_ A := by rw [inv'.m]; exact hA
                have hva := htmp.2.1 A hAc
                have hra := inv'.rel.arr a' A hAc
                unfold RelA at hra
                rw [if_pos hop] at hra
                obtain ⟨inner, h1, h2, h3⟩ := hra
                obtain ⟨Ae, At, Ax, Ao⟩ := A
                simp only [Ty.sl.injEq] at he
                obtain ⟨he1, he2⟩ := he
                subst he1 he2
                have hy2 : Ax = y := h0
                subst hy2
                exact ⟨_, hres _ hva, _, inner, c'.S, rfl, h1, h2, h3, hnew, hbel⟩
              · cases h0
            · cases h0
          · cases h0
        · cases h0
      · cases h0
    have hends := runT_ok (P := P) (E := E) (n := fn.ntmps) (fn := fn) (f := f) (F := Fn.ofO Alg.std G T fn cuts e t k) rfl hT (hG k) hmix hf rfl (r := y) (Rr := RetO w S e t y) (b := b) rfl rfl (cs := cs)
      (fun todo st c' a h inv' => runK_ok (F := Fn.ofO Alg.std G T fn cuts e t) (fun _ => rfl) (fun _ => hT) hG hmix hf (fun _ => rfl) rfl rfl hfin k todo st c' a h inv') (hfin k) _ _ _ _ c ⟨arr, []⟩ hy inv
    rw [henter]
    exact hends
end
end Go.Vm
end
section
namespace Go.Vm
set_option linter.unusedVariables false
def Ev {α : Type} (g : Nat → Option α) (r : α) : Prop := ∃ K, ∀ k, K ≤ k → g k = some r
namespace Ev
variable {α β : Type}
theorem const {g : Option α} {r : α} (h : g = some r) : Ev (fun _ => g) r := ⟨0, fun _ _ => h⟩
theorem some (r : α) : Ev (fun _ => Option.some r) r := ⟨0, fun _ _ => rfl⟩
theorem congr {f g : Nat → Option α} {r : α} (h : ∀ k, g k = f k) (hf : Ev f r) : Ev g r := by
  obtain ⟨K, hK⟩ := hf
  exact ⟨K, fun k hk => (h k).trans (hK k hk)⟩
theorem step {f g : Nat → Option α} {r : α} (h : ∀ k, g (k + 1) = f k) (hf : Ev f r) : Ev g r := by
  obtain ⟨K, hK⟩ := hf
  refine ⟨K + 1, fun k hk => ?_⟩
  obtain ⟨j, rfl⟩ : ∃ j, k = j + 1 := ⟨k - 1, by omega⟩
  rw [h]
  exact hK j (by omega)
theorem bind {g : Nat → Option α} {h : Nat → α → Option β} {a : α} {b : β} (hg : Ev g a) (hh : Ev (fun k => h k a) b) : Ev (fun k => (g k).bind fun x => h k x) b := by
  obtain ⟨K, hK⟩ := hg
  obtain ⟨L, hL⟩ := hh
  refine ⟨max K L, fun k hk => ?_⟩
  show (g k).bind (fun x => h k x) = _
  rw [hK k (by omega)]
  exact hL k (by omega)
theorem bif_tt {f g : Nat → Option α} {c : Bool} {r : α} (hc : c = true) (hf : Ev f r) : Ev (fun k => bif c then f k else g k) r := by subst hc; exact hf
theorem bif_ff {f g : Nat → Option α} {c : Bool} {r : α} (hc : c = false) (hg : Ev g r) : Ev (fun k => bif c then f k else g k) r := by subst hc; exact hg
theorem bif_ {f g : Nat → Option α} {c : Bool} {r : α} (hf : c = true → Ev f r) (hg : c = false → Ev g r) : Ev (fun k => bif c then f k else g k) r := by
  cases c
  · exact hg rfl
  · exact hf rfl
theorem out {g : Nat → Option α} {r : α} (h : Ev g r) : ∃ k, g k = Option.some r := by
  obtain ⟨K, hK⟩ := h
  exact ⟨K, hK K (Nat.le_refl _)⟩
end Ev
theorem lt_tt {i n : Nat} (h : i < n) : decide ((i : Int) < (n : Int)) = true := decide_eq_true (by omega)
theorem lt_ff {i n : Nat} (h : ¬ i < n) : decide ((i : Int) < (n : Int)) = false := decide_eq_false (by omega)
theorem inI_tt {i n : Nat} (h : i < n) : inI (i : Int) n = true := by unfold inI; rw [decide_eq_true (by omega), decide_eq_true (by omega)]; rfl
theorem getD_at {α : Type} {l : List α} {i : Nat} {d : α} (h : i < l.length) : l.getD (i : Int).toNat d = l[i] := by rw [Int.toNat_natCast]; simp [List.getD_eq_getElem?_getD, h]
theorem wrap_id {x : Int} (h1 : -9223372036854775808 ≤ x) (h2 : x ≤ 9223372036854775807) : IntKind.wrap .i64 x = x := by
  rw [IntKind.wrap_i64]
  omega
theorem wrap_at {i : Nat} (h : i ≤ 1000000000) : IntKind.wrap .i64 ((i : Int) + 1) = ((i + 1 : Nat) : Int) := by
  rw [wrap_id (by omega) (by omega)]; omega
theorem lt32 {n : Nat} (h : n < 4294967296) : decide (n < 4294967296) = true := decide_eq_true h
theorem drop_at {α : Type} {l : List α} {i : Nat} (h : i < l.length) : l.drop i = l[i] :: l.drop (i + 1) := List.drop_eq_getElem_cons h
theorem Ev.fold {α σ β : Type} (l : List α) (F : Nat → σ → Int → Option β) (st : σ → α → σ) (fin : σ → β) (ok : Nat → σ → Prop)
    (hend : ∀ s, ok l.length s → Ev (fun k => F k s (l.length : Int)) (fin s))
    (hstep : ∀ i s, (h : i < l.length) → ok i s → ok (i + 1) (st s l[i]) ∧ ∀ r, Ev (fun k => F k (st s l[i]) ((i + 1 : Nat) : Int)) r → Ev (fun k => F k s (i : Int)) r) :
    ∀ d i s, i + d = l.length → ok i s → Ev (fun k => F k s (i : Int)) (fin ((l.drop i).foldl st s))
  | 0, i, s, hi, hs => by
    obtain rfl : i = l.length := by omega
    rw [List.drop_length]
    exact hend s hs
  | d + 1, i, s, hi, hs => by
    have hil : i < l.length := by omega
    obtain ⟨h1, h2⟩ := hstep i s hil hs
    rw [drop_at hil, List.foldl_cons]
    exact h2 _ (Ev.fold l F st fin ok hend hstep d (i + 1) _ (by omega) h1)
theorem Ev.fold0 {α σ β : Type} (l : List α) (F : Nat → σ → Int → Option β) (st : σ → α → σ) (fin : σ → β) (ok : Nat → σ → Prop) (s : σ) (h0 : ok 0 s)
    (hend : ∀ s, ok l.length s → Ev (fun k => F k s (l.length : Int)) (fin s))
    (hstep : ∀ i s, (h : i < l.length) → ok i s → ok (i + 1) (st s l[i]) ∧ ∀ r, Ev (fun k => F k (st s l[i]) ((i + 1 : Nat) : Int)) r → Ev (fun k => F k s (i : Int)) r) :
    Ev (fun k => F k s 0) (fin (l.foldl st s)) := by
  have := Ev.fold l F st fin ok hend hstep l.length 0 s (by omega) h0
  simpa using this
theorem Ev.search {α β : Type} (l : List α) (F : Nat → Int → Option β) (p : α → Bool) (hit : Nat → β) (miss : β)
    (hend : Ev (fun k => F k (l.length : Int)) miss)
    (hstep : ∀ i, (h : i < l.length) → (p l[i] = true → Ev (fun k => F k (i : Int)) (hit i)) ∧ (p l[i] = false → ∀ r, Ev (fun k => F k ((i + 1 : Nat) : Int)) r → Ev (fun k => F k (i : Int)) r)) :
    ∀ d i, i + d = l.length → Ev (fun k => F k (i : Int)) (match (l.drop i).findIdx? p with | Option.some j => hit (i + j) | none => miss)
  | 0, i, hi => by
    obtain rfl : i = l.length := by omega
    rw [List.drop_length]
    exact hend
  | d + 1, i, hi => by
    have hil : i < l.length := by omega
    obtain ⟨h1, h2⟩ := hstep i hil
    rw [drop_at hil, List.findIdx?_cons]
    cases hp : p l[i] with
    | true => simpa using h1 hp
    | false =>
      have := h2 hp _ (Ev.search l F p hit miss hend hstep d (i + 1) (by omega))
      refine this |> fun h => ?_
      cases hf : (l.drop (i + 1)).findIdx? p with
      | none => rw [hf] at h; simpa using h
      | some j => rw [hf] at h; simpa [Nat.add_assoc, Nat.add_comm 1 j] using h
theorem Ev.any {α : Type} (l : List α) (F : Nat → Int → Option Bool) (p : α → Bool)
    (hend : Ev (fun k => F k (l.length : Int)) false)
    (hstep : ∀ i, (h : i < l.length) → (p l[i] = true → Ev (fun k => F k (i : Int)) true) ∧ (p l[i] = false → ∀ r, Ev (fun k => F k ((i + 1 : Nat) : Int)) r → Ev (fun k => F k (i : Int)) r)) :
    ∀ d i, i + d = l.length → Ev (fun k => F k (i : Int)) ((l.drop i).any p)
  | 0, i, hi => by
    obtain rfl : i = l.length := by omega
    rw [List.drop_length]
    exact hend
  | d + 1, i, hi => by
    have hil : i < l.length := by omega
    obtain ⟨h1, h2⟩ := hstep i hil
    rw [drop_at hil, List.any_cons]
    cases hp : p l[i] with
    | true => exact h1 hp
    | false => exact h2 hp _ (Ev.any l F p hend hstep d (i + 1) (by omega))
theorem search_at {α β : Type} (l : List α) (F : Nat → Int → Option β) (p : α → Bool) (hit : Nat → β) (miss : β) (hend : ∀ k, F (k + 1) (l.length : Int) = some miss)
    (hstep : ∀ k i, (h : i < l.length) → F (k + 1) (i : Int) = bif p l[i] then some (hit i) else F k ((i + 1 : Nat) : Int)) :
    ∀ d i, i + d = l.length → ∀ k, d < k → F k (i : Int) = some (match (l.drop i).findIdx? p with | some j => hit (i + j) | none => miss)
  | 0, i, hi, k, hk => by
    obtain rfl : i = l.length := by omega
    obtain ⟨k, rfl⟩ : ∃ j, k = j + 1 := ⟨k - 1, by omega⟩
    rw [List.drop_length]
    exact hend k
  | d + 1, i, hi, k, hk => by
    obtain ⟨k, rfl⟩ : ∃ j, k = j + 1 := ⟨k - 1, by omega⟩
    have hil : i < l.length := by omega
    rw [hstep k i hil, drop_at hil, List.findIdx?_cons]
    cases hp : p l[i] with
    | true => rfl
    | false =>
      rw [show (bif false then some (hit i) else F k ((i + 1 : Nat) : Int)) = F k ((i + 1 : Nat) : Int) from rfl, search_at l F p hit miss hend hstep d (i + 1) (by omega) k (by omega)]
      cases hf : (l.drop (i + 1)).findIdx? p with
      | none => simp
      | some j => simp [Nat.add_assoc, Nat.add_comm 1 j]
def idxOf {α : Type} (p : α → Bool) (l : List α) : Int := match l.findIdx? p with
  | some j => (j : Int)
  | none => -1
theorem idxOf_any {α : Type} (p : α → Bool) (l : List α) : decide (idxOf p l ≥ 0) = l.any p := by
  unfold idxOf
  cases h : l.findIdx? p with
  | none =>
    have : l.any p = false := by
      rw [List.any_eq_false]
      intro x hx
      rw [List.findIdx?_eq_none_iff] at h
      simpa using h x hx
    rw [this]
    exact decide_eq_false (by simp)
  | some j =>
    have : l.any p = true := by
      rw [List.any_eq_true]
      obtain ⟨hj, hp, _⟩ := List.findIdx?_eq_some_iff_getElem.1 h
      exact ⟨_, List.getElem_mem hj, hp⟩
    rw [this]
    exact decide_eq_true (by simp)
theorem Ev.all {α β : Type} {g : Nat → α → Option β} {p : α → β} : ∀ (l : List α), (∀ x ∈ l, Ev (fun k => g k x) (p x)) → ∃ K, ∀ k, K ≤ k → ∀ x ∈ l, g k x = Option.some (p x)
  | [], _ => ⟨0, fun _ _ x hx => by cases hx⟩
  | y :: l, h => by
    obtain ⟨K, hK⟩ := h y (by simp)
    obtain ⟨L, hL⟩ := Ev.all l (fun x hx => h x (List.mem_cons_of_mem _ hx))
    refine ⟨max K L, fun k hk x hx => ?_⟩
    rcases List.mem_cons.1 hx with rfl | hx
    · exact hK k (by omega)
    · exact hL k (by omega) x hx
theorem foldl_app {α β : Type} (f : α → β) : ∀ (l : List α) (s : List β), l.foldl (fun s x => s ++ [f x]) s = s ++ l.map f
  | [], s => by simp
  | x :: l, s => by rw [List.foldl_cons, foldl_app f l]; simp
end Go.Vm
end
section
namespace Go.Vm
set_option linter.unusedVariables false
theorem Ev.nany {α : Type} (l : List α) (F : Nat → Int → Option Bool) (p : α → Bool)
    (hend : Ev (fun k => F k (l.length : Int)) true)
    (hstep : ∀ i, (h : i < l.length) → (p l[i] = true → Ev (fun k => F k (i : Int)) false) ∧ (p l[i] = false → ∀ r, Ev (fun k => F k ((i + 1 : Nat) : Int)) r → Ev (fun k => F k (i : Int)) r)) :
    ∀ d i, i + d = l.length → Ev (fun k => F k (i : Int)) (!(l.drop i).any p)
  | 0, i, hi => by
    obtain rfl : i = l.length := by omega
    rw [List.drop_length]
    exact hend
  | d + 1, i, hi => by
    have hil : i < l.length := by omega
    obtain ⟨h1, h2⟩ := hstep i hil
    rw [drop_at hil, List.any_cons]
    cases hp : p l[i] with
    | true => exact h1 hp
    | false => exact h2 hp _ (Ev.nany l F p hend hstep d (i + 1) (by omega))
theorem Ev.any0 {α : Type} (l : List α) (F : Nat → Int → Option Bool) (p : α → Bool)
    (hend : Ev (fun k => F k (l.length : Int)) false)
    (hstep : ∀ i, (h : i < l.length) → (p l[i] = true → Ev (fun k => F k (i : Int)) true) ∧ (p l[i] = false → ∀ r, Ev (fun k => F k ((i + 1 : Nat) : Int)) r → Ev (fun k => F k (i : Int)) r)) :
    Ev (fun k => F k 0) (l.any p) := by
  have := Ev.any l F p hend hstep l.length 0 (by omega)
  simpa using this

theorem cs (a b : Bool) : (bif a then some b else some false) = some (a && b) := by cases a <;> rfl
theorem csn (a b : Bool) : (bif !a then some false else some b) = some (a && b) := by cases a <;> rfl
theorem cso (a b : Bool) : (bif a then some false else some b) = some (!a && b) := by cases a <;> rfl
theorem cst (a b : Bool) : (bif a then some true else some b) = some (a || b) := by cases a <;> rfl
namespace Ev
variable {g : Nat → Option Bool} {a v : Bool}
theorem and_ (h : a = true → Ev g v) : Ev (fun k => bif a then g k else Option.some false) (a && v) := by
  cases a
  · exact Ev.some _
  · exact h rfl
theorem nand_ (h : a = true → Ev g v) : Ev (fun k => bif !a then Option.some false else g k) (a && v) := by
  cases a
  · exact Ev.some _
  · exact h rfl
theorem norr (h : a = false → Ev g v) : Ev (fun k => bif a then Option.some false else g k) (!a && v) := by
  cases a
  · exact h rfl
  · exact Ev.some _
theorem bne_ {α : Type} [BEq α] {x y : α} (h : (x == y) = true → Ev g v) : Ev (fun k => bif (x != y) then Option.some false else g k) ((x == y) && v) := nand_ h
theorem ret {α : Type} {g : Nat → Option α} {r : α} (h : Ev g r) : Ev (fun k => (g k).bind fun x => Option.some x) r := bind h (Ev.some _)
theorem map_ {α β : Type} {g : Nat → Option α} {r : α} (f : α → β) (h : Ev g r) : Ev (fun k => (g k).bind fun x => Option.some (f x)) (f r) := bind h (Ev.some _)
theorem at_ {α : Type} {g : Nat → Option α} {r : α} (h : ∀ k, g k = Option.some r) : Ev g r := ⟨0, fun k _ => h k⟩
theorem to {α : Type} {g : Nat → Option α} {r r' : α} (h : Ev g r) (e : r = r') : Ev g r' := e ▸ h
end Ev
theorem Ev.allL {α : Type} (l : List α) (F : Nat → Int → Option Bool) (p : α → Bool) (Q : Bool) (hend : Ev (fun k => F k (l.length : Int)) Q)
    (hstep : ∀ i, (h : i < l.length) → ∀ r, Ev (fun k => F k ((i + 1 : Nat) : Int)) r → Ev (fun k => F k (i : Int)) (p l[i] && r)) : Ev (fun k => F k 0) (l.all p && Q) := by
  have : ∀ d i, i + d = l.length → Ev (fun k => F k (i : Int)) ((l.drop i).all p && Q) := by
    intro d
    induction d with
    | zero =>
      intro i hi
      obtain rfl : i = l.length := by omega
      rw [List.drop_length]
      exact hend
    | succ d ih =>
      intro i hi
      have hil : i < l.length := by omega
      rw [drop_at hil, List.all_cons, Bool.and_assoc]
      exact hstep i hil _ (ih (i + 1) (by omega))
  have := this l.length 0 (by omega)
  simpa using this
theorem Ev.allN (n : Nat) (F : Nat → Int → Option Bool) (p : Nat → Bool) (Q : Bool) (hend : Ev (fun k => F k (n : Int)) Q)
    (hstep : ∀ i, i < n → ∀ r, Ev (fun k => F k ((i + 1 : Nat) : Int)) r → Ev (fun k => F k (i : Int)) (p i && r)) : Ev (fun k => F k 0) ((List.range n).all p && Q) :=
  Ev.allL (List.range n) F p Q (by simpa using hend) (fun i h r hr => by
    have hi : i < n := by simpa using h
    have := hstep i hi r hr
    simpa using this)
end Go.Vm
end
section
namespace Go.Vm
open Go.RowKit Go.Deep Go.ChangeShapes Go.WideShapes
set_option linter.unusedVariables false
set_option linter.unusedSimpArgs false

def Wf : (t : Ty) → t.den → Prop
  | .int k, x => k.min ≤ (x : Int) ∧ (x : Int) ≤ k.max
  | .bool, _ => True
  | .str, x => ByteArray.size x ≤ maxLen
  | .mp _ _, _ => False
  | .sl _ t, x => List.length (α := t.den) x ≤ maxLen ∧ ∀ y ∈ (x : List t.den), Wf t y
  | .arr n t, x => List.length (α := t.den) x = n ∧ ∀ y ∈ (x : List t.den), Wf t y
  | .st c, x => Wf c x
  | .pair a b, x => Wf a x.1 ∧ Wf b x.2
  | .tup _, _ => False
  | .unit, _ => False
  | .any _ _, _ => False
  | .pt _, _ => False
  | .iter, _ => False

section
variable {H : Type} (enc : TypeId × Value → H) (P : Program) (w : World) (base : Nat) (spare : Nat → Bool) (held : Bool)
def OpT (ty : Ty) (t : TypeId) : Prop := ty.plain = true → ∀ fuel cs y, DataW.trod enc P w base spare held fuel t cs = some y → ∃ a : ty.den, RelC w (fun b => b < w.heap.size) ty a cs ∧ Wf ty a
variable {enc P w base spare held}
theorem choose_ {α : Type} {R : Nat → α → Prop} : ∀ n, (∀ i, i < n → ∃ a, R i a) → ∃ l : List α, l.length = n ∧ ∀ i a, l[i]? = some a → R i a
  | 0, _ => ⟨[], rfl, fun i a h => by simp at h⟩
  | n + 1, h => by
    obtain ⟨l, hl, hr⟩ := choose_ n (fun i hi => h i (by omega))
    obtain ⟨a, ha⟩ := h n (by omega)
    refine ⟨l ++ [a], by simp [hl], fun i b hb => ?_⟩
    rw [List.getElem?_append] at hb
    split at hb
    · exact hr i b hb
    · rename_i hge
      have : i = n := by
        have h2 := (List.getElem?_eq_some_iff.1 hb).1
        simp at h2
        omega
      subst this
      rw [hl] at hb
      simp at hb
      subst hb
      exact ha
theorem relL_of {α : Type} {R : α → List Value → Prop} {n : Nat} (hlen : ∀ y c, R y c → c.length = n) : ∀ (l : List α) (cs : List Value), cs.length = l.length * n → (∀ i y, l[i]? = some y → R y ((cs.drop (i * n)).take n)) → RelL R l cs
  | [], cs, hl, _ => List.eq_nil_of_length_eq_zero (by simpa using hl)
  | y :: l, cs, hl, h => by
    refine ⟨cs.take n, cs.drop n, (List.take_append_drop n cs).symm, by simpa using h 0 y rfl, relL_of hlen l (cs.drop n) ?_ fun i z hz => ?_⟩
    · rw [List.length_drop, hl, List.length_cons, Nat.add_mul, Nat.one_mul]; omega
    · have := h (i + 1) z (by simpa using hz)
      rw [List.drop_drop]
      rwa [Nat.add_mul, Nat.one_mul, Nat.add_comm] at this
theorem cellsOf_ty {T : Tab} {tid : TypeId} {ty : Ty} (h : TyOk P T tid ty) : P.cellsOf tid = ty.size := by
  obtain ⟨i, z, hi, hs, _⟩ := h.info
  unfold Program.cellsOf
  rw [hi]
  simpa using hs
theorem opFlds {T : Tab} (hT : TabOk P T) {n : Nat} {cs : List Value} : ∀ (ty : Ty) (fs : List Field) (off : Nat), ty.plain = true → (∀ (a : Ty) t, a.dep < ty.dep + 1 → T t = some a → OpT enc P w base spare held a t) → Flds T fs off ty → off + ty.size = cs.length →
    (∀ f ∈ fs, ∃ y, DataW.trod enc P w base spare held n f.type ((cs.drop f.offset).take (P.cellsOf f.type)) = some y) → ∃ a : ty.den, RelC w (fun b => b < w.heap.size) ty a (cs.drop off) ∧ Wf ty a := by
  intro ty
  have hone : ∀ (ty : Ty), (match ty with | .pair _ _ => False | _ => True) → ∀ (fs : List Field) (off : Nat), ty.plain = true → (∀ (a : Ty) t, a.dep < ty.dep + 1 → T t = some a → OpT enc P w base spare held a t) → Flds T fs off ty → off + ty.size = cs.length →
    (∀ f ∈ fs, ∃ y, DataW.trod enc P w base spare held n f.type ((cs.drop f.offset).take (P.cellsOf f.type)) = some y) → ∃ a : ty.den, RelC w (fun b => b < w.heap.size) ty a (cs.drop off) ∧ Wf ty a := by
    intro ty hp fs off hpl ih hF hl hh
    have hF' : ∃ f, fs = [f] ∧ T f.type = some ty ∧ 0 < ty.size ∧ f.offset = off := by
      cases ty <;> (try exact hp.elim) <;> (unfold Flds at hF; split at hF <;> first | exact hF.elim | (rename_i f; exact ⟨_, rfl, hF.1, hF.2.1, hF.2.2.1⟩) | (simp_all))
    obtain ⟨f, rfl, hf, hp0, ho⟩ := hF'
    obtain ⟨y, hy⟩ := hh f (by simp)
    rw [cellsOf_ty (hT _ _ hf), ho, List.take_of_length_le (by rw [List.length_drop]; omega)] at hy
    exact ih ty _ (by omega) hf hpl _ _ _ hy
  induction ty with
  | pair a b iha ihb =>
    intro fs off hpl ih hF hl hh
    simp only [Ty.plain, Bool.and_eq_true] at hpl
    cases fs with
    | nil => exact hF.elim
    | cons f fs =>
      obtain ⟨hf, hp0, ho, _, hr⟩ := hF
      obtain ⟨y, hy⟩ := hh f (by simp)
      have hsz : Ty.size (.pair a b) = a.size + b.size := rfl
      have hd : Ty.dep (.pair a b) = max a.dep b.dep := rfl
      rw [cellsOf_ty (hT _ _ hf), ho] at hy
      obtain ⟨x, hx, wx⟩ := ih a _ (by omega) hf hpl.1 _ _ _ hy
      obtain ⟨z, hz, wz⟩ := ihb fs (off + a.size) hpl.2 (fun a' t h1 h2 => ih a' t (by omega) h2) hr (by omega) (fun f' h' => hh f' (List.mem_cons_of_mem _ h'))
      refine ⟨(x, z), ⟨_, _, ?_, hx, hz⟩, wx, wz⟩
      rw [← List.drop_drop, List.take_append_drop]
  | int k => exact hone _ trivial
  | bool => exact hone _ trivial
  | str => exact hone _ trivial
  | any it st => exact hone _ trivial
  | pt e => exact hone _ trivial
  | iter => exact hone _ trivial
  | sl e t _ => exact hone _ trivial
  | mp k t _ _ => exact hone _ trivial
  | arr n t _ => exact hone _ trivial
  | st c _ => exact hone _ trivial
  | tup c _ => exact hone _ trivial
  | unit => exact hone _ trivial
theorem opT {T : Tab} (hT : TabOk P T) : ∀ (d : Nat) (ty : Ty), ty.dep < d → ∀ t, T t = some ty → OpT enc P w base spare held ty t := by
  intro d
  induction d with
  | zero => intro ty h; omega
  | succ d ih =>
    intro ty hd t ht hpl fuel cs y h
    have hu := (hT _ _ ht).und
    have hcs := cellsOf_ty (hT _ _ ht)
    cases ty with
    | int k =>
      obtain ⟨n, rfl, _, hw⟩ := DataW.trod_int hu h
      refine ⟨n, rfl, ?_⟩
      simp only [Lit.wf, Bool.and_eq_true, decide_eq_true_eq] at hw
      exact hw
    | bool =>
      obtain ⟨b, rfl, _⟩ := DataW.trod_bool hu h
      exact ⟨b, rfl, trivial⟩
    | str =>
      obtain ⟨s, rfl, _, hs⟩ := DataW.trod_string hu h
      exact ⟨s, rfl, hs⟩
    | mp k v => simp [Ty.plain] at hpl
    | any it st => simp [Ty.plain] at hpl
    | pt e => simp [Ty.plain] at hpl
    | iter => exact hu.elim
    | sl e t' =>
      obtain ⟨hu, he, hpos⟩ := hu
      have hce := cellsOf_ty (hT _ _ he)
      rcases open_slice hu h with ⟨rfl, _⟩ | ⟨a, len, cap, m, n, D, Pl, rfl, hb, hl, hm, hmm, _, hi⟩
      · exact ⟨([] : List t'.den), ⟨none, 0, rfl, Nat.le_refl _, fun h => absurd h (Nat.lt_irrefl 0)⟩, Nat.zero_le _, fun y hy => by cases hy⟩
      · have hlm : len ≤ m := by rw [hmm]; split <;> omega
        obtain ⟨l, hlen, hR⟩ := choose_ (R := fun i (x : t'.den) => (∃ c, c.length = t'.size ∧ RelC w (fun b => b < w.heap.size) t' x c ∧ ∀ j u, c[j]? = some u → w.cell? (a.add (i * t'.size + j)) = some u) ∧ Wf t' x) len (fun i hil => by
          obtain ⟨cs', hc, ht'⟩ := hi i (by omega)
          obtain ⟨x, hK, hQ⟩ := ih t' (by have : Ty.dep (.sl e t') = t'.dep + 1 := rfl; omega) e he (by simpa [Ty.plain] using hpl) _ _ _ ht'
          rw [hce] at hc
          obtain ⟨_, hcl, hat⟩ := World.cells?_some hc
          refine ⟨x, ⟨cs', hK.len, hK, fun j u hu => ?_⟩, hQ⟩
          have hj : j < t'.size := by have := (List.getElem?_eq_some_iff.1 hu).1; rw [hK.len] at this; exact this
          have := hat j hj
          rw [Go.Deep.add_add] at this
          rw [this, hu])
        refine ⟨l, ⟨some a, cap, ?_, ?_, fun hn => ?_⟩, ?_, fun z hz => ?_⟩
        · show [Value.slice (some a) len cap] = [Value.slice (some a) l.length cap]; rw [hlen]
        · show l.length ≤ cap; omega
        · have hl0 : 0 < l.length := hn
          obtain ⟨inner, hin, hc⟩ : ∃ inner : List Value, inner.length = len * t'.size ∧ ∀ i u, inner[i]? = some u → w.cell? (a.add i) = some u := by
            obtain ⟨inner, hil, hiR⟩ := choose_ (R := fun i (u : Value) => w.cell? (a.add i) = some u) (len * t'.size) (fun i hi2 => by
              have hq : i / t'.size < len := by rw [Nat.div_lt_iff_lt_mul hpos]; exact hi2
              obtain ⟨⟨c, hcl, hr, hcc⟩, _⟩ := hR (i / t'.size) _ (List.getElem?_eq_getElem (by omega))
              have hj : i % t'.size < c.length := by rw [hcl]; exact Nat.mod_lt _ hpos
              have h0 := hcc (i % t'.size) _ (List.getElem?_eq_getElem hj)
              rw [Nat.mul_comm, Nat.div_add_mod] at h0
              exact ⟨_, h0⟩)
            exact ⟨inner, hil, hiR⟩
          have hsz1 : 0 < len * t'.size := Nat.mul_pos (by omega) hpos
          have hblk : a.block < w.heap.size := by
            have := hc 0 _ (List.getElem?_eq_getElem (by omega))
            have h2 := World.block_lt_of_cell? w _ this
            rw [Addr.add] at h2
            split at h2 <;> exact h2
          refine ⟨a, inner, rfl, hblk, by rw [hin, ← hlen], hc, relL_of (n := t'.size) (fun y c hyc => hyc.len) l inner (by rw [hin, hlen]) fun i z hz => ?_⟩
          obtain ⟨⟨c, hcl, hr, hcc⟩, _⟩ := hR i z hz
          have hi3 : i < len := by have := (List.getElem?_eq_some_iff.1 hz).1; omega
          have heq : (inner.drop (i * t'.size)).take t'.size = c := by
            have hle : i * t'.size + t'.size ≤ len * t'.size := by
              have := Nat.mul_le_mul_right t'.size (show i + 1 ≤ len by omega)
              rw [Nat.add_mul, Nat.one_mul] at this; exact this
            apply List.ext_getElem?
            intro j
            by_cases hj : j < t'.size
            · rw [List.getElem?_take_of_lt hj, List.getElem?_drop, List.getElem?_eq_getElem (by omega), List.getElem?_eq_getElem (by omega)]
              have h1 := hc (i * t'.size + j) _ (List.getElem?_eq_getElem (by omega))
              have h2 := hcc j _ (List.getElem?_eq_getElem (by omega))
              rw [h1] at h2
              exact h2
            · rw [List.getElem?_eq_none (by rw [List.length_take]; omega), List.getElem?_eq_none (by omega)]
          rw [heq]
          exact hr
        · show l.length ≤ maxLen; omega
        · obtain ⟨i, hil, rfl⟩ := List.getElem_of_mem hz
          exact (hR i _ (List.getElem?_eq_getElem hil)).2
    | arr n t' =>
      obtain ⟨e, hu, he, hpos, _⟩ := hu
      have hce := cellsOf_ty (hT _ _ he)
      obtain ⟨xs, n', _, _, hlen, hxl, hi⟩ := DataW.trod_array hu h
      obtain ⟨l, hl, hR⟩ := choose_ (R := fun i (x : t'.den) => RelC w (fun b => b < w.heap.size) t' x ((cs.drop (i * t'.size)).take t'.size) ∧ Wf t' x) n (fun i hin => by
        have h1 := hi i hin
        rw [List.getElem?_eq_getElem (by omega), hce] at h1
        exact ih t' (by have : Ty.dep (.arr n t') = t'.dep + 1 := rfl; omega) e he (by simpa [Ty.plain] using hpl) _ _ _ h1)
      refine ⟨l, ⟨hl, relL_of (n := t'.size) (fun y c hyc => hyc.len) l cs ?_ fun i y hy => (hR i y hy).1⟩, hl, fun z hz => ?_⟩
      · rw [hlen, hcs, hl]; rfl
      · obtain ⟨i, hil, rfl⟩ := List.getElem_of_mem hz
        exact (hR i _ (List.getElem?_eq_getElem hil)).2
    | st c =>
      obtain ⟨fs, hu, hF, _⟩ := hu
      obtain ⟨xs, n, _, _, hlen, hxl, hi⟩ := DataW.trod_struct hu h
      have hd2 : Ty.dep (.st c) = c.dep + 1 := rfl
      obtain ⟨a, ha, wa⟩ := opFlds (enc := enc) (base := base) (spare := spare) (held := held) hT (n := n) (cs := cs) c fs.toList 0 (by simpa [Ty.plain] using hpl) (fun a t h1 h2 => ih a (by omega) t h2) hF (by rw [hlen, hcs]; show 0 + c.size = c.size; omega) (fun f hf => by
        obtain ⟨i, hil, rfl⟩ := List.getElem_of_mem hf
        have h1 := hi i _ (show fs[i]? = some (fs.toList[i]) by rw [← Array.getElem?_toList]; exact List.getElem?_eq_getElem hil)
        have h2 : i < xs.length := by rw [hxl]; simpa using hil
        rw [List.getElem?_eq_getElem h2] at h1
        exact ⟨_, h1⟩)
      exact ⟨a, by rw [List.drop_zero] at ha; exact ha, wa⟩
    | pair a b => exact hu.elim
    | tup c => exact hu.elim
    | unit => exact hu.elim
theorem relV_arg {T : Tab} (hT : TabOk P T) {ty : Ty} {t : TypeId} (ht : T t = some ty) (hpl : ty.plain = true) {v : Value} {b0 : Nat} (hv : Value.okWide P w .any b0 t v) {d : DataW H} {p : List MemPlace} (h : DataW.Trod enc P w base spare held t v d p) :
    ∃ a : ty.den, RelD w (fun b => b < w.heap.size) ty a v ∧ Wf ty a := by
  have h' := h
  obtain ⟨fuel, hf⟩ := h
  obtain ⟨a, ha, wa⟩ := opT hT _ ty (Nat.lt_succ_self _) t ht hpl _ _ _ hf
  refine ⟨a, ?_, wa⟩
  have hu := (hT _ _ ht).und
  cases ty with
  | int k =>
    obtain ⟨n, rfl, _⟩ := open_int hu hv h'
    simpa [RelD, RelV1, Value.cells] using ha
  | bool =>
    obtain ⟨n, rfl, _⟩ := open_bool hu hv h'
    simpa [RelD, RelV1, Value.cells] using ha
  | str =>
    obtain ⟨n, rfl, _⟩ := Go.ChangeMaps.open_string hu hv h'
    simpa [RelD, RelV1, Value.cells] using ha
  | mp k v => simp [Ty.plain] at hpl
  | any it st => simp [Ty.plain] at hpl
  | pt e => simp [Ty.plain] at hpl
  | iter => exact hu.elim
  | sl e t' =>
    obtain ⟨a', len, cap, rfl⟩ := okWide_slice hu.1 hv
    simpa [RelD, RelV1, Value.cells] using ha
  | arr n t' =>
    obtain ⟨e, hu, _⟩ := hu
    unfold Value.okWide at hv
    rw [hu] at hv
    obtain ⟨cs, rfl, _⟩ := hv
    exact ⟨cs, rfl, ha⟩
  | st c =>
    obtain ⟨fs, hu, _⟩ := hu
    unfold Value.okWide at hv
    rw [hu] at hv
    obtain ⟨cs, rfl, _⟩ := hv
    exact ⟨cs, rfl, ha⟩
  | pair a b => exact hu.elim
  | tup c => exact hu.elim
  | unit => exact hu.elim
def WfAll : (tys : List Ty) → dens (tys.map PK.val) → Prop
  | [], _ => True
  | t :: ts, a => Wf t a.1 ∧ WfAll ts a.2
def tysB (T : Tab) : List TypeId → List Ty → Bool
  | [], [] => true
  | t :: ts, y :: ys => decide (T t = some y) && y.plain && tysB T ts ys
  | _, _ => false
theorem row_args {T : Tab} (hT : TabOk P T) {b0 : Nat} {fl : Bool} : ∀ (ts : List TypeId) (tys : List Ty), tysB T ts tys = true → ∀ {vs : List Value} {ds : List (DataW H)} {p : List MemPlace}, DataW.TrodAll enc P w base spare held ts vs ds p →
    (∀ (j : Nat) t v, ts[j]? = some t → vs[j]? = some v → Value.okWide P w .any b0 t v) →
    ∃ as : dens (tys.map PK.val), RelArgs P w (fun b => b < w.heap.size) (fun b => b < w.heap.size) fl (tys.map PK.val) as vs ∧ WfAll tys as
  | [], [], _, vs, ds, p, h, _ => by
    obtain ⟨rfl, rfl, rfl⟩ := trodAll_nil h
    exact ⟨(), rfl, trivial⟩
  | t :: ts, y :: ys, hty, vs, ds, p, h, hok => by
    simp only [tysB, Bool.and_eq_true, decide_eq_true_eq] at hty
    obtain ⟨v, vs', d, ds', p', q', rfl, rfl, rfl, h0, r0⟩ := trodAll_cons h
    obtain ⟨a, ha, wa⟩ := relV_arg hT hty.1.1 hty.1.2 (hok 0 t v rfl rfl) h0
    obtain ⟨as, has, was⟩ := row_args hT (fl := fl) ts ys hty.2 r0 (fun j t' v' h1 h2 => hok (j + 1) t' v' (by simpa using h1) (by simpa using h2))
    exact ⟨(a, as), ⟨v, vs', rfl, ha, has⟩, wa, was⟩
  | [], _ :: _, h, _, _, _, _, _ => by simp [tysB] at h
  | _ :: _, [], h, _, _, _, _, _ => by simp [tysB] at h
theorem row_back (hl : laidOutB P = true) {w' : World} (hb : Below w.heap.size w w') : ∀ {ts : List TypeId} {vs : List Value} {ds : List (DataW H)} {p : List MemPlace}, ts.all (fun t => P.readableRec t && decide (t < P.types.size)) = true →
    DataW.TrodAll enc P w 0 (fun _ => true) true ts vs ds p → DataW.TrodAll enc P w' 0 (fun b => decide (b < w.heap.size)) true ts vs ds p
  | [], vs, ds, p, _, h => by
    obtain ⟨rfl, rfl, rfl⟩ := trodAll_nil h
    exact trodAll_mk0
  | t :: ts, vs, ds, p, hr, h => by
    simp only [List.all_cons, Bool.and_eq_true, decide_eq_true_eq] at hr
    obtain ⟨v, vs', d, ds', p', q', rfl, rfl, rfl, h0, r0⟩ := trodAll_cons h
    have k0 := h0
    have lt0 : ∀ x ∈ p', x.block < w.heap.size := by obtain ⟨m, hm⟩ := k0; exact DataW.trod_lt m _ _ _ hm
    exact trodAll_cons_mk (Below.trod hl hr.1.1 hr.1.2 h0 hb lt0) (row_back hl hb (by simpa using hr.2) r0)
theorem law_calls {f : FuncId} {tys : List Ty} {fn : Nat → fns (tys.map PK.val) (Option (Ty.den .bool))} (hs : ∀ k, SpecOk P f (.pu (tys.map PK.val) .bool (fn k))) {as : dens (tys.map PK.val)} (hp : ∃ k, app _ (fn k) as = some true) {vs : List Value}
    (h : RelArgs P w (fun b => b < w.heap.size) (fun b => b < w.heap.size) true (tys.map PK.val) as vs) : Calls P f vs.toArray w fun e w' => e = .returned (.bool true) ∧ Below w.heap.size w w' := by
  obtain ⟨k, hk⟩ := hp
  refine ((hs k).2 w _ _ as vs true (fun b hb => hb) (fun b hb => hb) h hk).mono fun e w' ⟨v, he, hv, hb⟩ => ⟨?_, hb⟩
  have : v = .bool true := by simpa [RelD, RelV1, RelC] using hv
  rw [he, this]
end
end Go.Vm
end
