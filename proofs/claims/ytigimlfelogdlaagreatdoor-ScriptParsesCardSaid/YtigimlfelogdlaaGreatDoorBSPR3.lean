/- What the claim SPR leans on: texts joined by bundle.py, a program of ours; the words cut down to what is used. -/
import Derived.Test.YtigimlfelogdlaaGreatDoorBSPR2
import Derived.WideShapes
import Derived.ProofKit
import Derived.Deep.Slices
import Derived.OpenShut
import Derived.ChangeArms
import Derived.ShutString
import Derived.ChangeOld
import Derived.Below
import Derived.Carry
section
namespace Go.Vm
open Go.RowKit
set_option linter.unusedVariables false
set_option linter.unusedSimpArgs false

noncomputable def sealed {α : Type} (x : α) : α := Classical.choose (⟨x, rfl⟩ : ∃ y, y = x)
theorem sealed_eq {α : Type} (x : α) : sealed x = x := Classical.choose_spec (⟨x, rfl⟩ : ∃ y, y = x)
def finO (fn : Func) (e : TypeId) (t : Ty) (st : St) : Option (List t.den) := match fn.results.toList with
  | [.tmp i] => match st.tmp i with
    | .nils => some []
    | .own a => match st.mem.arr a with
      | .at_ A => match A.open_ with
        | true => if h : Ty.sl A.e A.t = .sl e t then some (Ty.cast (a := .sl A.e A.t) (b := .sl e t) h A.xs) else none
        | false => none
      | _ => none
    | _ => none
  | _ => none
def Fn.ofO (A : (R : Type) → Alg R) (G : Nat → Gam) (T : Tab) (fn : Func) (cuts : List (Nat × List CK)) (e : TypeId) (t : Ty) (k : Nat) : Fn (List t.den) :=
  ⟨A _, G k, T, fn.ntmps, cuts, finO fn e t⟩
def runO (A : (R : Type) → Alg R) (G : Nat → Gam) (T : Tab) (fn : Func) (cuts : List (Nat × List CK)) (ps : List PK) (e : TypeId) (t : Ty) (k : Nat) : fns ps (Option (List t.den)) :=
  cur ps fun a => match fn.body with
    | some c => runT (Fn.ofO A G T fn cuts e t k) (runK (Fn.ofO A G T fn cuts e t) k) 100000 false [.code c] (putP ps a 0 St.empty)
    | none => none
def runOC (A : (R : Type) → Alg R) (G : Nat → Gam) (T : Tab) (fn : Func) (cuts : List (Nat × List CK)) (e : TypeId) (t : Ty) (n : Nat) (cs : List CK) (k : Nat) (l : cden cs) : Option (List t.den) :=
  match fn.body with
  | some c => match todoAt n 100000 [.code c] with
    | some todo => runK (Fn.ofO A G T fn cuts e t) k todo (putCs cs l)
    | none => none
  | none => none
abbrev SpecOkO (P : Program) (f : FuncId) (ps : List PK) (e : TypeId) (t : Ty) (fn : fns ps (Option (List t.den))) : Prop := SpecOk P f (.fr ps e t fn)
section
variable {P : Program} {T : Tab}
theorem runO_ok {G : Nat → Gam} (hT : TabOk P T) (hG : ∀ k f s, G k f = some s → SpecOk P f s) (hmix : P.follows .mixedOrders = true) {f : FuncId} {fn : Func} (hf : P.funcs[f]? = some fn) (hen : Enters P f) (cuts : List (Nat × List CK)) (ps : List PK) (e : TypeId) (t : Ty)
    (hps : ps.length ≤ fn.ntmps) (k : Nat) : SpecOkO P f ps e t (runO Alg.std G T fn cuts ps e t k) := by
  refine ⟨hen, fun w S S1' as vs y h01 hlt hargs hy => ?_⟩
  unfold runO at hy
  rw [app_cur] at hy
  cases hb : fn.body with
  | none => rw [hb] at hy; cases hy
  | some code =>
    rw [hb] at hy
    simp only at hy
    let E : Env := ⟨w, fun b => S b, fun _ => False⟩
    let c : Cx := ⟨E.S0, fun _ => 0, fun _ => undef, St.empty.mem, w⟩
    have hvl : vs.length = ps.length := by
      have : ∀ (ps : List PK) (as : dens ps) (vs : List Value), RelArgs P w S S1' false ps as vs → vs.length = ps.length := by
        intro ps
        induction ps with
        | nil => intro as vs h; have : vs = [] := h; rw [this]; rfl
        | cons p ps ih =>
          intro as vs h
          cases p with
          | val t => obtain ⟨v, l, rfl, _, hl⟩ := h; simp [ih _ _ hl]
          | ro t => obtain ⟨v, l, rfl, _, _, hl⟩ := h; simp [ih _ _ hl]
          | rw t => exact h.elim
          | fn a r => obtain ⟨v, l, rfl, _, hl⟩ := h; simp [ih _ _ hl]
      exact this ps as vs hargs
    have hS0lt : ∀ b, E.S0 b → b < w.heap.size := fun b hb => hlt b (h01 b hb)
    have hrel : Rel E c := ⟨rfl, rfl, rfl, Nat.le_refl _, fun _ _ _ => rfl, fun _ h => h, hS0lt, fun _ h => .inl h, fun b B h => (by cases h), fun b h => absurd rfl h, fun a A h => (by cases h), fun b b' h => absurd rfl h,
      fun a a' A A' g h => (by cases h), fun b a A h => absurd rfl h, ⟨fun a M h => (by cases h), fun a a' M M' h => (by cases h)⟩⟩
    let arr : Array Value := vs.toArray ++ Array.replicate (fn.ntmps - vs.toArray.size) undef
    have hput := putP_ok (P := P) (E := E) (c := c) (w := w) (S := S) (S1' := S1') (flat := false) (arr := arr) rfl rfl (fun _ h => h) h01 hlt rfl (fun _ h => h) (fun hf b hb => by cases hf) ps as vs 0 St.empty hargs (fun j v hj => by
        have hjl : j < vs.length := (List.getElem?_eq_some_iff.1 hj).1
        have : arr[j]? = some v := by
          show (vs.toArray ++ _)[j]? = some v
          rw [Array.getElem?_append_left (by simpa using hjl)]
          simpa using hj
        simp [this]) (fun t => trivial)
    have inv : Inv P E fn.ntmps (putP ps as 0 St.empty) c ⟨arr, []⟩ := ⟨hput.1.symm, hrel, hput.2, rfl, by
      show (vs.toArray ++ Array.replicate (fn.ntmps - vs.toArray.size) undef).size = fn.ntmps
      simp only [Array.size_append, Array.size_replicate, List.size_toArray, hvl]
      omega⟩
    intro cs
    let b : Frame := { (default : Frame) with fn := f, kind := .normal }
    have henter : Frame.enter P f vs.toArray .normal = b.at ⟨arr, []⟩ [.code code] := by
      simp [Frame.enter, Frame.at, hf, hb, b, arr]
    have hfin : ∀ (k : Nat) (st : St) (c' : Cx) (a : Act), (Fn.ofO Alg.std G T fn cuts e t k).fin st = some y → Inv P E fn.ntmps st c' a → ∃ v, (results fn a.tmps).run P c'.w = .ok v c'.w ∧ RetO w S e t y (.returned v) c'.w := by
      intro _ st c' a h inv'
      have hbel : Below w.heap.size w c'.w := ⟨inv'.rel.os, inv'.rel.tape, inv'.rel.output, inv'.rel.size, fun k hk => inv'.rel.keep k hk (fun h => h)⟩
      have hnew : ∀ b, c'.S b → Ext' S w c'.w b := fun b hb => by
        rcases inv'.rel.new b hb with h' | h'
        · exact .inl h'
        · exact .inr ⟨h', inv'.rel.lt b hb⟩
      have h0 : finO fn e t st = some y := h
      unfold finO at h0
      generalize hl : fn.results.toList = ls at h0
      split at h0
      · rename_i i
        have hres : ∀ v, a.tmps.getD i undef = v → (results fn a.tmps).run P c'.w = .ok v c'.w := fun v hv => by
          rw [results_eq (P := P) fn a.tmps c'.w (vs := [v]) (by rw [hl]; simp only [List.mapM_cons, List.mapM_nil, rvRun, hv, Sem.run_bind, Sem.run_pure, Result.andThen_ok])]
          rfl
        have htmp := inv'.tmp i
        split at h0
        · rename_i hv
          injection h0 with h0
          subst h0
          rw [hv] at htmp
          exact ⟨_, hres _ htmp, _, [], fun b => c'.S b, rfl, ⟨by simp, .inl ⟨rfl, rfl⟩⟩, rfl, fun g hg => by simp [Value.ownBlock] at hg, hnew, hbel⟩
        · rename_i a' hv
          rw [hv] at htmp
          split at h0
          · rename_i A hA
            split at h0
            · rename_i hop
              split at h0
              · rename_i he
                injection h0 with h0
                have hAc : c'.m.arr a' = .at_ A := by rw [inv'.m]; exact hA
                have hva := htmp.2.1 A hAc
                have hra := inv'.rel.arr a' A hAc
                unfold RelA at hra
                rw [if_pos hop] at hra
                obtain ⟨inner, h1, h2, h3⟩ := hra
                obtain ⟨Ae, At, Ax, Ao⟩ := A
                simp only [Ty.sl.injEq] at he
                obtain ⟨he1, he2⟩ := he
                subst he1 he2
                have hy2 : Ax = y := h0
                subst hy2
                exact ⟨_, hres _ hva, _, inner, c'.S, rfl, h1, h2, h3, hnew, hbel⟩
              · cases h0
            · cases h0
          · cases h0
        · cases h0
      · cases h0
    have hends := runT_ok (P := P) (E := E) (n := fn.ntmps) (fn := fn) (f := f) (F := Fn.ofO Alg.std G T fn cuts e t k) rfl hT (hG k) hmix hf rfl (r := y) (Rr := RetO w S e t y) (b := b) rfl rfl (cs := cs)
      (fun todo st c' a h inv' => runK_ok (F := Fn.ofO Alg.std G T fn cuts e t) (fun _ => rfl) (fun _ => hT) hG hmix hf (fun _ => rfl) rfl rfl hfin k todo st c' a h inv') (hfin k) _ _ _ _ c ⟨arr, []⟩ hy inv
    rw [henter]
    exact hends
end
end Go.Vm
end
section
namespace Go.Vm
set_option linter.unusedVariables false
def Ev {α : Type} (g : Nat → Option α) (r : α) : Prop := ∃ K, ∀ k, K ≤ k → g k = some r
namespace Ev
variable {α β : Type}
theorem const {g : Option α} {r : α} (h : g = some r) : Ev (fun _ => g) r := ⟨0, fun _ _ => h⟩
theorem some (r : α) : Ev (fun _ => Option.some r) r := ⟨0, fun _ _ => rfl⟩
theorem congr {f g : Nat → Option α} {r : α} (h : ∀ k, g k = f k) (hf : Ev f r) : Ev g r := by
  obtain ⟨K, hK⟩ := hf
  exact ⟨K, fun k hk => (h k).trans (hK k hk)⟩
theorem step {f g : Nat → Option α} {r : α} (h : ∀ k, g (k + 1) = f k) (hf : Ev f r) : Ev g r := by
  obtain ⟨K, hK⟩ := hf
  refine ⟨K + 1, fun k hk => ?_⟩
  obtain ⟨j, rfl⟩ : ∃ j, k = j + 1 := ⟨k - 1, by omega⟩
  rw [h]
  exact hK j (by omega)
theorem bind {g : Nat → Option α} {h : Nat → α → Option β} {a : α} {b : β} (hg : Ev g a) (hh : Ev (fun k => h k a) b) : Ev (fun k => (g k).bind fun x => h k x) b := by
  obtain ⟨K, hK⟩ := hg
  obtain ⟨L, hL⟩ := hh
  refine ⟨max K L, fun k hk => ?_⟩
  show (g k).bind (fun x => h k x) = _
  rw [hK k (by omega)]
  exact hL k (by omega)
theorem bif_tt {f g : Nat → Option α} {c : Bool} {r : α} (hc : c = true) (hf : Ev f r) : Ev (fun k => bif c then f k else g k) r := by subst hc; exact hf
theorem bif_ff {f g : Nat → Option α} {c : Bool} {r : α} (hc : c = false) (hg : Ev g r) : Ev (fun k => bif c then f k else g k) r := by subst hc; exact hg
theorem bif_ {f g : Nat → Option α} {c : Bool} {r : α} (hf : c = true → Ev f r) (hg : c = false → Ev g r) : Ev (fun k => bif c then f k else g k) r := by
  cases c
  · exact hg rfl
  · exact hf rfl
theorem out {g : Nat → Option α} {r : α} (h : Ev g r) : ∃ k, g k = Option.some r := by
  obtain ⟨K, hK⟩ := h
  exact ⟨K, hK K (Nat.le_refl _)⟩
end Ev
theorem lt_tt {i n : Nat} (h : i < n) : decide ((i : Int) < (n : Int)) = true := decide_eq_true (by omega)
theorem lt_ff {i n : Nat} (h : ¬ i < n) : decide ((i : Int) < (n : Int)) = false := decide_eq_false (by omega)
theorem inI_tt {i n : Nat} (h : i < n) : inI (i : Int) n = true := by unfold inI; rw [decide_eq_true (by omega), decide_eq_true (by omega)]; rfl
theorem getD_at {α : Type} {l : List α} {i : Nat} {d : α} (h : i < l.length) : l.getD (i : Int).toNat d = l[i] := by rw [Int.toNat_natCast]; simp [List.getD_eq_getElem?_getD, h]
theorem wrap_id {x : Int} (h1 : -9223372036854775808 ≤ x) (h2 : x ≤ 9223372036854775807) : IntKind.wrap .i64 x = x := by
  rw [IntKind.wrap_i64]
  omega
theorem wrap_at {i : Nat} (h : i ≤ 1000000000) : IntKind.wrap .i64 ((i : Int) + 1) = ((i + 1 : Nat) : Int) := by
  rw [wrap_id (by omega) (by omega)]; omega
theorem lt32 {n : Nat} (h : n < 4294967296) : decide (n < 4294967296) = true := decide_eq_true h
theorem drop_at {α : Type} {l : List α} {i : Nat} (h : i < l.length) : l.drop i = l[i] :: l.drop (i + 1) := List.drop_eq_getElem_cons h
theorem Ev.fold {α σ β : Type} (l : List α) (F : Nat → σ → Int → Option β) (st : σ → α → σ) (fin : σ → β) (ok : Nat → σ → Prop)
    (hend : ∀ s, ok l.length s → Ev (fun k => F k s (l.length : Int)) (fin s))
    (hstep : ∀ i s, (h : i < l.length) → ok i s → ok (i + 1) (st s l[i]) ∧ ∀ r, Ev (fun k => F k (st s l[i]) ((i + 1 : Nat) : Int)) r → Ev (fun k => F k s (i : Int)) r) :
    ∀ d i s, i + d = l.length → ok i s → Ev (fun k => F k s (i : Int)) (fin ((l.drop i).foldl st s))
  | 0, i, s, hi, hs => by
    obtain rfl : i = l.length := by omega
    rw [List.drop_length]
    exact hend s hs
  | d + 1, i, s, hi, hs => by
    have hil : i < l.length := by omega
    obtain ⟨h1, h2⟩ := hstep i s hil hs
    rw [drop_at hil, List.foldl_cons]
    exact h2 _ (Ev.fold l F st fin ok hend hstep d (i + 1) _ (by omega) h1)
theorem Ev.fold0 {α σ β : Type} (l : List α) (F : Nat → σ → Int → Option β) (st : σ → α → σ) (fin : σ → β) (ok : Nat → σ → Prop) (s : σ) (h0 : ok 0 s)
    (hend : ∀ s, ok l.length s → Ev (fun k => F k s (l.length : Int)) (fin s))
    (hstep : ∀ i s, (h : i < l.length) → ok i s → ok (i + 1) (st s l[i]) ∧ ∀ r, Ev (fun k => F k (st s l[i]) ((i + 1 : Nat) : Int)) r → Ev (fun k => F k s (i : Int)) r) :
    Ev (fun k => F k s 0) (fin (l.foldl st s)) := by
  have := Ev.fold l F st fin ok hend hstep l.length 0 s (by omega) h0
  simpa using this
theorem Ev.search {α β : Type} (l : List α) (F : Nat → Int → Option β) (p : α → Bool) (hit : Nat → β) (miss : β)
    (hend : Ev (fun k => F k (l.length : Int)) miss)
    (hstep : ∀ i, (h : i < l.length) → (p l[i] = true → Ev (fun k => F k (i : Int)) (hit i)) ∧ (p l[i] = false → ∀ r, Ev (fun k => F k ((i + 1 : Nat) : Int)) r → Ev (fun k => F k (i : Int)) r)) :
    ∀ d i, i + d = l.length → Ev (fun k => F k (i : Int)) (match (l.drop i).findIdx? p with | Option.some j => hit (i + j) | none => miss)
  | 0, i, hi => by
    obtain rfl : i = l.length := by omega
    rw [List.drop_length]
    exact hend
  | d + 1, i, hi => by
    have hil : i < l.length := by omega
    obtain ⟨h1, h2⟩ := hstep i hil
    rw [drop_at hil, List.findIdx?_cons]
    cases hp : p l[i] with
    | true => simpa using h1 hp
    | false =>
      have := h2 hp _ (Ev.search l F p hit miss hend hstep d (i + 1) (by omega))
      refine this |> fun h => ?_
      cases hf : (l.drop (i + 1)).findIdx? p with
      | none => rw [hf] at h; simpa using h
      | some j => rw [hf] at h; simpa [Nat.add_assoc, Nat.add_comm 1 j] using h
theorem Ev.any {α : Type} (l : List α) (F : Nat → Int → Option Bool) (p : α → Bool)
    (hend : Ev (fun k => F k (l.length : Int)) false)
    (hstep : ∀ i, (h : i < l.length) → (p l[i] = true → Ev (fun k => F k (i : Int)) true) ∧ (p l[i] = false → ∀ r, Ev (fun k => F k ((i + 1 : Nat) : Int)) r → Ev (fun k => F k (i : Int)) r)) :
    ∀ d i, i + d = l.length → Ev (fun k => F k (i : Int)) ((l.drop i).any p)
  | 0, i, hi => by
    obtain rfl : i = l.length := by omega
    rw [List.drop_length]
    exact hend
  | d + 1, i, hi => by
    have hil : i < l.length := by omega
    obtain ⟨h1, h2⟩ := hstep i hil
    rw [drop_at hil, List.any_cons]
    cases hp : p l[i] with
    | true => exact h1 hp
    | false => exact h2 hp _ (Ev.any l F p hend hstep d (i + 1) (by omega))
theorem search_at {α β : Type} (l : List α) (F : Nat → Int → Option β) (p : α → Bool) (hit : Nat → β) (miss : β) (hend : ∀ k, F (k + 1) (l.length : Int) = some miss)
    (hstep : ∀ k i, (h : i < l.length) → F (k + 1) (i : Int) = bif p l[i] then some (hit i) else F k ((i + 1 : Nat) : Int)) :
    ∀ d i, i + d = l.length → ∀ k, d < k → F k (i : Int) = some (match (l.drop i).findIdx? p with | some j => hit (i + j) | none => miss)
  | 0, i, hi, k, hk => by
    obtain rfl : i = l.length := by omega
    obtain ⟨k, rfl⟩ : ∃ j, k = j + 1 := ⟨k - 1, by omega⟩
    rw [List.drop_length]
    exact hend k
  | d + 1, i, hi, k, hk => by
    obtain ⟨k, rfl⟩ : ∃ j, k = j + 1 := ⟨k - 1, by omega⟩
    have hil : i < l.length := by omega
    rw [hstep k i hil, drop_at hil, List.findIdx?_cons]
    cases hp : p l[i] with
    | true => rfl
    | false =>
      rw [show (bif false then some (hit i) else F k ((i + 1 : Nat) : Int)) = F k ((i + 1 : Nat) : Int) from rfl, search_at l F p hit miss hend hstep d (i + 1) (by omega) k (by omega)]
      cases hf : (l.drop (i + 1)).findIdx? p with
      | none => simp
      | some j => simp [Nat.add_assoc, Nat.add_comm 1 j]
def idxOf {α : Type} (p : α → Bool) (l : List α) : Int := match l.findIdx? p with
  | some j => (j : Int)
  | none => -1
theorem idxOf_any {α : Type} (p : α → Bool) (l : List α) : decide (idxOf p l ≥ 0) = l.any p := by
  unfold idxOf
  cases h : l.findIdx? p with
  | none =>
    have : l.any p = false := by
      rw [List.any_eq_false]
      intro x hx
      rw [List.findIdx?_eq_none_iff] at h
      simpa using h x hx
    rw [this]
    exact decide_eq_false (by simp)
  | some j =>
    have : l.any p = true := by
      rw [List.any_eq_true]
      obtain ⟨hj, hp, _⟩ := List.findIdx?_eq_some_iff_getElem.1 h
      exact ⟨_, List.getElem_mem hj, hp⟩
    rw [this]
    exact decide_eq_true (by simp)
theorem Ev.all {α β : Type} {g : Nat → α → Option β} {p : α → β} : ∀ (l : List α), (∀ x ∈ l, Ev (fun k => g k x) (p x)) → ∃ K, ∀ k, K ≤ k → ∀ x ∈ l, g k x = Option.some (p x)
  | [], _ => ⟨0, fun _ _ x hx => by cases hx⟩
  | y :: l, h => by
    obtain ⟨K, hK⟩ := h y (by simp)
    obtain ⟨L, hL⟩ := Ev.all l (fun x hx => h x (List.mem_cons_of_mem _ hx))
    refine ⟨max K L, fun k hk x hx => ?_⟩
    rcases List.mem_cons.1 hx with rfl | hx
    · exact hK k (by omega)
    · exact hL k (by omega) x hx
theorem foldl_app {α β : Type} (f : α → β) : ∀ (l : List α) (s : List β), l.foldl (fun s x => s ++ [f x]) s = s ++ l.map f
  | [], s => by simp
  | x :: l, s => by rw [List.foldl_cons, foldl_app f l]; simp
end Go.Vm
end
section
namespace Go.Vm
set_option linter.unusedVariables false
theorem Ev.nany {α : Type} (l : List α) (F : Nat → Int → Option Bool) (p : α → Bool)
    (hend : Ev (fun k => F k (l.length : Int)) true)
    (hstep : ∀ i, (h : i < l.length) → (p l[i] = true → Ev (fun k => F k (i : Int)) false) ∧ (p l[i] = false → ∀ r, Ev (fun k => F k ((i + 1 : Nat) : Int)) r → Ev (fun k => F k (i : Int)) r)) :
    ∀ d i, i + d = l.length → Ev (fun k => F k (i : Int)) (!(l.drop i).any p)
  | 0, i, hi => by
    obtain rfl : i = l.length := by omega
    rw [List.drop_length]
    exact hend
  | d + 1, i, hi => by
    have hil : i < l.length := by omega
    obtain ⟨h1, h2⟩ := hstep i hil
    rw [drop_at hil, List.any_cons]
    cases hp : p l[i] with
    | true => exact h1 hp
    | false => exact h2 hp _ (Ev.nany l F p hend hstep d (i + 1) (by omega))
theorem Ev.any0 {α : Type} (l : List α) (F : Nat → Int → Option Bool) (p : α → Bool)
    (hend : Ev (fun k => F k (l.length : Int)) false)
    (hstep : ∀ i, (h : i < l.length) → (p l[i] = true → Ev (fun k => F k (i : Int)) true) ∧ (p l[i] = false → ∀ r, Ev (fun k => F k ((i + 1 : Nat) : Int)) r → Ev (fun k => F k (i : Int)) r)) :
    Ev (fun k => F k 0) (l.any p) := by
  have := Ev.any l F p hend hstep l.length 0 (by omega)
  simpa using this

theorem cs (a b : Bool) : (bif a then some b else some false) = some (a && b) := by cases a <;> rfl
theorem csn (a b : Bool) : (bif !a then some false else some b) = some (a && b) := by cases a <;> rfl
theorem cso (a b : Bool) : (bif a then some false else some b) = some (!a && b) := by cases a <;> rfl
theorem cst (a b : Bool) : (bif a then some true else some b) = some (a || b) := by cases a <;> rfl
namespace Ev
variable {g : Nat → Option Bool} {a v : Bool}
theorem and_ (h : a = true → Ev g v) : Ev (fun k => bif a then g k else Option.some false) (a && v) := by
  cases a
  · exact Ev.some _
  · exact h rfl
theorem nand_ (h : a = true → Ev g v) : Ev (fun k => bif !a then Option.some false else g k) (a && v) := by
  cases a
  · exact Ev.some _
  · exact h rfl
theorem norr (h : a = false → Ev g v) : Ev (fun k => bif a then Option.some false else g k) (!a && v) := by
  cases a
  · exact h rfl
  · exact Ev.some _
theorem bne_ {α : Type} [BEq α] {x y : α} (h : (x == y) = true → Ev g v) : Ev (fun k => bif (x != y) then Option.some false else g k) ((x == y) && v) := nand_ h
theorem ret {α : Type} {g : Nat → Option α} {r : α} (h : Ev g r) : Ev (fun k => (g k).bind fun x => Option.some x) r := bind h (Ev.some _)
theorem map_ {α β : Type} {g : Nat → Option α} {r : α} (f : α → β) (h : Ev g r) : Ev (fun k => (g k).bind fun x => Option.some (f x)) (f r) := bind h (Ev.some _)
theorem at_ {α : Type} {g : Nat → Option α} {r : α} (h : ∀ k, g k = Option.some r) : Ev g r := ⟨0, fun k _ => h k⟩
theorem to {α : Type} {g : Nat → Option α} {r r' : α} (h : Ev g r) (e : r = r') : Ev g r' := e ▸ h
end Ev
theorem Ev.allL {α : Type} (l : List α) (F : Nat → Int → Option Bool) (p : α → Bool) (Q : Bool) (hend : Ev (fun k => F k (l.length : Int)) Q)
    (hstep : ∀ i, (h : i < l.length) → ∀ r, Ev (fun k => F k ((i + 1 : Nat) : Int)) r → Ev (fun k => F k (i : Int)) (p l[i] && r)) : Ev (fun k => F k 0) (l.all p && Q) := by
  have : ∀ d i, i + d = l.length → Ev (fun k => F k (i : Int)) ((l.drop i).all p && Q) := by
    intro d
    induction d with
    | zero =>
      intro i hi
      obtain rfl : i = l.length := by omega
      rw [List.drop_length]
      exact hend
    | succ d ih =>
      intro i hi
      have hil : i < l.length := by omega
      rw [drop_at hil, List.all_cons, Bool.and_assoc]
      exact hstep i hil _ (ih (i + 1) (by omega))
  have := this l.length 0 (by omega)
  simpa using this
theorem Ev.allN (n : Nat) (F : Nat → Int → Option Bool) (p : Nat → Bool) (Q : Bool) (hend : Ev (fun k => F k (n : Int)) Q)
    (hstep : ∀ i, i < n → ∀ r, Ev (fun k => F k ((i + 1 : Nat) : Int)) r → Ev (fun k => F k (i : Int)) (p i && r)) : Ev (fun k => F k 0) ((List.range n).all p && Q) :=
  Ev.allL (List.range n) F p Q (by simpa using hend) (fun i h r hr => by
    have hi : i < n := by simpa using h
    have := hstep i hi r hr
    simpa using this)
end Go.Vm
end
section
namespace Go.Vm
open Go.RowKit Go.Deep Go.ChangeShapes Go.WideShapes
set_option linter.unusedVariables false
set_option linter.unusedSimpArgs false

def Wf : (t : Ty) → t.den → Prop
  | .int k, x => k.min ≤ (x : Int) ∧ (x : Int) ≤ k.max
  | .bool, _ => True
  | .str, x => ByteArray.size x ≤ maxLen
  | .mp _ _, _ => False
  | .sl _ t, x => List.length (α := t.den) x ≤ maxLen ∧ ∀ y ∈ (x : List t.den), Wf t y
  | .arr n t, x => List.length (α := t.den) x = n ∧ ∀ y ∈ (x : List t.den), Wf t y
  | .st c, x => Wf c x
  | .pair a b, x => Wf a x.1 ∧ Wf b x.2
  | .tup _, _ => False
  | .unit, _ => False
  | .any _ _, _ => False
  | .pt _, _ => False
  | .iter, _ => False

section
variable {H : Type} (enc : TypeId × Value → H) (P : Program) (w : World) (base : Nat) (spare : Nat → Bool) (held : Bool)
def OpT (ty : Ty) (t : TypeId) : Prop := ty.plain = true → ∀ fuel cs y, DataW.trod enc P w base spare held fuel t cs = some y → ∃ a : ty.den, RelC w (fun b => b < w.heap.size) ty a cs ∧ Wf ty a
variable {enc P w base spare held}
theorem choose_ {α : Type} {R : Nat → α → Prop} : ∀ n, (∀ i, i < n → ∃ a, R i a) → ∃ l : List α, l.length = n ∧ ∀ i a, l[i]? = some a → R i a
  | 0, _ => ⟨[], rfl, fun i a h => by simp at h⟩
  | n + 1, h => by
    obtain ⟨l, hl, hr⟩ := choose_ n (fun i hi => h i (by omega))
    obtain ⟨a, ha⟩ := h n (by omega)
    refine ⟨l ++ [a], by simp [hl], fun i b hb => ?_⟩
    rw [List.getElem?_append] at hb
    split at hb
    · exact hr i b hb
    · rename_i hge
      have : i = n := by
        have h2 := (List.getElem?_eq_some_iff.1 hb).1
        simp at h2
        omega
      subst this
      rw [hl] at hb
      simp at hb
      subst hb
      exact ha
theorem relL_of {α : Type} {R : α → List Value → Prop} {n : Nat} (hlen : ∀ y c, R y c → c.length = n) : ∀ (l : List α) (cs : List Value), cs.length = l.length * n → (∀ i y, l[i]? = some y → R y ((cs.drop (i * n)).take n)) → RelL R l cs
  | [], cs, hl, _ => List.eq_nil_of_length_eq_zero (by simpa using hl)
  | y :: l, cs, hl, h => by
    refine ⟨cs.take n, cs.drop n, (List.take_append_drop n cs).symm, by simpa using h 0 y rfl, relL_of hlen l (cs.drop n) ?_ fun i z hz => ?_⟩
    · rw [List.length_drop, hl, List.length_cons, Nat.add_mul, Nat.one_mul]; omega
    · have := h (i + 1) z (by simpa using hz)
      rw [List.drop_drop]
      rwa [Nat.add_mul, Nat.one_mul, Nat.add_comm] at this
theorem cellsOf_ty {T : Tab} {tid : TypeId} {ty : Ty} (h : TyOk P T tid ty) : P.cellsOf tid = ty.size := by
  obtain ⟨i, z, hi, hs, _⟩ := h.info
  unfold Program.cellsOf
  rw [hi]
  simpa using hs
theorem opFlds {T : Tab} (hT : TabOk P T) {n : Nat} {cs : List Value} : ∀ (ty : Ty) (fs : List Field) (off : Nat), ty.plain = true → (∀ (a : Ty) t, a.dep < ty.dep + 1 → T t = some a → OpT enc P w base spare held a t) → Flds T fs off ty → off + ty.size = cs.length →
    (∀ f ∈ fs, ∃ y, DataW.trod enc P w base spare held n f.type ((cs.drop f.offset).take (P.cellsOf f.type)) = some y) → ∃ a : ty.den, RelC w (fun b => b < w.heap.size) ty a (cs.drop off) ∧ Wf ty a := by
  intro ty
  have hone : ∀ (ty : Ty), (match ty with | .pair _ _ => False | _ => True) → ∀ (fs : List Field) (off : Nat), ty.plain = true → (∀ (a : Ty) t, a.dep < ty.dep + 1 → T t = some a → OpT enc P w base spare held a t) → Flds T fs off ty → off + ty.size = cs.length →
    (∀ f ∈ fs, ∃ y, DataW.trod enc P w base spare held n f.type ((cs.drop f.offset).take (P.cellsOf f.type)) = some y) → ∃ a : ty.den, RelC w (fun b => b < w.heap.size) ty a (cs.drop off) ∧ Wf ty a := by
    intro ty hp fs off hpl ih hF hl hh
    have hF' : ∃ f, fs = [f] ∧ T f.type = some ty ∧ 0 < ty.size ∧ f.offset = off := by
      cases ty <;> (try exact hp.elim) <;> (unfold Flds at hF; split at hF <;> first | exact hF.elim | (rename_i f; exact ⟨_, rfl, hF.1, hF.2.1, hF.2.2.1⟩) | (simp_all))
    obtain ⟨f, rfl, hf, hp0, ho⟩ := hF'
    obtain ⟨y, hy⟩ := hh f (by simp)
    rw [cellsOf_ty (hT _ _ hf), ho, List.take_of_length_le (by rw [List.length_drop]; omega)] at hy
    exact ih ty _ (by omega) hf hpl _ _ _ hy
  induction ty with
  | pair a b iha ihb =>
    intro fs off hpl ih hF hl hh
    simp only [Ty.plain, Bool.and_eq_true] at hpl
    cases fs with
    | nil => exact hF.elim
    | cons f fs =>
      obtain ⟨hf, hp0, ho, _, hr⟩ := hF
      obtain ⟨y, hy⟩ := hh f (by simp)
      have hsz : Ty.size (.pair a b) = a.size + b.size := rfl
      have hd : Ty.dep (.pair a b) = max a.dep b.dep := rfl
      rw [cellsOf_ty (hT _ _ hf), ho] at hy
      obtain ⟨x, hx, wx⟩ := ih a _ (by omega) hf hpl.1 _ _ _ hy
      obtain ⟨z, hz, wz⟩ := ihb fs (off + a.size) hpl.2 (fun a' t h1 h2 => ih a' t (by omega) h2) hr (by omega) (fun f' h' => hh f' (List.mem_cons_of_mem _ h'))
      refine ⟨(x, z), ⟨_, _, ?_, hx, hz⟩, wx, wz⟩
      rw [← List.drop_drop, List.take_append_drop]
  | int k => exact hone _ trivial
  | bool => exact hone _ trivial
  | str => exact hone _ trivial
  | any it st => exact hone _ trivial
  | pt e => exact hone _ trivial
  | iter => exact hone _ trivial
  | sl e t _ => exact hone _ trivial
  | mp k t _ _ => exact hone _ trivial
  | arr n t _ => exact hone _ trivial
  | st c _ => exact hone _ trivial
  | tup c _ => exact hone _ trivial
  | unit => exact hone _ trivial
theorem opT {T : Tab} (hT : TabOk P T) : ∀ (d : Nat) (ty : Ty), ty.dep < d → ∀ t, T t = some ty → OpT enc P w base spare held ty t := by
  intro d
  induction d with
  | zero => intro ty h; omega
  | succ d ih =>
    intro ty hd t ht hpl fuel cs y h
    have hu := (hT _ _ ht).und
    have hcs := cellsOf_ty (hT _ _ ht)
    cases ty with
    | int k =>
      obtain ⟨n, rfl, _, hw⟩ := DataW.trod_int hu h
      refine ⟨n, rfl, ?_⟩
      simp only [Lit.wf, Bool.and_eq_true, decide_eq_true_eq] at hw
      exact hw
    | bool =>
      obtain ⟨b, rfl, _⟩ := DataW.trod_bool hu h
      exact ⟨b, rfl, trivial⟩
    | str =>
      obtain ⟨s, rfl, _, hs⟩ := DataW.trod_string hu h
      exact ⟨s, rfl, hs⟩
    | mp k v => simp [Ty.plain] at hpl
    | any it st => simp [Ty.plain] at hpl
    | pt e => simp [Ty.plain] at hpl
    | iter => exact hu.elim
    | sl e t' =>
      obtain ⟨hu, he, hpos⟩ := hu
      have hce := cellsOf_ty (hT _ _ he)
      rcases open_slice hu h with ⟨rfl, _⟩ | ⟨a, len, cap, m, n, D, Pl, rfl, hb, hl, hm, hmm, _, hi⟩
      · exact ⟨([] : List t'.den), ⟨none, 0, rfl, Nat.le_refl _, fun h => absurd h (Nat.lt_irrefl 0)⟩, Nat.zero_le _, fun y hy => by cases hy⟩
      · have hlm : len ≤ m := by rw [hmm]; split <;> omega
        obtain ⟨l, hlen, hR⟩ := choose_ (R := fun i (x : t'.den) => (∃ c, c.length = t'.size ∧ RelC w (fun b => b < w.heap.size) t' x c ∧ ∀ j u, c[j]? = some u → w.cell? (a.add (i * t'.size + j)) = some u) ∧ Wf t' x) len (fun i hil => by
          obtain ⟨cs', hc, ht'⟩ := hi i (by omega)
          obtain ⟨x, hK, hQ⟩ := ih t' (by have : Ty.dep (.sl e t') = t'.dep + 1 := rfl; omega) e he (by simpa [Ty.plain] using hpl) _ _ _ ht'
          rw [hce] at hc
          obtain ⟨_, hcl, hat⟩ := World.cells?_some hc
          refine ⟨x, ⟨cs', hK.len, hK, fun j u hu => ?_⟩, hQ⟩
          have hj : j < t'.size := by have := (List.getElem?_eq_some_iff.1 hu).1; rw [hK.len] at this; exact this
          have := hat j hj
          rw [Go.Deep.add_add] at this
          rw [this, hu])
        refine ⟨l, ⟨some a, cap, ?_, ?_, fun hn => ?_⟩, ?_, fun z hz => ?_⟩
        · show [Value.slice (some a) len cap] = [Value.slice (some a) l.length cap]; rw [hlen]
        · show l.length ≤ cap; omega
        · have hl0 : 0 < l.length := hn
          obtain ⟨inner, hin, hc⟩ : ∃ inner : List Value, inner.length = len * t'.size ∧ ∀ i u, inner[i]? = some u → w.cell? (a.add i) = some u := by
            obtain ⟨inner, hil, hiR⟩ := choose_ (R := fun i (u : Value) => w.cell? (a.add i) = some u) (len * t'.size) (fun i hi2 => by
              have hq : i / t'.size < len := by rw [Nat.div_lt_iff_lt_mul hpos]; exact hi2
              obtain ⟨⟨c, hcl, hr, hcc⟩, _⟩ := hR (i / t'.size) _ (List.getElem?_eq_getElem (by omega))
              have hj : i % t'.size < c.length := by rw [hcl]; exact Nat.mod_lt _ hpos
              have h0 := hcc (i % t'.size) _ (List.getElem?_eq_getElem hj)
              rw [Nat.mul_comm, Nat.div_add_mod] at h0
              exact ⟨_, h0⟩)
            exact ⟨inner, hil, hiR⟩
          have hsz1 : 0 < len * t'.size := Nat.mul_pos (by omega) hpos
          have hblk : a.block < w.heap.size := by
            have := hc 0 _ (List.getElem?_eq_getElem (by omega))
            have h2 := World.block_lt_of_cell? w _ this
            rw [Addr.add] at h2
            split at h2 <;> exact h2
          refine ⟨a, inner, rfl, hblk, by rw [hin, ← hlen], hc, relL_of (n := t'.size) (fun y c hyc => hyc.len) l inner (by rw [hin, hlen]) fun i z hz => ?_⟩
          obtain ⟨⟨c, hcl, hr, hcc⟩, _⟩ := hR i z hz
          have hi3 : i < len := by have := (List.getElem?_eq_some_iff.1 hz).1; omega
          have heq : (inner.drop (i * t'.size)).take t'.size = c := by
            have hle : i * t'.size + t'.size ≤ len * t'.size := by
              have := Nat.mul_le_mul_right t'.size (show i + 1 ≤ len by omega)
              rw [Nat.add_mul, Nat.one_mul] at this; exact this
            apply List.ext_getElem?
            intro j
            by_cases hj : j < t'.size
            · rw [List.getElem?_take_of_lt hj, List.getElem?_drop, List.getElem?_eq_getElem (by omega), List.getElem?_eq_getElem (by omega)]
              have h1 := hc (i * t'.size + j) _ (List.getElem?_eq_getElem (by omega))
              have h2 := hcc j _ (List.getElem?_eq_getElem (by omega))
              rw [h1] at h2
              exact h2
            · rw [List.getElem?_eq_none (by rw [List.length_take]; omega), List.getElem?_eq_none (by omega)]
          rw [heq]
          exact hr
        · show l.length ≤ maxLen; omega
        · obtain ⟨i, hil, rfl⟩ := List.getElem_of_mem hz
          exact (hR i _ (List.getElem?_eq_getElem hil)).2
    | arr n t' =>
      obtain ⟨e, hu, he, hpos, _⟩ := hu
      have hce := cellsOf_ty (hT _ _ he)
      obtain ⟨xs, n', _, _, hlen, hxl, hi⟩ := DataW.trod_array hu h
      obtain ⟨l, hl, hR⟩ := choose_ (R := fun i (x : t'.den) => RelC w (fun b => b < w.heap.size) t' x ((cs.drop (i * t'.size)).take t'.size) ∧ Wf t' x) n (fun i hin => by
        have h1 := hi i hin
        rw [List.getElem?_eq_getElem (by omega), hce] at h1
        exact ih t' (by have : Ty.dep (.arr n t') = t'.dep + 1 := rfl; omega) e he (by simpa [Ty.plain] using hpl) _ _ _ h1)
      refine ⟨l, ⟨hl, relL_of (n := t'.size) (fun y c hyc => hyc.len) l cs ?_ fun i y hy => (hR i y hy).1⟩, hl, fun z hz => ?_⟩
      · rw [hlen, hcs, hl]; rfl
      · obtain ⟨i, hil, rfl⟩ := List.getElem_of_mem hz
        exact (hR i _ (List.getElem?_eq_getElem hil)).2
    | st c =>
      obtain ⟨fs, hu, hF, _⟩ := hu
      obtain ⟨xs, n, _, _, hlen, hxl, hi⟩ := DataW.trod_struct hu h
      have hd2 : Ty.dep (.st c) = c.dep + 1 := rfl
      obtain ⟨a, ha, wa⟩ := opFlds (enc := enc) (base := base) (spare := spare) (held := held) hT (n := n) (cs := cs) c fs.toList 0 (by simpa [Ty.plain] using hpl) (fun a t h1 h2 => ih a (by omega) t h2) hF (by rw [hlen, hcs]; show 0 + c.size = c.size; omega) (fun f hf => by
        obtain ⟨i, hil, rfl⟩ := List.getElem_of_mem hf
        have h1 := hi i _ (show fs[i]? = some (fs.toList[i]) by rw [← Array.getElem?_toList]; exact List.getElem?_eq_getElem hil)
        have h2 : i < xs.length := by rw [hxl]; simpa using hil
        rw [List.getElem?_eq_getElem h2] at h1
        exact ⟨_, h1⟩)
      exact ⟨a, by rw [List.drop_zero] at ha; exact ha, wa⟩
    | pair a b => exact hu.elim
    | tup c => exact hu.elim
    | unit => exact hu.elim
theorem relV_arg {T : Tab} (hT : TabOk P T) {ty : Ty} {t : TypeId} (ht : T t = some ty) (hpl : ty.plain = true) {v : Value} {b0 : Nat} (hv : Value.okWide P w .any b0 t v) {d : DataW H} {p : List MemPlace} (h : DataW.Trod enc P w base spare held t v d p) :
    ∃ a : ty.den, RelD w (fun b => b < w.heap.size) ty a v ∧ Wf ty a := by
  have h' := h
  obtain ⟨fuel, hf⟩ := h
  obtain ⟨a, ha, wa⟩ := opT hT _ ty (Nat.lt_succ_self _) t ht hpl _ _ _ hf
  refine ⟨a, ?_, wa⟩
  have hu := (hT _ _ ht).und
  cases ty with
  | int k =>
    obtain ⟨n, rfl, _⟩ := open_int hu hv h'
    simpa [RelD, RelV1, Value.cells] using ha
  | bool =>
    obtain ⟨n, rfl, _⟩ := open_bool hu hv h'
    simpa [RelD, RelV1, Value.cells] using ha
  | str =>
    obtain ⟨n, rfl, _⟩ := Go.ChangeMaps.open_string hu hv h'
    simpa [RelD, RelV1, Value.cells] using ha
  | mp k v => simp [Ty.plain] at hpl
  | any it st => simp [Ty.plain] at hpl
  | pt e => simp [Ty.plain] at hpl
  | iter => exact hu.elim
  | sl e t' =>
    obtain ⟨a', len, cap, rfl⟩ := okWide_slice hu.1 hv
    simpa [RelD, RelV1, Value.cells] using ha
  | arr n t' =>
    obtain ⟨e, hu, _⟩ := hu
    unfold Value.okWide at hv
    rw [hu] at hv
    obtain ⟨cs, rfl, _⟩ := hv
    exact ⟨cs, rfl, ha⟩
  | st c =>
    obtain ⟨fs, hu, _⟩ := hu
    unfold Value.okWide at hv
    rw [hu] at hv
    obtain ⟨cs, rfl, _⟩ := hv
    exact ⟨cs, rfl, ha⟩
  | pair a b => exact hu.elim
  | tup c => exact hu.elim
  | unit => exact hu.elim
def WfAll : (tys : List Ty) → dens (tys.map PK.val) → Prop
  | [], _ => True
  | t :: ts, a => Wf t a.1 ∧ WfAll ts a.2
def tysB (T : Tab) : List TypeId → List Ty → Bool
  | [], [] => true
  | t :: ts, y :: ys => decide (T t = some y) && y.plain && tysB T ts ys
  | _, _ => false
theorem row_args {T : Tab} (hT : TabOk P T) {b0 : Nat} {fl : Bool} : ∀ (ts : List TypeId) (tys : List Ty), tysB T ts tys = true → ∀ {vs : List Value} {ds : List (DataW H)} {p : List MemPlace}, DataW.TrodAll enc P w base spare held ts vs ds p →
    (∀ (j : Nat) t v, ts[j]? = some t → vs[j]? = some v → Value.okWide P w .any b0 t v) →
    ∃ as : dens (tys.map PK.val), RelArgs P w (fun b => b < w.heap.size) (fun b => b < w.heap.size) fl (tys.map PK.val) as vs ∧ WfAll tys as
  | [], [], _, vs, ds, p, h, _ => by
    obtain ⟨rfl, rfl, rfl⟩ := trodAll_nil h
    exact ⟨(), rfl, trivial⟩
  | t :: ts, y :: ys, hty, vs, ds, p, h, hok => by
    simp only [tysB, Bool.and_eq_true, decide_eq_true_eq] at hty
    obtain ⟨v, vs', d, ds', p', q', rfl, rfl, rfl, h0, r0⟩ := trodAll_cons h
    obtain ⟨a, ha, wa⟩ := relV_arg hT hty.1.1 hty.1.2 (hok 0 t v rfl rfl) h0
    obtain ⟨as, has, was⟩ := row_args hT (fl := fl) ts ys hty.2 r0 (fun j t' v' h1 h2 => hok (j + 1) t' v' (by simpa using h1) (by simpa using h2))
    exact ⟨(a, as), ⟨v, vs', rfl, ha, has⟩, wa, was⟩
  | [], _ :: _, h, _, _, _, _, _ => by simp [tysB] at h
  | _ :: _, [], h, _, _, _, _, _ => by simp [tysB] at h
theorem row_back (hl : laidOutB P = true) {w' : World} (hb : Below w.heap.size w w') : ∀ {ts : List TypeId} {vs : List Value} {ds : List (DataW H)} {p : List MemPlace}, ts.all (fun t => P.readableRec t && decide (t < P.types.size)) = true →
    DataW.TrodAll enc P w 0 (fun _ => true) true ts vs ds p → DataW.TrodAll enc P w' 0 (fun b => decide (b < w.heap.size)) true ts vs ds p
  | [], vs, ds, p, _, h => by
    obtain ⟨rfl, rfl, rfl⟩ := trodAll_nil h
    exact trodAll_mk0
  | t :: ts, vs, ds, p, hr, h => by
    simp only [List.all_cons, Bool.and_eq_true, decide_eq_true_eq] at hr
    obtain ⟨v, vs', d, ds', p', q', rfl, rfl, rfl, h0, r0⟩ := trodAll_cons h
    have k0 := h0
    have lt0 : ∀ x ∈ p', x.block < w.heap.size := by obtain ⟨m, hm⟩ := k0; exact DataW.trod_lt m _ _ _ hm
    exact trodAll_cons_mk (Below.trod hl hr.1.1 hr.1.2 h0 hb lt0) (row_back hl hb (by simpa using hr.2) r0)
theorem law_calls {f : FuncId} {tys : List Ty} {fn : Nat → fns (tys.map PK.val) (Option (Ty.den .bool))} (hs : ∀ k, SpecOk P f (.pu (tys.map PK.val) .bool (fn k))) {as : dens (tys.map PK.val)} (hp : ∃ k, app _ (fn k) as = some true) {vs : List Value}
    (h : RelArgs P w (fun b => b < w.heap.size) (fun b => b < w.heap.size) true (tys.map PK.val) as vs) : Calls P f vs.toArray w fun e w' => e = .returned (.bool true) ∧ Below w.heap.size w w' := by
  obtain ⟨k, hk⟩ := hp
  refine ((hs k).2 w _ _ as vs true (fun b hb => hb) (fun b hb => hb) h hk).mono fun e w' ⟨v, he, hv, hb⟩ => ⟨?_, hb⟩
  have : v = .bool true := by simpa [RelD, RelV1, RelC] using hv
  rw [he, this]
end
end Go.Vm
end
