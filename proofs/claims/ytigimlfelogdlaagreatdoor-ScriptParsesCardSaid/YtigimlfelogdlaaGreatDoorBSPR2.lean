/- What the claim SPR leans on: texts joined by bundle.py, a program of ours; the words cut down to what is used. -/
import Derived.Test.YtigimlfelogdlaaGreatDoorBSPR1
import Derived.Maps.AppendAt
import Derived.Lib.OthersKept
section
namespace Go.Vm
open Go.RowKit
set_option linter.unusedVariables false
set_option linter.unusedSimpArgs false
section
variable {P : Program} {T : Tab} {E : Env} {c : Cx}

theorem convD_ok (hT : TabOk P T) {src dst : TypeId} {ts td : Ty} (h1 : T src = some ts) (h2 : T dst = some td) {x : D} {u0 : Value} (hx : RelV P E c (.dat x) u0) {v : V} {m m' : Mem} {fp fp' : FP}
    (h : (convD td x).ev m fp = some (v, m', fp')) : m' = m ∧ ∃ u, RelV P E c v u ∧ (convert src dst u0).run P c.w = .ok u c.w := by
  have hs : ∃ d, P.underlying src = some d := by
    have := (hT _ _ h1).und
    cases ts with
    | int k => exact ⟨_, this⟩
    | bool => exact ⟨_, this⟩
    | str => exact ⟨_, this⟩
    | any it st => obtain ⟨⟨ms, h⟩, _⟩ := this; exact ⟨_, h⟩
    | pt e => exact ⟨_, this⟩
    | iter => exact this.elim
    | sl e t => exact ⟨_, this.1⟩
    | mp k v => obtain ⟨kt, vt, h, _⟩ := this; exact ⟨_, h⟩
    | arr n t => obtain ⟨e, h, _⟩ := this; exact ⟨_, h⟩
    | st c => obtain ⟨fs, h, _⟩ := this; exact ⟨_, h⟩
    | pair a b => exact this.elim
    | tup c => exact this.elim
    | unit => exact this.elim
  obtain ⟨d, hd⟩ := hs
  have hu := (hT _ _ h2).und
  unfold convD at h
  split at h
  · rename_i k n
    have := relV_int hx
    subst this
    split at h
    · obtain ⟨rfl, rfl⟩ := ok_inj h
      exact ⟨rfl, _, relV_intV, by simp [convert, run_underlying hd, run_underlying hu, Conv.intToInt]⟩
    · exact (fail_ne h).elim
  · rename_i s
    have := relV_str hx
    subst this
    split at h
    · obtain ⟨rfl, rfl⟩ := ok_inj h
      exact ⟨rfl, _, relV_strV, by simp [convert, run_underlying hd, run_underlying hu]⟩
    · exact (fail_ne h).elim
  · exact (fail_ne h).elim

theorem lkAt_none : ∀ {l : List (Nat × LK)} {i : Nat}, lkAt l i = none → ∀ e ∈ l, e.1 ≠ i
  | [], _, _, e, he => by cases he
  | x :: l, i, h, e, he => by
    simp only [lkAt] at h
    cases hb : Nat.beq x.1 i with
    | true => rw [hb] at h; cases h
    | false =>
      rw [hb] at h
      rcases List.mem_cons.1 he with rfl | he
      · intro e1; rw [e1] at hb; simp at hb
      · exact lkAt_none h e he
theorem lkAt_some : ∀ {l : List (Nat × LK)} {i : Nat} {k : LK}, lkAt l i = some k → (i, k) ∈ l
  | x :: l, i, k, h => by
    simp only [lkAt] at h
    cases hb : Nat.beq x.1 i with
    | true =>
      rw [hb] at h
      injection h with h
      have := Nat.eq_of_beq_eq_true hb
      subst this; subst h
      exact List.mem_cons_self
    | false => rw [hb] at h; exact List.mem_cons_of_mem _ (lkAt_some h)
theorem lkHit_free {lk : List (Nat × LK)} {p : List PS} (h : lkHit lk p = .free) : lkFree lk = true ∨ ∃ i q, p = .fld i :: q ∧ lkAt lk i = none := by
  cases p with
  | nil =>
    simp only [lkHit] at h
    cases hf : lkFree lk with
    | true => exact .inl rfl
    | false => rw [hf] at h; cases h
  | cons s q =>
    cases s with
    | idx i =>
      cases lk with
      | nil => exact .inl rfl
      | cons a l => simp [lkHit] at h
    | fld i =>
      refine .inr ⟨i, q, rfl, ?_⟩
      cases q with
      | nil =>
        simp only [lkHit] at h
        split at h
        · assumption
        · cases h
      | cons s' q =>
        simp only [lkHit] at h
        split at h
        · assumption
        · cases h
theorem app3_lt {a m b : List Value} {j : Nat} (h : j < a.length) : (a ++ m ++ b)[j]? = a[j]? := by
  rw [List.append_assoc, List.getElem?_append_left h]
theorem app3_mid {a m b : List Value} {j : Nat} (h1 : a.length ≤ j) (h2 : j < a.length + m.length) : (a ++ m ++ b)[j]? = m[j - a.length]? := by
  rw [List.getElem?_append_left (by rw [List.length_append]; exact h2), List.getElem?_append_right h1]
theorem app3_ge {a m b : List Value} {j : Nat} (h : a.length + m.length ≤ j) : (a ++ m ++ b)[j]? = b[j - (a.length + m.length)]? := by
  rw [List.getElem?_append_right (by rw [List.length_append]; exact h), List.length_append]
theorem seg_eq {cs cs' a m b : List Value} (hl : cs.length = cs'.length) (e : cs' = a ++ m ++ b) (h : ∀ j, a.length ≤ j → j < a.length + m.length → cs[j]? = cs'[j]?) :
    ∃ a2 b2, cs = a2 ++ m ++ b2 ∧ a2.length = a.length ∧ b2.length = b.length := by
  have hlen : cs.length = a.length + m.length + b.length := by rw [hl, e, List.length_append, List.length_append]
  have ha2 : (cs.take a.length).length = a.length := by rw [List.length_take]; omega
  refine ⟨cs.take a.length, cs.drop (a.length + m.length), ?_, ha2, by rw [List.length_drop]; omega⟩
  refine List.ext_getElem? fun j => ?_
  by_cases h1 : j < a.length
  · rw [app3_lt (by omega), List.getElem?_take, if_pos h1]
  · by_cases h2 : j < a.length + m.length
    · rw [h j (by omega) h2, e, app3_mid (by omega) h2, app3_mid (by omega) (by omega), ha2]
    · rw [app3_ge (by omega), List.getElem?_drop, ha2]
      congr 1
      omega
theorem RelB.part {c : Cx} {B : Box} {cs : List Value} (h : RelB c B cs) {i : Nat} {q : List PS} (hn : lkAt B.lk i = none) (hp : PathIn (.fld i :: q) B.t) {a m b cs' : List Value} (e : cs' = a ++ m ++ b) (ha : a.length = pathOff (.fld i :: q) B.t)
    {ct ti : Ty} (ht : B.t = .st ct) (hti : chainTy ct i = some ti) (hle : pathOff q ti + m.length ≤ ti.size) : ∀ x ∈ B.lk, ¬ (a.length ≤ fldOff B.t x.1 ∧ fldOff B.t x.1 < a.length + m.length) := by
  intro x hx ⟨h1, h2⟩
  obtain ⟨_, _, _, _, _, hk⟩ := h
  obtain ⟨c0, e0, u0, hc0, hsl⟩ := (hk x hx).1
  rw [ht] at hc0
  injection hc0 with hc0
  subst hc0
  refine chain_off hsl hti (fun e => lkAt_none hn x hx e.symm) ?_
  rw [ha, ht] at h1 h2
  simp only [pathOff, hti, fldOff] at h1 h2
  omega
theorem pathIn_fld {i : Nat} {q : List PS} {t : Ty} (hp : PathIn (.fld i :: q) t) : ∃ ct ti, t = .st ct ∧ chainTy ct i = some ti ∧ PathIn q ti := by
  cases t with
  | st ct => obtain ⟨ti, h1, h2⟩ := hp; exact ⟨ct, ti, rfl, h1, h2⟩
  | _ => exact hp.elim
theorem getP_len {w : World} {S : Nat → Prop} {i : Nat} {q : List PS} {ct ti : Ty} {x : ct.den} {cs : List Value} {d : D} (hr : RelC w S (.st ct) x cs) (hti : chainTy ct i = some ti) (hp : PathIn q ti) (h : getP (.fld i :: q) (.st ct) x = some d) : pathOff q ti + d.t.size ≤ ti.size := by
  simp only [getP] at h
  split at h
  · rename_i e he
    obtain ⟨h1, a, m, b, e2, hl, hm⟩ := chainGet_rel (c := ct) hr he
    rw [hti] at h1
    injection h1 with h1
    subst h1
    obtain ⟨a', m', b', e3, hl', hm'⟩ := getP_rel hm hp h
    have := hm.len
    rw [e3, List.length_append, List.length_append, hm'.len] at this
    omega
  · cases h
theorem setP_len {w : World} {S : Nat → Prop} {i : Nat} {q : List PS} {ct ti : Ty} {x y : ct.den} {cs : List Value} {d : D} (hr : RelC w S (.st ct) x cs) (hti : chainTy ct i = some ti) (hp : PathIn q ti) (h : setP (.fld i :: q) (.st ct) x d = some y) : pathOff q ti + d.t.size ≤ ti.size := by
  simp only [setP] at h
  split at h
  · rename_i e he
    split at h
    · rename_i z hz
      obtain ⟨h1, a, m, b, e2, hl, hm⟩ := chainGet_rel (c := ct) hr he
      rw [hti] at h1
      injection h1 with h1
      subst h1
      obtain ⟨a', m', b', e3, hl', hm', _⟩ := setP_rel hm hp hz
      have := hm.len
      rw [e3, List.length_append, List.length_append, hm'] at this
      omega
    · cases h
  · cases h
theorem lkHit_free' {lk : List (Nat × LK)} {p : List PS} (h : lkHit lk p = .free) (hne : p ≠ []) (hn : lk ≠ []) : ∃ i q, p = .fld i :: q ∧ lkAt lk i = none := by
  cases p with
  | nil => exact absurd rfl hne
  | cons s q =>
    cases s with
    | idx i =>
      cases lk with
      | nil => exact absurd rfl hn
      | cons a l => simp [lkHit] at h
    | fld i =>
      rcases lkHit_free h with hf | ⟨i', q', e, hn⟩
      · cases q with
        | nil =>
          simp only [lkHit] at h
          split at h
          · exact ⟨i, [], rfl, by assumption⟩
          · cases h
        | cons s' q =>
          simp only [lkHit] at h
          split at h
          · exact ⟨i, _, rfl, by assumption⟩
          · cases h
      · exact ⟨i', q', e, hn⟩
theorem RelB.get {c : Cx} {B : Box} {cs : List Value} (h : RelB c B cs) {p : List PS} (hh : lkHit B.lk p = .free) (hp : PathIn p B.t) {d : D} (hd : getP p B.t B.x = some d) :
    ∃ a m b, cs = a ++ m ++ b ∧ a.length = pathOff p B.t ∧ RelC c.w c.S d.t d.x m := by
  rcases lkHit_free hh with hf | ⟨i, q, rfl, hn⟩
  · exact getP_rel (h.free hf) hp hd
  · have h0 := h
    obtain ⟨cs', hc, hl, hj, _, hk⟩ := h
    obtain ⟨a, m, b, e, ha, hm⟩ := getP_rel hc hp hd
    obtain ⟨ct, ti, ht, hti, hq⟩ := pathIn_fld hp
    have hle : pathOff q ti + m.length ≤ ti.size := by
      obtain ⟨Bt, Bx, Bl⟩ := B
      simp only at ht
      subst ht
      rw [hm.len]
      exact getP_len (S := c.S) (w := c.w) hc hti hq hd
    have hoff := h0.part hn hp e ha ht hti hle
    obtain ⟨a2, b2, e2, hl2, _⟩ := seg_eq hl e (fun j h1 h2 => hj j (fun x hx e1 => hoff x hx (by rw [e1]; exact ⟨h1, h2⟩)))
    exact ⟨a2, m, b2, e2, by rw [hl2, ha], hm⟩
theorem RelB.put {c : Cx} {B : Box} {cs : List Value} (h : RelB c B cs) {p : List PS} (hh : lkHit B.lk p = .free) (hne : p ≠ []) (hp : PathIn p B.t) {d : D} {y : B.t.den} (hd : setP p B.t B.x d = some y) :
    ∃ a m b, cs = a ++ m ++ b ∧ a.length = pathOff p B.t ∧ m.length = d.t.size ∧ ∀ m', RelC c.w c.S d.t d.x m' → RelB c ⟨B.t, y, B.lk⟩ (a ++ m' ++ b) := by
  by_cases hnil : B.lk = []
  · have hf : lkFree B.lk = true := by rw [hnil]; rfl
    obtain ⟨a, m, b, e, ha, hm, hs⟩ := setP_rel (h.free hf) hp hd
    refine ⟨a, m, b, e, ha, hm, fun m' hm' => ?_⟩
    rw [hnil]
    exact RelB.of (hs m' hm')
  rcases lkHit_free' hh hne hnil with ⟨i, q, rfl, hn⟩
  have h0 := h
  obtain ⟨cs', hc, hl, hj, hnd, hk⟩ := h
  obtain ⟨a, m, b, e, ha, hm, hs⟩ := setP_rel hc hp hd
  obtain ⟨ct, ti, ht, hti, hq⟩ := pathIn_fld hp
  have hle : pathOff q ti + m.length ≤ ti.size := by
    obtain ⟨Bt, Bx, Bl⟩ := B
    simp only at ht
    subst ht
    rw [hm]
    exact setP_len (S := c.S) (w := c.w) hc hti hq hd
  have hoff := h0.part hn hp e ha ht hti hle
  obtain ⟨a2, b2, e2, hl2, hb2⟩ := seg_eq hl e (fun j h1 h2 => hj j (fun x hx e1 => hoff x hx (by rw [e1]; exact ⟨h1, h2⟩)))
  refine ⟨a2, m, b2, e2, by rw [hl2, ha], hm, fun m' hm' => ?_⟩
  have hml : m'.length = m.length := by rw [hm'.len, hm]
  have hout : ∀ j, ¬ (a.length ≤ j ∧ j < a.length + m.length) → (a ++ m' ++ b)[j]? = cs'[j]? ∧ (a2 ++ m' ++ b2)[j]? = cs[j]? := fun j hjn => by
    rw [e, e2]
    rcases Nat.lt_or_ge j a.length with h1 | h1
    · exact ⟨by rw [app3_lt h1, app3_lt h1], by rw [app3_lt (by omega), app3_lt (by omega)]⟩
    · exact ⟨by rw [app3_ge (by omega), app3_ge (by omega), hml], by rw [app3_ge (by omega), app3_ge (by omega), hml]⟩
  have hin : ∀ j, a.length ≤ j ∧ j < a.length + m.length → (a ++ m' ++ b)[j]? = (a2 ++ m' ++ b2)[j]? := fun j hj => by
    rw [app3_mid (by omega) (by omega), app3_mid (by omega) (by omega), hl2]
  refine ⟨a ++ m' ++ b, hs m' hm', by simp [hl2, hb2], fun j hjn => ?_, hnd, fun x hx => ?_⟩
  · by_cases hs : a.length ≤ j ∧ j < a.length + m.length
    · exact (hin j hs).symm
    · rw [(hout j hs).1, (hout j hs).2]
      exact hj j hjn
  · obtain ⟨k1, k2, k3⟩ := hk x hx
    obtain ⟨o1, o2⟩ := hout _ (hoff x hx)
    refine ⟨k1, by rw [o1]; exact k2, ?_⟩
    revert k3
    cases x.2 with
    | nil => intro k3; show _ = _; rw [o2]; exact k3
    | hole => exact fun h => h
    | own A => intro k3; exact ⟨k3.1, fun Z hZ => by rw [o2]; exact k3.2.1 Z hZ, fun Z hZ => by rw [o2]; exact k3.2.2 Z hZ⟩
theorem SlFld.ne {t : Ty} {i j : Nat} (hi : SlFld t i) (hj : SlFld t j) (h : i ≠ j) : fldOff t i ≠ fldOff t j := by
  obtain ⟨c, e, u, rfl, h1⟩ := hi
  obtain ⟨c', e', u', h0, h2⟩ := hj
  injection h0 with h0
  subst h0
  intro hh
  refine chain_off h2 h1 h ?_
  simp only [fldOff] at hh
  have : (Ty.sl e u).size = 1 := rfl
  omega
theorem LkRel.cell {c : Cx} {cs ds : List Value} {off : Nat} (h : cs[off]? = ds[off]?) : ∀ {l : LK}, LkRel c cs off l → LkRel c ds off l
  | .nil, k => by show _ = _; rw [← h]; exact k
  | .hole, k => k
  | .own a, k => ⟨k.1, fun A hA => h ▸ k.2.1 A hA, fun A hA => h ▸ k.2.2 A hA⟩
theorem lkDrop_mem {l : List (Nat × LK)} {i : Nat} {e : Nat × LK} : e ∈ lkDrop l i ↔ e ∈ l ∧ e.1 ≠ i := by
  unfold lkDrop
  rw [List.mem_filter]
  constructor
  · rintro ⟨h1, h2⟩
    exact ⟨h1, fun e' => by rw [e'] at h2; simp at h2⟩
  · rintro ⟨h1, h2⟩
    refine ⟨h1, ?_⟩
    cases hb : Nat.beq e.1 i with
    | false => rfl
    | true => exact absurd (Nat.eq_of_beq_eq_true hb) h2
theorem lkDrop_nodup {l : List (Nat × LK)} {i : Nat} (h : (l.map (·.1)).Nodup) : ((lkDrop l i).map (·.1)).Nodup :=
  h.sublist (List.Sublist.map _ List.filter_sublist)
theorem RelB.relink {c : Cx} {B : Box} {cs : List Value} (h : RelB c B cs) {i : Nat} {l0 l : LK} {u : Value} (hi : (i, l0) ∈ B.lk) (hl : LkRel c (cs.set (fldOff B.t i) u) (fldOff B.t i) l) :
    RelB c ⟨B.t, B.x, (i, l) :: lkDrop B.lk i⟩ (cs.set (fldOff B.t i) u) := by
  obtain ⟨cs', hc, hlen, hj, hnd, hk⟩ := h
  obtain ⟨i1, i2, _⟩ := hk _ hi
  refine ⟨cs', hc, by rw [List.length_set, hlen], fun j hjn => ?_, ?_, fun e he => ?_⟩
  · have h0 : fldOff B.t i ≠ j := hjn _ List.mem_cons_self
    rw [List.getElem?_set_ne h0]
    refine hj j fun e he => ?_
    by_cases hei : e.1 = i
    · rw [hei]; exact h0
    · exact hjn e (List.mem_cons_of_mem _ (lkDrop_mem.2 ⟨he, hei⟩))
  · rw [List.map_cons, List.nodup_cons]
    refine ⟨fun hm => ?_, lkDrop_nodup hnd⟩
    obtain ⟨e, he, e1⟩ := List.mem_map.1 hm
    exact (lkDrop_mem.1 he).2 e1
  · rcases List.mem_cons.1 he with rfl | he
    · exact ⟨i1, i2, hl⟩
    · obtain ⟨he, hne⟩ := lkDrop_mem.1 he
      obtain ⟨k1, k2, k3⟩ := hk e he
      exact ⟨k1, k2, k3.cell (List.getElem?_set_ne (i1.ne k1 (fun e' => hne e'.symm))).symm⟩
theorem RelB.unlink {c : Cx} {B : Box} {cs : List Value} (h : RelB c B cs) {i : Nat} {l0 : LK} {u : Value} {z : B.t.den} {lk : List (Nat × LK)} (hi : (i, l0) ∈ B.lk)
    (hset : ∀ cs', RelC c.w c.S B.t B.x cs' → ∃ a m b, cs' = a ++ m ++ b ∧ a.length = fldOff B.t i ∧ m.length = 1 ∧ RelC c.w c.S B.t z (a ++ [u] ++ b))
    (h1 : ∀ e ∈ lk, e ∈ B.lk ∧ e.1 ≠ i) (h2 : ∀ e ∈ B.lk, e.1 ≠ i → e ∈ lk) (h3 : (lk.map (·.1)).Nodup) :
    RelB c ⟨B.t, z, lk⟩ (cs.set (fldOff B.t i) u) := by
  obtain ⟨cs', hc, hlen, hj, hnd, hk⟩ := h
  obtain ⟨i1, i2, _⟩ := hk _ hi
  obtain ⟨a, m, b, e, ha, hm, hz⟩ := hset cs' hc
  have hset' : a ++ [u] ++ b = cs'.set (fldOff B.t i) u := by
    rw [e, ← ha]
    obtain ⟨v, rfl⟩ : ∃ v, m = [v] := List.length_eq_one_iff.1 hm
    simp
  rw [hset'] at hz
  have hlt : fldOff B.t i < cs'.length := (List.getElem?_eq_some_iff.1 i2).1
  refine ⟨cs'.set (fldOff B.t i) u, hz, by rw [List.length_set, List.length_set, hlen], fun j hjn => ?_, h3, fun x hx => ?_⟩
  · by_cases hji : fldOff B.t i = j
    · rw [← hji, List.getElem?_set_self (by rw [hlen]; exact hlt), List.getElem?_set_self hlt]
    · rw [List.getElem?_set_ne hji, List.getElem?_set_ne hji]
      refine hj j fun x hx => ?_
      by_cases hei : x.1 = i
      · rw [hei]; exact hji
      · exact hjn x (h2 x hx hei)
  · obtain ⟨hx, hne⟩ := h1 x hx
    obtain ⟨k1, k2, k3⟩ := hk x hx
    have ho := i1.ne k1 (fun e' => hne e'.symm)
    exact ⟨k1, by rw [List.getElem?_set_ne ho]; exact k2, k3.cell (List.getElem?_set_ne ho).symm⟩
theorem RelB.dropNil {c : Cx} {t : Ty} {x : t.den} {i : Nat} {l : List (Nat × LK)} {cs : List Value} (h : RelB c ⟨t, x, (i, .nil) :: l⟩ cs) : RelB c ⟨t, x, l⟩ cs := by
  obtain ⟨cs', hc, hlen, hj, hnd, hk⟩ := h
  obtain ⟨i1, i2, i3⟩ := hk _ List.mem_cons_self
  rw [List.map_cons, List.nodup_cons] at hnd
  refine ⟨cs', hc, hlen, fun j hjn => ?_, hnd.2, fun e he => hk e (List.mem_cons_of_mem _ he)⟩
  by_cases hji : fldOff t i = j
  · rw [← hji]; exact i3.trans i2.symm
  · refine hj j fun e he => ?_
    rcases List.mem_cons.1 he with rfl | he
    · exact hji
    · exact hjn e he
theorem set_self {cs : List Value} {j : Nat} {u : Value} (h : cs[j]? = some u) : cs.set j u = cs := by
  refine List.ext_getElem? fun k => ?_
  by_cases hk : j = k
  · subst hk
    rw [List.getElem?_set_self (List.getElem?_eq_some_iff.1 h).1, h]
  · rw [List.getElem?_set_ne hk]
theorem asDat_box {t : Ty} {x : V} {m m' : Mem} {fp fp' : FP} {y : t.den} (h : (asDat t x).ev m fp = some (y, m', fp')) : m'.box = m.box := by
  cases x with
  | dat d =>
    simp only [asDat] at h
    split at h
    · obtain ⟨_, rfl⟩ := ok_inj h; rfl
    · exact (fail_ne h).elim
  | agg d nl =>
    simp only [asDat] at h
    split at h
    · obtain ⟨_, rfl⟩ := ok_inj h; rfl
    · exact (fail_ne h).elim
  | nils =>
    cases t with
    | sl e t => obtain ⟨_, rfl⟩ := ok_inj h; rfl
    | _ => exact (fail_ne h).elim
  | nili =>
    cases t with
    | any it st => obtain ⟨_, rfl⟩ := ok_inj h; rfl
    | _ => exact (fail_ne h).elim
  | ifv i d =>
    cases t with
    | any it st =>
      simp only [asDat] at h
      split at h
      · split at h
        · obtain ⟨_, rfl⟩ := ok_inj h; rfl
        · exact (fail_ne h).elim
      · split at h
        · obtain ⟨_, rfl⟩ := ok_inj h; rfl
        · exact (fail_ne h).elim
      · exact (fail_ne h).elim
    | _ => exact (fail_ne h).elim
  | own a =>
    simp only [asDat, Res.ev] at h
    cases ha : m.arr a with
    | no => rw [ha] at h; exact (fail_ne h).elim
    | dead => rw [ha] at h; exact (fail_ne h).elim
    | mp M => rw [ha] at h; exact (fail_ne h).elim
    | at_ A =>
      rw [ha] at h
      simp only at h
      split at h
      · cases ho : A.open_ with
        | true => rw [ho] at h; simp only [Res.ev] at h; obtain ⟨_, rfl⟩ := ok_inj h; rfl
        | false => rw [ho] at h; obtain ⟨_, rfl⟩ := ok_inj h; rfl
      · exact (fail_ne h).elim
  | _ => exact (fail_ne h).elim
theorem Ext.on {c c' : Cx} (h : Ext c c') : ArrOn c c' := fun a ha => ⟨(h.arr a ha).1, (h.arr a ha).2, fun M hM => h.mps a M hM ha⟩
theorem lkHit_at {lk : List (Nat × LK)} {p : List PS} {i : Nat} {l : LK} (h : lkHit lk p = .at_ i l) : p = [.fld i] ∧ (i, l) ∈ lk := by
  cases p with
  | nil => simp only [lkHit] at h; cases hf : lkFree lk <;> rw [hf] at h <;> cases h
  | cons s q =>
    cases s with
    | idx j => cases lk <;> simp [lkHit] at h
    | fld j =>
      cases q with
      | nil =>
        simp only [lkHit] at h
        split at h
        · cases h
        · rename_i k hk
          injection h with h1 h2
          subst h1; subst h2
          exact ⟨rfl, lkAt_some hk⟩
      | cons s' q =>
        simp only [lkHit] at h
        split at h <;> cases h
theorem lkHit_whole {lk : List (Nat × LK)} {p : List PS} (h : lkHit lk p = .whole) : p = [] := by
  cases p with
  | nil => rfl
  | cons s q =>
    cases s with
    | idx j => cases lk <;> simp [lkHit] at h
    | fld j =>
      cases q with
      | nil =>
        simp only [lkHit] at h
        split at h <;> cases h
      | cons s' q =>
        simp only [lkHit] at h
        split at h <;> cases h
theorem pathOff_fld {i : Nat} {t : Ty} (h : SlFld t i) : pathOff [.fld i] t = fldOff t i := by
  obtain ⟨c, e, u, rfl, h1⟩ := h
  simp [pathOff, fldOff, h1]
theorem pathIn_sl {i : Nat} {t : Ty} (h : SlFld t i) : PathIn [.fld i] t := by
  obtain ⟨c, e, u, rfl, h1⟩ := h
  exact ⟨_, h1, trivial⟩
theorem pathTy_sl {i : Nat} {t ty : Ty} (h : SlFld t i) (hp : pathTy [.fld i] t = some ty) : ∃ e u, ty = .sl e u := by
  obtain ⟨c, e, u, rfl, h1⟩ := h
  simp only [pathTy, h1] at hp
  injection hp with hp
  exact ⟨e, u, hp.symm⟩
theorem path_ni {tid : TypeId} {t bt : Ty} {q : List PS} (hok : TyOk P T tid t) (hp : pathTy q bt = some t) : bt ≠ .iter := by
  rintro rfl
  cases q with
  | nil =>
    simp only [pathTy] at hp
    injection hp with hp
    subst hp
    exact good_ni hok.good rfl
  | cons s q => cases s <;> cases hp
theorem load_hdr {tid : TypeId} {ty : Ty} (hok : TyOk P T tid ty) {b i : Nat} {B : Box} (hpt : pathTy [.fld i] B.t = some ty) {cs : Array Value} {tid' : TypeId} (hh : c.w.heap[c.bx b]? = some (.cells cs tid' (0, 0))) (hc : RelB c B cs.toList) {l : LK} (hmem : (i, l) ∈ B.lk) :
    ∃ u, cs.toList[fldOff B.t i]? = some u ∧ (Instr.loadAt tid (.pointer (some ⟨c.bx b, pathOff [.fld i] B.t, none⟩))).run P c.w = .ok u c.w := by
  obtain ⟨cs', _, hl, _, _, hk⟩ := hc
  obtain ⟨h1, h2, _⟩ := hk _ hmem
  obtain ⟨e, u, rfl⟩ := pathTy_sl h1 hpt
  have hlt : fldOff B.t i < cs.toList.length := by rw [hl]; exact (List.getElem?_eq_some_iff.1 h2).1
  refine ⟨cs.toList[fldOff B.t i], List.getElem?_eq_getElem hlt, ?_⟩
  have hcell : c.w.cell? ⟨c.bx b, fldOff B.t i, none⟩ = some cs.toList[fldOff B.t i] := by
    rw [cell_of_row c.w (c.bx b) (fldOff B.t i) cs tid' (0, 0) hh, ← Array.getElem?_toList, List.getElem?_eq_getElem hlt]
  rw [pathOff_fld h1]
  simp [Instr.loadAt, Instr.sureAddr, loadVar, Sem.run_bind, hok.isAgg c.w, Ty.isAgg, hcell]
theorem settleR_ok {ct : Ty} (P0 : Program) : ∀ (l : List (Nat × LK)) (c : Cx) (x : ct.den) (cs : List Value) {y : ct.den} {m' : Mem} {fp fp' : FP}, Rel E c → RelB c ⟨.st ct, x, l⟩ cs → (settleR ct x l).ev c.m fp = some (y, m', fp') →
    ∃ S', Rel E { c with S := S', m := m' } ∧ Ext c { c with S := S', m := m' } ∧ RelC c.w S' (.st ct) y cs ∧ m'.box = c.m.box
  | [], c, x, cs, y, m', fp, fp', hr, hB, h => by
    obtain ⟨rfl, rfl⟩ := ok_inj h
    exact ⟨c.S, hr, Ext.refl c, hB.free rfl, rfl⟩
  | (i, .nil) :: l, c, x, cs, y, m', fp, fp', hr, hB, h => settleR_ok P0 l c x cs hr hB.dropNil h
  | (i, .hole) :: l, c, x, cs, y, m', fp, fp', hr, hB, h => (fail_ne h).elim
  | (i, .own a) :: l, c, x, cs, y, m', fp, fp', hr, hB, h => by
    simp only [settleR] at h
    split at h
    · rename_i ty hty
      obtain ⟨z, m1, fp1, h1, h2⟩ := Res.bind_some h
      have hB0 := hB
      obtain ⟨cs', hc, hlen, hj, hnd, hk⟩ := hB0
      obtain ⟨i1, i2, i3⟩ := hk _ List.mem_cons_self
      have hlt : fldOff (.st ct) i < cs.length := by rw [hlen]; exact (List.getElem?_eq_some_iff.1 i2).1
      have hcell : cs[fldOff (.st ct) i]? = some cs[fldOff (.st ct) i] := List.getElem?_eq_getElem hlt
      have hv : RelV P0 E c (.own a) cs[fldOff (.st ct) i] := ⟨i3.1, fun A hA => by
        have := i3.2.1 A hA
        rw [hcell] at this
        injection this, fun A hA => by
        have := i3.2.2 A hA
        rw [hcell] at this
        injection this⟩
      obtain ⟨S1, r1, e1, hz⟩ := asDat_ok hr hv h1
      have hbx := asDat_box h1
      split at h2
      · rename_i x' hx'
        obtain ⟨c0, e0, u0, hc0, hsl⟩ := i1
        injection hc0 with hc0
        subst hc0
        rw [hsl] at hty
        injection hty with hty
        subst hty
        rw [List.map_cons, List.nodup_cons] at hnd
        have hB1 : RelB { c with S := S1, m := m1 } ⟨.st ct, x, (i, .own a) :: l⟩ cs := RelB.on (c := c) (c' := { c with S := S1, m := m1 }) e1.S e1.w e1.on hB
        have hB2 := RelB.unlink (B := ⟨.st ct, x, (i, .own a) :: l⟩) (z := x') (lk := l) (u := cs[fldOff (.st ct) i]) hB1 List.mem_cons_self (fun cs2 hc2 => by
          obtain ⟨a', m'', b', e, ha, hm, hs⟩ := chainSet_rel (c := ct) hc2 hx'
          exact ⟨a', m'', b', e, ha, hm, hs _ hz⟩)
          (fun e he => ⟨List.mem_cons_of_mem _ he, fun e' => hnd.1 (List.mem_map.2 ⟨e, he, e'⟩)⟩)
          (fun e he hne => by
            rcases List.mem_cons.1 he with rfl | he
            · exact absurd rfl hne
            · exact he) hnd.2
        rw [set_self hcell] at hB2
        obtain ⟨S2, r2, e2, hR, hbx2⟩ := settleR_ok P0 l { c with S := S1, m := m1 } x' cs r1 hB2 h2
        exact ⟨S2, r2, e1.trans e2, hR, hbx2.trans hbx⟩
      · exact (fail_ne h2).elim
    · exact (fail_ne h).elim

theorem elem_ok {w : World} {S : Nat → Prop} {A : Arr} {v : Value} (hA : RelA E w S A v) (ho : A.open_ = true) {g : Nat} (hg : v.ownBlock = some g) :
    ∃ cur inner rest, w.heap[g]? = some (.cells cur A.e (0, 0)) ∧ E.w0.heap.size ≤ g ∧ cur.toList = inner ++ rest ∧ inner.length = A.xs.length * A.t.size ∧ RelL (RelC w S A.t) A.xs inner ∧ ¬ S g ∧
      ∀ (w' : World) (new : Array Value) (inner' : List Value) (xs : List A.t.den), w'.heap[g]? = some (.cells new A.e (0, 0)) → new.toList = inner' ++ rest → inner'.length = inner.length → xs.length = A.xs.length → RelL (RelC w' S A.t) xs inner' → RelA E w' S { A with xs := xs } v := by
  unfold RelA at hA
  rw [if_pos ho] at hA
  obtain ⟨inner, ⟨hl, h1⟩, h2, h3⟩ := hA
  rcases h1 with ⟨rfl, _⟩ | ⟨g', cap, cur, rfl, hb, hh, hn, hm, hs, ht⟩
  · cases hg
  · obtain rfl : g' = g := Option.some.inj hg
    refine ⟨cur, inner, cur.toList.drop (A.xs.length * A.t.size), hh, hb, ?_, hl, h2, h3 _ rfl, fun w' new inner' xs k1 k2 k3 k4 k5 => ?_⟩
    · rw [← ht]; exact (List.take_append_drop _ _).symm
    · unfold RelA
      rw [if_pos (show ({ A with xs := xs } : Arr).open_ = true from ho)]
      refine ⟨inner', ⟨?_, .inr ⟨g', cap, new, ?_, hb, k1, ?_, hm, ?_, ?_⟩⟩, k5, h3⟩
      · show inner'.length = xs.length * A.t.size
        rw [k3, k4]; exact hl
      · show _ = Value.slice _ xs.length cap
        rw [k4]
      · show xs.length ≤ cap
        rw [k4]; exact hn
      · rw [← Array.length_toList, k2, List.length_append, k3, ← List.length_append, ← ht, List.take_append_drop, Array.length_toList]; exact hs
      · show new.toList.take (xs.length * A.t.size) = inner'
        rw [k2, k4, ← hl, ← k3, List.take_left]
theorem store_run {w : World} {g : Nat} {ty : Ty} {tid : TypeId} (hok : TyOk P T tid ty) {cs : Array Value} {tid' : TypeId} (hh : w.heap[g]? = some (.cells cs tid' (0, 0))) {u1 : Value} {a m b' : List Value} {off : Nat} (e : cs.toList = a ++ m ++ b') (hl : a.length = off) (hm : m.length = ty.size)
    (hcl : u1.cells.toList.length = ty.size) (hone : ∀ v ∈ u1.cells.toList, v.oneCell' = true) : (Instr.storeAt tid (.pointer (some ⟨g, off, none⟩)) u1).run P w = .ok () (w.setRow g (a ++ u1.cells.toList ++ b').toArray) := by
  have hst := run_storeCells_at P g off tid' u1.cells.toList 0 cs w hh (by
    rw [Nat.add_zero, ← Array.length_toList (xs := cs), e, List.length_append, List.length_append, hl, hcl, hm]
    exact Nat.le_add_right _ _) (fun v hv => hone v hv)
  have hcs : (cs.toList.take (off + 0) ++ u1.cells.toList ++ cs.toList.drop (off + 0 + u1.cells.toList.length)) = a ++ u1.cells.toList ++ b' := by
    rw [e, Nat.add_zero, ← hl, hcl, ← hm]
    simp [List.append_assoc, List.take_append, List.drop_append]
  rw [hcs] at hst
  have hsz : ¬ (u1.cells.size ≠ ty.size) := by rw [← Array.length_toList, hcl]; simp
  simp only [Instr.storeAt, Instr.sureAddr, Sem.run_bind, Sem.run_pure, Result.andThen_ok, storeVar, hok.sizeOf w, if_neg hsz]
  exact hst
theorem loadV_ok (hT : TabOk P T) {tid : TypeId} {ty : Ty} (ht : T tid = some ty) (hr : Rel E c) {x : V} {u0 : Value} (hx : RelV P E c x u0) {v : V} {m' : Mem} {fp fp' : FP}
    (h : (loadV ty x).ev c.m fp = some (v, m', fp')) : ∃ c', c'.m = m' ∧ c'.w = c.w ∧ Rel E c' ∧ Ext c c' ∧ ∃ u, RelV P E c' v u ∧ (Instr.loadAt tid u0).run P c.w = .ok u c.w := by
  have hok := hT _ _ ht
  unfold loadV at h
  split at h
  · rename_i b p t
    split at h
    · rename_i hty
      subst hty
      obtain ⟨B, hB, hpt, hp, rfl⟩ := hx
      simp only [Res.ev, hB] at h
      obtain ⟨cs, tid', hh, hc⟩ := (hr.box b B hB).cells (path_ni hok hpt)
      split at h
      · rename_i hfree
        split at h
        · rename_i d hd
          split at h
          · rename_i hdt
            obtain ⟨rfl, rfl⟩ := ok_inj h
            obtain ⟨a, m, b', e, hl, hm⟩ := hc.get hfree hp hd
            obtain ⟨dt, dx⟩ := d
            simp only at hdt
            subst hdt
            have hca := cells_in hh e
            rw [hl] at hca
            obtain ⟨u, hu, hru⟩ := load_ok hok hm hca hok.np
            exact ⟨c, rfl, rfl, hr, Ext.refl c, u, RelD.of_v1 hru, by simp [Instr.loadAt, Instr.sureAddr, hu]⟩
          · exact (fail_ne h).elim
        · exact (fail_ne h).elim
      · rename_i i hat
        obtain ⟨rfl, rfl⟩ := ok_inj h
        obtain ⟨rfl, hmem⟩ := lkHit_at hat
        obtain ⟨u, hu, hrun⟩ := load_hdr hok hpt hh hc hmem
        obtain ⟨_, _, _, _, _, hk⟩ := hc
        have := (hk _ hmem).2.2
        refine ⟨c, rfl, rfl, hr, Ext.refl c, u, ?_, hrun⟩
        have h2 : some u = some nilCell := hu.symm.trans this
        injection h2
      · rename_i i a hat
        obtain ⟨rfl, rfl⟩ := ok_inj h
        obtain ⟨rfl, hmem⟩ := lkHit_at hat
        obtain ⟨u, hu, hrun⟩ := load_hdr hok hpt hh hc hmem
        obtain ⟨_, _, _, _, _, hk⟩ := hc
        have := (hk _ hmem).2.2
        refine ⟨c, rfl, rfl, hr, Ext.refl c, u, ⟨this.1, fun A hA => ?_, fun A hA => ?_⟩, hrun⟩
        · have h2 := hu.symm.trans (this.2.1 A hA)
          injection h2
        · have h2 := hu.symm.trans (this.2.2 A hA)
          injection h2
      · rename_i hw
        have hp0 := lkHit_whole hw
        subst hp0
        split at h
        · rename_i hBt
          obtain ⟨Bt, Bx, Bl⟩ := B
          simp only at hBt
          subst hBt
          cases Bt with
          | st ct =>
            simp only [settleB] at h
            obtain ⟨y, m1, fp1, h1, h2⟩ := Res.bind_some h
            obtain ⟨S1, r1, e1, hR, hbx⟩ := settleR_ok (ct := ct) P Bl c Bx cs.toList hr hc h1
            simp only [Res.ev] at h2
            obtain ⟨rfl, rfl⟩ := ok_inj h2
            have hB1 : m1.box b = some ⟨.st ct, Bx, Bl⟩ := by rw [hbx]; exact hB
            obtain ⟨r2, e2⟩ := setBox_ok (c := { c with S := S1, m := m1 }) r1 hB1 (x := y) (lk := []) (w' := c.w) rfl rfl rfl rfl (fun _ _ => rfl) (.inr ⟨cs, tid', hh, RelB.of hR⟩)
            have hca := cells_in (a := []) (m := cs.toList) (b := []) hh (by simp)
            obtain ⟨u, hu, hru⟩ := load_ok hok hR hca hok.np
            refine ⟨{ c with S := S1, m := m1.setB b ⟨.st ct, y, []⟩ }, rfl, rfl, r2, e1.trans e2, u, RelD.of_v1 hru, ?_⟩
            have hu' : (loadVar tid ⟨c.bx b, 0, none⟩).run P c.w = .ok u c.w := hu
            simp [Instr.loadAt, Instr.sureAddr, pathOff, hu']
          | _ => exact (fail_ne h).elim
        · exact (fail_ne h).elim
      · exact (fail_ne h).elim
    · exact (fail_ne h).elim
  · rename_i d
    split at h
    · rename_i hdt
      obtain ⟨rfl, rfl⟩ := ok_inj h
      obtain ⟨dt, dx⟩ := d
      simp only at hdt
      subst hdt
      obtain ⟨ad, cs, rfl, hs, hm, hca⟩ := hx
      obtain ⟨u, hu, hru⟩ := load_ok hok hm hca hok.np
      exact ⟨c, rfl, rfl, hr, Ext.refl c, u, RelD.of_v1 hru, by simp [Instr.loadAt, Instr.sureAddr, hu]⟩
    · exact (fail_ne h).elim
  · rename_i a et i p t
    split at h
    · rename_i hty
      subst hty
      obtain ⟨h1, hpt, hpi, g, rfl, hgg⟩ := hx
      simp only [Res.ev] at h
      split at h
      · rename_i A hA
        split at h
        · rename_i hc
          obtain ⟨ho, rfl⟩ := hc
          obtain ⟨hb, h⟩ := Res.chk_some h
          simp only [inI, Bool.and_eq_true, decide_eq_true_eq] at hb
          split at h
          · rename_i d hd
            split at h
            · rename_i hdt
              obtain ⟨rfl, rfl⟩ := ok_inj h
              obtain ⟨cur, inner, rest, hh, _, hcur, _, hrl, _, _⟩ := elem_ok (hr.arr a A hA) ho (hgg A hA)
              obtain ⟨a1, m1, b1, e1, hl1, hm1⟩ := getD_rel (fun _ _ h => RelC.len h) hrl (j := i.toNat) (by omega) A.t.zero
              obtain ⟨a2, m2, b2, e2, hl2, hm2⟩ := getP_rel hm1 hpi hd
              obtain ⟨dt, dx⟩ := d
              simp only at hdt
              subst hdt
              have hca := cells_in hh (a := a1 ++ a2) (m := m2) (b := b2 ++ b1 ++ rest) (by rw [hcur, e1, e2]; simp [List.append_assoc])
              rw [List.length_append, hl1, hl2] at hca
              obtain ⟨u, hu, hru⟩ := load_ok hok hm2 hca hok.np
              exact ⟨c, rfl, rfl, hr, Ext.refl c, u, RelD.of_v1 hru, by simp [Instr.loadAt, Instr.sureAddr, hu]⟩
            · exact (fail_ne h).elim
          · exact (fail_ne h).elim
        · exact (fail_ne h).elim
      · exact (fail_ne h).elim
    · exact (fail_ne h).elim
  · exact (fail_ne h).elim

theorem write_ok {ty : Ty} {tid : TypeId} (hok : TyOk P T tid ty) (hr : Rel E c) {b : Nat} {B : Box} (hB : c.m.box b = some B) {cs : Array Value} {tid' : TypeId} (hh : c.w.heap[c.bx b]? = some (.cells cs tid' (0, 0))) {u1 : Value} {a m b' : List Value} {off : Nat} (e : cs.toList = a ++ m ++ b') (hl : a.length = off) (hm : m.length = ty.size)
    (hcl : u1.cells.toList.length = ty.size) (hone : ∀ v ∈ u1.cells.toList, v.oneCell' = true) {y : B.t.den} {lk : List (Nat × LK)} (hnew : RelB c ⟨B.t, y, lk⟩ (a ++ u1.cells.toList ++ b')) :
    ∃ c', c'.m = c.m.setB b ⟨B.t, y, lk⟩ ∧ Rel E c' ∧ Ext c c' ∧ (Instr.storeAt tid (.pointer (some ⟨c.bx b, off, none⟩)) u1).run P c.w = .ok () c'.w := by
  have hst := run_storeCells_at P (c.bx b) off tid' u1.cells.toList 0 cs c.w hh (by
    rw [Nat.add_zero, ← Array.length_toList (xs := cs), e, List.length_append, List.length_append, hl, hcl, hm]
    exact Nat.le_add_right _ _) (fun v hv => hone v hv)
  have hcs : (cs.toList.take (off + 0) ++ u1.cells.toList ++ cs.toList.drop (off + 0 + u1.cells.toList.length)) = a ++ u1.cells.toList ++ b' := by
    rw [e, Nat.add_zero, ← hl, hcl, ← hm]
    simp [List.append_assoc, List.take_append, List.drop_append]
  rw [hcs] at hst
  obtain ⟨r2, e2⟩ := setBox_ok hr hB (x := y) (lk := lk) (w' := c.w.setRow (c.bx b) (a ++ u1.cells.toList ++ b').toArray) rfl rfl rfl (setRow_size _ _ _)
    (fun g hg => setRow_other _ _ _ _ hg) (.inr ⟨(a ++ u1.cells.toList ++ b').toArray, tid', setRow_heap _ _ _ _ _ _ hh, by simpa using hnew⟩)
  refine ⟨_, rfl, r2, e2, ?_⟩
  have hsz : ¬ (u1.cells.size ≠ ty.size) := by rw [← Array.length_toList, hcl]; simp
  simp only [Instr.storeAt, Instr.sureAddr, Sem.run_bind, Sem.run_pure, Result.andThen_ok, storeVar, hok.sizeOf c.w, if_neg hsz]
  exact hst
theorem linkV_ok {tid : TypeId} {ty : Ty} (hok : TyOk P T tid ty) (hr : Rel E c) {b i : Nat} {l0 : LK} {B : Box} (hB : c.m.box b = some B) (hpt : pathTy [.fld i] B.t = some ty) (hmem : (i, l0) ∈ B.lk) {y : V} {u1 : Value} (hy : RelV P E c y u1) {v : V} {m' : Mem} {fp fp' : FP}
    (h : (linkV ty b i B y).ev c.m fp = some (v, m', fp')) : ∃ c', c'.m = m' ∧ Rel E c' ∧ Ext c c' ∧ RelV P E c' v undef ∧ (Instr.storeAt tid (.pointer (some ⟨c.bx b, pathOff [.fld i] B.t, none⟩)) u1).run P c.w = .ok () c'.w := by
  obtain ⟨cs, tid', hh, hc⟩ := (hr.box b B hB).cells (path_ni hok hpt)
  have hc0 := hc
  obtain ⟨cs', hc', hl, _, hnd, hk⟩ := hc0
  obtain ⟨h1, h2, _⟩ := hk _ hmem
  have h1 : SlFld B.t i := h1
  obtain ⟨e0, u0, rfl⟩ := pathTy_sl h1 hpt
  have hlt : fldOff B.t i < cs.toList.length := by rw [hl]; exact (List.getElem?_eq_some_iff.1 h2).1
  have hsplit : cs.toList = cs.toList.take (fldOff B.t i) ++ [cs.toList[fldOff B.t i]] ++ cs.toList.drop (fldOff B.t i + 1) := by
    rw [List.append_assoc, List.singleton_append, List.getElem_cons_drop, List.take_append_drop]
  have hset : ∀ u, cs.toList.take (fldOff B.t i) ++ [u] ++ cs.toList.drop (fldOff B.t i + 1) = cs.toList.set (fldOff B.t i) u := fun u => by
    rw [List.set_eq_take_append_cons_drop, if_pos hlt, List.append_assoc, List.singleton_append]
  have hta : (cs.toList.take (fldOff B.t i)).length = pathOff [.fld i] B.t := by rw [pathOff_fld h1, List.length_take]; omega
  have fin : ∀ {c1 : Cx} (r1 : Rel E c1) (e1 : Ext c c1) (hw : c1.w = c.w) (hbx : c1.bx = c.bx) (hB1 : c1.m.box b = some B) {A : Option Addr} {n k : Nat} (hu : u1 = .slice A n k) {z : B.t.den} {lk : List (Nat × LK)} (hnew : RelB c1 ⟨B.t, z, lk⟩ (cs.toList.set (fldOff B.t i) u1)),
      ∃ c', c'.m = c1.m.setB b ⟨B.t, z, lk⟩ ∧ Rel E c' ∧ Ext c c' ∧ (Instr.storeAt tid (.pointer (some ⟨c.bx b, pathOff [.fld i] B.t, none⟩)) u1).run P c.w = .ok () c'.w := by
    intro c1 r1 e1 hw hbx hB1 A n k hu z lk hnew
    have hcl : u1.cells.toList = [u1] := by rw [hu]; rfl
    obtain ⟨c', g1, g2, g3, g4⟩ := write_ok (T := T) (ty := .sl e0 u0) hok r1 hB1 (cs := cs) (tid' := tid') (by rw [hw, hbx]; exact hh) (u1 := u1) hsplit hta rfl (by rw [hcl]; rfl) (fun v hv => by
      rw [hcl] at hv
      rw [List.mem_singleton.1 hv, hu]; rfl) (y := z) (lk := lk) (by rw [hcl, hset]; exact hnew)
    rw [hw, hbx] at g4
    exact ⟨c', g1, g2, e1.trans g3, g4⟩
  have dat : ∀ {S1 : Nat → Prop} {m1 : Mem} (r1 : Rel E { c with S := S1, m := m1 }) (e1 : Ext c { c with S := S1, m := m1 }) (hbx : m1.box = c.m.box) {zz : List u0.den} (hz : RelD c.w S1 (.sl e0 u0) zz u1) {fp1 : FP}
      (h2 : (match setP [.fld i] B.t B.x ⟨.sl e0 u0, zz⟩ with
        | some z => Res.setB b ⟨B.t, z, lkDrop B.lk i⟩ (Res.ok V.bad)
        | none => Res.fail).ev m1 fp1 = some (v, m', fp')),
      ∃ c', c'.m = m' ∧ Rel E c' ∧ Ext c c' ∧ RelV P E c' v undef ∧ (Instr.storeAt tid (.pointer (some ⟨c.bx b, pathOff [.fld i] B.t, none⟩)) u1).run P c.w = .ok () c'.w := by
    intro S1 m1 r1 e1 hbx zz hz fp1 h2
    split at h2
    · rename_i z hz'
      simp only [Res.ev] at h2
      obtain ⟨rfl, rfl⟩ := ok_inj h2
      have hz1 : RelC c.w S1 (.sl e0 u0) zz [u1] := hz
      obtain ⟨A, k, hu, _⟩ := hz1
      injection hu with hu
      have hB1 : RelB { c with S := S1, m := m1 } B cs.toList := RelB.on (c := c) (c' := { c with S := S1, m := m1 }) e1.S e1.w e1.on hc
      have hB2 := RelB.unlink (z := z) (lk := lkDrop B.lk i) (u := u1) hB1 hmem (fun cs2 hc2 => by
        obtain ⟨a', m'', b', e, ha, hm, hs⟩ := setP_rel hc2 (pathIn_sl h1) hz'
        exact ⟨a', m'', b', e, by rw [ha, pathOff_fld h1], hm, hs _ hz⟩)
        (fun e he => lkDrop_mem.1 he) (fun e he hne => lkDrop_mem.2 ⟨he, hne⟩) (lkDrop_nodup hnd)
      obtain ⟨c', g1, g2, g3, g4⟩ := fin (c1 := { c with S := S1, m := m1 }) r1 e1 rfl rfl (by show m1.box b = some B; rw [hbx]; exact hB) hu hB2
      exact ⟨c', g1, g2, g3, trivial, g4⟩
    · exact (fail_ne h2).elim
  cases y with
  | nils =>
    simp only [linkV, Res.ev] at h
    obtain ⟨rfl, rfl⟩ := ok_inj h
    have hu : u1 = .slice none 0 0 := hy
    obtain ⟨c', g1, g2, g3, g4⟩ := fin hr (Ext.refl c) rfl rfl hB hu (RelB.relink (l := .nil) (u := u1) hc hmem (by
      show _ = some nilCell
      rw [List.getElem?_set_self hlt, hu]; rfl))
    exact ⟨c', g1, g2, g3, trivial, g4⟩
  | own a =>
    simp only [linkV, Res.ev] at h
    cases ha : c.m.arr a with
    | no => rw [ha] at h; exact (fail_ne h).elim
    | dead => rw [ha] at h; exact (fail_ne h).elim
    | mp M => rw [ha] at h; exact (fail_ne h).elim
    | at_ A =>
      rw [ha] at h
      simp only at h
      split at h
      · rename_i hand
        simp only [Res.ev] at h
        obtain ⟨rfl, rfl⟩ := ok_inj h
        have hu := hy.2.1 A ha
        have hA := hr.arr a A ha
        simp only [Bool.and_eq_true] at hand
        unfold RelA at hA
        rw [if_pos hand.1] at hA
        obtain ⟨inner, hown, _, _⟩ := hA
        have hsl : ∃ A' n k, u1 = .slice A' n k := by
          rcases hown.2 with ⟨hv, _⟩ | ⟨g, cap, cur, hv, _⟩
          · exact ⟨_, _, _, hu.trans hv⟩
          · exact ⟨_, _, _, hu.trans hv⟩
        obtain ⟨A', n, k, hu'⟩ := hsl
        obtain ⟨c', g1, g2, g3, g4⟩ := fin hr (Ext.refl c) rfl rfl hB hu' (RelB.relink (l := .own a) (u := u1) hc hmem ⟨by rw [ha]; simp, fun Z hZ => by rw [List.getElem?_set_self hlt, hu], fun Z hZ => by rw [ha] at hZ; cases hZ⟩)
        exact ⟨c', g1, g2, g3, trivial, g4⟩
      · exact (fail_ne h).elim
  | _ =>
    simp only [linkV] at h
    obtain ⟨z, m1, fp1, h1', h2'⟩ := Res.bind_some h
    obtain ⟨S1, r1, e1, hz⟩ := asDat_ok hr hy h1'
    exact dat r1 e1 (asDat_box h1') hz h2'

theorem storeV_okT {tid : TypeId} {ty : Ty} (hok : TyOk P T tid ty) (hr : Rel E c) {x y : V} {u0 u1 : Value} (hx : RelV P E c x u0) (hy : RelV P E c y u1) {v : V} {m' : Mem} {fp fp' : FP}
    (h : (storeV ty x y).ev c.m fp = some (v, m', fp')) : ∃ c', c'.m = m' ∧ Rel E c' ∧ Ext c c' ∧ RelV P E c' v undef ∧ (Instr.storeAt tid u0 u1).run P c.w = .ok () c'.w := by
  unfold storeV at h
  split at h
  · rename_i b p t
    split at h
    · rename_i hty
      subst hty
      obtain ⟨B, hB, hpt, hp, rfl⟩ := hx
      simp only [Res.ev, hB] at h
      split at h
      · obtain ⟨z, m1, fp1, h1, h2⟩ := Res.bind_some h
        obtain ⟨S1, r1, e1, hz⟩ := asDat_ok hr hy h1
        have hnl := nilsOf_ok hy h1
        have hB1 : m1.box b = some B := by rw [asDat_box h1]; exact hB
        split at h2
        · rename_i y' hy'
          simp only [Res.ev] at h2
          obtain ⟨rfl, rfl⟩ := ok_inj h2
          obtain ⟨cs, tid', hh, hc⟩ := (r1.box b B hB1).cells (path_ni hok hpt)
          have hv1 := (hz.v1 hok.good).cells
          simp only [pathTy] at hpt
          injection hpt with hpt
          obtain ⟨Bt, Bx, Bl⟩ := B
          simp only at hpt
          subst hpt
          simp only [setP] at hy'
          simp only [Ty.cast] at hy'
          injection hy' with hy'
          subst hy'
          obtain ⟨c', g1, g2, g3, g4⟩ := write_ok (T := T) (ty := Bt) hok r1 hB1 (cs := cs) (tid' := tid') hh (u1 := u1) (a := []) (m := cs.toList) (b' := []) (off := 0) (by simp) rfl hc.len hv1.len (fun v hv => hv1.one v hv) (y := z) (lk := (nilsOf y).map fun i => (i, .nil))
            (by simpa using RelB.ofNils hv1 hnl)
          exact ⟨c', g1, g2, e1.trans g3, trivial, g4⟩
        · exact (fail_ne h2).elim
      · rename_i hne hfree
        obtain ⟨z, m1, fp1, h1, h2⟩ := Res.bind_some h
        obtain ⟨S1, r1, e1, hz⟩ := asDat_ok hr hy h1
        have hB1 : m1.box b = some B := by rw [asDat_box h1]; exact hB
        split at h2
        · rename_i y' hy'
          simp only [Res.ev] at h2
          obtain ⟨rfl, rfl⟩ := ok_inj h2
          obtain ⟨cs, tid', hh, hc⟩ := (r1.box b B hB1).cells (path_ni hok hpt)
          have hv1 := (hz.v1 hok.good).cells
          obtain ⟨a, m, b', e, hl, hm, hs⟩ := hc.put hfree (fun e => hne (by rw [e])) hp hy'
          obtain ⟨c', g1, g2, g3, g4⟩ := write_ok (T := T) (ty := t) hok r1 hB1 (cs := cs) (tid' := tid') hh (u1 := u1) e hl hm hv1.len (fun v hv => hv1.one v hv) (hs _ hv1)
          exact ⟨c', g1, g2, e1.trans g3, trivial, g4⟩
        · exact (fail_ne h2).elim
      · rename_i i l0 hat
        obtain ⟨rfl, hmem⟩ := lkHit_at hat
        exact linkV_ok hok hr hB hpt hmem hy h
      · exact (fail_ne h).elim
    · exact (fail_ne h).elim
  · rename_i a et i p t
    split at h
    · rename_i hty
      subst hty
      obtain ⟨y1, m1, fp1, h1, h9⟩ := Res.bind_some h
      obtain ⟨S1, r1, e1, hz⟩ := asDat_ok hr hy h1
      obtain ⟨_, hpt, hpi, g, rfl, hgg⟩ := (show RelV P E c (.eptr a et i p t) u0 from hx).ext e1
      simp only [Res.ev] at h9
      split at h9
      · rename_i A hA
        split at h9
        · rename_i hc
          obtain ⟨ho, rfl⟩ := hc
          obtain ⟨hb, h10⟩ := Res.chk_some h9
          simp only [inI, Bool.and_eq_true, decide_eq_true_eq] at hb
          split at h10
          · rename_i z hd
            simp only [Res.ev] at h10
            obtain ⟨rfl, rfl⟩ := ok_inj h10
            have hlt : i.toNat < A.xs.length := by omega
            obtain ⟨cur, inner, rest, hh, hge, hcur, hil, hrl, hnS, hback⟩ := elem_ok (r1.arr a A hA) ho (hgg A hA)
            obtain ⟨a1, m2, b1, e2, hl1, hm1, ht1, ht2⟩ := hrl.at_ (fun _ _ hh => RelC.len hh) (getD_some hlt A.t.zero)
            obtain ⟨a2, m3, b2, e3, hl2, hl3, hs3⟩ := setP_rel hm1 hpi hd
            have hv1 := (hz.v1 hok.good).cells
            have hcells : cur.toList = (a1 ++ a2) ++ m3 ++ (b2 ++ b1 ++ rest) := by rw [hcur, e2, e3]; simp [List.append_assoc]
            have hrun := store_run (T := T) hok hh (off := i.toNat * A.t.size + pathOff p A.t) hcells (by rw [List.length_append, hl1, hl2]) hl3 hv1.len (fun v hv => hv1.one v hv)
            have hsame : SameOn S1 c.w (c.w.setRow g ((a1 ++ a2) ++ u1.cells.toList ++ (b2 ++ b1 ++ rest)).toArray) := fun b hb => setRow_other _ _ _ _ (fun e => hnS (e ▸ hb))
            have hnew := (hs3 _ hv1).move hsame (fun _ h => h)
            have hset := RelL.set hnew hlt (ht1.imp fun _ _ h => h.move hsame fun _ h => h) (ht2.imp fun _ _ h => h.move hsame fun _ h => h)
            have hA' := hback (c.w.setRow g ((a1 ++ a2) ++ u1.cells.toList ++ (b2 ++ b1 ++ rest)).toArray) _ (a1 ++ (a2 ++ u1.cells.toList ++ b2) ++ b1) (A.xs.set i.toNat z) (setRow_heap _ _ _ _ _ _ hh) (by simp [List.append_assoc]) (by
              rw [e2, e3]
              simp only [List.length_append]
              rw [hv1.len, hl3]) (by rw [List.length_set]) hset
            obtain ⟨r2, e4⟩ := setElems_ok r1 hA ho (hgg A hA) (xs := A.xs.set i.toNat z) (w' := c.w.setRow g ((a1 ++ a2) ++ u1.cells.toList ++ (b2 ++ b1 ++ rest)).toArray) rfl rfl rfl (setRow_size _ _ _)
              (fun b hb => setRow_other _ _ _ _ hb) hge (fun es cl e => by rw [hh] at e; cases e) hA'
            exact ⟨_, rfl, r2, e1.trans e4, trivial, hrun⟩
          · exact (fail_ne h10).elim
        · exact (fail_ne h9).elim
      · exact (fail_ne h9).elim
    · exact (fail_ne h).elim
  · exact (fail_ne h).elim

theorem storeV_ok (hT : TabOk P T) {tid : TypeId} {ty : Ty} (ht : T tid = some ty) (hr : Rel E c) {x y : V} {u0 u1 : Value} (hx : RelV P E c x u0) (hy : RelV P E c y u1) {v : V} {m' : Mem} {fp fp' : FP}
    (h : (storeV ty x y).ev c.m fp = some (v, m', fp')) : ∃ c', c'.m = m' ∧ Rel E c' ∧ Ext c c' ∧ RelV P E c' v undef ∧ (Instr.storeAt tid u0 u1).run P c.w = .ok () c'.w := storeV_okT (hT _ _ ht) hr hx hy h
theorem chainGet_tup : ∀ {cc : Ty} {x : cc.den} {vs : List Value} {i : Nat} {d : D} {w : World} {S : Nat → Prop}, RelT w S cc x vs → chainGet cc x i = some d → ∃ v, vs[i]? = some v ∧ RelV1 w S d.t d.x v
  | .pair a b, x, _, 0, d, w, S, ⟨v, l, e, h0, h1⟩, h => by
    injection h with h; subst h
    exact ⟨v, by rw [e]; rfl, h0⟩
  | .pair a b, x, _, i + 1, d, w, S, ⟨v, l, e, h0, h1⟩, h => by
    obtain ⟨u, hu, hr⟩ := chainGet_tup (i := i) h1 h
    exact ⟨u, by rw [e]; simpa using hu, hr⟩
  | .int _, _, _, 0, d, w, S, ⟨v, e, h0⟩, h => by injection h with h; subst h; exact ⟨v, by rw [e]; rfl, h0⟩
  | .bool, _, _, 0, d, w, S, ⟨v, e, h0⟩, h => by injection h with h; subst h; exact ⟨v, by rw [e]; rfl, h0⟩
  | .str, _, _, 0, d, w, S, ⟨v, e, h0⟩, h => by injection h with h; subst h; exact ⟨v, by rw [e]; rfl, h0⟩
  | .any _ _, _, _, 0, d, w, S, ⟨v, e, h0⟩, h => by injection h with h; subst h; exact ⟨v, by rw [e]; rfl, h0⟩
  | .pt _, _, _, 0, d, w, S, ⟨v, e, h0⟩, h => by injection h with h; subst h; exact ⟨v, by rw [e]; rfl, h0⟩
  | .iter, _, _, 0, d, w, S, ⟨v, e, h0⟩, h => by injection h with h; subst h; exact ⟨v, by rw [e]; rfl, h0⟩
  | .sl _ _, _, _, 0, d, w, S, ⟨v, e, h0⟩, h => by injection h with h; subst h; exact ⟨v, by rw [e]; rfl, h0⟩
  | .arr _ _, _, _, 0, d, w, S, ⟨v, e, h0⟩, h => by injection h with h; subst h; exact ⟨v, by rw [e]; rfl, h0⟩
  | .mp _ _, _, _, 0, d, w, S, ⟨v, e, h0⟩, h => by injection h with h; subst h; exact ⟨v, by rw [e]; rfl, h0⟩
  | .st _, _, _, 0, d, w, S, ⟨v, e, h0⟩, h => by injection h with h; subst h; exact ⟨v, by rw [e]; rfl, h0⟩
  | .tup _, _, _, 0, d, w, S, ⟨v, e, h0⟩, h => by injection h with h; subst h; exact ⟨v, by rw [e]; rfl, h0⟩
  | .unit, _, _, 0, d, w, S, ⟨v, e, h0⟩, h => by injection h with h; subst h; exact ⟨v, by rw [e]; rfl, h0⟩
  | .int _, _, _, _ + 1, d, w, S, _, h => by cases h
  | .bool, _, _, _ + 1, d, w, S, _, h => by cases h
  | .str, _, _, _ + 1, d, w, S, _, h => by cases h
  | .any _ _, _, _, _ + 1, d, w, S, _, h => by cases h
  | .pt _, _, _, _ + 1, d, w, S, _, h => by cases h
  | .iter, _, _, _ + 1, d, w, S, _, h => by cases h
  | .sl _ _, _, _, _ + 1, d, w, S, _, h => by cases h
  | .arr _ _, _, _, _ + 1, d, w, S, _, h => by cases h
  | .mp _ _, _, _, _ + 1, d, w, S, _, h => by cases h
  | .st _, _, _, _ + 1, d, w, S, _, h => by cases h
  | .tup _, _, _, _ + 1, d, w, S, _, h => by cases h
  | .unit, _, _, _ + 1, d, w, S, _, h => by cases h

theorem toCaps_ok {ρ : Operand → V} {ρ' : Operand → Value} (hρ : ∀ x, RelV P E c (ρ x) (ρ' x)) : ∀ (l : List Operand) (ks : List Cap), toCaps (l.map ρ) = some ks → RelCaps c ks (l.map ρ')
  | [], ks, h => by injection h with h; subst h; rfl
  | x :: l, ks, h => by
    simp only [List.map_cons, toCaps] at h
    split at h
    · rename_i k ks' hk hks
      injection h with h
      subst h
      refine ⟨ρ' x, l.map ρ', rfl, ?_, toCaps_ok hρ l ks' hks⟩
      have hx := hρ x
      unfold toCap at hk
      split at hk
      · rename_i b t hv
        injection hk with hk; subst hk
        rw [hv] at hx
        obtain ⟨B, hB, hpt, _, he⟩ := hx
        exact ⟨⟨B, hB, by injection hpt⟩, by rw [he]; rfl⟩
      · rename_i d hv
        injection hk with hk; subst hk
        rw [hv] at hx
        exact hx
      · rename_i d nl hv
        injection hk with hk; subst hk
        rw [hv] at hx
        exact hx.1
      · cases hk
    · cases h

theorem strAt_ok {s : ByteArray} {i : Int} (h : inI i s.size = true) : ∃ b, s[i.toNat]? = some b ∧ (b.toNat : Int) = strAt s i := by
  simp only [inI, Bool.and_eq_true, decide_eq_true_eq] at h
  have hlt : i.toNat < s.size := by omega
  refine ⟨s[i.toNat], by simp [hlt], ?_⟩
  unfold strAt
  have hl : i.toNat < s.data.toList.length := by simpa using hlt
  rw [List.getD_eq_getElem?_getD, List.getElem?_eq_getElem hl]
  simp
  rfl

theorem cut_ok {w : World} {S : Nat → Prop} {e : TypeId} {t : Ty} {xs : List t.den} {A : Option Addr} {n cap : Nat} (h : RelC w S (.sl e t) xs [.slice A n cap]) {l h' : Nat} (h1 : l ≤ h') (h2 : h' ≤ xs.length) :
    n = xs.length ∧ xs.length ≤ cap ∧ RelC w S (.sl e t) ((xs.take h').drop l) [.slice (if cap = l then A else A.map (·.add (l * t.size))) (h' - l) (cap - l)] := by
  obtain ⟨A', c', e1, hl, hc⟩ := h
  injection e1 with e1
  injection e1 with e1 e2 e3
  subst e1 e2 e3
  refine ⟨rfl, hl, (if cap = l then A else A.map (·.add (l * t.size))), cap - l, ?_, ?_, ?_⟩
  · rw [List.length_drop, List.length_take, Nat.min_eq_left h2]
  · rw [List.length_drop, List.length_take, Nat.min_eq_left h2]; omega
  · intro hp
    rw [List.length_drop, List.length_take, Nat.min_eq_left h2] at hp
    obtain ⟨ad, inner, rfl, hs, hil, hca, hr⟩ := hc (by omega)
    have hne : ¬ cap = l := by omega
    rw [if_neg hne]
    have hr2 := (hr.take (fun _ _ h => RelC.len h) h').drop (fun _ _ h => RelC.len h) l
    refine ⟨ad.add (l * t.size), (inner.take (h' * t.size)).drop (l * t.size), rfl, by rw [add_block']; exact hs, hr2.len (fun _ _ h => RelC.len h), ?_, hr2⟩
    intro i u hu
    rw [add_add']
    refine hca _ u ?_
    rw [List.getElem?_drop] at hu
    have hlt : l * t.size + i < h' * t.size := by
      have := (List.getElem?_eq_some_iff.1 hu).1
      rw [List.length_take] at this
      omega
    rw [List.getElem?_take_of_lt hlt] at hu
    exact hu

theorem intOf_ok {ρ : Operand → V} {ρ' : Operand → Value} (hρ : ∀ x, RelV P E c (ρ x) (ρ' x)) {o : Option Operand} {d n : Int} (h : intOf d (o.map ρ) = some n) :
    (o = none ∧ n = d) ∨ ∃ x k, o = some x ∧ ρ' x = .int k n := by
  cases o with
  | none => injection h with h; exact .inl ⟨rfl, h.symm⟩
  | some x =>
    simp only [Option.map_some, intOf] at h
    split at h
    · rename_i heq; simp at heq
    · rename_i k m heq
      injection heq with heq
      injection h with h
      subst h
      have := hρ x
      rw [heq] at this
      exact .inr ⟨x, k, rfl, relV_int this⟩
    · cases h

theorem foldInt_ok {ρ : Operand → V} {ρ' : Operand → Value} (hρ : ∀ x, RelV P E c (ρ x) (ρ' x)) {f : Int → Int → Int} {g : Value → Value → Sem Value} (hg : ∀ k x y w, (g (.int k x) (.int k y)).run P w = .ok (.int k (f x y)) w) {k : IntKind} :
    ∀ (l : List Operand) (n : Int) (v : V) (m m' : Mem) (fp fp' : FP), (foldInt f k n (l.map ρ)).ev m fp = some (v, m', fp') → m' = m ∧ ∃ u, RelV P E c v u ∧ ((l.map ρ').foldlM g (.int k n)).run P c.w = .ok u c.w
  | [], n, v, m, m', fp, fp', h => by
    obtain ⟨rfl, rfl⟩ := ok_inj h
    exact ⟨rfl, _, relV_intV, rfl⟩
  | x :: l, n, v, m, m', fp, fp', h => by
    rw [List.map_cons, foldInt.eq_def] at h
    split at h
    · rename_i heq; simp at heq
    · rename_i n' k' b l' heq
      injection heq with h1 h2
      subst h2
      split at h
      · rename_i hk
        subst hk
        have := hρ x
        rw [h1] at this
        have hx := relV_int this
        obtain ⟨e, u, hu, hrun⟩ := foldInt_ok hρ hg l _ v m m' fp fp' h
        exact ⟨e, u, hu, by simp only [List.map_cons, List.foldlM_cons, hx, Sem.run_bind, hg, Result.andThen_ok]; exact hrun⟩
      · exact (fail_ne h).elim
    · exact (fail_ne h).elim

theorem baseV_ok (hr : Rel E c) {e : TypeId} {t : Ty} {x : V} {u : Value} (hx : RelV P E c x u) {xs : List t.den} {m' : Mem} {fp fp' : FP} (h : (baseV e t x).ev c.m fp = some (xs, m', fp')) :
    Rel E { c with m := m' } ∧ Ext c { c with m := m' } ∧ Loose E { c with m := m' } e t xs u := by
  unfold baseV at h
  split at h
  · obtain ⟨rfl, rfl⟩ := ok_inj h
    have : u = .slice none 0 0 := hx
    subst this
    exact ⟨hr, Ext.refl c, ⟨[], World.ownsRow_nil _ _ _ _, rfl⟩, fun g hg => by simp [Value.ownBlock] at hg⟩
  · rename_i a
    simp only [Res.ev] at h
    cases ha : c.m.arr a with
    | no => rw [ha] at h; exact (fail_ne h).elim
    | dead => rw [ha] at h; exact (fail_ne h).elim
    | mp M => rw [ha] at h; exact (fail_ne h).elim
    | at_ A =>
      rw [ha] at h
      simp only at h
      split at h
      · rename_i ho
        split at h
        · rename_i he
          simp only [Res.ev] at h
          obtain ⟨rfl, rfl⟩ := ok_inj h
          obtain ⟨Ae, At, Ax, Ao⟩ := A
          simp only [Ty.sl.injEq] at he
          obtain ⟨h1, h2⟩ := he
          subst h1 h2
          obtain ⟨r, e1, hl⟩ := dead_ok hr ha ho
          have hu : u = c.ar a := hx.2.1 _ ha
          rw [hu]
          exact ⟨r, e1, hl⟩
        · exact (fail_ne h).elim
      · exact (fail_ne h).elim
  · exact (fail_ne h).elim

theorem asDat_loose (hr : Rel E c) {t : Ty} {x : V} {y : t.den} {m' : Mem} {fp fp' : FP} (h : (asDat t x).ev c.m fp = some (y, m', fp')) {u : Value} (hv : RelV P E c x u) :
    ∃ S', Rel E { c with S := S', m := m' } ∧ Ext c { c with S := S', m := m' } ∧ RelD c.w S' t y u ∧ ∀ (e : TypeId) (t' : Ty) (xs : List t'.den) (v : Value), Loose E c e t' xs v → Loose E { c with S := S', m := m' } e t' xs v := by
  have same : ∀ (e : TypeId) (t' : Ty) (xs : List t'.den) (v : Value), Loose E c e t' xs v → Loose E c e t' xs v := fun _ _ _ _ h => h
  cases x with
  | own a =>
    have h0 := h
    simp only [asDat, Res.ev] at h
    cases ha : c.m.arr a with
    | no => rw [ha] at h; exact (fail_ne h).elim
    | dead => rw [ha] at h; exact (fail_ne h).elim
    | mp M => rw [ha] at h; exact (fail_ne h).elim
    | at_ A =>
      rw [ha] at h
      simp only at h
      split at h
      · rename_i he
        subst he
        have hu : u = c.ar a := hv.2.1 A ha
        cases ho : A.open_ with
        | true =>
          rw [ho] at h
          simp only [Res.ev] at h
          obtain ⟨rfl, rfl⟩ := ok_inj h
          subst hu
          obtain ⟨S', hS2, r1', r2', r3'⟩ := freeze_ok hr ha ho
          subst hS2
          refine ⟨_, r1', r2', r3', fun e t' xs v hl => ?_⟩
          obtain ⟨⟨inner, h1, h2⟩, h3⟩ := hl
          refine ⟨⟨inner, h1, h2.imp (fun _ _ h => h.move r2'.w r2'.S)⟩, fun g hg => ?_⟩
          obtain ⟨k1, k2, k3⟩ := h3 g hg
          refine ⟨?_, k2, fun b B hB hBo => ?_⟩
          · rintro (hs | hs)
            · exact k1 hs
            · exact k3 a A ha ho hs
          · simp only [Mem.setA, upd] at hB
            cases hb : Nat.beq b a with
            | true => rw [hb] at hB; injection hB with hB; subst hB; simp at hBo
            | false => rw [hb] at hB; exact k3 b B hB hBo
        | false =>
          rw [ho] at h
          simp only [Res.ev] at h
          obtain ⟨rfl, rfl⟩ := ok_inj h
          subst hu
          have := hr.arr a A ha
          unfold RelA at this
          rw [if_neg (by simp [ho])] at this
          exact ⟨c.S, hr, Ext.refl c, this, same⟩
      · exact (fail_ne h).elim
  | dat d =>
    simp only [asDat] at h
    split at h
    · rename_i he
      obtain ⟨dt, dx⟩ := d
      simp only at he
      subst he
      obtain ⟨rfl, rfl⟩ := ok_inj h
      exact ⟨c.S, hr, Ext.refl c, hv, same⟩
    · exact (fail_ne h).elim
  | agg d nl =>
    simp only [asDat] at h
    split at h
    · rename_i he
      obtain ⟨dt, dx⟩ := d
      simp only at he
      subst he
      obtain ⟨rfl, rfl⟩ := ok_inj h
      exact ⟨c.S, hr, Ext.refl c, hv.1, same⟩
    · exact (fail_ne h).elim
  | nils =>
    cases t with
    | sl e t =>
      simp only [asDat] at h
      obtain ⟨rfl, rfl⟩ := ok_inj h
      have : u = .slice none 0 0 := hv
      subst this
      exact ⟨c.S, hr, Ext.refl c, ⟨none, 0, rfl, Nat.le_refl _, fun hp => absurd hp (Nat.lt_irrefl 0)⟩, same⟩
    | _ => exact (fail_ne h).elim
  | nili =>
    cases t with
    | any it st =>
      simp only [asDat] at h
      obtain ⟨rfl, rfl⟩ := ok_inj h
      exact ⟨c.S, hr, Ext.refl c, by show [u] = [Value.nilIface]; rw [show u = .nilIface from hv], same⟩
    | _ => exact (fail_ne h).elim
  | ifv i d =>
    obtain ⟨v, rfl, hd⟩ := hv
    cases t with
    | any it st =>
      simp only [asDat] at h
      split at h
      · rename_i n
        split at h
        · rename_i hi
          have hi := of_decide_eq_true hi
          subst hi
          obtain ⟨rfl, rfl⟩ := ok_inj h
          have hv' : v = .int .i64 n := by simpa [RelD, RelV1, RelC] using hd
          exact ⟨c.S, hr, Ext.refl c, by show [Value.iface i v] = [Value.iface i (.int .i64 n)]; rw [hv'], same⟩
        · exact (fail_ne h).elim
      · rename_i s
        split at h
        · rename_i hi
          have hi := of_decide_eq_true hi
          subst hi
          obtain ⟨rfl, rfl⟩ := ok_inj h
          have hv' : v = .string s := by simpa [RelD, RelV1, RelC] using hd
          exact ⟨c.S, hr, Ext.refl c, by show [Value.iface i v] = [Value.iface i (.string s)]; rw [hv'], same⟩
        · exact (fail_ne h).elim
      · exact (fail_ne h).elim
    | _ => exact (fail_ne h).elim
  | _ => exact (fail_ne h).elim

theorem append_run (hT : TabOk P T) {tid e : TypeId} {t : Ty} (ht : T tid = some (.sl e t)) (ty : TypeId) (hr : Rel E c) {xs ys : List t.den} {u1 u2 : Value} (hl : Loose E c e t xs u1) (hy : RelD c.w c.S (.sl e t) ys u2)
    (hlen : xs.length + ys.length < appMax) : ∃ v' w', (Builtin.append_ #[tid, tid] ty #[u1, u2]).run P c.w = .ok v' w' ∧ ∃ c', c'.m = c.m ∧ c'.w = w' ∧ Rel E c' ∧ Ext c c' ∧ Loose E c' e t (xs ++ ys) v' := by
  obtain ⟨hund, hte, hpos⟩ := (hT _ _ ht).und
  obtain ⟨i, z, hi, hsz, hz, hzc, hby⟩ := (hT _ _ hte).info
  obtain ⟨⟨inner, ho, hR⟩, hg⟩ := hl
  obtain ⟨A, cap, he, hcap, hc⟩ := hy
  have he2 : u2 = .slice A ys.length cap := by simpa using he
  subst he2
  have step : ∀ (v' : Value) (w' : World) (news : List Value), (w'.ownsRow E.w0.heap.size e t.size v' (xs.length + ys.length) (inner ++ news)) → c.w.grownBy w' u1.ownBlock → RelL (RelC c.w c.S t) ys news →
      (∀ g, v'.ownBlock = some g → some g = u1.ownBlock ∨ c.w.heap.size ≤ g) →
      ∃ c', c'.m = c.m ∧ c'.w = w' ∧ Rel E c' ∧ Ext c c' ∧ Loose E c' e t (xs ++ ys) v' := by
    intro v' w' news hown hgr hn hnew
    have hsame : SameOn c.S c.w w' := fun b hb => hgr.block b (hr.lt b hb) (fun e => (hg b e.symm).1 hb)
    have hbase : ∀ g, u1.ownBlock = some g → E.w0.heap.size ≤ g := fun g hgg => (ho.lt g hgg).1
    refine ⟨{ c with w := w' }, rfl, rfl, ?_, ⟨fun _ h => h, hsame, fun b B hB => ⟨B, hB, rfl, rfl⟩, fun a ha => ⟨ha, fun A hA => ⟨⟨A, hA⟩, rfl⟩⟩, fun a M hM _ => ⟨⟨M, hM⟩, rfl⟩⟩, ⟨inner ++ news, by rw [List.length_append]; exact hown, ?_⟩, ?_⟩
    · refine ⟨hgr.os.trans hr.os, hgr.tape.trans hr.tape, hgr.output.trans hr.output, Nat.le_trans hr.size hgr.size, ?_, hr.old, fun b hb => Nat.lt_of_lt_of_le (hr.lt b hb) hgr.size, hr.new, ?_, hr.priv, ?_, hr.bb, hr.aa, hr.ba, hr.ms.step (fun a M hM => ⟨hM, rfl⟩) (fun g es cl hgm hS => ⟨hgr.block g (Array.getElem?_eq_some_iff.1 hgm).1 (fun e => by
        rcases ho.2 with ⟨hv', _⟩ | ⟨g2, cap2, cur2, hv', hb2, hh2, _⟩
        · rw [hv'] at e; cases e
        · rw [hv'] at e
          have : g = g2 := by simpa [Value.ownBlock] using e
          subst this
          rw [hh2] at hgm; cases hgm), hS⟩)⟩
      · intro b hlt hnw
        rw [hgr.block b (Nat.lt_of_lt_of_le hlt hr.size) (fun e => by have := hbase b e.symm; omega)]
        exact hr.keep b hlt hnw
      · intro b B hB
        exact BoxRel.mv (c := c) (c' := { c with w := w' }) (fun _ h => h) hsame (ArrOn.same rfl rfl) (hgr.block _ (hr.boxLt hB) (fun e => (hg _ e.symm).2.1 b (by rw [hB]; simp) rfl)) (hr.box b B hB)
      · intro a A hA
        refine (hr.arr a A hA).move hsame (fun _ h => h) (fun hop g hgg => ⟨hgr.block g (hr.arrLt hA hop hgg) (fun e => (hg g e.symm).2.2 a A hA hop hgg), ?_⟩)
        have := hr.arr a A hA
        unfold RelA at this
        rw [if_pos hop] at this
        obtain ⟨_, _, _, h5⟩ := this
        exact h5 g hgg
    · exact (hR.imp (fun _ _ h => h.move hsame (fun _ h => h))).append (hn.imp (fun _ _ h => h.move hsame (fun _ h => h)))
    · intro g hgg
      rcases hnew g hgg with h | h
      · exact hg g h.symm
      · refine ⟨fun hs => by have := hr.lt g hs; omega, fun b hb e => ?_, fun a A hA hop hga => ?_⟩
        · cases hB : c.m.box b with
          | none => exact hb hB
          | some B => have := hr.boxLt hB; simp only at e; omega
        · have := hr.arrLt hA hop hga; omega
  have hmax : xs.length + ys.length ≤ maxLen := by unfold appMax at hlen; simp only [maxLen]; omega
  have hbytes : (xs.length + ys.length) * i.bytes ≤ 140737488355328 := by
    unfold appMax at hlen
    calc (xs.length + ys.length) * i.bytes ≤ 4294967296 * 16384 := Nat.mul_le_mul (by omega) hby
      _ ≤ 140737488355328 := by decide
  cases A with
  | some ad =>
    obtain ⟨news, hnl, hca, hn⟩ : ∃ news, news.length = ys.length * t.size ∧ CellsAt c.w ad news ∧ RelL (RelC c.w c.S t) ys news := by
      by_cases hp : 0 < ys.length
      · obtain ⟨ad', inner', hA, hs, hil, hca, hr'⟩ := hc hp
        injection hA with hA
        subst hA
        exact ⟨inner', hil, hca, hr'⟩
      · have : ys = [] := List.eq_nil_of_length_eq_zero (by omega)
        subst this
        exact ⟨[], by simp, fun i u hu => by simp at hu, rfl⟩
    have hzs : z.cells.size = t.size := by
      have := (relC_zero c.w c.S t (hT _ _ hte).good).len
      rw [← Array.length_toList, hzc, this]
    obtain ⟨v', w', hrun, hown, hgr, hnil, hat⟩ := run_append_own_at (P := P) c.w E.w0.heap.size tid ty e i z t.size i.bytes hund hi hz hsz rfl hzs hpos u1 xs.length inner ho ad ys.length cap news hnl hca (hn.one (fun _ _ h => RelC.one h)) hmax hbytes hr.size
    refine ⟨v', w', hrun, step v' w' news hown hgr hn (fun g hgg => ?_)⟩
    rcases hat with h | h
    · exact .inl (by rw [← h, hgg])
    · rw [h] at hgg; injection hgg with hgg; exact .inr (Nat.le_of_eq hgg)
  | none =>
    have hy0 : ys.length = 0 := by
      by_cases hp : 0 < ys.length
      · obtain ⟨ad', inner', hA, _⟩ := hc hp
        cases hA
      · omega
    have : ys = [] := List.eq_nil_of_length_eq_zero hy0
    subst this
    refine ⟨u1, c.w, ?_, ?_⟩
    · rcases ho.2 with ⟨rfl, hn⟩ | ⟨g, cap', cur, rfl, hb, hh, hle, hm, hcs, ht'⟩
      · simp [Builtin.append_, run_underlying hund, (hT _ _ hte).sizeOf c.w, Builtin.lenOf, Builtin.firstCells]
      · simp [Builtin.append_, run_underlying hund, (hT _ _ hte).sizeOf c.w, Builtin.lenOf, Builtin.firstCells, hle, storeCells]
    · have := step u1 c.w [] (by simpa using ho) ⟨rfl, rfl, rfl, Nat.le_refl _, fun _ _ _ => rfl⟩ rfl (fun g hgg => .inl hgg.symm)
      exact this
end
end Go.Vm
end
section
namespace Go.Vm
open Go.RowKit
set_option linter.unusedVariables false
set_option linter.unusedSimpArgs false

def RelArgs (P : Program) (w : World) (S S1 : Nat → Prop) (flat : Bool) : (ps : List PK) → dens ps → List Value → Prop
  | [], _, vs => vs = []
  | .val t :: ps, a, vs => ∃ v l, vs = v :: l ∧ RelD w S t a.1 v ∧ RelArgs P w S S1 flat ps a.2 l
  | .ro t :: ps, a, vs => ∃ v l, vs = v :: l ∧ flat = true ∧ RelP w S1 t a.1 v ∧ RelArgs P w S S1 flat ps a.2 l
  | .rw _ :: _, _, _ => False
  | .fn x r :: ps, a, vs => ∃ v l, vs = v :: l ∧ RelFn P w S S1 x r a.1 v ∧ RelArgs P w S S1 flat ps a.2 l

def RetO (w : World) (S : Nat → Prop) (e : TypeId) (t : Ty) (ys : List t.den) (en : Ending) (w' : World) : Prop :=
  ∃ v inner S', en = .returned v ∧ w'.ownsRow w.heap.size e t.size v ys.length inner ∧ RelL (RelC w' S' t) ys inner ∧ (∀ g, v.ownBlock = some g → ¬ S' g) ∧ (∀ b, S' b → Ext' S w w' b) ∧ Below w.heap.size w w'
def RetF (P : Program) (w : World) (S : Nat → Prop) (a r : Ty) (g : a.den → Option r.den) (en : Ending) (w' : World) : Prop :=
  ∃ v, en = .returned v ∧ RelFn P w' (Ext' S w w') (Ext' S w w') a r g v ∧ Below w.heap.size w w'
def RetW (w : World) (S : Nat → Prop) (b : Nat) (t r : Ty) (y : t.den × r.den) (en : Ending) (w' : World) : Prop :=
  ∃ v cs tid, en = .returned v ∧ RelD w' (Ext' S w w') r y.2 v ∧ w'.heap[b]? = some (.cells cs tid (0, 0)) ∧ RelC w' (Ext' S w w') t y.1 cs.toList ∧
    w'.os = w.os ∧ w'.tape = w.tape ∧ w'.output = w.output ∧ w.heap.size ≤ w'.heap.size ∧ ∀ i, i < w.heap.size → i ≠ b → w'.heap[i]? = w.heap[i]?
def Stored (P : Program) (it st : TypeId) : List (Addr × Bool) → List (Int ⊕ ByteArray) → World → World → Prop
  | _, [], w, w' => w' = w
  | p :: l, .inl n :: ys, w, w' => ∃ w1, (Instr.storeAt it (.pointer (some p.1)) (.int .i64 n)).run P w = .ok () w1 ∧ Stored P it st l ys w1 w'
  | p :: l, .inr s :: ys, w, w' => ∃ w1, (Instr.storeAt st (.pointer (some p.1)) (.string s)).run P w = .ok () w1 ∧ Stored P it st l ys w1 w'
  | [], _ :: _, _, _ => False
def Fits : List Bool → List (Int ⊕ ByteArray) → Prop
  | _, [] => True
  | true :: ks, .inl _ :: ys => Fits ks ys
  | false :: ks, .inr _ :: ys => Fits ks ys
  | _, _ => False
def PlaceOk (w : World) (S : Nat → Prop) (p : Addr × Bool) : Prop := p.1.spot = none ∧ ¬ S p.1.block ∧ ∃ cs tid, w.heap[p.1.block]? = some (.cells cs tid (0, 0)) ∧ p.1.off < cs.size
def ifaceOf (pi pst : TypeId) (p : Addr × Bool) : Value := .iface (bif p.2 then pi else pst) (.pointer (some p.1))
def SpecOk (P : Program) (f : FuncId) : Spec → Prop
  | .pu ps r fn => Enters P f ∧ ∀ (w : World) (S S1 : Nat → Prop) (as : dens ps) (vs : List Value) (y : r.den), (∀ b, S b → S1 b) → (∀ b, S1 b → b < w.heap.size) →
      RelArgs P w S S1 r.flat ps as vs → app ps fn as = some y → Calls P f vs.toArray w (Ret w S r y)
  | .fr ps e t fn => Enters P f ∧ ∀ (w : World) (S S1 : Nat → Prop) (as : dens ps) (vs : List Value) (ys : List t.den), (∀ b, S b → S1 b) → (∀ b, S1 b → b < w.heap.size) →
      RelArgs P w S S1 false ps as vs → app ps fn as = some ys → Calls P f vs.toArray w (RetO w S e t ys)
  | .cl ps a r fn => Enters P f ∧ ∀ (w : World) (S S1 : Nat → Prop) (as : dens ps) (vs : List Value) (g : a.den → Option r.den), (∀ b, S b → S1 b) → (∀ b, S1 b → b < w.heap.size) →
      RelArgs P w S S1 false ps as vs → app ps fn as = some g → Calls P f vs.toArray w (RetF P w S a r g)
  | .wr t ps r fn => Enters P f ∧ ∀ (w : World) (S S1 : Nat → Prop) (b : Nat) (cs : Array Value) (tid : TypeId) (x : t.den) (as : dens ps) (vs : List Value) (y : t.den × r.den), (∀ i, S i → S1 i) → (∀ i, S1 i → i < w.heap.size ∧ i ≠ b) →
      w.heap[b]? = some (.cells cs tid (0, 0)) → RelC w S t x cs.toList → RelArgs P w S S1 true ps as vs → app ps (fn x) as = some y → Calls P f (.pointer (some ⟨b, 0, none⟩) :: vs).toArray w (RetW w S b t r y)
  | .tk ae se it st pi pst fn => Enters P f ∧ (∀ T, TyOk P T it (.int .i64)) ∧ (∀ T, TyOk P T st .str) ∧ (∀ a wd ks y, fn a wd ks = some y → Fits ks y.2) ∧ ∀ (w : World) (S : Nat → Prop) (a : List (Option (Int ⊕ ByteArray))) (wd : List ByteArray) (l : List (Addr × Bool)) (v0 v1 : Value) (g : Nat) (y : Bool × List (Int ⊕ ByteArray)),
      (∀ b, S b → b < w.heap.size) → RelD w S (.sl ae (.any it st)) a v0 → RelD w S (.sl se .str) wd v1 → S g → CellsAt w ⟨g, 0, none⟩ (l.map (ifaceOf pi pst)) → (∀ p ∈ l, PlaceOk w S p) → fn a wd (l.map (·.2)) = some y →
      Calls P f #[v0, v1, .slice (some ⟨g, 0, none⟩) l.length l.length] w fun e w' => e = .returned (.bool y.1) ∧ Stored P it st l y.2 w w'

section
variable {P : Program} {T : Tab} {E : Env}

theorem RelArgs.move {w w' : World} {S S' S1 S1' : Nat → Prop} (hs : SameOn S1 w w') (h01 : ∀ b, S b → S1 b) (hS : ∀ b, S b → S' b) (hS1 : ∀ b, S1 b → S1' b) {flat : Bool} :
    ∀ {ps : List PK} {as : dens ps} {vs : List Value}, RelArgs P w S S1 flat ps as vs → RelArgs P w' S' S1' flat ps as vs
  | [], _, _, h => h
  | .val t :: ps, _, _, ⟨v, l, e, h0, h1⟩ => ⟨v, l, e, h0.move (fun b hb => hs b (h01 b hb)) hS, RelArgs.move hs h01 hS hS1 h1⟩
  | .ro t :: ps, _, _, ⟨v, l, e, hf, h0, h1⟩ => ⟨v, l, e, hf, h0.move hs hS1, RelArgs.move hs h01 hS hS1 h1⟩
  | .rw _ :: _, _, _, h => h.elim
  | .fn x r :: ps, _, _, ⟨v, l, e, h0, h1⟩ => ⟨v, l, e, h0.move hs hS hS1, RelArgs.move hs h01 hS hS1 h1⟩

def S1 (E : Env) (c : Cx) : Nat → Prop := fun b => c.S b ∨ (∃ i, c.m.box i ≠ none ∧ c.bx i = b) ∨ (b < E.w0.heap.size ∧ ¬ E.W0 b)
theorem S1.lt {c : Cx} (hr : Rel E c) {b : Nat} (h : S1 E c b) : b < c.w.heap.size := by
  rcases h with h | ⟨i, hi, rfl⟩ | h
  · exact hr.lt b h
  · cases hB : c.m.box i with
    | none => exact absurd hB hi
    | some B => exact hr.boxLt hB
  · exact Nat.lt_of_lt_of_le h.1 hr.size
theorem S1.ext {c c' : Cx} (h : Ext c c') {b : Nat} (hb : S1 E c b) : S1 E c' b := by
  rcases hb with hb | ⟨i, hi, rfl⟩ | hb
  · exact .inl (h.S b hb)
  · cases hB : c.m.box i with
    | none => exact absurd hB hi
    | some B =>
      obtain ⟨B', e, _, x⟩ := h.box i B hB
      exact .inr (.inl ⟨i, by rw [e]; simp, x⟩)
  · exact .inr (.inr hb)

theorem box_p {c : Cx} (hr : Rel E c) {b : Nat} {B : Box} (hB : c.m.box b = some B) (hf : lkFree B.lk = true) (hg : B.t.good = true) : RelP c.w (S1 E c) B.t B.x (.pointer (some ⟨c.bx b, 0, none⟩)) := by
  obtain ⟨cs, tid, hh, hc⟩ := (hr.box b B hB).cells (good_ni hg)
  refine ⟨⟨c.bx b, 0, none⟩, cs.toList, rfl, .inr (.inl ⟨b, by rw [hB]; simp, rfl⟩), (hc.free hf).move (fun _ _ => rfl) (fun _ h => .inl h), ?_⟩
  have := cells_in hh (a := []) (m := cs.toList) (b := []) (by simp)
  exact this
theorem peekD_ok {c : Cx} (hr : Rel E c) {t : Ty} {x : V} {u : Value} (hx : RelV P E c x u) {y : t.den} {m' : Mem} {fp fp' : FP} (h : (peekD t x).ev c.m fp = some (y, m', fp')) :
    m' = c.m ∧ RelP c.w (S1 E c) t y u := by
  unfold peekD at h
  split at h
  · rename_i b t'
    obtain ⟨B, hB, hpt, _, rfl⟩ := hx
    simp only [Res.ev, hB] at h
    split at h
    · rename_i hf
      rw [Bool.and_eq_true] at hf
      split at h
      · rename_i he
        subst he
        obtain ⟨rfl, rfl⟩ := ok_inj h
        exact ⟨rfl, box_p hr hB hf.1 hf.2⟩
      · exact (fail_ne h).elim
    · exact (fail_ne h).elim
  · rename_i d
    split at h
    · rename_i he
      obtain ⟨dt, dx⟩ := d
      simp only at he
      subst he
      obtain ⟨rfl, rfl⟩ := ok_inj h
      exact ⟨rfl, RelP.move (S := c.S) (fun _ _ => rfl) (fun _ h => .inl h) hx⟩
    · exact (fail_ne h).elim
  · exact (fail_ne h).elim
theorem relCap_v {c : Cx} {k : Cap} {v : Value} (h : RelCap c k v) : RelV P E c (capV k) v := by
  cases k with
  | ptr b t =>
    obtain ⟨⟨B, hB, ht⟩, e⟩ := h
    exact ⟨B, hB, by rw [pathTy, ht], trivial, by rw [e]; rfl⟩
  | dat d => exact h
theorem capsOf_ok {c : Cx} (hr : Rel E c) {flat : Bool} : ∀ {ps : List PK} {ks : List Cap} {vs : List Value}, RelCaps c ks vs → ∀ {l : dens ps} {m' : Mem} {fp fp' : FP}, (capsOf flat ps ks).ev c.m fp = some (l, m', fp') →
    m' = c.m ∧ RelArgs P c.w c.S (S1 E c) flat ps l vs
  | [], [], vs, hk, l, m', fp, fp', h => by
    simp only [capsOf] at h
    obtain ⟨rfl, rfl⟩ := ok_inj h
    exact ⟨rfl, hk⟩
  | .val t :: ps, k :: ks, vs, ⟨v, l', e, hk, hks⟩, l, m', fp, fp', h => by
    cases k with
    | ptr b t => simp only [capsOf] at h; exact (fail_ne h).elim
    | dat d =>
      simp only [capsOf] at h
      split at h
      · rename_i he
        obtain ⟨dt, dx⟩ := d
        simp only at he
        subst he
        obtain ⟨l2, m1, fp1, h1, h2⟩ := Res.bind_some h
        obtain ⟨rfl, hl⟩ := capsOf_ok hr hks h1
        obtain ⟨rfl, rfl⟩ := ok_inj h2
        exact ⟨rfl, v, l', e, hk, hl⟩
      · exact (fail_ne h).elim
  | .ro t :: ps, k :: ks, vs, ⟨v, l', e, hk, hks⟩, l, m', fp, fp', h => by
    cases flat with
    | false => simp only [capsOf] at h; exact (fail_ne h).elim
    | true =>
      simp only [capsOf] at h
      obtain ⟨x, m1, fp1, h1, h2⟩ := Res.bind_some h
      obtain ⟨rfl, hx⟩ := peekD_ok (P := P) hr (relCap_v hk) h1
      obtain ⟨l2, m2, fp2, h3, h4⟩ := Res.bind_some h2
      obtain ⟨rfl, hl⟩ := capsOf_ok hr hks h3
      obtain ⟨rfl, rfl⟩ := ok_inj h4
      exact ⟨rfl, v, l', e, rfl, hx, hl⟩
  | .rw _ :: _, _ :: _, _, _, _, _, _, _, h => by simp only [capsOf] at h; exact (fail_ne h).elim
  | .fn _ _ :: _, _ :: _, _, _, _, _, _, _, h => by simp only [capsOf] at h; exact (fail_ne h).elim
  | [], _ :: _, _, _, _, _, _, _, h => by simp only [capsOf] at h; exact (fail_ne h).elim
  | .val _ :: _, [], _, _, _, _, _, _, h => by simp only [capsOf] at h; exact (fail_ne h).elim
  | .ro _ :: _, [], _, _, _, _, _, _, h => by simp only [capsOf] at h; exact (fail_ne h).elim
  | .rw _ :: _, [], _, _, _, _, _, _, h => by simp only [capsOf] at h; exact (fail_ne h).elim
  | .fn _ _ :: _, [], _, _, _, _, _, _, h => by simp only [capsOf] at h; exact (fail_ne h).elim

variable {G : Gam} (hG : ∀ f s, G f = some s → SpecOk P f s)
include hG
theorem fnOf_ok {c : Cx} (hr : Rel E c) {a r : Ty} {x : V} {u : Value} (hx : RelV P E c x u) {g : a.den → Option r.den} {m' : Mem} {fp fp' : FP} (h : (fnOf G a r x).ev c.m fp = some (g, m', fp')) :
    m' = c.m ∧ RelFn P c.w c.S (S1 E c) a r g u := by
  unfold fnOf at h
  split at h
  · rename_i a' r' g'
    split at h
    · rename_i he
      obtain ⟨he1, he2⟩ := he
      subst he1 he2
      obtain ⟨rfl, rfl⟩ := ok_inj h
      obtain ⟨S2, hS2, f, cv, e, hen, hh⟩ := hx
      refine ⟨rfl, f, cv, e, hen, fun w' S' h1 h2 h3 y vy z hy hz => ?_⟩
      refine hh w' S' (fun b hb => ?_) (fun b hb => h2 b (hr.old b hb)) h3 y vy z hy ?_
      · obtain ⟨k1, k2⟩ := hS2 b hb
        exact (h1 b (.inr (.inr ⟨k1, k2⟩))).trans (hr.keep b k1 k2)
      · exact hz
    · exact (fail_ne h).elim
  · rename_i a' r' g'
    split at h
    · rename_i he
      obtain ⟨he1, he2⟩ := he
      subst he1 he2
      obtain ⟨rfl, rfl⟩ := ok_inj h
      exact ⟨rfl, RelFn.move (w := c.w) (S := c.S) (S1 := c.S) (fun _ _ => rfl) (fun _ h => h) (fun _ h => .inl h) hx⟩
    · exact (fail_ne h).elim
  · rename_i f caps
    split at h
    · rename_i a' ps r' fn hf
      split at h
      · rename_i he
        obtain ⟨he1, he2⟩ := he
        subst he1 he2
        obtain ⟨l, m1, fp1, h1, h2⟩ := Res.bind_some h
        obtain ⟨cv, e, hk⟩ := hx
        obtain ⟨rfl, hl⟩ := capsOf_ok (P := P) hr hk h1
        obtain ⟨rfl, rfl⟩ := ok_inj h2
        obtain ⟨hen, hs⟩ := hG f _ hf
        refine ⟨rfl, f, cv, e, hen, fun w' S' k1 k2 k3 y vy z hy hz => ?_⟩
        have hz' : app (.val a' :: ps) fn (y, l) = some z := hz
        have := hs w' S' (fun b => S' b ∨ S1 E c b) (y, l) (vy :: cv.toList) z (fun b hb => .inl hb) (fun b hb => by
          rcases hb with hb | hb
          · exact k3 b hb
          · have hlt := S1.lt hr hb
            have he2 := k1 b hb
            rw [Array.getElem?_eq_getElem hlt] at he2
            exact (Array.getElem?_eq_some_iff.1 he2).1) ⟨vy, cv.toList, rfl, hy, hl.move k1 (fun b hb => .inl hb) k2 (fun b hb => .inr hb)⟩ hz'
        have e3 : (vy :: cv.toList).toArray = #[vy] ++ cv := by apply Array.ext'; simp
        rw [← e3]
        exact this
      · exact (fail_ne h).elim
    · exact (fail_ne h).elim
  · exact (fail_ne h).elim

def RelVs (P : Program) (E : Env) (c : Cx) : List V → List Value → Prop
  | [], us => us = []
  | v :: vs, us => ∃ u l, us = u :: l ∧ RelV P E c v u ∧ RelVs P E c vs l
omit hG in
theorem RelVs.ext {c c' : Cx} (h : Ext c c') : ∀ {vs : List V} {us : List Value}, RelVs P E c vs us → RelVs P E c' vs us
  | [], _, e => e
  | _ :: _, _, ⟨u, l, e, h0, h1⟩ => ⟨u, l, e, h0.ext h, h1.ext h⟩
omit hG in
theorem RelVs.map {c : Cx} {ρ : Operand → V} {ρ' : Operand → Value} (hρ : ∀ x, RelV P E c (ρ x) (ρ' x)) : ∀ (l : List Operand), RelVs P E c (l.map ρ) (l.map ρ')
  | [] => rfl
  | x :: l => ⟨ρ' x, l.map ρ', rfl, hρ x, RelVs.map hρ l⟩
omit hG in
theorem RelVs.append {c : Cx} : ∀ {vs ws : List V} {us xs : List Value}, RelVs P E c vs us → RelVs P E c ws xs → RelVs P E c (vs ++ ws) (us ++ xs)
  | [], _, _, _, h, k => by cases h; exact k
  | _ :: _, _, _, _, ⟨u, l, e, h0, h1⟩, k => ⟨u, l ++ _, by rw [e]; rfl, h0, h1.append k⟩
omit hG in
theorem RelVs.caps {c : Cx} : ∀ {ks : List Cap} {us : List Value}, RelCaps c ks us → RelVs P E c (ks.map capV) us
  | [], _, e => e
  | _ :: _, _, ⟨v, l, e, h0, h1⟩ => ⟨v, l, e, relCap_v h0, RelVs.caps h1⟩

theorem argsOf_ok {flat : Bool} : ∀ {ps : List PK} {vs : List V} {us : List Value} {c : Cx}, Rel E c → RelVs P E c vs us → ∀ {as : dens ps} {m' : Mem} {fp fp' : FP}, (argsOf G flat ps vs).ev c.m fp = some (as, m', fp') →
    ∃ S', Rel E { c with S := S', m := m' } ∧ Ext c { c with S := S', m := m' } ∧ RelArgs P c.w S' (S1 E { c with S := S', m := m' }) flat ps as us
  | [], [], us, c, hr, hv, as, m', fp, fp', h => by
    simp only [argsOf] at h
    obtain ⟨rfl, rfl⟩ := ok_inj h
    exact ⟨c.S, hr, Ext.refl c, hv⟩
  | .val t :: ps, v :: vs, us, c, hr, ⟨u, l, e, hv, hvs⟩, as, m', fp, fp', h => by
    simp only [argsOf] at h
    obtain ⟨x, m1, fp1, h1, h2⟩ := Res.bind_some h
    obtain ⟨S', r1, e1, hx⟩ := asDat_ok hr hv h1
    obtain ⟨l2, m2, fp2, h3, h4⟩ := Res.bind_some h2
    obtain ⟨S'', r2, e2, hl⟩ := argsOf_ok (c := { c with S := S', m := m1 }) r1 (hvs.ext e1) h3
    obtain ⟨rfl, rfl⟩ := ok_inj h4
    exact ⟨S'', r2, e1.trans e2, u, l, e, hx.move e2.w e2.S, hl⟩
  | .ro t :: ps, v :: vs, us, c, hr, ⟨u, l, e, hv, hvs⟩, as, m', fp, fp', h => by
    cases flat with
    | false => simp only [argsOf] at h; exact (fail_ne h).elim
    | true =>
      simp only [argsOf] at h
      obtain ⟨x, m1, fp1, h1, h2⟩ := Res.bind_some h
      obtain ⟨rfl, hx⟩ := peekD_ok (P := P) hr hv h1
      obtain ⟨l2, m2, fp2, h3, h4⟩ := Res.bind_some h2
      obtain ⟨S'', r2, e2, hl⟩ := argsOf_ok hr hvs h3
      obtain ⟨rfl, rfl⟩ := ok_inj h4
      exact ⟨S'', r2, e2, u, l, e, rfl, hx.move (fun _ _ => rfl) (fun b hb => S1.ext e2 hb), hl⟩
  | .fn a r :: ps, v :: vs, us, c, hr, ⟨u, l, e, hv, hvs⟩, as, m', fp, fp', h => by
    simp only [argsOf] at h
    obtain ⟨x, m1, fp1, h1, h2⟩ := Res.bind_some h
    obtain ⟨rfl, hx⟩ := fnOf_ok hG hr hv h1
    obtain ⟨l2, m2, fp2, h3, h4⟩ := Res.bind_some h2
    obtain ⟨S'', r2, e2, hl⟩ := argsOf_ok hr hvs h3
    obtain ⟨rfl, rfl⟩ := ok_inj h4
    exact ⟨S'', r2, e2, u, l, e, hx.move (fun _ _ => rfl) e2.S (fun b hb => S1.ext e2 hb), hl⟩
  | .rw _ :: _, _ :: _, _, _, _, _, _, _, _, _, h => by simp only [argsOf] at h; exact (fail_ne h).elim
  | [], _ :: _, _, _, _, _, _, _, _, _, h => by simp only [argsOf] at h; exact (fail_ne h).elim
  | .val _ :: _, [], _, _, _, _, _, _, _, _, h => by simp only [argsOf] at h; exact (fail_ne h).elim
  | .ro _ :: _, [], _, _, _, _, _, _, _, _, h => by simp only [argsOf] at h; exact (fail_ne h).elim
  | .rw _ :: _, [], _, _, _, _, _, _, _, _, h => by simp only [argsOf] at h; exact (fail_ne h).elim
  | .fn _ _ :: _, [], _, _, _, _, _, _, _, _, h => by simp only [argsOf] at h; exact (fail_ne h).elim

def S2 (E : Env) (c : Cx) (b : Nat) : Nat → Prop := fun i => S1 E c i ∧ i ≠ c.bx b
omit hG in
theorem S2.ofS {c : Cx} (hr : Rel E c) {b : Nat} {B : Box} (hB : c.m.box b = some B) {i : Nat} (h : c.S i) : S2 E c b i := ⟨.inl h, fun e => (hr.priv b (by rw [hB]; simp)).2 (e ▸ h)⟩
omit hG in
theorem S2.ext {c c' : Cx} (h : Ext c c') {b : Nat} {B : Box} (hB : c.m.box b = some B) {i : Nat} (hb : S2 E c b i) : S2 E c' b i := by
  obtain ⟨B', _, _, x⟩ := h.box b B hB
  exact ⟨S1.ext h hb.1, by rw [x]; exact hb.2⟩
omit hG in
theorem peekW_ok {c : Cx} (hr : Rel E c) {b : Nat} {B : Box} (hB : c.m.box b = some B) {t : Ty} {x : V} (hoff : ∀ b' p t', x = .ptr b' p t' → Nat.beq b b' = false) {u : Value} (hx : RelV P E c x u) {y : t.den} {m' : Mem} {fp fp' : FP} (h : (peekD t x).ev c.m fp = some (y, m', fp')) :
    m' = c.m ∧ RelP c.w (S2 E c b) t y u := by
  unfold peekD at h
  split at h
  · rename_i b' t'
    have hne := hoff b' [] t' rfl
    obtain ⟨B', hB', hpt, _, rfl⟩ := hx
    simp only [Res.ev, hB'] at h
    split at h
    · rename_i hf
      split at h
      case isFalse => exact (fail_ne h).elim
      rename_i he
      subst he
      obtain ⟨rfl, rfl⟩ := ok_inj h
      refine ⟨rfl, ?_⟩
      rw [Bool.and_eq_true] at hf
      obtain ⟨cs, tid, hh, hc0⟩ := (hr.box b' B' hB').cells (good_ni hf.2)
      have hc := hc0.free hf.1
      refine ⟨⟨c.bx b', 0, none⟩, cs.toList, rfl, ⟨.inr (.inl ⟨b', by rw [hB']; simp, rfl⟩), fun e => ?_⟩, hc.move (fun _ _ => rfl) (fun _ h => S2.ofS hr hB h), ?_⟩
      · have := hr.bb b' b (by rw [hB']; simp) (by rw [hB]; simp) e
        subst this
        rw [Nat.beq_refl] at hne
        cases hne
      · have := cells_in hh (a := []) (m := cs.toList) (b := []) (by simp)
        exact this
    · exact (fail_ne h).elim
  · rename_i d
    split at h
    · rename_i he
      obtain ⟨dt, dx⟩ := d
      simp only at he
      subst he
      obtain ⟨rfl, rfl⟩ := ok_inj h
      exact ⟨rfl, RelP.move (S := c.S) (fun _ _ => rfl) (fun _ h => S2.ofS hr hB h) hx⟩
    · exact (fail_ne h).elim
  · exact (fail_ne h).elim
omit hG in
theorem offB_cons {b : Nat} {v : V} {vs : List V} (h : offB b (v :: vs) = true) : (∀ b' p t', v = .ptr b' p t' → Nat.beq b b' = false) ∧ (∀ f caps, v ≠ .clo f caps) ∧ (∀ a r g, v ≠ .fnp a r g) ∧ (∀ a r g, v ≠ .fnc a r g) ∧ offB b vs = true := by
  cases v with
  | ptr b' p t =>
    simp only [offB, Bool.and_eq_true, Bool.not_eq_true'] at h
    exact ⟨fun b2 p2 t2 e => by injection e with e1; rw [← e1]; exact h.1, fun _ _ e => (by cases e), fun _ _ _ e => (by cases e), fun _ _ _ e => (by cases e), h.2⟩
  | clo f c => simp [offB] at h
  | fnp a r g => simp [offB] at h
  | fnc a r g => simp [offB] at h
  | bad => exact ⟨fun _ _ _ e => (by cases e), fun _ _ e => (by cases e), fun _ _ _ e => (by cases e), fun _ _ _ e => (by cases e), h⟩
  | und => exact ⟨fun _ _ _ e => (by cases e), fun _ _ e => (by cases e), fun _ _ _ e => (by cases e), fun _ _ _ e => (by cases e), h⟩
  | dat d => exact ⟨fun _ _ _ e => (by cases e), fun _ _ e => (by cases e), fun _ _ _ e => (by cases e), fun _ _ _ e => (by cases e), h⟩
  | agg d nl => exact ⟨fun _ _ _ e => (by cases e), fun _ _ e => (by cases e), fun _ _ _ e => (by cases e), fun _ _ _ e => (by cases e), h⟩
  | nils => exact ⟨fun _ _ _ e => (by cases e), fun _ _ e => (by cases e), fun _ _ _ e => (by cases e), fun _ _ _ e => (by cases e), h⟩
  | nili => exact ⟨fun _ _ _ e => (by cases e), fun _ _ e => (by cases e), fun _ _ _ e => (by cases e), fun _ _ _ e => (by cases e), h⟩
  | ifp t b p pt => exact ⟨fun _ _ _ e => (by cases e), fun _ _ e => (by cases e), fun _ _ _ e => (by cases e), fun _ _ _ e => (by cases e), h⟩
  | prow l => exact ⟨fun _ _ _ e => (by cases e), fun _ _ e => (by cases e), fun _ _ _ e => (by cases e), fun _ _ _ e => (by cases e), h⟩
  | ifv t d => exact ⟨fun _ _ _ e => (by cases e), fun _ _ e => (by cases e), fun _ _ _ e => (by cases e), fun _ _ _ e => (by cases e), h⟩
  | own a => exact ⟨fun _ _ _ e => (by cases e), fun _ _ e => (by cases e), fun _ _ _ e => (by cases e), fun _ _ _ e => (by cases e), h⟩
  | rptr d => exact ⟨fun _ _ _ e => (by cases e), fun _ _ e => (by cases e), fun _ _ _ e => (by cases e), fun _ _ _ e => (by cases e), h⟩
  | eptr a et i p t => exact ⟨fun _ _ _ e => (by cases e), fun _ _ e => (by cases e), fun _ _ _ e => (by cases e), fun _ _ _ e => (by cases e), h⟩
omit hG in
theorem argsW_ok {b : Nat} {B : Box} : ∀ {ps : List PK} {vs : List V} {us : List Value} {c : Cx}, Rel E c → c.m.box b = some B → offB b vs = true → RelVs P E c vs us → ∀ {as : dens ps} {m' : Mem} {fp fp' : FP}, (argsOf G true ps vs).ev c.m fp = some (as, m', fp') →
    ∃ S', Rel E { c with S := S', m := m' } ∧ Ext c { c with S := S', m := m' } ∧ RelArgs P c.w S' (S2 E { c with S := S', m := m' } b) true ps as us
  | [], [], us, c, hr, hB, ho, hv, as, m', fp, fp', h => by
    simp only [argsOf] at h
    obtain ⟨rfl, rfl⟩ := ok_inj h
    exact ⟨c.S, hr, Ext.refl c, hv⟩
  | .val t :: ps, v :: vs, us, c, hr, hB, ho, ⟨u, l, e, hv, hvs⟩, as, m', fp, fp', h => by
    simp only [argsOf] at h
    obtain ⟨x, m1, fp1, h1, h2⟩ := Res.bind_some h
    obtain ⟨S', r1, e1, hx⟩ := asDat_ok hr hv h1
    obtain ⟨l2, m2, fp2, h3, h4⟩ := Res.bind_some h2
    obtain ⟨B', hB', _, _⟩ := e1.box b B hB
    obtain ⟨S'', r2, e2, hl⟩ := argsW_ok (c := { c with S := S', m := m1 }) r1 hB' (offB_cons ho).2.2.2.2 (hvs.ext e1) h3
    obtain ⟨rfl, rfl⟩ := ok_inj h4
    exact ⟨S'', r2, e1.trans e2, u, l, e, hx.move e2.w e2.S, hl⟩
  | .ro t :: ps, v :: vs, us, c, hr, hB, ho, ⟨u, l, e, hv, hvs⟩, as, m', fp, fp', h => by
    simp only [argsOf] at h
    obtain ⟨x, m1, fp1, h1, h2⟩ := Res.bind_some h
    obtain ⟨rfl, hx⟩ := peekW_ok (P := P) hr hB (offB_cons ho).1 hv h1
    obtain ⟨l2, m2, fp2, h3, h4⟩ := Res.bind_some h2
    obtain ⟨S'', r2, e2, hl⟩ := argsW_ok hr hB (offB_cons ho).2.2.2.2 hvs h3
    obtain ⟨rfl, rfl⟩ := ok_inj h4
    exact ⟨S'', r2, e2, u, l, e, rfl, hx.move (fun _ _ => rfl) (fun i hi => S2.ext e2 hB hi), hl⟩
  | .fn a r :: ps, v :: vs, us, c, hr, hB, ho, ⟨u, l, e, hv, hvs⟩, as, m', fp, fp', h => by
    simp only [argsOf] at h
    obtain ⟨x, m1, fp1, h1, h2⟩ := Res.bind_some h
    obtain ⟨_, h5, h6, h7, _⟩ := offB_cons ho
    unfold fnOf at h1
    split at h1
    · exact (h6 _ _ _ rfl).elim
    · exact (h7 _ _ _ rfl).elim
    · exact (h5 _ _ rfl).elim
    · exact (fail_ne h1).elim
  | .rw _ :: _, _ :: _, _, _, _, _, _, _, _, _, _, _, h => by simp only [argsOf] at h; exact (fail_ne h).elim
  | [], _ :: _, _, _, _, _, _, _, _, _, _, _, h => by simp only [argsOf] at h; exact (fail_ne h).elim
  | .val _ :: _, [], _, _, _, _, _, _, _, _, _, _, h => by simp only [argsOf] at h; exact (fail_ne h).elim
  | .ro _ :: _, [], _, _, _, _, _, _, _, _, _, _, h => by simp only [argsOf] at h; exact (fail_ne h).elim
  | .rw _ :: _, [], _, _, _, _, _, _, _, _, _, _, h => by simp only [argsOf] at h; exact (fail_ne h).elim
  | .fn _ _ :: _, [], _, _, _, _, _, _, _, _, _, _, h => by simp only [argsOf] at h; exact (fail_ne h).elim
omit hG in
theorem chain_le : ∀ {c : Ty} {i : Nat} {t : Ty}, chainTy c i = some t → chainOff c i + t.size ≤ c.size
  | .pair a b, 0, t, h => by injection h with h; subst h; show 0 + a.size ≤ a.size + b.size; omega
  | .pair a b, i + 1, t, h => by
    have := chain_le (c := b) (i := i) h
    show a.size + chainOff b i + t.size ≤ a.size + b.size
    omega
  | .int _, i, t, h => by cases i with | zero => injection h with h; subst h; exact Nat.le_of_eq (Nat.zero_add _) | succ i => cases h
  | .bool, i, t, h => by cases i with | zero => injection h with h; subst h; exact Nat.le_of_eq (Nat.zero_add _) | succ i => cases h
  | .str, i, t, h => by cases i with | zero => injection h with h; subst h; exact Nat.le_of_eq (Nat.zero_add _) | succ i => cases h
  | .sl _ _, i, t, h => by cases i with | zero => injection h with h; subst h; exact Nat.le_of_eq (Nat.zero_add _) | succ i => cases h
  | .mp _ _, i, t, h => by cases i with | zero => injection h with h; subst h; exact Nat.le_of_eq (Nat.zero_add _) | succ i => cases h
  | .arr _ _, i, t, h => by cases i with | zero => injection h with h; subst h; exact Nat.le_of_eq (Nat.zero_add _) | succ i => cases h
  | .st _, i, t, h => by cases i with | zero => injection h with h; subst h; exact Nat.le_of_eq (Nat.zero_add _) | succ i => cases h
  | .tup _, i, t, h => by cases i with | zero => injection h with h; subst h; exact Nat.le_of_eq (Nat.zero_add _) | succ i => cases h
  | .unit, i, t, h => by cases i with | zero => injection h with h; subst h; exact Nat.le_of_eq (Nat.zero_add _) | succ i => cases h
  | .any _ _, i, t, h => by cases i with | zero => injection h with h; subst h; exact Nat.le_of_eq (Nat.zero_add _) | succ i => cases h
  | .pt _, i, t, h => by cases i with | zero => injection h with h; subst h; exact Nat.le_of_eq (Nat.zero_add _) | succ i => cases h
  | .iter, i, t, h => by cases i with | zero => injection h with h; subst h; exact Nat.le_of_eq (Nat.zero_add _) | succ i => cases h
omit hG in
theorem path_le : ∀ {p : List PS} {t u : Ty}, PathIn p t → pathTy p t = some u → pathOff p t + u.size ≤ t.size
  | [], t, u, _, h => by injection h with h; subst h; exact Nat.le_of_eq (Nat.zero_add _)
  | .fld i :: p, t, u, hp, h => by
    obtain ⟨ct, ti, rfl, hti, hq⟩ := pathIn_fld hp
    simp only [pathTy, hti] at h
    have h1 := path_le hq h
    have h2 := chain_le hti
    simp only [pathOff, hti]
    show chainOff ct i + pathOff p ti + u.size ≤ ct.size
    omega
  | .idx i :: p, t, u, hp, h => by
    cases t with
    | arr n t =>
      obtain ⟨h0, h1, hq⟩ := hp
      simp only [pathTy] at h
      have h2 := path_le hq h
      show i.toNat * t.size + pathOff p t + u.size ≤ n * t.size
      have : (i.toNat + 1) * t.size ≤ n * t.size := Nat.mul_le_mul_right _ (by omega)
      rw [Nat.add_mul, Nat.one_mul] at this
      omega
    | _ => exact hp.elim
def RelPa (c : Cx) : List (TypeId × Nat × List PS × Ty) → List (Addr × Bool) → Prop
  | [], ads => ads = []
  | x :: l, ads => ∃ a ads', ads = a :: ads' ∧ RelPt c x.2.1 x.2.2.1 x.2.2.2 (.pointer (some a.1)) ∧ RelPa c l ads'
omit hG in
theorem RelPa.ext {c c' : Cx} (h : Ext c c') : ∀ {l : List (TypeId × Nat × List PS × Ty)} {ads : List (Addr × Bool)}, RelPa c l ads → RelPa c' l ads
  | [], _, e => e
  | _ :: _, _, ⟨a, ads', e, h0, h1⟩ => ⟨a, ads', e, h0.ext h, h1.ext h⟩
omit hG in
theorem place_ok {c : Cx} (hr : Rel E c) {b : Nat} {p : List PS} {pt : Ty} {u : Value} (hu : RelPt c b p pt u) (hpt : pt ≠ .iter) (hpos : 0 < pt.size) (k : Bool) : ∃ ad, u = .pointer (some ad) ∧ PlaceOk c.w c.S (ad, k) := by
  obtain ⟨B, hB, hty, hp, rfl⟩ := hu
  have hni : B.t ≠ .iter := by
    intro e
    rw [e] at hty
    cases p with
    | nil => simp only [pathTy] at hty; injection hty with hty; exact hpt hty.symm
    | cons s q => cases s <;> cases hty
  obtain ⟨cs, tid, hh, hc⟩ := (hr.box b B hB).cells hni
  have hle := path_le hp hty
  have hl := hc.len
  exact ⟨⟨c.bx b, pathOff p B.t, none⟩, rfl, rfl, (hr.priv b (by rw [hB]; simp)).2, cs, tid, hh, by rw [← Array.length_toList]; show pathOff p B.t < _; omega⟩
omit hG in
theorem kinds_ok {c : Cx} (hr : Rel E c) {pi pst : TypeId} : ∀ {l : List (TypeId × Nat × List PS × Ty)} {ks : List Bool} {cs : List Value}, kindsOf pi pst l = some ks → RelPs c l cs →
    ∃ ads : List (Addr × Bool), ads.map (·.2) = ks ∧ ads.length = l.length ∧ cs = ads.map (ifaceOf pi pst) ∧ (∀ p ∈ ads, PlaceOk c.w c.S p) ∧ RelPa c l ads
  | [], ks, cs, h, hc => by
    injection h with h
    subst h
    cases hc
    exact ⟨[], rfl, rfl, rfl, fun p hp => (by cases hp), rfl⟩
  | (t, b, p, pt) :: l, ks, cs, h, ⟨u, cs', e, hp, hl⟩ => by
    cases pt with
    | int k =>
      cases k with
      | i64 =>
        simp only [kindsOf] at h
        split at h
        · rename_i r hb hr'
          injection h with h
          subst h
          have hb := Nat.eq_of_beq_eq_true hb
          subst hb
          obtain ⟨ads, h1, h2, h3, h4, h5⟩ := kinds_ok hr hr' hl
          obtain ⟨ad, hu, hpl⟩ := place_ok (pt := .int .i64) hr hp (by simp) (by decide) true
          refine ⟨(ad, true) :: ads, by simp [h1], by simp [h2], ?_, fun q hq => ?_, ⟨(ad, true), ads, rfl, by rw [← hu]; exact hp, h5⟩⟩
          · rw [e, List.map_cons, ← h3, hu]; rfl
          · rcases List.mem_cons.1 hq with rfl | hq
            · exact hpl
            · exact h4 q hq
        · cases h
      | _ => simp [kindsOf] at h
    | str =>
      simp only [kindsOf] at h
      split at h
      · rename_i r hb hr'
        injection h with h
        subst h
        have hb := Nat.eq_of_beq_eq_true hb
        subst hb
        obtain ⟨ads, h1, h2, h3, h4, h5⟩ := kinds_ok hr hr' hl
        obtain ⟨ad, hu, hpl⟩ := place_ok (pt := .str) hr hp (by simp) (by decide) false
        refine ⟨(ad, false) :: ads, by simp [h1], by simp [h2], ?_, fun q hq => ?_, ⟨(ad, false), ads, rfl, by rw [← hu]; exact hp, h5⟩⟩
        · rw [e, List.map_cons, ← h3, hu]; rfl
        · rcases List.mem_cons.1 hq with rfl | hq
          · exact hpl
          · exact h4 q hq
      · cases h
    | _ => simp [kindsOf] at h
omit hG in
theorem chainSet_get : ∀ (c : Ty) (x : c.den) (i : Nat) (e : D), chainGet c x i = some e → chainSet c x i e = some x
  | .pair a b, x, 0, e, h => by
    injection h with h
    subst h
    simp only [chainSet, dite_true, Ty.cast]
  | .pair a b, x, i + 1, e, h => by
    have := chainSet_get b x.2 i e h
    simp only [chainSet, this]
  | .int _, x, i, e, h => by cases i with | zero => injection h with h; subst h; simp only [chainSet, dite_true, Ty.cast] | succ i => cases h
  | .bool, x, i, e, h => by cases i with | zero => injection h with h; subst h; simp only [chainSet, dite_true, Ty.cast] | succ i => cases h
  | .str, x, i, e, h => by cases i with | zero => injection h with h; subst h; simp only [chainSet, dite_true, Ty.cast] | succ i => cases h
  | .sl _ _, x, i, e, h => by cases i with | zero => injection h with h; subst h; simp only [chainSet, dite_true, Ty.cast] | succ i => cases h
  | .mp _ _, x, i, e, h => by cases i with | zero => injection h with h; subst h; simp only [chainSet, dite_true, Ty.cast] | succ i => cases h
  | .arr _ _, x, i, e, h => by cases i with | zero => injection h with h; subst h; simp only [chainSet, dite_true, Ty.cast] | succ i => cases h
  | .st _, x, i, e, h => by cases i with | zero => injection h with h; subst h; simp only [chainSet, dite_true, Ty.cast] | succ i => cases h
  | .tup _, x, i, e, h => by cases i with | zero => injection h with h; subst h; simp only [chainSet, dite_true, Ty.cast] | succ i => cases h
  | .unit, x, i, e, h => by cases i with | zero => injection h with h; subst h; simp only [chainSet, dite_true, Ty.cast] | succ i => cases h
  | .any _ _, x, i, e, h => by cases i with | zero => injection h with h; subst h; simp only [chainSet, dite_true, Ty.cast] | succ i => cases h
  | .pt _, x, i, e, h => by cases i with | zero => injection h with h; subst h; simp only [chainSet, dite_true, Ty.cast] | succ i => cases h
  | .iter, x, i, e, h => by cases i with | zero => injection h with h; subst h; simp only [chainSet, dite_true, Ty.cast] | succ i => cases h
omit hG in
theorem set_getD {α : Type} (z : α) : ∀ (xs : List α) (i : Nat), xs.set i (xs.getD i z) = xs
  | [], _ => rfl
  | x :: xs, 0 => rfl
  | x :: xs, i + 1 => by
    rw [List.set_cons_succ]
    have := set_getD z xs i
    simp only [List.getD_cons_succ]
    rw [this]
omit hG in
theorem setP_get : ∀ (p : List PS) (t : Ty) (x : t.den) (d : D), getP p t x = some d → setP p t x d = some x
  | [], t, x, d, h => by
    injection h with h
    subst h
    simp only [setP, dite_true, Ty.cast]
  | .fld i :: p, .st c, x, d, h => by
    simp only [getP] at h
    split at h
    · rename_i e he
      have h1 := setP_get p e.t e.x d h
      have h2 := chainSet_get c x i e he
      simp only [setP, he, h1]
      exact h2
    · cases h
  | .idx i :: p, .arr n t, x, d, h => by
    have h1 := setP_get p t _ d h
    simp only [setP, h1]
    exact congrArg some (set_getD t.zero x i.toNat)
  | .fld _ :: _, .int _, _, _, h | .fld _ :: _, .bool, _, _, h | .fld _ :: _, .str, _, _, h | .fld _ :: _, .sl _ _, _, _, h | .fld _ :: _, .mp _ _, _, _, h | .fld _ :: _, .arr _ _, _, _, h | .fld _ :: _, .pair _ _, _, _, h | .fld _ :: _, .tup _, _, _, h | .fld _ :: _, .unit, _, _, h | .fld _ :: _, .any _ _, _, _, h | .fld _ :: _, .iter, _, _, h | .fld _ :: _, .pt _, _, _, h => by cases h
  | .idx _ :: _, .int _, _, _, h | .idx _ :: _, .bool, _, _, h | .idx _ :: _, .str, _, _, h | .idx _ :: _, .sl _ _, _, _, h | .idx _ :: _, .mp _ _, _, _, h | .idx _ :: _, .st _, _, _, h | .idx _ :: _, .pair _ _, _, _, h | .idx _ :: _, .tup _, _, _, h | .idx _ :: _, .unit, _, _, h | .idx _ :: _, .any _ _, _, _, h | .idx _ :: _, .iter, _, _, h | .idx _ :: _, .pt _, _, _, h => by cases h
omit hG in
theorem setB_same {m : Mem} {b : Nat} {B : Box} (h : m.box b = some B) : m.setB b B = m := by
  obtain ⟨f, g⟩ := m
  unfold Mem.setB
  congr 1
  funext j
  unfold upd
  cases hj : Nat.beq j b with
  | true =>
    have := Nat.eq_of_beq_eq_true hj
    subst this
    exact h.symm
  | false => rfl
omit hG in
theorem storeV_same {m : Mem} {fp fp' : FP} {b : Nat} {p : List PS} {pt t : Ty} {x : t.den} (hB : m.box b = some ⟨t, x, []⟩) {d : D} (hd : getP p t x = some d) {v : V} {m' : Mem} (h : (storeV d.t (.ptr b p pt) (.dat d)).ev m fp = some (v, m', fp')) : m' = m := by
  unfold storeV at h
  simp only at h
  split at h
  · have hs := setP_get p t x d hd
    have hs : setP p t x ⟨d.t, d.x⟩ = some x := hs
    have hc : asDat d.t (.dat d) = .ok d.x := by
      simp only [asDat, dite_true]
      rfl
    simp only [Res.ev, hB] at h
    cases p with
    | nil =>
      simp only [hc, Res.bind, hs, Res.ev, nilsOf, List.map_nil] at h
      obtain ⟨_, rfl⟩ := ok_inj h
      exact setB_same hB
    | cons s p =>
      have hl : lkHit [] (s :: p) = .free := by
        cases s with
        | fld i => cases p <;> rfl
        | idx i => rfl
      rw [hl] at h
      simp only [hc, Res.bind, hs, Res.ev, nilsOf, List.map_nil] at h
      obtain ⟨_, rfl⟩ := ok_inj h
      exact setB_same hB
  · exact (fail_ne h).elim
omit hG in
theorem storeAll_none : ∀ (l : List (TypeId × Nat × List PS × Ty)) (i : Nat) (ys : List (Int ⊕ ByteArray)) {m : Mem} {v : V} {m' : Mem} {fp fp' : FP}, ys[i]? = none → (storeAll l i ys).ev m fp = some (v, m', fp') → m' = m
  | [], i, ys, m, v, m', fp, fp', hn, h => by
    obtain ⟨_, rfl⟩ := ok_inj h
    rfl
  | (t, b, p, pt) :: l, i, ys, m, v, m', fp, fp', hn, h => by
    have hn1 : ys[i + 1]? = none := by
      rw [List.getElem?_eq_none_iff] at hn ⊢
      omega
    simp only [storeAll, Res.ev] at h
    split at h
    · rename_i tb x hB
      split at h
      · rename_i n hg
        obtain ⟨z, m1, fp1, k1, k2⟩ := Res.bind_some h
        have e : newI ys i n = n := by unfold newI; rw [hn]
        rw [e] at k1
        have := storeV_same hB hg k1
        subst this
        exact storeAll_none l (i + 1) ys hn1 k2
      · rename_i s hg
        obtain ⟨z, m1, fp1, k1, k2⟩ := Res.bind_some h
        have e : newS ys i s = s := by unfold newS; rw [hn]
        rw [e] at k1
        have := storeV_same hB hg k1
        subst this
        exact storeAll_none l (i + 1) ys hn1 k2
      · exact (fail_ne h).elim
    · exact (fail_ne h).elim
omit hG in
theorem storeV_ty {ty pt : Ty} {b : Nat} {p : List PS} {x v : V} {m m' : Mem} {fp fp' : FP} (h : (storeV ty (.ptr b p pt) x).ev m fp = some (v, m', fp')) : pt = ty := by
  unfold storeV at h
  simp only at h
  split at h
  · assumption
  · exact (fail_ne h).elim
omit hG in
theorem storeAll_ok {it st pi pst : TypeId} (hi : TyOk P T it (.int .i64)) (hs : TyOk P T st .str) : ∀ (l : List (TypeId × Nat × List PS × Ty)) (ads : List (Addr × Bool)) (i : Nat) (ys zs : List (Int ⊕ ByteArray)) (ks : List Bool) (c : Cx) {v : V} {m' : Mem} {fp fp' : FP} {w' : World}, ys.drop i = zs → kindsOf pi pst l = some ks → Fits ks zs → Rel E c → RelPa c l ads →
    (storeAll l i ys).ev c.m fp = some (v, m', fp') → Stored P it st ads zs c.w w' → ∃ c', c'.m = m' ∧ c'.w = w' ∧ Rel E c' ∧ Ext c c'
  | l, ads, i, ys, [], ks, c, v, m', fp, fp', w', hd, hk, hf, hr, hp, h, hw => by
    have hn : ys[i]? = none := by
      rw [List.getElem?_eq_none_iff]
      exact List.drop_eq_nil_iff.1 hd
    have := storeAll_none l i ys hn h
    have hw : w' = c.w := by cases ads <;> exact hw
    exact ⟨c, this.symm, hw.symm, hr, Ext.refl c⟩
  | [], ads, i, ys, y :: zs, ks, c, v, m', fp, fp', w', hd, hk, hf, hr, hp, h, hw => by
    injection hk with hk
    subst hk
    cases y <;> exact False.elim hf
  | (t, b, p, pt) :: l, ads, i, ys, y :: zs, ks, c, v, m', fp, fp', w', hd, hk, hf, hr, ⟨a, ads', e, h0, h1⟩, h, hw => by
    subst e
    have hyi : ys[i]? = some y := by
      have := List.getElem?_drop (xs := ys) (i := i) (j := 0)
      rw [hd] at this
      simpa using this.symm
    have hd1 : ys.drop (i + 1) = zs := by
      have := List.drop_drop (l := ys) (i := 1) (j := i)
      rw [hd] at this
      simpa using this.symm
    simp only [storeAll, Res.ev] at h
    split at h
    · rename_i tb x hB
      split at h
      · rename_i n hg
        obtain ⟨z, m1, fp1, k1, k2⟩ := Res.bind_some h
        obtain rfl := storeV_ty k1
        simp only [kindsOf] at hk
        split at hk
        · rename_i r _ hr'
          injection hk with hk
          subst hk
          cases y with
          | inr s => exact False.elim hf
          | inl q =>
            have e : newI ys i n = q := by unfold newI; rw [hyi]
            rw [e] at k1
            obtain ⟨w1, hrun, hrest⟩ := hw
            obtain ⟨c1, hm1, r1, e1, _, hrun1⟩ := storeV_okT hi hr (x := .ptr b p (.int .i64)) (y := .dat ⟨.int .i64, q⟩) (u0 := .pointer (some a.1)) (u1 := .int .i64 q) h0 rfl k1
            rw [hrun1] at hrun
            injection hrun with _ hrun
            subst hrun
            obtain ⟨c2, g1, g2, g3, g4⟩ := storeAll_ok hi hs l ads' (i + 1) ys zs r c1 hd1 hr' hf r1 (h1.ext e1) (by rw [hm1]; exact k2) hrest
            exact ⟨c2, g1, g2, g3, e1.trans g4⟩
        · cases hk
      · rename_i s hg
        obtain ⟨z, m1, fp1, k1, k2⟩ := Res.bind_some h
        obtain rfl := storeV_ty k1
        simp only [kindsOf] at hk
        split at hk
        · rename_i r _ hr'
          injection hk with hk
          subst hk
          cases y with
          | inl q => exact False.elim hf
          | inr q =>
            have e : newS ys i s = q := by unfold newS; rw [hyi]
            rw [e] at k1
            obtain ⟨w1, hrun, hrest⟩ := hw
            obtain ⟨c1, hm1, r1, e1, _, hrun1⟩ := storeV_okT hs hr (x := .ptr b p .str) (y := .dat ⟨.str, q⟩) (u0 := .pointer (some a.1)) (u1 := .string q) h0 rfl k1
            rw [hrun1] at hrun
            injection hrun with _ hrun
            subst hrun
            obtain ⟨c2, g1, g2, g3, g4⟩ := storeAll_ok hi hs l ads' (i + 1) ys zs r c1 hd1 hr' hf r1 (h1.ext e1) (by rw [hm1]; exact k2) hrest
            exact ⟨c2, g1, g2, g3, e1.trans g4⟩
        · cases hk
      · exact (fail_ne h).elim
    · exact (fail_ne h).elim
omit hG in
theorem wrote_ok {c : Cx} (hr : Rel E c) {b : Nat} {B : Box} (hB : c.m.box b = some B) {x : B.t.den} {w' : World} {cs : Array Value} {tid : TypeId} (hos : w'.os = c.w.os) (htape : w'.tape = c.w.tape) (hout : w'.output = c.w.output) (hsz : c.w.heap.size ≤ w'.heap.size)
    (hoth : ∀ i, i < c.w.heap.size → i ≠ c.bx b → w'.heap[i]? = c.w.heap[i]?) (hh : w'.heap[c.bx b]? = some (.cells cs tid (0, 0))) (hx : RelC w' (Ext' c.S c.w w') B.t x cs.toList) :
    Rel E { c with S := Ext' c.S c.w w', m := c.m.setB b ⟨B.t, x, []⟩, w := w' } ∧ Ext c { c with S := Ext' c.S c.w w', m := c.m.setB b ⟨B.t, x, []⟩, w := w' } := by
  obtain ⟨o0, hh0⟩ := (hr.box b B hB).some
  have hlt : c.bx b < c.w.heap.size := hr.boxLt hB
  have hlt' : c.bx b < w'.heap.size := by omega
  let w1 : World := { w' with heap := w'.heap.setIfInBounds (c.bx b) o0 }
  have hs1 : w1.heap.size = w'.heap.size := by simp [w1]
  have hat : w1.heap[c.bx b]? = c.w.heap[c.bx b]? := by rw [hh0]; simp [w1, hlt']
  have hne : ∀ i, i ≠ c.bx b → w'.heap[i]? = w1.heap[i]? := fun i hi => by simp [w1, Array.getElem?_setIfInBounds_ne (Ne.symm hi)]
  have hb : Below c.w.heap.size c.w w1 := ⟨hos, htape, hout, by rw [hs1]; exact hsz, fun i hi => by
    by_cases e : i = c.bx b
    · rw [e]; exact hat
    · rw [← hne i e]; exact hoth i hi e⟩
  obtain ⟨r1, e1⟩ := below_ok hr hb (S' := Ext' c.S c.w w') (fun _ h => .inl h) (fun i h => by
    rcases h with h | h
    · exact .inl h
    · exact .inr ⟨h.1, by rw [hs1]; exact h.2⟩)
  have hnS : ∀ i, Ext' c.S c.w w' i → i ≠ c.bx b := fun i hi e => by
    rcases hi with h | h
    · exact (hr.priv b (by rw [hB]; simp)).2 (e ▸ h)
    · omega
  obtain ⟨r2, e2⟩ := setBox_ok (c := { c with S := Ext' c.S c.w w', w := w1 }) r1 hB (x := x) (w' := w') rfl rfl rfl hs1.symm (fun g hg => hne g hg)
    (.inr ⟨cs, tid, hh, RelB.of (RelC.move (w := w') (S := Ext' c.S c.w w') (fun i hi => (hne i (hnS i hi)).symm) (fun _ h => h) hx)⟩)
  exact ⟨r2, e1.trans e2⟩
theorem callF_ok {c : Cx} (hr : Rel E c) {f : FuncId} {vs : List V} {us : List Value} (hv : RelVs P E c vs us) {v : V} {m' : Mem} {fp fp' : FP} {dst : Option Tmp} (h : (callF G dst f vs).ev c.m fp = some (v, m', fp')) :
    Enters P f ∧ Calls P f us.toArray c.w fun e w' => ∃ u, e = .returned u ∧ ∃ c', c'.m = m' ∧ c'.w = w' ∧ Rel E c' ∧ Ext c c' ∧ RelV P E c' v u := by
  unfold callF at h
  split at h
  · rename_i ps r fn hf
    obtain ⟨as, m1, fp1, h1, h2⟩ := Res.bind_some h
    obtain ⟨S', r1, e1, hargs⟩ := argsOf_ok hG hr hv h1
    simp only [Res.ev] at h2
    cases hy : app ps fn as with
    | none => rw [hy] at h2; cases h2
    | some y =>
      rw [hy] at h2
      obtain ⟨rfl, rfl⟩ := ok_inj h2
      obtain ⟨hen, hs⟩ := hG f _ hf
      refine ⟨hen, (hs c.w S' _ as us y (fun b hb => .inl hb) (fun b hb => S1.lt r1 hb) hargs hy).mono fun e w' hret => ?_⟩
      obtain ⟨u, he, hru, hb⟩ := hret
      obtain ⟨r2, e2⟩ := below_ok r1 hb (S' := Ext' S' c.w w') (fun _ h => .inl h) (fun _ h => h)
      exact ⟨u, he, _, rfl, rfl, r2, e1.trans e2, hru⟩
  · rename_i ps el t fn hf
    split at h
    · rename_i d
      obtain ⟨as, m1, fp1, h1, h2⟩ := Res.bind_some h
      obtain ⟨S', r1, e1, hargs⟩ := argsOf_ok hG hr hv h1
      have h2' : (app ps fn as).bind (fun u => (newArr d el t u).ev m1 fp1) = some (v, m', fp') := h2
      cases hy : app ps fn as with
      | none => rw [hy] at h2'; cases h2'
      | some ys =>
        rw [hy] at h2'
        have h3 : (newArr d el t ys).ev m1 fp1 = some (v, m', fp') := h2'
        obtain ⟨hen, hs⟩ := hG f _ hf
        refine ⟨hen, (hs c.w S' _ as us ys (fun b hb => .inl hb) (fun b hb => S1.lt r1 hb) hargs hy).mono fun e w' hret => ?_⟩
        obtain ⟨u, inner, S2, he, ho, hrl, hno, hS2, hb⟩ := hret
        obtain ⟨r2, e2⟩ := below_ok r1 hb (S' := fun b => S' b ∨ S2 b) (fun _ h => .inl h) (fun b hb' => by
          rcases hb' with hb' | hb'
          · exact .inl hb'
          · exact hS2 b hb')
        have hloose : Loose E { c with S := fun b => S' b ∨ S2 b, m := m1, w := w' } el t ys u := by
          have hge : ∀ g, u.ownBlock = some g → c.w.heap.size ≤ g := fun g hg => by
            rcases ho.2 with ⟨rfl, _⟩ | ⟨g', cap, cur, rfl, hb', _⟩
            · simp [Value.ownBlock] at hg
            · have : g' = g := by simpa [Value.ownBlock] using hg
              omega
          refine ⟨⟨inner, ⟨ho.1, ?_⟩, hrl.imp fun _ _ hh => hh.move (fun _ _ => rfl) (fun b hb' => .inr hb')⟩, fun g hg => ⟨fun hh => ?_, fun b hb' e => ?_, fun a A hA hop hg' => ?_⟩⟩
          · rcases ho.2 with h | ⟨g', cap, cur, he', hb', hr'⟩
            · exact .inl h
            · exact .inr ⟨g', cap, cur, he', Nat.le_trans hr.size hb', hr'⟩
          · rcases hh with hh | hh
            · have h1 : g < c.w.heap.size := r1.lt g hh; have := hge g hg; omega
            · exact hno g hg hh
          · cases hB : m1.box b with
            | none => exact hb' hB
            | some B => have h1 : c.bx b < c.w.heap.size := r1.boxLt (b := b) (B := B) hB; have h2 : c.bx b = g := e; have := hge g hg; omega
          · have h1 : g < c.w.heap.size := r1.arrLt (a := a) (A := A) hA hop hg'; have := hge g hg; omega
        obtain ⟨c4, hm4, hw4, r4, e4, hv4⟩ := newArr_ok (P := P) r2 h3 hloose
        exact ⟨u, he, c4, hm4, hw4, r4, e1.trans (e2.trans e4), hv4⟩
    · exact (fail_ne h).elim
  · rename_i ps a r fn hf
    obtain ⟨as, m1, fp1, h1, h2⟩ := Res.bind_some h
    obtain ⟨S', r1, e1, hargs⟩ := argsOf_ok hG hr hv h1
    simp only [Res.ev] at h2
    cases hy : app ps fn as with
    | none => rw [hy] at h2; cases h2
    | some y =>
      rw [hy] at h2
      obtain ⟨rfl, rfl⟩ := ok_inj h2
      obtain ⟨hen, hs⟩ := hG f _ hf
      refine ⟨hen, (hs c.w S' _ as us y (fun b hb => .inl hb) (fun b hb => S1.lt r1 hb) hargs hy).mono fun e w' hret => ?_⟩
      obtain ⟨u, he, hru, hb⟩ := hret
      obtain ⟨r2, e2⟩ := below_ok r1 hb (S' := Ext' S' c.w w') (fun _ h => .inl h) (fun _ h => h)
      exact ⟨u, he, _, rfl, rfl, r2, e1.trans e2, hru⟩
  · rename_i t ps r fn hf
    split at h
    · rename_i b t' vs' 
      split at h
      · rename_i hc
        simp only [Bool.and_eq_true, decide_eq_true_eq] at hc
        obtain ⟨⟨rfl, hgd⟩, hoff⟩ := hc
        obtain ⟨u0, us', rfl, hv0, hvs⟩ := hv
        obtain ⟨B, hB, hpt, _, rfl⟩ := hv0
        obtain ⟨as, m1, fp1, h1, h2⟩ := Res.bind_some h
        obtain ⟨S', r1, e1, hargs⟩ := argsW_ok hr hB hoff hvs h1
        obtain ⟨B1, hB1, ht1, hbx⟩ := e1.box b B hB
        have hB1' : m1.box b = some B1 := hB1
        simp only [Res.ev, hB1'] at h2
        split at h2
        case h_2 => exact (fail_ne h2).elim
        rename_i hfr
        split at h2
        · rename_i hbt
          subst hbt
          simp only [Res.ev] at h2
          cases hy : app ps (fn B1.x) as with
          | none =>
            have h3 : (app ps (fn B1.x) as).bind _ = some (v, m', fp') := h2
            rw [hy] at h3; cases h3
          | some y =>
            have h3 : (app ps (fn B1.x) as).bind _ = some (v, m', fp') := h2
            rw [hy] at h3
            obtain ⟨rfl, rfl⟩ := ok_inj h3
            obtain ⟨hen, hs⟩ := hG f _ hf
            obtain ⟨cs, tid, hh, hcr0⟩ := (r1.box b B1 hB1).cells (good_ni hgd)
            have hcr := hcr0.free hfr
            refine ⟨hen, (hs c.w S' _ (c.bx b) cs tid B1.x as us' y (fun i hi => S2.ofS r1 hB1 hi) (fun i hi => ⟨S1.lt r1 hi.1, hi.2⟩) hh hcr hargs hy).mono fun e w' hret => ?_⟩
            obtain ⟨u, cs', tid', he, hru, hh', hcr', ho, htp, hou, hsz, hoth⟩ := hret
            obtain ⟨r2, e2⟩ := wrote_ok r1 hB1 (x := y.1) ho htp hou hsz hoth hh' hcr'
            exact ⟨u, he, _, rfl, rfl, r2, e1.trans e2, hru⟩
        · exact (fail_ne h2).elim
      · exact (fail_ne h).elim
    · exact (fail_ne h).elim
  · rename_i ae se it st pi pst fn hf
    split at h
    · rename_i va vb l
      split at h
      · rename_i ks hks
        obtain ⟨u0, us0, rfl, hv0, u1, us1, rfl, hv1, u2, us2, rfl, hv2, rfl⟩ := hv
        obtain ⟨x, m1, fp1, h1, h2⟩ := Res.bind_some h
        obtain ⟨S1', r1, e1, hx⟩ := asDat_ok hr hv0 h1
        obtain ⟨y, m2, fp2, h3, h4⟩ := Res.bind_some h2
        obtain ⟨S2', r2, e2, hy⟩ := asDat_ok r1 (hv1.ext e1) h3
        obtain ⟨g, cs, rfl, hg, hps, hcells⟩ := (hv2.ext e1).ext e2
        obtain ⟨ads, a1, a2, a3, a4, a5⟩ := kinds_ok r2 hks hps
        simp only [Res.ev] at h4
        cases hz : fn x y ks with
        | none => rw [hz] at h4; cases h4
        | some z =>
          rw [hz] at h4
          obtain ⟨q, m3, fp3, h5, h6⟩ := Res.bind_some (show ((storeAll l 0 z.2).bind fun _ => Res.ok (boolV z.1)).ev m2 fp2 = some (v, m', fp') from h4)
          obtain ⟨rfl, rfl⟩ := ok_inj h6
          obtain ⟨hen, hti, hts, hfit, hs⟩ := hG f _ hf
          have hcall := hs c.w S2' x y ads u0 u1 g z (fun b hb => r2.lt b hb) (RelD.move (fun _ _ => rfl) e2.S hx) hy hg (by rw [← a3]; exact hcells) a4 (by rw [a1]; exact hz)
          rw [a2] at hcall
          refine ⟨hen, hcall.mono fun e w' hret => ?_⟩
          obtain ⟨he, hst⟩ := hret
          obtain ⟨c3, g1, g2, g3, g4⟩ := storeAll_ok (T := fun _ => none) (hti _) (hts _) l ads 0 z.2 z.2 ks _ rfl hks (hfit _ _ _ _ hz) r2 a5 h5 hst
          exact ⟨_, he, c3, g1, g2, g3, (e1.trans e2).trans g4, rfl⟩
      · exact (fail_ne h).elim
    · exact (fail_ne h).elim
  · exact (fail_ne h).elim
end
end Go.Vm
end
section
namespace Go.Vm
open Go.RowKit
set_option linter.unusedVariables false
set_option linter.unusedSimpArgs false
section
variable {P : Program} {T : Tab} {E : Env} {G : Gam}

theorem idxV_some {e : TypeId} {t : Ty} {n : Int} {v r : V} {m m' : Mem} {fp fp' : FP} (h : (idxV e t n v).ev m fp = some (r, m', fp')) :
    (∃ b A, v = .own b ∧ m.arr b = .at_ A ∧ A.open_ = true ∧ Ty.sl A.e A.t = .sl e t ∧ inI n A.xs.length = true ∧ r = .eptr b t n [] t ∧ m' = m) ∨ ∃ fp1, (idxD e t n v).ev m fp1 = some (r, m', fp') := by
  unfold idxV at h
  split at h
  · rename_i b
    simp only [Res.ev] at h
    split at h
    · rename_i A hA
      split at h
      · rename_i ho
        split at h
        · rename_i hAt
          obtain ⟨hb, h⟩ := Res.chk_some h
          obtain ⟨rfl, rfl⟩ := ok_inj h
          exact .inl ⟨b, A, rfl, hA, ho, hAt, hb, rfl, rfl⟩
        · exact (fail_ne h).elim
      · exact .inr ⟨_, h⟩
    · exact (fail_ne h).elim
  · exact .inr ⟨_, h⟩
theorem constV_ok {c : Cx} (v : Value) : RelV P E c (constV v) v := by
  unfold constV
  split
  · rfl
  · rfl
  · rfl
  · rfl
  · rfl
  · exact ⟨#[], rfl, rfl⟩
  · trivial
theorem assert_ok {c : Cx} {it st asserted xt : TypeId} {y : Option (Int ⊕ ByteArray)} {ok : Bool} {v : V} {m m' : Mem} {fp fp' : FP} (hu : Und P T xt (.any it st)) (h : (assertV asserted ok it st y).ev m fp = some (v, m', fp')) (w : World) :
    m' = m ∧ ∃ u, RelV P E c v u ∧ (Instr.typeAssert (anyV it st y) xt asserted ok).run P w = .ok u w := by
  obtain ⟨_, hne, hi, hs, ⟨ii, zi, hii, hzi, hci⟩, ⟨is, zs, his, hzs, hcs⟩⟩ := hu
  have hzi' : zi = .int .i64 0 := by simpa [Ty.zc] using hci.symm
  have hzs' : zs = .string ⟨#[]⟩ := by simpa [Ty.zc] using hcs.symm
  have zri : (zeroValue it).run P w = .ok (.int .i64 0) w := by simp [zeroValue, typeInfo, hii, hzi, hzi']
  have zrs : (zeroValue st).run P w = .ok (.string ⟨#[]⟩) w := by simp [zeroValue, typeInfo, his, hzs, hzs']
  unfold assertV at h
  split at h
  · rename_i h1
    have h1 := of_decide_eq_true h1
    subst h1
    cases ok with
    | true =>
      obtain ⟨rfl, rfl⟩ := ok_inj h
      refine ⟨rfl, .tuple #[.int .i64 ((anyI y).getD 0), .bool (anyI y).isSome], ⟨_, rfl, _, _, rfl, rfl, _, rfl, rfl⟩, ?_⟩
      rcases y with _ | (n | s)
      · simp [Instr.typeAssert, anyV, anyI, run_underlying hi, zri]
      · simp [Instr.typeAssert, anyV, anyI, run_underlying hi]
      · simp [Instr.typeAssert, anyV, anyI, run_underlying hi, zri, Ne.symm hne]
    | false =>
      obtain ⟨hb, h⟩ := Res.chk_some h
      obtain ⟨rfl, rfl⟩ := ok_inj h
      rcases y with _ | (n | s)
      · cases hb
      · exact ⟨rfl, .int .i64 n, rfl, by simp [Instr.typeAssert, anyV, run_underlying hi]⟩
      · cases hb
  · rename_i h1 h2
    have h2 := of_decide_eq_true h2
    subst h2
    cases ok with
    | true =>
      obtain ⟨rfl, rfl⟩ := ok_inj h
      refine ⟨rfl, .tuple #[.string ((anyS y).getD ⟨#[]⟩), .bool (anyS y).isSome], ⟨_, rfl, _, _, rfl, rfl, _, rfl, rfl⟩, ?_⟩
      rcases y with _ | (n | s)
      · simp [Instr.typeAssert, anyV, anyS, run_underlying hs, zrs]
      · simp [Instr.typeAssert, anyV, anyS, run_underlying hs, zrs, hne]
      · simp [Instr.typeAssert, anyV, anyS, run_underlying hs]
    | false =>
      obtain ⟨hb, h⟩ := Res.chk_some h
      obtain ⟨rfl, rfl⟩ := ok_inj h
      rcases y with _ | (n | s)
      · cases hb
      · cases hb
      · exact ⟨rfl, .string s, rfl, by simp [Instr.typeAssert, anyV, run_underlying hs]⟩
  · exact (fail_ne h).elim
theorem evalV_ok {c : Cx} {tmp : Nat → V} {a : Act} (h : ∀ t, RelV P E c (tmp t) (a.tmps.getD t undef)) (x : Operand) : RelV P E c (evalV tmp x) (a.eval x) := by
  cases x with
  | tmp t => exact h t
  | const v => exact constV_ok v
  | global g => trivial
  | func f => exact ⟨#[], rfl, rfl⟩

theorem pts_fill {c : Cx} {ρ : Operand → V} {ρ' : Operand → Value} (hρ : ∀ x, RelV P E c (ρ x) (ρ' x)) : ∀ (l : List (Nat × Operand)) (i : Nat) (r : List (TypeId × Nat × List PS × Ty)) (pre : List Value), pre.length = i → ptsOf i (l.map fun p => (p.1, ρ p.2)) = some r →
    ∃ cs, RelPs c r cs ∧ cs.length = l.length ∧ r.length = l.length ∧ Instr.fill (fun i => some (i * 1, 1)) (pre ++ List.replicate l.length Value.nilIface).toArray (l.map fun p => (p.1, ρ' p.2)) = some (pre ++ cs).toArray
  | [], i, r, pre, hp, h => by
    injection h with h
    subst h
    exact ⟨[], rfl, rfl, rfl, by simp [Instr.fill]⟩
  | (j, o) :: l, i, r, pre, hp, h => by
    simp only [List.map_cons] at h
    cases ho : ρ o with
    | ifp t b p pt =>
      rw [ho] at h
      simp only [ptsOf] at h
      split at h
      · rename_i r' hb hr'
        injection h with h
        subst h
        have hb := Nat.eq_of_beq_eq_true hb
        subst hb
        have hv := hρ o
        rw [ho] at hv
        obtain ⟨u, hu, hpt⟩ := hv
        obtain ⟨cs, h1, h2, h3, h4⟩ := pts_fill hρ l (i + 1) r' (pre ++ [.iface t u]) (by simp [hp]) hr'
        refine ⟨.iface t u :: cs, ⟨u, cs, rfl, hpt, h1⟩, by simp [h2], by simp [h3], ?_⟩
        have hst := fill_step (place := fun i => some (i * 1, 1)) (i := i) (off := i * 1) (size := 1) rfl (v := .iface t u) rfl (a := pre) (m := [Value.nilIface]) (b := List.replicate l.length Value.nilIface) rfl (by omega) (l.map fun p => (p.1, ρ' p.2))
        rw [List.map_cons, hu, List.length_cons, List.replicate_succ]
        have e1 : pre ++ Value.nilIface :: List.replicate l.length Value.nilIface = pre ++ [Value.nilIface] ++ List.replicate l.length Value.nilIface := by simp
        have e2 : pre ++ Value.iface t u :: cs = pre ++ [Value.iface t u] ++ cs := by simp
        rw [e1, hst, e2]
        exact h4
      · cases h
    | _ => rw [ho] at h; simp [ptsOf] at h
theorem prow_pts {n : Nat} {l : List (Nat × V)} {r : List (TypeId × Nat × List PS × Ty)} (h : prowOf n l = some r) : l.length = n ∧ n ≤ 4096 ∧ 0 < n ∧ ptsOf 0 l = some r := by
  unfold prowOf at h
  split at h
  · rename_i j t b p pt l
    split at h
    · rename_i hb
      rw [Bool.and_eq_true, decide_eq_true_eq, decide_eq_true_eq] at hb
      exact ⟨hb.1, hb.2, by omega, h⟩
    · cases h
  · cases h
theorem goes_wp {c : Cx} {o : Oper} {a : Act} {v : V} {m' : Mem} {K : Act → World → Prop} {Q : Exit → Act → World → Prop}
    (hK : ∀ (c' : Cx) (u : Value), c'.m = m' → Rel E c' → Ext c c' → RelV P E c' v u → K (a.put o.dst u) c'.w) (h : Goes P E c a.eval o v m') : o.wp P a c.w K Q := by
  obtain ⟨c', u, hm, hr, he, hv, hrun⟩ := h
  unfold Oper.wp
  rcases hrun with hrun | ⟨hrun, hu⟩
  · rw [hrun]; exact hK c' u hm hr he hv
  · rw [hrun]; subst hu; exact hK c' undef hm hr he hv

theorem maxI (x y : Int) : (if y > x then y else x) = max x y := by omega
theorem minI (x y : Int) : (if y < x then y else x) = min x y := by omega
theorem max2_run (k : IntKind) (x y : Int) (w : World) : (Builtin.max2 (.int k x) (.int k y)).run P w = .ok (.int k (max x y)) w := by
  simp only [Builtin.max2, Sem.run_pure, maxI]
theorem min2_run (k : IntKind) (x y : Int) (w : World) : (Builtin.min2 (.int k x) (.int k y)).run P w = .ok (.int k (min x y)) w := by
  simp only [Builtin.min2, Sem.run_pure, minI]

theorem flat_rep (l : List Value) : ∀ (n i : Nat), i < n * l.length → (List.replicate n l).flatten[i]? = l[i % l.length]?
  | 0, i, h => by omega
  | n + 1, i, h => by
    rw [List.replicate_succ, List.flatten_cons]
    by_cases hi : i < l.length
    · rw [List.getElem?_append_left hi, Nat.mod_eq_of_lt hi]
    · rw [List.getElem?_append_right (by omega), flat_rep l n (i - l.length) (by rw [Nat.add_mul] at h; omega)]
      rw [← Nat.mod_eq_sub_mod (by omega)]
theorem zero_cells {z : Value} {t : Ty} (hsz : z.cells.size = t.size) (hzc : z.cells.toList = t.zc) (n : Nat) : ((Array.range (n * t.size)).map (fun i => z.cells[i % z.cells.size]!)) = (List.replicate n t.zc).flatten.toArray := by
  have hl : t.zc.length = t.size := by rw [← hzc, Array.length_toList, hsz]
  apply Array.ext
  · simp [hl]
  · intro i h1 h2
    have hi : i < n * t.size := by simpa using h1
    have hpos : 0 < t.size := by
      rcases Nat.eq_zero_or_pos t.size with h | h
      · rw [h] at hi; omega
      · exact h
    have hm : i % t.size < z.cells.size := by rw [hsz]; exact Nat.mod_lt _ hpos
    have e1 := flat_rep t.zc n i (by rw [hl]; exact hi)
    have e2 : t.zc[i % t.size]? = some z.cells[i % t.size] := by rw [← hzc, Array.getElem?_toList, Array.getElem?_eq_getElem hm]
    rw [hl, e2] at e1
    simp only [Array.getElem_map, Array.getElem_range, hsz]
    rw [getElem!_pos z.cells _ hm]
    have e3 : (List.replicate n t.zc).flatten.toArray[i]? = some z.cells[i % t.size] := by rw [List.getElem?_toArray]; exact e1
    rw [Array.getElem?_eq_getElem h2] at e3
    exact (Option.some.inj e3).symm
theorem builtV_ok (hT : TabOk P T) {c : Cx} (hr : Rel E c) {ρ : Operand → V} {ρ' : Operand → Value} (hρ : ∀ x, RelV P E c (ρ x) (ρ' x)) {dst : Option Tmp} {b : Builtin} {ats : Array TypeId} {args : Array Operand} {ty : TypeId} {cons : Array Bool}
    {v : V} {m' : Mem} {fp fp' : FP} (h : (builtV T dst b ats.toList (args.toList.map ρ)).ev c.m fp = some (v, m', fp')) :
    ∃ c' u, c'.m = m' ∧ Rel E c' ∧ Ext c c' ∧ RelV P E c' v u ∧ (builtin b ats ty cons (args.map ρ')).run P c.w = .ok (.value u) c'.w := by
  obtain ⟨args⟩ := args
  obtain ⟨ats⟩ := ats
  simp only at h
  unfold builtV at h
  split at h
  · -- len
    rename_i t x hargs
    cases args with
    | nil => simp at hargs
    | cons p args =>
      cases args with
      | cons q r => simp at hargs
      | nil =>
        simp only [List.map_cons, List.map_nil, List.cons.injEq, and_true] at hargs
        have hx := hρ p
        rw [hargs] at hx
        unfold lenV at h
        split at h
        · rename_i e t' ht
          obtain ⟨rfl, rfl⟩ := ok_inj h
          have : ρ' p = .slice none 0 0 := hx
          have hund := ((hT _ _ ht).und).1
          exact ⟨c, _, rfl, hr, Ext.refl c, relV_intV, by simp [builtin, Builtin.len_, run_underlying hund, this, goInt]⟩
        · rename_i e t' e2 t2 xs ht
          obtain ⟨rfl, rfl⟩ := ok_inj h
          obtain ⟨A, cap, he, _⟩ := hx
          have : ρ' p = .slice A (List.length (α := t2.den) xs) cap := by simpa using he
          have hund := ((hT _ _ ht).und).1
          exact ⟨c, _, rfl, hr, Ext.refl c, relV_intV, by simp [builtin, Builtin.len_, run_underlying hund, this, goInt]⟩
        · rename_i s ht
          obtain ⟨rfl, rfl⟩ := ok_inj h
          have := relV_str hx
          have hund := (hT _ _ ht).und
          exact ⟨c, _, rfl, hr, Ext.refl c, relV_intV, by simp [builtin, Builtin.len_, run_underlying (show P.underlying t = some .string from hund), this, goInt]⟩
        · rename_i e t' a ht
          simp only [Res.ev] at h
          cases ha : c.m.arr a with
          | no => rw [ha] at h; exact (fail_ne h).elim
          | dead => rw [ha] at h; exact (fail_ne h).elim
          | mp M => rw [ha] at h; exact (fail_ne h).elim
          | at_ A =>
            rw [ha] at h
            obtain ⟨rfl, rfl⟩ := ok_inj h
            have hu := hx.2.1 A ha
            have hund := ((hT _ _ ht).und).1
            obtain ⟨B, cap, he⟩ : ∃ B cap, c.ar a = .slice B A.xs.length cap := by
              have := hr.arr a A ha
              unfold RelA at this
              split at this
              · obtain ⟨_, ho, _⟩ := this
                rcases ho.2 with ⟨e1, e2⟩ | ⟨g, cap, cur, e1, _⟩
                · exact ⟨none, 0, by rw [e1, e2]⟩
                · exact ⟨_, _, e1⟩
              · obtain ⟨B, cap, he, _⟩ := this
                exact ⟨B, cap, by simpa using he⟩
            rw [he] at hu
            exact ⟨c, _, rfl, hr, Ext.refl c, relV_intV, by simp [builtin, Builtin.len_, run_underlying hund, hu, goInt]⟩
        · exact (fail_ne h).elim
  · -- max
    rename_i k n l hargs
    cases args with
    | nil => simp at hargs
    | cons p args =>
      simp only [List.map_cons, List.cons.injEq] at hargs
      obtain ⟨h1, rfl⟩ := hargs
      have hx := hρ p
      rw [h1] at hx
      have hp := relV_int hx
      obtain ⟨e, u, hu, hrun⟩ := foldInt_ok (P := P) hρ (f := fun a b => max a b) (g := Builtin.max2) (fun k x y w => max2_run k x y w) args n v c.m m' fp fp' h
      refine ⟨c, u, e.symm, hr, Ext.refl c, hu, ?_⟩
      simp only [builtin, Builtin.max_, List.map_toArray, List.map_cons, hp, Sem.run_bind]
      rw [hrun]; rfl
  · -- min
    rename_i k n l hargs
    cases args with
    | nil => simp at hargs
    | cons p args =>
      simp only [List.map_cons, List.cons.injEq] at hargs
      obtain ⟨h1, rfl⟩ := hargs
      have hx := hρ p
      rw [h1] at hx
      have hp := relV_int hx
      obtain ⟨e, u, hu, hrun⟩ := foldInt_ok (P := P) hρ (f := fun a b => min a b) (g := Builtin.min2) (fun k x y w => min2_run k x y w) args n v c.m m' fp fp' h
      refine ⟨c, u, e.symm, hr, Ext.refl c, hu, ?_⟩
      simp only [builtin, Builtin.min_, List.map_toArray, List.map_cons, hp, Sem.run_bind]
      rw [hrun]; rfl
  · -- append
    rename_i t t' s x hargs
    split at h
    · rename_i d e tt heq ht
      have htt : t = t' := by simpa using heq
      subst htt
      cases args with
      | nil => simp at hargs
      | cons p args =>
        cases args with
        | nil => simp at hargs
        | cons q args =>
          cases args with
          | cons _ _ => simp at hargs
          | nil =>
            simp only [List.map_cons, List.map_nil, List.cons.injEq, and_true] at hargs
            obtain ⟨hp, hq⟩ := hargs
            have hxp := hρ p
            have hxq := hρ q
            rw [hp] at hxp
            rw [hq] at hxq
            obtain ⟨xs, m1, fp1, h1, h2⟩ := Res.bind_some h
            obtain ⟨r1, e1, hl1⟩ := baseV_ok hr hxp h1
            obtain ⟨ys, m2, fp2, h3, h4⟩ := Res.bind_some h2
            obtain ⟨S2, r2, e2, hy, hlo⟩ := asDat_loose r1 h3 (hxq.ext e1)
            have hl2 := hlo _ _ _ _ hl1
            obtain ⟨hlen, h5⟩ := Res.chk_some h4
            obtain ⟨v', w', hrun, c3, hm3, hw3, r3, e3, hl3⟩ := append_run hT ht ty r2 hl2 hy (of_decide_eq_true hlen)
            subst hw3
            have h6 : (newArr d e tt (xs ++ ys)).ev c3.m fp2 = some (v, m', fp') := by rw [hm3]; exact h5
            obtain ⟨c4, hm4, hw4, r4, e4, hv4⟩ := newArr_ok (P := P) r3 h6 hl3
            refine ⟨c4, v', hm4, r4, ((e1.trans e2).trans e3).trans e4, hv4, ?_⟩
            rw [hw4]
            simp only [builtin, List.map_toArray, List.map_cons, List.map_nil, Sem.run_bind, hrun, Result.andThen_ok, Sem.run_pure]
    · exact (fail_ne h).elim
  · exact (fail_ne h).elim

theorem vop_ok (hT : TabOk P T) (hG : ∀ f s, G f = some s → SpecOk P f s) {o : Oper} {a : Act} {c : Cx} {ρ : Operand → V} (hr : Rel E c) (hρ : ∀ x, RelV P E c (ρ x) (a.eval x))
    {v : V} {m' : Mem} {fp fp' : FP} (h : (vop G T o.dst ρ o.op).ev c.m fp = some (v, m', fp')) {K : Act → World → Prop} {Q : Exit → Act → World → Prop}
    (hK : ∀ (c' : Cx) (u : Value), c'.m = m' → Rel E c' → Ext c c' → RelV P E c' v u → K (a.put o.dst u) c'.w) : o.wp P a c.w K Q := by
  obtain ⟨dst, op, type, pos, after, guard⟩ := o
  simp only at h
  cases op with
  | move x =>
    obtain ⟨rfl, rfl⟩ := ok_inj h
    exact goes_wp hK (Goes.pure hr (hρ x) (by simp [execOp]))
  | assign x =>
    obtain ⟨rfl, rfl⟩ := ok_inj h
    exact goes_wp hK (Goes.pure hr (hρ x) (by simp [execOp]))
  | pick p x y =>
    simp only [vop] at h
    split at h
    · rename_i b hb
      have hp := hρ p
      rw [hb] at hp
      have hpv := relV_bool hp
      split at h
      · rename_i dx dy hx hy
        split at h
        · rename_i he
          obtain ⟨rfl, rfl⟩ := ok_inj h
          have h1 := hρ x
          have h2 := hρ y
          rw [hx] at h1
          rw [hy] at h2
          obtain ⟨tx, vx⟩ := dx
          obtain ⟨ty, vy⟩ := dy
          simp only at he
          subst he
          refine goes_wp hK (Goes.pure hr (u := if b then a.eval x else a.eval y) ?_ (by simp [execOp, hpv, asBool]))
          cases b
          · exact h2
          · exact h1
        · exact (fail_ne h).elim
      · cases b
        · obtain ⟨rfl, rfl⟩ := ok_inj (show (Res.ok (ρ y)).ev c.m fp = some (v, m', fp') from h)
          exact goes_wp hK (Goes.pure hr (hρ y) (by simp [execOp, hpv, asBool]))
        · obtain ⟨rfl, rfl⟩ := ok_inj (show (Res.ok (ρ x)).ev c.m fp = some (v, m', fp') from h)
          exact goes_wp hK (Goes.pure hr (hρ x) (by simp [execOp, hpv, asBool]))
    · exact (fail_ne h).elim
  | alloc e =>
    simp only [vop] at h
    split at h
    · rename_i d t ht
      obtain ⟨z, hz, hzc⟩ := (hT _ _ ht).zero c.w
      obtain ⟨c', hm, hw, r', e', hv⟩ := newBox_ok (P := P) hr h z.cells e (by rw [hzc]; exact relC_zero _ _ _ (hT _ _ ht).good) (by rw [hzc]; exact NilsIn.zero c.w (hT _ _ ht).good)
      refine goes_wp hK ⟨c', _, hm, r', e', hv, .inl ?_⟩
      rw [hw]
      simp [execOp, Instr.alloc, hz, newVar, newRow]
    · exact (fail_ne h).elim
  | box e x =>
    simp only [vop] at h
    split at h
    · rename_i d t ht
      obtain ⟨y, m1, fp1, h1, h2⟩ := Res.bind_some h
      obtain ⟨S', r1, e1, hy⟩ := asDat_ok hr (hρ x) h1
      obtain ⟨c', hm, hw, r', e', hv⟩ := newBox_ok (P := P) r1 h2 (a.eval x).cells e (hy.v1 (hT _ _ ht).good).cells (nilsOf_ok (hρ x) h1)
      refine goes_wp hK ⟨c', _, hm, r', e1.trans e', hv, .inl ?_⟩
      rw [hw]
      simp [execOp, Instr.box, newVar, newRow]
    · exact (fail_ne h).elim
  | build t ps =>
    simp only [vop] at h
    split at h
    · rename_i cc ht
      obtain ⟨y, m1, fp1, h1, h2⟩ := Res.bind_some h
      have hok := hT _ _ ht
      obtain ⟨z, hz, hzc⟩ := hok.zero c.w
      obtain ⟨fs, hund, hfl, _⟩ := hok.und
      obtain ⟨l, hl, hli⟩ := run_places hT fs.toList c.w hfl.mem
      have hgd := hok.good
      obtain ⟨S', cs', r', e', hfill, hR, hKeep⟩ := buildC_ok (P := P) (E := E) (ct := cc) (place := fun i => l[i]?) (fun i t' hi => by
        obtain ⟨f, hf, hft, hfo, _⟩ := hfl.at_ hi
        exact ⟨by rw [hli i f t' hf hft, hfo, Nat.zero_add], (hT _ _ hft).good⟩) ps.toList c cc.zero cc.zc y m1 fp fp1 hr hρ (relC_zero _ _ (.st cc) hgd) h1
      have hRD : RelD c.w S' (.st cc) y (.agg cs'.toArray) := ⟨cs'.toArray, rfl, by show RelC c.w S' cc y _; simpa using hR⟩
      have hmv : m' = m1 ∧ RelV P E { c with S := S', m := m1 } v (.agg cs'.toArray) := by
        split at h2
        · obtain ⟨rfl, rfl⟩ := ok_inj h2
          exact ⟨rfl, hRD⟩
        · obtain ⟨rfl, rfl⟩ := ok_inj h2
          refine ⟨rfl, hRD, (chainSl_nodup cc).filter _, fun i hi => ?_⟩
          obtain ⟨hi1, hi2⟩ := List.mem_filter.1 hi
          obtain ⟨e, u, hsl⟩ := chainSl_mem hi1
          refine ⟨⟨cc, e, u, rfl, hsl⟩, ?_⟩
          have hk := hKeep i e u hsl (fun p hp e' => by
            have : (ps.toList.any fun p => Nat.beq p.1 i) = true := List.any_eq_true.2 ⟨p, hp, by rw [e']; exact Nat.beq_refl i⟩
            rw [this] at hi2
            cases hi2)
          have hz0 := zc_at (c := cc) c.w hgd hsl
          show (Value.agg cs'.toArray).cells.toList[chainOff cc i]? = some nilCell
          rw [← hz0, ← hk]
          rfl
      obtain ⟨rfl, hvv⟩ := hmv
      refine goes_wp hK ⟨_, .agg cs'.toArray, rfl, r', e', hvv, .inl ?_⟩
      have hmap : (fs.mapM fun f => (do pure (f.offset, ← sizeOf f.type) : Sem (Nat × Nat))).run P c.w = .ok l.toArray c.w := by
        rw [Array.mapM_eq_mapM_toList, Sem.run_map, hl]; rfl
      have hzz : z.cells = (Ty.zc (.st cc)).toArray := by apply Array.ext'; rw [hzc]
      have hps : (ps.map fun (i, x) => (i, a.eval x)).toList = ps.toList.map fun p => (p.1, a.eval p.2) := by simp
      simp only [execOp, Instr.build, Sem.run_bind, hz, Result.andThen_ok, run_underlying hund, hmap, hps, hzz]
      have hfill' : Instr.fill (fun i => l.toArray[i]?) (Ty.zc (.st cc)).toArray (ps.toList.map fun p => (p.1, a.eval p.2)) = some cs'.toArray := by simpa [Ty.zc] using hfill
      rw [hfill']
      rfl
    · rename_i n tt ht
      obtain ⟨y, m1, fp1, h1, h2⟩ := Res.bind_some h
      obtain ⟨rfl, rfl⟩ := ok_inj h2
      have hok := hT _ _ ht
      obtain ⟨z, hz, hzc⟩ := hok.zero c.w
      obtain ⟨e, hund, hte, _⟩ := hok.und
      have hgd := hok.good
      have hz0 : RelC c.w c.S (.arr n tt) (List.replicate n tt.zero) (Ty.zc (.arr n tt)) := relC_zero _ _ (.arr n tt) hgd
      obtain ⟨S', cs', r', e', hfill, hR, hlen⟩ := buildL_ok (P := P) (E := E) (t := tt) (hT _ _ hte).good (place := fun i => some (i * tt.size, tt.size)) (fun i => rfl) ps.toList c (List.replicate n tt.zero) _ y m' fp fp1 hr hρ hz0.2 h1
      refine goes_wp hK ⟨_, .agg cs'.toArray, rfl, r', e', ⟨cs'.toArray, rfl, by rw [hlen, List.length_replicate], by simpa using hR⟩, .inl ?_⟩
      have hzz : z.cells = (Ty.zc (.arr n tt)).toArray := by apply Array.ext'; rw [hzc]
      have hps : (ps.map fun (i, x) => (i, a.eval x)).toList = ps.toList.map fun p => (p.1, a.eval p.2) := by simp
      simp only [execOp, Instr.build, Sem.run_bind, hz, Result.andThen_ok, run_underlying hund, (hT _ _ hte).sizeOf c.w, hps, hzz, hfill, Sem.run_pure]
    · exact (fail_ne h).elim
  | buildSlice t n ps =>
    simp only [vop] at h
    split at h
    · rename_i l hl
      obtain ⟨hlen, hn', hn0, hpts⟩ := prow_pts hl
      rw [List.length_map] at hlen
      split at h
      · rename_i e it st ht
        obtain ⟨rfl, rfl⟩ := ok_inj h
        obtain ⟨hund, hte, hpos⟩ := (hT _ _ ht).und
        have hok := hT _ _ hte
        obtain ⟨z, hz, hzc⟩ := hok.zero c.w
        obtain ⟨cs, h1, h2, h3, h4⟩ := pts_fill (P := P) (E := E) hρ ps.toList 0 l [] rfl hpts
        rw [hlen] at h2 h3 h4
        rw [List.nil_append, List.nil_append] at h4
        have hb := alloc_below c.w (.cells cs.toArray e)
        obtain ⟨r1, e1⟩ := below_ok hr hb (S' := fun b => c.S b ∨ b = c.w.heap.size) (fun _ h => .inl h) (fun b h => by
          rcases h with h | h
          · exact .inl h
          · exact .inr ⟨by omega, by rw [h]; simp⟩)
        have hnew : ({ c.w with heap := c.w.heap.push (.cells cs.toArray e) } : World).heap[c.w.heap.size]? = some (.cells cs.toArray e (0, 0)) := by simp
        refine goes_wp hK ⟨{ c with S := fun b => c.S b ∨ b = c.w.heap.size, w := { c.w with heap := c.w.heap.push (.cells cs.toArray e) } }, .slice (some ⟨c.w.heap.size, 0, none⟩) n n, rfl, r1, e1, ⟨c.w.heap.size, cs, by rw [h3], .inr rfl, h1.ext e1, ?_⟩, .inl ?_⟩
        · have := cells_in hnew (a := []) (m := cs) (b := []) (by simp)
          exact this
        · have hps : (ps.map fun (i, x) => (i, a.eval x)).toList = ps.toList.map fun p => (p.1, a.eval p.2) := by simp
          have hsz1 : (Ty.any it st).size = 1 := rfl
          have hsz : z.cells.size = (Ty.any it st).size := by
            have := (relC_zero c.w c.S (.any it st) hok.good).len
            rw [← Array.length_toList, hzc, this]
          have hzz : ((Array.range (n * (Ty.any it st).size)).map (fun i => z.cells[i % z.cells.size]!)) = (List.replicate n (Ty.any it st).zc).flatten.toArray := zero_cells hsz hzc n
          have hrep : (List.replicate n (Ty.any it st).zc).flatten = List.replicate n Value.nilIface := by
            show (List.replicate n [Value.nilIface]).flatten = _
            simp
          rw [hrep] at hzz
          have hbig : ¬ (n * (Ty.any it st).size > 2 ^ 24) := by rw [hsz1]; omega
          have hne : ¬ (n * (Ty.any it st).size = 0) := by rw [hsz1]; omega
          have h4' : Instr.fill (fun i => some (i * (Ty.any it st).size, (Ty.any it st).size)) (List.replicate n Value.nilIface).toArray (ps.toList.map fun p => (p.1, a.eval p.2)) = some cs.toArray := h4
          simp only [execOp, Instr.buildSlice, Sem.run_bind, run_underlying hund, Result.andThen_ok, hok.sizeOf c.w, if_neg hbig, Sem.run_pure, Sem.run_ite]
          simp only [if_neg hne, hz, Result.andThen_ok, hps, hzz, h4']
          simp [newRow]
      · exact (fail_ne h).elim
    split at h
    · rename_i d e tt ht hn
      have hn' : n ≤ 4096 := of_decide_eq_true hn
      obtain ⟨y, m1, fp1, h1, h2⟩ := Res.bind_some h
      obtain ⟨hund, hte, hpos⟩ := (hT _ _ ht).und
      have hok := hT _ _ hte
      obtain ⟨z, hz, hzc⟩ := hok.zero c.w
      have hz0 : RelL (RelC c.w c.S tt) (List.replicate n tt.zero) (List.replicate n tt.zc).flatten := by
        have : RelC c.w c.S (.arr n tt) (Ty.zero (.arr n tt)) (Ty.zc (.arr n tt)) := relC_zero _ _ (.arr n tt) hok.good
        exact this.2
      obtain ⟨S', cs', r', e', hfill, hR, hlen⟩ := buildL_ok (P := P) (E := E) (t := tt) hok.good (place := fun i => some (i * tt.size, tt.size)) (fun i => rfl) ps.toList c (List.replicate n tt.zero) _ y m1 fp fp1 hr hρ hz0 h1
      rw [List.length_replicate] at hlen
      obtain ⟨c2, hm2, hw2, r2, e2, hl2⟩ := fresh_loose r' (e := e) (cells := cs'.toArray) (by simpa using hR) (by rw [hlen]; simp only [maxLen]; omega)
      have h3 : (newArr d e tt y).ev c2.m fp1 = some (v, m', fp') := by rw [hm2]; exact h2
      obtain ⟨c3, hm3, hw3, r3, e3, hv3⟩ := newArr_ok (P := P) r2 h3 hl2
      refine goes_wp hK ⟨c3, _, hm3, r3, (e'.trans e2).trans e3, hv3, .inl ?_⟩
      rw [hw3, hw2]
      have hps : (ps.map fun (i, x) => (i, a.eval x)).toList = ps.toList.map fun p => (p.1, a.eval p.2) := by simp
      have hsz : z.cells.size = tt.size := by
        have := (relC_zero c.w c.S tt hok.good).len
        rw [← Array.length_toList, hzc, this]
      have hzz : ((Array.range (n * tt.size)).map (fun i => z.cells[i % z.cells.size]!)) = (List.replicate n tt.zc).flatten.toArray := zero_cells hsz hzc n
      have hbig : ¬ (n * tt.size > 2 ^ 24) := by
        have := hok.small
        have : n * tt.size ≤ 4096 * 4096 := Nat.mul_le_mul hn' this
        omega
      simp only [execOp, Instr.buildSlice, Sem.run_bind, run_underlying hund, Result.andThen_ok, hok.sizeOf c.w, if_neg hbig, Sem.run_pure, Sem.run_ite]
      by_cases h0 : n * tt.size = 0
      · have hn0 : n = 0 := by
          rcases Nat.mul_eq_zero.1 h0 with h | h
          · exact h
          · omega
        subst hn0
        simp only [Nat.zero_mul, if_true, Result.andThen_ok, hps]
        have : ((Array.range 0).map (fun i => (#[] : Array Value)[i % (#[] : Array Value).size]!)) = (List.replicate 0 tt.zc).flatten.toArray := by simp
        rw [this, hfill]
        simp [newRow, hlen]
      · simp only [if_neg h0, hz, Result.andThen_ok, hps, hzz, hfill]
        simp [newRow, hlen]
    · exact (fail_ne h).elim
  | load t p =>
    simp only [vop] at h
    split at h
    · rename_i ty ht
      obtain ⟨c', hm, hw, r', e', u, hu, hrun⟩ := loadV_ok hT ht hr (hρ p) h
      exact goes_wp hK ⟨c', u, hm, r', e', hu, .inl (by rw [hw]; simp [execOp, hrun])⟩
    · exact (fail_ne h).elim
  | store t p x =>
    simp only [vop] at h
    split at h
    · rename_i ty ht
      obtain ⟨c', hm, r', e', hv, hrun⟩ := storeV_ok hT ht hr (hρ p) (hρ x) h
      exact goes_wp hK ⟨c', undef, hm, r', e', hv, .inr ⟨by simp [execOp, hrun], rfl⟩⟩
    · exact (fail_ne h).elim
  | nilCheck x =>
    simp only [vop] at h
    have hx := hρ x
    split at h
    · rename_i b p t hv
      obtain ⟨rfl, rfl⟩ := ok_inj h
      rw [hv] at hx
      have hx' := hx
      obtain ⟨B, _, _, _, he⟩ := hx'
      exact goes_wp hK (Goes.pure hr hx (by simp [execOp, he]))
    · rename_i d hv
      obtain ⟨rfl, rfl⟩ := ok_inj h
      rw [hv] at hx
      have hx' := hx
      obtain ⟨ad, cs, he, _⟩ := hx'
      exact goes_wp hK (Goes.pure hr hx (by simp [execOp, he]))
    · rename_i f cs hv
      obtain ⟨rfl, rfl⟩ := ok_inj h
      rw [hv] at hx
      have hx' := hx
      obtain ⟨cv, he, _⟩ := hx'
      exact goes_wp hK (Goes.pure hr hx (by simp [execOp, he]))
    · rename_i x' r' g hv
      obtain ⟨rfl, rfl⟩ := ok_inj h
      rw [hv] at hx
      have hx' := hx
      obtain ⟨S1, _, f, cv, he, _⟩ := hx'
      exact goes_wp hK (Goes.pure hr hx (by simp [execOp, he]))
    · rename_i b et j p t hv
      obtain ⟨rfl, rfl⟩ := ok_inj h
      rw [hv] at hx
      have hx' := hx
      obtain ⟨_, _, _, g, he, _⟩ := hx'
      exact goes_wp hK (Goes.pure hr hx (by simp [execOp, he]))
    · exact (fail_ne h).elim
  | binOp op xt x y yt =>
    simp only [vop] at h
    split at h
    · rename_i d1 d2 h1 h2
      have hx := hρ x
      have hy := hρ y
      rw [h1] at hx
      rw [h2] at hy
      obtain ⟨rfl, u, hu, hrun⟩ := binD_ok hT (px := x) (py := y) hx hy h
      refine goes_wp hK (Goes.pure hr hu ?_)
      simp only [execOp, Sem.run_bind] at hrun ⊢
      rw [hrun]; rfl
    · exact (fail_ne h).elim
  | unOp op xt x =>
    simp only [vop] at h
    split at h
    · rename_i d hd
      have hx := hρ x
      rw [hd] at hx
      unfold unD at h
      split at h
      · rename_i b
        have := relV_bool hx
        split at h
        · obtain ⟨rfl, rfl⟩ := ok_inj h
          exact goes_wp hK (Goes.pure hr relV_boolV (by simp [execOp, Op.unary, this]))
        · exact (fail_ne h).elim
      · rename_i k n
        have := relV_int hx
        split at h
        · obtain ⟨rfl, rfl⟩ := ok_inj h
          exact goes_wp hK (Goes.pure hr relV_intV (by simp [execOp, Op.unary, Op.intArith, this]))
        · exact (fail_ne h).elim
      · exact (fail_ne h).elim
    · exact (fail_ne h).elim
  | convert src d x =>
    simp only [vop] at h
    split at h
    · rename_i ts td dx h1 h2 h3
      have hx := hρ x
      rw [h3] at hx
      obtain ⟨rfl, u, hu, hrun⟩ := convD_ok hT h1 h2 hx h
      exact goes_wp hK (Goes.pure hr hu (by simp [execOp, hrun]))
    · exact (fail_ne h).elim
  | makeFunc fn first caps =>
    simp only [vop] at h
    split at h
    · rename_i f l hfi hl
      obtain ⟨rfl, rfl⟩ := ok_inj h
      have hf0 : first = #[] := by apply Array.ext'; exact hfi
      subst hf0
      refine goes_wp hK (Goes.pure hr (u := .func (.func f) #[] (caps.map a.eval)) ⟨_, rfl, ?_⟩ (by simp [execOp, Instr.makeFunc]))
      rw [Array.toList_map]
      exact toCaps_ok hρ _ _ hl
    · exact (fail_ne h).elim
  | slice t x lo hi mx =>
    cases mx with
    | some _ => exact (fail_ne h).elim
    | none =>
    simp only [vop] at h
    split at h
    · rename_i e tt ht
      obtain ⟨xs, m1, fp1, h1, h2⟩ := Res.bind_some h
      obtain ⟨S', r1, e1, hx⟩ := asDat_ok hr (hρ x) h1
      split at h2
      · rename_i l hh hl hhi
        obtain ⟨hc, h3⟩ := Res.chk_some h2
        obtain ⟨rfl, rfl⟩ := ok_inj h3
        simp only [Bool.and_eq_true, decide_eq_true_eq] at hc
        obtain ⟨⟨c1, c2⟩, c3⟩ := hc
        obtain ⟨hund, hte, hpos⟩ := (hT _ _ ht).und
        obtain ⟨A, cap, he, hcap, hcc⟩ := hx
        have he2 : a.eval x = .slice A (List.length (α := tt.den) xs) cap := by simpa using he
        have hx2 : RelC c.w S' (.sl e tt) xs [.slice A (List.length (α := tt.den) xs) cap] := ⟨A, cap, rfl, hcap, hcc⟩
        obtain ⟨_, _, hcut⟩ := cut_ok hx2 (l := l.toNat) (h' := hh.toNat) (by omega) (by omega)
        have hsz := (hT _ _ hte).sizeOf c.w
        refine goes_wp hK ⟨_, .slice (if cap = l.toNat then A else A.map (·.add (l.toNat * tt.size))) (hh.toNat - l.toNat) (cap - l.toNat), rfl, r1, e1, hcut, .inl ?_⟩
        simp only [execOp, Instr.sliceAt, Sem.run_bind, run_underlying hund, Result.andThen_ok, Option.map_none]
        rcases intOf_ok hρ hl with ⟨rfl, el⟩ | ⟨ol, kl, rfl, el⟩ <;> rcases intOf_ok hρ hhi with ⟨rfl, eh⟩ | ⟨oh, kh, rfl, eh⟩
        · subst el eh
          simp [Instr.slice, Instr.sliceBounds, run_underlying hund, he2, hsz]
        · subst el
          have g1 : hh ≤ (cap : Int) := by omega
          simp [Instr.slice, Instr.sliceBounds, Instr.sliceBound, run_underlying hund, he2, hsz, eh, asIntOf, g1, c2]
        · subst eh
          have g1 : l ≤ ((List.length (α := tt.den) xs : Nat) : Int) := c2
          simp [Instr.slice, Instr.sliceBounds, Instr.sliceBound, run_underlying hund, he2, hsz, el, asIntOf, c1, g1]
        · have g1 : hh ≤ (cap : Int) := by omega
          have g0 : 0 ≤ hh := by omega
          have g2 : l ≤ ((hh.toNat : Nat) : Int) := by omega
          simp [Instr.slice, Instr.sliceBounds, Instr.sliceBound, run_underlying hund, he2, hsz, el, eh, asIntOf, g1, g0, g2, c1]
          intro hlt; exact absurd hlt (by omega)
      · exact (fail_ne h2).elim
    · rename_i ht
      have hund : P.underlying t = some .string := (hT _ _ ht).und
      split at h
      · rename_i s hs
        split at h
        · rename_i l hh hl hhi
          obtain ⟨hc, h3⟩ := Res.chk_some h
          obtain ⟨rfl, rfl⟩ := ok_inj h3
          simp only [Bool.and_eq_true, decide_eq_true_eq] at hc
          obtain ⟨⟨c1, c2⟩, c3⟩ := hc
          have hx := hρ x
          rw [hs] at hx
          have he2 := relV_str hx
          refine goes_wp hK (Goes.pure hr relV_strV ?_)
          simp only [execOp, Instr.sliceAt, Sem.run_bind, run_underlying hund, Result.andThen_ok, Option.map_none]
          rcases intOf_ok hρ hl with ⟨rfl, el⟩ | ⟨ol, kl, rfl, el⟩ <;> rcases intOf_ok hρ hhi with ⟨rfl, eh⟩ | ⟨oh, kh, rfl, eh⟩
          · subst el eh
            simp [Instr.slice, Instr.sliceBounds, run_underlying hund, he2]
          · subst el
            simp [Instr.slice, Instr.sliceBounds, Instr.sliceBound, run_underlying hund, he2, eh, asIntOf, c3, c2]
          · subst eh
            simp [Instr.slice, Instr.sliceBounds, Instr.sliceBound, run_underlying hund, he2, el, asIntOf, c1, c2]
          · have g0 : 0 ≤ hh := by omega
            have g2 : l ≤ ((hh.toNat : Nat) : Int) := by omega
            simp [Instr.slice, Instr.sliceBounds, Instr.sliceBound, run_underlying hund, he2, el, eh, asIntOf, c3, g0, g2, c1]
            intro hlt; exact absurd hlt (by omega)
        · exact (fail_ne h).elim
      · exact (fail_ne h).elim
    · exact (fail_ne h).elim
  | fieldAddr s x f =>
    simp only [vop] at h
    split at h
    · rename_i cc b p c' ht hv
      split at h
      · rename_i hcc
        subst hcc
        split at h
        · rename_i t' ht'
          obtain ⟨rfl, rfl⟩ := ok_inj h
          have hx := hρ x
          rw [hv] at hx
          obtain ⟨B, hB, hpt, hp, he⟩ := hx
          obtain ⟨fs, hund, hfl, _⟩ := (hT _ _ ht).und
          obtain ⟨fd, hf, hft, hfo, hfp⟩ := hfl.at_ ht'
          have hf2 : fs[f]? = some fd := by rw [← Array.getElem?_toList]; exact hf
          refine goes_wp hK (Goes.pure hr (u := .pointer (some ⟨c.bx b, pathOff (p ++ [.fld f]) B.t, none⟩)) ⟨B, hB, ?_, pathIn_app hpt hp ⟨t', ht', trivial⟩, rfl⟩ ?_)
          · rw [pathTy_app hpt]; simp [pathTy, ht']
          · have hsz := (hT _ _ hft).sizeOf c.w
            have hne : ¬ t'.size = 0 := by omega
            have hoff : pathOff (p ++ [.fld f]) B.t = pathOff p B.t + fd.offset := by
              rw [pathOff_app hpt, hfo]; simp [pathOff, ht']
            simp only [execOp, Instr.fieldAt, Sem.run_bind, run_underlying hund, Result.andThen_ok, hf2, he, Instr.sureAddr, Sem.run_pure, fieldPlace, hsz, Sem.run_ite, if_neg hne, Addr.add_mid, hoff]
        · exact (fail_ne h).elim
      · exact (fail_ne h).elim
    · rename_i cc c' y ht hv
      split at h
      · rename_i hcc
        subst hcc
        split at h
        · rename_i d hd
          obtain ⟨rfl, rfl⟩ := ok_inj h
          have hx := hρ x
          rw [hv] at hx
          obtain ⟨ad, cs, he, hs, hc, hca⟩ := hx
          obtain ⟨hty, p, m, q, e2, hl, hm⟩ := chainGet_rel (c := c') (show RelC c.w c.S c' y cs from hc) hd
          obtain ⟨fs, hund, hfl, _⟩ := (hT _ _ ht).und
          obtain ⟨fd, hf, hft, hfo, hfp⟩ := hfl.at_ hty
          have hf2 : fs[f]? = some fd := by rw [← Array.getElem?_toList]; exact hf
          rw [e2] at hca
          refine goes_wp hK (Goes.pure hr (u := .pointer (some (ad.add p.length))) ⟨ad.add p.length, m, rfl, by rw [add_block']; exact hs, hm, hca.mid⟩ ?_)
          have hsz := (hT _ _ hft).sizeOf c.w
          have hne : ¬ d.t.size = 0 := by omega
          have ho : fd.offset = p.length := by rw [hfo, hl]; omega
          simp only [execOp, Instr.fieldAt, Sem.run_bind, run_underlying hund, Result.andThen_ok, hf2, he, Instr.sureAddr, Sem.run_pure, fieldPlace, hsz, Sem.run_ite, if_neg hne, ho]
        · exact (fail_ne h).elim
      · exact (fail_ne h).elim
    · rename_i cc b et n p c' ht hv
      split at h
      · rename_i hcc
        subst hcc
        split at h
        · rename_i t' ht'
          obtain ⟨rfl, rfl⟩ := ok_inj h
          have hx := hρ x
          rw [hv] at hx
          obtain ⟨hno, hpt, hp, g, he, hgg⟩ := hx
          obtain ⟨fs, hund, hfl, _⟩ := (hT _ _ ht).und
          obtain ⟨fd, hf, hft, hfo, hfp⟩ := hfl.at_ ht'
          have hf2 : fs[f]? = some fd := by rw [← Array.getElem?_toList]; exact hf
          refine goes_wp hK (Goes.pure hr (u := .pointer (some ⟨g, n.toNat * et.size + pathOff (p ++ [.fld f]) et, none⟩)) ⟨hno, ?_, pathIn_app hpt hp ⟨t', ht', trivial⟩, g, rfl, hgg⟩ ?_)
          · rw [pathTy_app hpt]; simp [pathTy, ht']
          · have hsz := (hT _ _ hft).sizeOf c.w
            have hne : ¬ t'.size = 0 := by omega
            have hoff : pathOff (p ++ [.fld f]) et = pathOff p et + fd.offset := by
              rw [pathOff_app hpt, hfo]; simp [pathOff, ht']
            simp only [execOp, Instr.fieldAt, Sem.run_bind, run_underlying hund, Result.andThen_ok, hf2, he, Instr.sureAddr, Sem.run_pure, fieldPlace, hsz, Sem.run_ite, if_neg hne, Addr.add_mid, hoff, Nat.add_assoc]
        · exact (fail_ne h).elim
      · exact (fail_ne h).elim
    · exact (fail_ne h).elim
  | field s x f =>
    simp only [vop] at h
    split at h
    · rename_i cc c' y ht hv
      split at h
      · rename_i hcc
        subst hcc
        split at h
        · rename_i d hd
          obtain ⟨rfl, rfl⟩ := ok_inj h
          have hx := hρ x
          rw [hv] at hx
          obtain ⟨cs, he, hc⟩ := (show ∃ cs, a.eval x = .agg cs ∧ RelC c.w c.S (.st c') y cs.toList from hx)
          obtain ⟨hty, p, m, q, e2, hl, hm⟩ := chainGet_rel (c := c') (show RelC c.w c.S c' y cs.toList from hc) hd
          obtain ⟨fs, hund, hfl, _⟩ := (hT _ _ ht).und
          obtain ⟨fd, hf, hft, hfo, hfp⟩ := hfl.at_ hty
          have hf2 : fs[f]? = some fd := by rw [← Array.getElem?_toList]; exact hf
          obtain ⟨u, hu, hru⟩ := part_ok (hT _ _ hft) e2 (off := fd.offset) (by rw [hfo, hl]; omega) hm c.w
          refine goes_wp hK (Goes.pure hr (RelD.of_v1 hru) ?_)
          simp only [execOp, Instr.field, Sem.run_bind, run_underlying hund, Result.andThen_ok, hf2, he, asAgg, Sem.run_pure, hu]
        · exact (fail_ne h).elim
      · exact (fail_ne h).elim
    · exact (fail_ne h).elim
  | indexAddr t x i =>
    simp only [vop] at h
    split at h
    · rename_i k n hi
      have hiv := hρ i
      rw [hi] at hiv
      have hin := relV_int hiv
      split at h
      · rename_i len tt ht
        obtain ⟨e, hund, hte, hpos, _⟩ := (hT _ _ ht).und
        have hsz := (hT _ _ hte).sizeOf c.w
        split at h
        · rename_i b p n' t' hv
          split at h
          · rename_i hc
            obtain ⟨rfl, rfl⟩ := hc
            obtain ⟨hb, h2⟩ := Res.chk_some h
            obtain ⟨rfl, rfl⟩ := ok_inj h2
            simp only [inI, Bool.and_eq_true, decide_eq_true_eq] at hb
            have hx := hρ x
            rw [hv] at hx
            obtain ⟨B, hB, hpt, hp, he⟩ := hx
            refine goes_wp hK (Goes.pure hr (u := .pointer (some ⟨c.bx b, pathOff (p ++ [.idx n]) B.t, none⟩)) ⟨B, hB, ?_, pathIn_app hpt hp ⟨hb.1, hb.2, trivial⟩, rfl⟩ ?_)
            · rw [pathTy_app hpt]; rfl
            · have hoff : pathOff (p ++ [.idx n]) B.t = pathOff p B.t + n.toNat * t'.size := by
                rw [pathOff_app hpt]; simp [pathOff]
              simp only [execOp, Instr.indexAt, Sem.run_bind, hin, asIntOf, Sem.run_pure, Result.andThen_ok, run_underlying hund, he, Instr.sureAddr, hsz, Sem.run_ite, if_pos hb, Addr.add_mid, hoff]
          · exact (fail_ne h).elim
        · rename_i n' t' xs hv
          split at h
          · rename_i hc
            obtain ⟨rfl, rfl⟩ := hc
            obtain ⟨hb, h2⟩ := Res.chk_some h
            obtain ⟨rfl, rfl⟩ := ok_inj h2
            simp only [inI, Bool.and_eq_true, decide_eq_true_eq] at hb
            have hx := hρ x
            rw [hv] at hx
            obtain ⟨ad, cs, he, hs, ⟨hn, hrl⟩, hca⟩ := hx
            obtain ⟨p, m, q, e2, hl, hm⟩ := getD_rel (fun _ _ h => RelC.len h) hrl (j := n.toNat) (by rw [hn]; omega) t'.zero
            rw [e2] at hca
            refine goes_wp hK (Goes.pure hr (u := .pointer (some (ad.add p.length))) ⟨ad.add p.length, m, rfl, by rw [add_block']; exact hs, hm, hca.mid⟩ ?_)
            simp only [execOp, Instr.indexAt, Sem.run_bind, hin, asIntOf, Sem.run_pure, Result.andThen_ok, run_underlying hund, he, Instr.sureAddr, hsz, Sem.run_ite, if_pos hb, hl]
          · exact (fail_ne h).elim
        · rename_i b et j p n' t' hv
          split at h
          · rename_i hc
            obtain ⟨rfl, rfl⟩ := hc
            obtain ⟨hb, h2⟩ := Res.chk_some h
            obtain ⟨rfl, rfl⟩ := ok_inj h2
            simp only [inI, Bool.and_eq_true, decide_eq_true_eq] at hb
            have hx := hρ x
            rw [hv] at hx
            obtain ⟨hno, hpt, hp, g, he, hgg⟩ := hx
            refine goes_wp hK (Goes.pure hr (u := .pointer (some ⟨g, j.toNat * et.size + pathOff (p ++ [.idx n]) et, none⟩)) ⟨hno, ?_, pathIn_app hpt hp ⟨hb.1, hb.2, trivial⟩, g, rfl, hgg⟩ ?_)
            · rw [pathTy_app hpt]; rfl
            · have hoff : pathOff (p ++ [.idx n]) et = pathOff p et + n.toNat * t'.size := by
                rw [pathOff_app hpt]; simp [pathOff]
              simp only [execOp, Instr.indexAt, Sem.run_bind, hin, asIntOf, Sem.run_pure, Result.andThen_ok, run_underlying hund, he, Instr.sureAddr, hsz, Sem.run_ite, if_pos hb, Addr.add_mid, hoff, Nat.add_assoc]
          · exact (fail_ne h).elim
        · exact (fail_ne h).elim
      · rename_i e tt ht
        obtain ⟨hund, hte, hpos⟩ := (hT _ _ ht).und
        have hsz := (hT _ _ hte).sizeOf c.w
        rcases idxV_some h with ⟨b, A, hv, hA, ho, hAt, hb, rfl, rfl⟩ | ⟨fp0, h⟩
        · have hx := hρ x
          rw [hv] at hx
          obtain ⟨hno, hx, _⟩ := hx
          have hxA := hx A hA
          simp only [inI, Bool.and_eq_true, decide_eq_true_eq] at hb
          injection hAt with hAe hAt
          obtain ⟨Ae, At, Ax, Ao⟩ := A
          simp only at hAe hAt hb ho
          subst hAe hAt
          have hRA := hr.arr b _ hA
          unfold RelA at hRA
          rw [if_pos ho] at hRA
          obtain ⟨inner, ⟨_, h1⟩, _, _⟩ := hRA
          rcases h1 with ⟨_, h0⟩ | ⟨g, cap, cur, hs, _, _, hn, _, _, _⟩
          · simp only at h0
            omega
          · simp only at hs
            refine goes_wp hK (Goes.pure hr (u := .pointer (some ⟨g, n.toNat * At.size + pathOff [] At, none⟩)) ⟨hno, rfl, trivial, g, rfl, fun A' _ => by rw [hs]; rfl⟩ ?_)
            rw [hs] at hxA
            simp only [execOp, Instr.indexAt, Sem.run_bind, hin, asIntOf, Sem.run_pure, Result.andThen_ok, run_underlying hund, hxA, hsz, Sem.run_ite, if_pos hb, Addr.add_mid, pathOff, Nat.zero_add, Nat.add_zero]
        obtain ⟨xs, m1, fp1, h1, h2⟩ := Res.bind_some h
        obtain ⟨S', r1, e1, hx⟩ := asDat_ok hr (hρ x) h1
        obtain ⟨hb, h3⟩ := Res.chk_some h2
        obtain ⟨rfl, rfl⟩ := ok_inj h3
        simp only [inI, Bool.and_eq_true, decide_eq_true_eq] at hb
        obtain ⟨A, cap, he, hcap, hcc⟩ := hx
        have he2 : a.eval x = .slice A (List.length (α := tt.den) xs) cap := by simpa using he
        obtain ⟨ad, inner, rfl, hs, hil, hca, hrl⟩ := hcc (by omega)
        obtain ⟨p, m, q, e2, hl, hm⟩ := getD_rel (fun _ _ h => RelC.len h) hrl (j := n.toNat) (by omega) tt.zero
        rw [e2] at hca
        refine goes_wp hK ⟨_, .pointer (some (ad.add p.length)), rfl, r1, e1, ⟨ad.add p.length, m, rfl, by rw [add_block']; exact hs, hm, hca.mid⟩, .inl ?_⟩
        simp only [execOp, Instr.indexAt, Sem.run_bind, hin, asIntOf, Sem.run_pure, Result.andThen_ok, run_underlying hund, he2, hsz, Sem.run_ite, if_pos hb, hl]
      · exact (fail_ne h).elim
    · exact (fail_ne h).elim
  | index t x i =>
    simp only [vop] at h
    split at h
    · rename_i k n len tt n' t' xs hi ht hv
      have hiv := hρ i
      rw [hi] at hiv
      have hin := relV_int hiv
      split at h
      · rename_i hc
        obtain ⟨rfl, rfl⟩ := hc
        obtain ⟨hb, h2⟩ := Res.chk_some h
        obtain ⟨rfl, rfl⟩ := ok_inj h2
        simp only [inI, Bool.and_eq_true, decide_eq_true_eq] at hb
        obtain ⟨e, hund, hte, hpos, _⟩ := (hT _ _ ht).und
        have hsz := (hT _ _ hte).sizeOf c.w
        have hx := hρ x
        rw [hv] at hx
        obtain ⟨cs, he, hn, hrl⟩ := (show ∃ cs, a.eval x = .agg cs ∧ RelC c.w c.S (.arr n' t') xs cs.toList from hx)
        obtain ⟨p, m, q, e2, hl, hm⟩ := getD_rel (fun _ _ h => RelC.len h) hrl (j := n.toNat) (by rw [hn]; omega) t'.zero
        obtain ⟨u, hu, hru⟩ := part_ok (hT _ _ hte) e2 (off := n.toNat * t'.size) hl hm c.w
        refine goes_wp hK (Goes.pure hr (RelD.of_v1 hru) ?_)
        simp only [execOp, Instr.index, Sem.run_bind, hin, asIntOf, Sem.run_pure, Result.andThen_ok, run_underlying hund, he, hsz, Sem.run_ite, if_pos hb, hu]
      · exact (fail_ne h).elim
    · rename_i k n s hi ht hv
      have hiv := hρ i
      rw [hi] at hiv
      have hin := relV_int hiv
      obtain ⟨hb, h2⟩ := Res.chk_some h
      obtain ⟨rfl, rfl⟩ := ok_inj h2
      have hund : P.underlying t = some .string := (hT _ _ ht).und
      have hx := hρ x
      rw [hv] at hx
      have he := relV_str hx
      obtain ⟨b, hb1, hb2⟩ := strAt_ok hb
      simp only [inI, Bool.and_eq_true, decide_eq_true_eq] at hb
      refine goes_wp hK (Goes.pure hr relV_intV ?_)
      simp only [execOp, Instr.index, Sem.run_bind, hin, asIntOf, Sem.run_pure, Result.andThen_ok, run_underlying hund, he, if_pos hb.1, hb1, hb2]
    · exact (fail_ne h).elim
  | extract x i =>
    simp only [vop] at h
    split at h
    · rename_i cc y hv
      split at h
      · rename_i d hd
        obtain ⟨rfl, rfl⟩ := ok_inj h
        have hx := hρ x
        rw [hv] at hx
        obtain ⟨vs, he, ht⟩ := (show ∃ vs, a.eval x = .tuple vs ∧ RelT c.w c.S cc y vs.toList from hx)
        obtain ⟨u, hu, hru⟩ := chainGet_tup ht hd
        have hu2 : vs[i]? = some u := by rw [← Array.getElem?_toList]; exact hu
        exact goes_wp hK (Goes.pure hr (RelD.of_v1 hru) (by simp [execOp, Instr.extract, he, hu2]))
      · exact (fail_ne h).elim
    · exact (fail_ne h).elim
  | lookup t mm x ok =>
    simp only [vop] at h
    have look : ∀ {w : World} {S : Nat → Prop} {k v : Ty} {es : List (k.den × v.den)} {key : k.den} {r : Value}, RelLook w S v (mapGet k v key es) ok r → RelV P E { c with S := S, w := w } (lookV k v es key ok) r := by
      intro w S k v es key r hr2
      cases ok with
      | false => exact hr2
      | true => exact hr2
    split at h
    · rename_i k v0 k' v' es d ht hm hx
      split at h
      · rename_i hc
        obtain ⟨he1, he2, he3⟩ := hc
        subst he1 he2
        obtain ⟨dt, dx⟩ := d
        simp only at he3
        subst he3
        obtain ⟨rfl, rfl⟩ := ok_inj h
        have hmv := hρ mm
        rw [hm] at hmv
        have hxv := hρ x
        rw [hx] at hxv
        obtain ⟨r, hr1, hr2⟩ := lookup_ok hT ht (w := c.w) (S := c.S) (by exact hmv) (key := dx) (by exact hxv) ok
        refine goes_wp hK (Goes.pure hr (u := r) (look (w := c.w) (S := c.S) hr2) ?_)
        simp only [execOp, Sem.run_bind, hr1, Result.andThen_ok, Sem.run_pure]
      · exact (fail_ne h).elim
    · rename_i k v0 am d ht hm hx
      simp only [Res.ev] at h
      cases ham : c.m.arr am with
      | no => rw [ham] at h; exact (fail_ne h).elim
      | dead => rw [ham] at h; exact (fail_ne h).elim
      | at_ A => rw [ham] at h; exact (fail_ne h).elim
      | mp M =>
        rw [ham] at h
        simp only at h
        split at h
        · rename_i hc
          obtain ⟨Mk, Mv, Mes⟩ := M
          obtain ⟨he1, he2, he3⟩ := hc
          simp only at he1 he2 he3
          subst he1 he2
          obtain ⟨dt, dx⟩ := d
          simp only at he3
          subst he3
          obtain ⟨rfl, rfl⟩ := ok_inj h
          have hmv := hρ mm
          rw [hm] at hmv
          have hxv := hρ x
          rw [hx] at hxv
          have hu := hmv.2.2 _ ham
          obtain ⟨hk, hv, g, en, cl, e, h0, hS, hh, hE⟩ := hr.ms.mps am _ ham
          obtain ⟨r, hr1, hr2⟩ := lookup_ok hT ht (w := c.w) (S := fun _ => True) (es := Mes) (u := a.eval mm) (.inr ⟨g, en, cl, by rw [hu, e], trivial, hh, hE.imp (fun _ _ hh => RelC.flat (keyT_flat hk) hh) (fun _ _ hh => RelC.flat (valT_flat hv) hh)⟩) (key := dx) (RelD.flat (keyT_flat hk) (by exact hxv)) ok
          have hr3 : RelLook c.w c.S Mv (mapGet dt Mv dx Mes) ok r := by
            cases ok with
            | false => exact RelD.flat (valT_flat hv) hr2
            | true => exact RelD.flat (t := .tup (.pair Mv .bool)) (by show (Mv.flat && true) = true; rw [valT_flat hv]; rfl) hr2
          refine goes_wp hK (Goes.pure hr (u := r) (look (w := c.w) (S := c.S) hr3) ?_)
          simp only [execOp, Sem.run_bind, hr1, Result.andThen_ok, Sem.run_pure]
        · exact (fail_ne h).elim
    · exact (fail_ne h).elim
  | makeMap t res =>
    cases res with
    | some r => exact (fail_ne h).elim
    | none =>
      simp only [vop] at h
      split at h
      · rename_i dd k v0 ht
        simp only [Res.ev] at h
        cases had : c.m.arr dd with
        | at_ A => rw [had] at h; exact (fail_ne h).elim
        | dead => rw [had] at h; exact (fail_ne h).elim
        | mp M => rw [had] at h; exact (fail_ne h).elim
        | no =>
          rw [had] at h
          simp only [Res.ev] at h
          obtain ⟨rfl, rfl⟩ := ok_inj h
          have hgood := (hT _ _ ht).good
          simp only [Ty.good, Bool.and_eq_true] at hgood
          let w' : World := { c.w with heap := c.w.heap.push (.map #[] 0) }
          have hb : Below c.w.heap.size c.w w' := ⟨rfl, rfl, rfl, by simp [w'], fun i hi => by simp [w', Array.getElem?_push, Nat.ne_of_lt hi]⟩
          obtain ⟨r1, e1⟩ := below_ok hr hb (S' := c.S) (fun _ h => h) (fun _ h => .inl h)
          obtain ⟨r2, e2⟩ := addMap_ok (c := { c with w := w' }) r1 (d := dd) had (M := ⟨k, v0, []⟩) (g := c.w.heap.size) (es := #[]) (cl := 0) hgood.1 hgood.2 (by simp [w']) hr.size (fun hs => by have := hr.lt _ hs; omega) trivial
            (fun x X hx e => by
              obtain ⟨_, _, g, _, _, e3, _, _, hh, _⟩ := hr.ms.mps x X hx
              have e4 : c.ar x = .map (some c.w.heap.size) := e
              rw [e3] at e4
              injection e4 with e4
              injection e4 with e4
              have := (Array.getElem?_eq_some_iff.1 hh).1
              omega)
          refine goes_wp hK ⟨_, .map (some c.w.heap.size), rfl, r2, e1.trans e2, ⟨by simp [Mem.setA, upd], fun A hA => by simp [Mem.setA, upd] at hA, fun M hM => by simp [upd]⟩, .inl ?_⟩
          simp [execOp, Instr.makeMap, newObj, Sem.run_bind, w']
          rfl
      · exact (fail_ne h).elim
  | mapUpdate t mm x y =>
    simp only [vop] at h
    split at h
    · rename_i k v0 am d e ht hm hx hy
      simp only [Res.ev] at h
      cases ham : c.m.arr am with
      | no => rw [ham] at h; exact (fail_ne h).elim
      | dead => rw [ham] at h; exact (fail_ne h).elim
      | at_ A => rw [ham] at h; exact (fail_ne h).elim
      | mp M =>
        rw [ham] at h
        simp only at h
        split at h
        · rename_i hc
          obtain ⟨Mk, Mv, Mes⟩ := M
          obtain ⟨he1, he2, he3, he4⟩ := hc
          simp only at he1 he2 he3 he4
          subst he1 he2
          obtain ⟨dt, dx⟩ := d
          obtain ⟨et, ex⟩ := e
          simp only at he3 he4
          subst he3 he4
          simp only [Res.ev] at h
          obtain ⟨rfl, rfl⟩ := ok_inj h
          have hmv := hρ mm
          rw [hm] at hmv
          have hxv := hρ x
          rw [hx] at hxv
          have hyv := hρ y
          rw [hy] at hyv
          have hu := hmv.2.2 _ ham
          obtain ⟨hk, hv, g, en, cl, eg, h0, hS, hh, hE⟩ := hr.ms.mps am _ ham
          obtain ⟨en', cl', hrun, hE'⟩ := update_ok hT ht hh hE (key := dx) (by exact hxv) (x := ex) (by exact hyv)
          obtain ⟨r2, e2⟩ := setMap_ok hr ham (xs := mapPut dt et dx ex Mes) eg (es := en') (cl := cl') hE'
          refine goes_wp hK ⟨_, undef, rfl, r2, e2, trivial, .inr ⟨?_, rfl⟩⟩
          simp only [execOp, hu, eg]
          rw [Sem.run_bind, hrun]
          simp
        · exact (fail_ne h).elim
    · exact (fail_ne h).elim
  | call cl =>
    obtain ⟨callee, args, ats⟩ := cl
    simp only [vop, callV] at h
    cases callee with
    | builtin b =>
      obtain ⟨c', u, hm, r', e', hv, hrun⟩ := builtV_ok hT hr hρ (ty := type) (cons := args.map fun | .const _ => true | _ => false) h
      refine goes_wp hK ⟨c', u, hm, r', e', hv, .inl ?_⟩
      simp only [execOp, resolve, invoke, Sem.run_bind, Sem.run_pure, Result.andThen_ok]
      exact hrun
    | invoke r m => exact (fail_ne h).elim
    | value f =>
      simp only at h
      split at h
      · rename_i g caps hf
        have hfv := hρ f
        rw [hf] at hfv
        obtain ⟨cv, he, hk⟩ := hfv
        obtain ⟨hen, hc⟩ := callF_ok hG hr ((RelVs.map hρ args.toList).append (RelVs.caps hk)) h
        have harr : (args.toList.map a.eval ++ cv.toList).toArray = args.map a.eval ++ cv := by apply Array.ext'; simp
        unfold Oper.wp
        have hrun : (execOp a.eval ⟨dst, .call { callee := .value f, args := args, argTypes := ats }, type, pos, after, guard⟩).run P c.w = .ok (.enter g (args.map a.eval ++ cv)) c.w := by
          simp [execOp, resolve, he, Deferred.ofValue, invoke, hen _ _]
        rw [hrun]
        show Calls P g _ c.w _
        rw [← harr]
        refine hc.mono fun e w' hh => ?_
        obtain ⟨u, rfl, c', hm, rfl, r', e', hv⟩ := hh
        exact hK c' u hm r' e' hv
      · rename_i a' r' g hf
        split at h
        · rename_i x hx
          have hfv := hρ f
          rw [hf] at hfv
          obtain ⟨y, m1, fp1, h1, h2⟩ := Res.bind_some h
          obtain ⟨S', r1, e1, hy⟩ := asDat_ok hr (hρ x) h1
          simp only [Res.ev] at h2
          cases hz : g y with
          | none => rw [hz] at h2; cases h2
          | some z =>
            rw [hz] at h2
            obtain ⟨rfl, rfl⟩ := ok_inj h2
            obtain ⟨S2, hS2, f', cv, he, hen, hh⟩ := hfv
            have hc := hh c.w S' (fun b hb => hr.keep b (hS2 b hb).1 (hS2 b hb).2) (fun b hb => r1.old b hb) (fun b hb => r1.lt b hb) y (a.eval x) z hy hz
            have hargs : args = #[x] := by apply Array.ext'; exact hx
            subst hargs
            unfold Oper.wp
            have hrun : (execOp a.eval ⟨dst, .call { callee := .value f, args := #[x], argTypes := ats }, type, pos, after, guard⟩).run P c.w = .ok (.enter f' (#[a.eval x] ++ cv)) c.w := by
              simp [execOp, resolve, he, Deferred.ofValue, invoke, hen _ _]
            rw [hrun]
            show Calls P f' _ c.w _
            refine hc.mono fun e w' hret => ?_
            obtain ⟨u, rfl, hru, hb⟩ := hret
            obtain ⟨r2, e2⟩ := below_ok r1 hb (S' := Ext' S' c.w w') (fun _ h => .inl h) (fun _ h => h)
            exact hK _ u rfl r2 (e1.trans e2) hru
        · exact (fail_ne h).elim
      · exact (fail_ne h).elim
  | range t x =>
    simp only [vop] at h
    split at h
    · rename_i d s ht hx
      have hu : a.eval x = .string s := relV_str (by have := hρ x; rw [hx] at this; exact this)
      obtain ⟨c', hm, hw, r', e', hv⟩ := newBoxO_ok (P := P) hr h (.stringIter s 0) (.inl ⟨rfl, rfl⟩)
      refine goes_wp hK ⟨c', _, hm, r', e', hv, .inl ?_⟩
      have hund := (hT _ _ ht).und
      rw [hw]
      simp [execOp, hu, Instr.range, run_underlying hund, newObj]
      rfl
    · exact (fail_ne h).elim
  | next x isS =>
    cases isS with
    | false => exact (fail_ne h).elim
    | true =>
      simp only [vop] at h
      split at h
      · rename_i b hx
        have hp := hρ x
        rw [hx] at hp
        obtain ⟨B, hB, hpt, _, hv⟩ := hp
        simp only [Res.ev, hB] at h
        obtain ⟨Bt, Bx, Bl⟩ := B
        simp only [pathTy] at hpt
        injection hpt with hpt
        subst hpt
        have hit : c.w.heap[c.bx b]? = some (.stringIter Bx.1 Bx.2) := by
          rcases hr.box b _ hB with ⟨h, _⟩ | ⟨_, _, _, cs', h, _⟩
          · exact h
          · exact h.elim
        simp only [iterNext, Res.ev] at h
        by_cases hlt : Bx.2 < ByteArray.size Bx.1
        · rw [decide_eq_true hlt] at h
          simp only [cond_true, Res.ev] at h
          obtain ⟨rfl, rfl⟩ := ok_inj h
          obtain ⟨r2, e2⟩ := setBox_ok hr hB (x := (Bx.1, Bx.2 + (Utf8.decode Bx.1 Bx.2).2)) (lk := []) (w' := c.w.iterAt (c.bx b) Bx.1 (Bx.2 + (Utf8.decode Bx.1 Bx.2).2)) rfl rfl rfl (Lib.iterAt_size _ _ _ _)
            (fun g hg => Lib.iterAt_other _ _ _ _ _ hg) (.inl ⟨Lib.iterAt_heap _ _ _ _ _ hit, rfl⟩)
          refine goes_wp hK ⟨_, _, rfl, r2, e2, ⟨_, rfl, ⟨_, _, rfl, rfl, _, _, rfl, rfl, _, rfl, rfl⟩⟩, .inl ?_⟩
          have := Lib.run_next_any_at (P := P) c.w (c.bx b) Bx.1 Bx.2 type hit hlt
          simp [execOp, hv, pathOff, this]
        · rw [decide_eq_false hlt] at h
          simp only [cond_false, Res.ev] at h
          obtain ⟨rfl, rfl⟩ := ok_inj h
          have := Lib.run_next_end_at (P := P) c.w (c.bx b) Bx.1 Bx.2 type hit hlt
          exact goes_wp hK (Goes.pure hr (u := .tuple #[.bool false]) ⟨_, rfl, _, rfl, rfl⟩ (by simp [execOp, hv, pathOff, this]))
      · exact (fail_ne h).elim
  | makeInterface t x =>
    simp only [vop] at h
    split at h
    · rename_i n ht hx
      obtain ⟨rfl, rfl⟩ := ok_inj h
      have hu : a.eval x = .int .i64 n := relV_int (by have := hρ x; rw [hx] at this; exact this)
      have hund := (hT _ _ ht).und
      exact goes_wp hK (Goes.pure hr (u := .iface t (.int .i64 n)) ⟨_, rfl, rfl⟩ (by simp [execOp, Instr.makeInterface, run_underlying hund, hu]))
    · rename_i s ht hx
      obtain ⟨rfl, rfl⟩ := ok_inj h
      have hu : a.eval x = .string s := relV_str (by have := hρ x; rw [hx] at this; exact this)
      have hund := (hT _ _ ht).und
      exact goes_wp hK (Goes.pure hr (u := .iface t (.string s)) ⟨_, rfl, rfl⟩ (by simp [execOp, Instr.makeInterface, run_underlying hund, hu]))
    · rename_i e b p pt ht hx
      obtain ⟨rfl, rfl⟩ := ok_inj h
      have hp := hρ x
      rw [hx] at hp
      have hund : P.underlying t = some (.pointer e) := (hT _ _ ht).und
      exact goes_wp hK (Goes.pure hr (u := .iface t (a.eval x)) ⟨_, rfl, hp⟩ (by simp [execOp, Instr.makeInterface, run_underlying hund]))
    · exact (fail_ne h).elim
  | typeAssert x xt asserted ok =>
    simp only [vop] at h
    split at h
    · rename_i it st it' st' y ht hx
      split at h
      · rename_i hb
        rw [Bool.and_eq_true, decide_eq_true_eq, decide_eq_true_eq] at hb
        obtain ⟨rfl, rfl⟩ := hb
        have hu : a.eval x = anyV it' st' y := by
          have := hρ x
          rw [hx] at this
          simpa [RelV, RelD, RelV1, RelC] using this
        obtain ⟨rfl, u, hv, hrun⟩ := assert_ok (P := P) (E := E) (c := c) (hT _ _ ht).und h c.w
        exact goes_wp hK (Goes.pure hr hv (by simp [execOp, hu, hrun]))
      · exact (fail_ne h).elim
    · exact (fail_ne h).elim
  | _ => exact (fail_ne h).elim
end
end Go.Vm
end
section
namespace Go.Vm
open Go.RowKit
set_option linter.unusedVariables false
set_option linter.unusedSimpArgs false

def oneEv (G : Gam) (T : Tab) (o : Oper) (st : St) : Option (St × FP) :=
  ((vop G T o.dst (evalV st.tmp) o.op).ev st.mem ⟨[], []⟩).map fun p => (⟨putV st.tmp o.dst p.1, p.2.1⟩, p.2.2)
def guardEv (G : Gam) (T : Tab) (ops : Array Oper) (o : Oper) (st : St) : Option (St × FP) :=
  match o.guard with
  | none => oneEv G T o st
  | some (j, want) => match dstAt ops j with
    | some t => match st.tmp t with
      | .dat ⟨.bool, b⟩ => if b = want then oneEv G T o st else some (skipOp o st, ⟨[], []⟩)
      | .und => some (skipOp o st, ⟨[], []⟩)
      | _ => none
    | none => none
theorem oneOp_std {R : Type} (G : Gam) (T : Tab) (o : Oper) (st : St) (k : St → FP → Option R) : oneOp (Alg.std R) G T o st k = (oneEv G T o st).bind fun p => k p.1 p.2 := by
  unfold oneOp oneEv
  rw [Res.run_std]
  cases (vop G T o.dst (evalV st.tmp) o.op).ev st.mem ⟨[], []⟩ <;> rfl
theorem upd_same {α : Type} {f : Nat → α} {t : Nat} {v : α} (h : f t = v) : upd f t v = f := by
  funext i
  unfold upd
  cases hb : Nat.beq i t with
  | true => rw [Nat.eq_of_beq_eq_true hb, h]; rfl
  | false => rfl
theorem guardOp_std {R : Type} (G : Gam) (T : Tab) (ops : Array Oper) (o : Oper) (st : St) (k : St → FP → Option R) : guardOp (Alg.std R) G T ops o st k = (guardEv G T ops o st).bind fun p => k p.1 p.2 := by
  unfold guardOp guardEv
  cases o.guard with
  | none => exact oneOp_std G T o st k
  | some jw =>
    obtain ⟨j, want⟩ := jw
    simp only
    cases dstAt ops j with
    | none => rfl
    | some t =>
      simp only
      generalize hb : st.tmp t = tv
      split
      · rename_i b
        cases b <;> cases want
        · show oneOp (Alg.std R) G T o ⟨upd st.tmp t (boolV false), st.mem⟩ k = _
          rw [upd_same (show st.tmp t = boolV false from hb)]
          show _ = Option.bind (if false = false then _ else _) _
          rw [if_pos rfl]
          exact oneOp_std G T o st k
        · show k (skipOp o ⟨upd st.tmp t (boolV false), st.mem⟩) _ = _
          rw [upd_same (show st.tmp t = boolV false from hb)]
          rfl
        · show k (skipOp o ⟨upd st.tmp t (boolV true), st.mem⟩) _ = _
          rw [upd_same (show st.tmp t = boolV true from hb)]
          rfl
        · show oneOp (Alg.std R) G T o ⟨upd st.tmp t (boolV true), st.mem⟩ k = _
          rw [upd_same (show st.tmp t = boolV true from hb)]
          show _ = Option.bind (if true = true then _ else _) _
          rw [if_pos rfl]
          exact oneOp_std G T o st k
      · rfl
      · rename_i hne hne2
        first
          | rfl
          | (split
             · rename_i b
               exact (hne b rfl).elim
             · exact (hne2 rfl).elim
             · rfl)

section
variable (G : Gam) (T : Tab) (ops : Array Oper)
def Run (F : Nat → FP) : List Nat → St → St → Prop
  | [], s, s' => s = s'
  | i :: l, s, s' => ∃ o s1, ops[i]? = some o ∧ guardEv G T ops o s = some (s1, F i) ∧ Run F l s1 s'

theorem runOps_run {R : Type} (k : St → List FP → Option R) (r : R) : ∀ (os : List Oper) (n : Nat) (st : St) (acc : List FP), (∀ i o, os[i]? = some o → ops[n + i]? = some o) → acc.length = n →
    runOps (Alg.std R) G T ops os st acc k = some r → ∃ st' fps, k st' (acc.reverse ++ fps) = some r ∧ fps.length = os.length ∧
      ∀ F : Nat → FP, (∀ i f, fps[i]? = some f → F (n + i) = f) → Run G T ops F (List.range' n os.length) st st'
  | [], n, st, acc, _, _, h => ⟨st, [], by simpa [runOps] using h, rfl, fun _ _ => rfl⟩
  | o :: os, n, st, acc, ho, hn, h => by
    unfold runOps at h
    rw [guardOp_std] at h
    cases hg : guardEv G T ops o st with
    | none => rw [hg] at h; cases h
    | some p =>
      obtain ⟨s1, f⟩ := p
      rw [hg] at h
      obtain ⟨st', fps, hk, hl, hr⟩ := runOps_run k r os (n + 1) s1 (f :: acc) (fun i o' hi => by
        have := ho (i + 1) o' (by simpa using hi)
        rwa [← Nat.add_assoc, Nat.add_right_comm] at this) (by simp [hn]) h
      refine ⟨st', f :: fps, by simpa [List.reverse_cons, List.append_assoc] using hk, by simp [hl], fun F hF => ?_⟩
      rw [List.length_cons, List.range'_succ]
      refine ⟨o, s1, by simpa using ho 0 o rfl, ?_, hr F (fun i f' hi => ?_)⟩
      · rw [hg, ← hF 0 f rfl]; rfl
      · have := hF (i + 1) f' (by simpa using hi)
        rwa [← Nat.add_assoc, Nat.add_right_comm] at this
end

def SameAt (i : Nat) (m m' : Mem) : Prop := (∀ b, i = idB b → m.box b = m'.box b) ∧ ∀ a, i = idA a → m.arr a = m'.arr a
theorem SameAt.refl (i : Nat) (m : Mem) : SameAt i m m := ⟨fun _ _ => rfl, fun _ _ => rfl⟩
theorem SameAt.symm {i : Nat} {m m' : Mem} (h : SameAt i m m') : SameAt i m' m := ⟨fun b e => (h.1 b e).symm, fun a e => (h.2 a e).symm⟩
theorem SameAt.trans {i : Nat} {m m' m'' : Mem} (h : SameAt i m m') (k : SameAt i m' m'') : SameAt i m m'' := ⟨fun b e => (h.1 b e).trans (k.1 b e), fun a e => (h.2 a e).trans (k.2 a e)⟩
theorem idB_inj {a b : Nat} (h : idB a = idB b) : a = b := by unfold idB at h; omega
theorem idA_inj {a b : Nat} (h : idA a = idA b) : a = b := by unfold idA at h; omega
theorem idB_ne_idA {a b : Nat} (h : idB a = idA b) : False := by unfold idA idB at h; omega
theorem Mem.ext_same {m m' : Mem} (h : ∀ i, SameAt i m m') : m = m' := by
  obtain ⟨b, a⟩ := m
  obtain ⟨b', a'⟩ := m'
  have h1 : b = b' := funext fun i => (h (idB i)).1 i rfl
  have h2 : a = a' := funext fun i => (h (idA i)).2 i rfl
  rw [h1, h2]
theorem setB_at {m m' : Mem} {b : Nat} {x : Box} {i : Nat} (h : i ≠ idB b → SameAt i m m') : SameAt i (m.setB b x) (m'.setB b x) := by
  by_cases hi : i = idB b
  · subst hi
    exact ⟨fun b' e => by rw [← idB_inj e]; simp [Mem.setB, upd], fun a e => (idB_ne_idA e).elim⟩
  · obtain ⟨h1, h2⟩ := h hi
    refine ⟨fun b' e => ?_, h2⟩
    simp only [Mem.setB, upd]
    cases hb : Nat.beq b' b with
    | true => rfl
    | false => exact h1 b' e
theorem setA_at {m m' : Mem} {b : Nat} {x : AS} {i : Nat} (h : i ≠ idA b → SameAt i m m') : SameAt i (m.setA b x) (m'.setA b x) := by
  by_cases hi : i = idA b
  · subst hi
    exact ⟨fun a e => (idB_ne_idA e.symm).elim, fun b' e => by rw [← idA_inj e]; simp [Mem.setA, upd]⟩
  · obtain ⟨h1, h2⟩ := h hi
    refine ⟨h1, fun b' e => ?_⟩
    simp only [Mem.setA, upd]
    cases hb : Nat.beq b' b with
    | true => rfl
    | false => exact h2 b' e
theorem setB_off {m : Mem} {b : Nat} {x : Box} {i : Nat} (h : i ≠ idB b) : SameAt i m (m.setB b x) :=
  ⟨fun b' e => by
    simp only [Mem.setB, upd]
    cases hb : Nat.beq b' b with
    | true => exact absurd (by rw [e, Nat.eq_of_beq_eq_true hb]) h
    | false => rfl, fun _ _ => rfl⟩
theorem setA_off {m : Mem} {b : Nat} {x : AS} {i : Nat} (h : i ≠ idA b) : SameAt i m (m.setA b x) :=
  ⟨fun _ _ => rfl, fun b' e => by
    simp only [Mem.setA, upd]
    cases hb : Nat.beq b' b with
    | true => exact absurd (by rw [e, Nat.eq_of_beq_eq_true hb]) h
    | false => rfl⟩

theorem Res.reads {α : Type} : ∀ (r : Res α) (m : Mem) (fp : FP) (v : α) (m' : Mem) (fp' : FP), r.ev m fp = some (v, m', fp') → ∀ i, i ∈ fp.r → i ∈ fp'.r
  | .fail, _, _, _, _, _, h, _, _ => by cases h
  | .ok a, m, fp, v, m', fp', h, i, hi => by
    injection h with h; injection h with h1 h2; injection h2 with h2 h3; subst h3; exact hi
  | .br b x y, m, fp, v, m', fp', h, i, hi => by
    cases b
    · exact Res.reads y m fp v m' fp' h i hi
    · exact Res.reads x m fp v m' fp' h i hi
  | .call o f, m, fp, v, m', fp', h, i, hi => by
    cases o with
    | none => cases h
    | some u => exact Res.reads (f u) m fp v m' fp' h i hi
  | .getB b f, m, fp, v, m', fp', h, i, hi => Res.reads (f (m.box b)) m _ v m' fp' h i (List.mem_cons_of_mem _ hi)
  | .setB b x r, m, fp, v, m', fp', h, i, hi => Res.reads r _ _ v m' fp' h i hi
  | .getA a f, m, fp, v, m', fp', h, i, hi => Res.reads (f (m.arr a)) m _ v m' fp' h i (List.mem_cons_of_mem _ hi)
  | .setA a x r, m, fp, v, m', fp', h, i, hi => Res.reads r _ _ v m' fp' h i hi

theorem Res.frame {α : Type} : ∀ (r : Res α) (m m2 : Mem) (fp : FP) (v : α) (m' : Mem) (fp' : FP), r.ev m fp = some (v, m', fp') → (∀ i, i ∈ fp'.r → SameAt i m m2) →
    ∃ m2' nw, r.ev m2 fp = some (v, m2', fp') ∧ fp'.w = nw ++ fp.w ∧ (∀ i, i ∉ nw → SameAt i m m' ∧ SameAt i m2 m2') ∧ ∀ i, i ∈ nw → SameAt i m' m2'
  | .fail, _, _, _, _, _, _, h, _ => by cases h
  | .ok a, m, m2, fp, v, m', fp', h, hs => by
    injection h with h; injection h with h1 h2; injection h2 with h2 h3; subst h1 h2 h3
    exact ⟨m2, [], rfl, rfl, fun i _ => ⟨SameAt.refl i _, SameAt.refl i _⟩, fun i hi => by simp at hi⟩
  | .br b x y, m, m2, fp, v, m', fp', h, hs => by
    cases b
    · exact Res.frame y m m2 fp v m' fp' h hs
    · exact Res.frame x m m2 fp v m' fp' h hs
  | .call o f, m, m2, fp, v, m', fp', h, hs => by
    cases o with
    | none => cases h
    | some u => exact Res.frame (f u) m m2 fp v m' fp' h hs
  | .getB b f, m, m2, fp, v, m', fp', h, hs => by
    have hb : m.box b = m2.box b := (hs (idB b) (Res.reads (f (m.box b)) m ⟨idB b :: fp.r, fp.w⟩ v m' fp' h (idB b) List.mem_cons_self)).1 b rfl
    obtain ⟨m2', nw, h1, h2, h3, h4⟩ := Res.frame (f (m.box b)) m m2 _ v m' fp' h hs
    exact ⟨m2', nw, by simp only [Res.ev]; rw [← hb]; exact h1, h2, h3, h4⟩
  | .getA b f, m, m2, fp, v, m', fp', h, hs => by
    have hb : m.arr b = m2.arr b := (hs (idA b) (Res.reads (f (m.arr b)) m ⟨idA b :: fp.r, fp.w⟩ v m' fp' h (idA b) List.mem_cons_self)).2 b rfl
    obtain ⟨m2', nw, h1, h2, h3, h4⟩ := Res.frame (f (m.arr b)) m m2 _ v m' fp' h hs
    exact ⟨m2', nw, by simp only [Res.ev]; rw [← hb]; exact h1, h2, h3, h4⟩
  | .setB b x r, m, m2, fp, v, m', fp', h, hs => by
    obtain ⟨m2', nw, h1, h2, h3, h4⟩ := Res.frame r (m.setB b x) (m2.setB b x) _ v m' fp' h (fun i hi => setB_at fun _ => hs i hi)
    refine ⟨m2', nw ++ [idB b], h1, by rw [h2]; simp, fun i hi => ?_, fun i hi => ?_⟩
    · simp only [List.mem_append, List.mem_singleton, not_or] at hi
      exact ⟨(setB_off hi.2).trans (h3 i hi.1).1, (setB_off hi.2).trans (h3 i hi.1).2⟩
    · by_cases hn : i ∈ nw
      · exact h4 i hn
      · have hb : i = idB b := by simpa [hn] using hi
        exact ((h3 i hn).1.symm.trans (setB_at fun hne => absurd hb hne)).trans (h3 i hn).2
  | .setA b x r, m, m2, fp, v, m', fp', h, hs => by
    obtain ⟨m2', nw, h1, h2, h3, h4⟩ := Res.frame r (m.setA b x) (m2.setA b x) _ v m' fp' h (fun i hi => setA_at fun _ => hs i hi)
    refine ⟨m2', nw ++ [idA b], h1, by rw [h2]; simp, fun i hi => ?_, fun i hi => ?_⟩
    · simp only [List.mem_append, List.mem_singleton, not_or] at hi
      exact ⟨(setA_off hi.2).trans (h3 i hi.1).1, (setA_off hi.2).trans (h3 i hi.1).2⟩
    · by_cases hn : i ∈ nw
      · exact h4 i hn
      · have hb : i = idA b := by simpa [hn] using hi
        exact ((h3 i hn).1.symm.trans (setA_at fun hne => absurd hb hne)).trans (h3 i hn).2

section
variable {G : Gam} {T : Tab} {ops : Array Oper}
theorem vop_congr {dst : Option Tmp} {ρ ρ' : Operand → V} : ∀ (op : Op), (∀ x ∈ op.operands, ρ x = ρ' x) → vop G T dst ρ op = vop G T dst ρ' op := by
  have opt : ∀ (o : Option Operand), (∀ x ∈ o.toArray, ρ x = ρ' x) → o.map ρ = o.map ρ' := fun o h => by
    cases o with
    | none => rfl
    | some x => simp only [Option.map_some]; rw [h x (by simp)]
  have pairs : ∀ ps : Array (Nat × Operand), (∀ x ∈ (ps.toList.map (·.2)).toArray, ρ x = ρ' x) → (ps.toList.map fun p => (p.1, ρ p.2)) = ps.toList.map fun p => (p.1, ρ' p.2) := fun ps h =>
    List.map_congr_left fun p hp => by rw [h p.2 (by simpa using ⟨p.1, by simpa using hp⟩)]
  have arr : ∀ xs : Array Operand, (∀ x ∈ xs, ρ x = ρ' x) → xs.toList.map ρ = xs.toList.map ρ' := fun xs h => List.map_congr_left fun x hx => h x (by simpa using hx)
  intro op h
  cases op with
  | move x => simp only [vop]; rw [h x (by simp [Op.operands])]
  | assign x => simp only [vop]; rw [h x (by simp [Op.operands])]
  | pick c a b => simp only [vop]; rw [h c (by simp [Op.operands]), h a (by simp [Op.operands]), h b (by simp [Op.operands])]
  | alloc e => rfl
  | box e x => simp only [vop]; rw [h x (by simp [Op.operands])]
  | build t ps => simp only [vop]; rw [pairs ps (by simpa [Op.operands] using h)]
  | buildSlice t n ps => simp only [vop]; rw [pairs ps (by simpa [Op.operands] using h)]
  | load t x => simp only [vop]; rw [h x (by simp [Op.operands])]
  | store t a x => simp only [vop]; rw [h a (by simp [Op.operands]), h x (by simp [Op.operands])]
  | nilCheck x => simp only [vop]; rw [h x (by simp [Op.operands])]
  | binOp o t x y t' => simp only [vop]; rw [h x (by simp [Op.operands]), h y (by simp [Op.operands])]
  | unOp o t x => simp only [vop]; rw [h x (by simp [Op.operands])]
  | convert s d x => simp only [vop]; rw [h x (by simp [Op.operands])]
  | makeFunc fn first caps => simp only [vop]; rw [arr caps (fun x hx => h x (by simp [Op.operands, hx]))]
  | slice t x lo hi mx =>
    cases mx with
    | some _ => rfl
    | none =>
      simp only [vop]
      rw [h x (by simp [Op.operands]), opt lo (fun x hx => h x (by simp [Op.operands] at hx ⊢; simp [hx])), opt hi (fun x hx => h x (by simp [Op.operands] at hx ⊢; simp [hx]))]
  | fieldAddr s x f => simp only [vop]; rw [h x (by simp [Op.operands])]
  | field s x f => simp only [vop]; rw [h x (by simp [Op.operands])]
  | indexAddr t x i => simp only [vop]; rw [h x (by simp [Op.operands]), h i (by simp [Op.operands])]
  | index t x i => simp only [vop]; rw [h x (by simp [Op.operands]), h i (by simp [Op.operands])]
  | extract x i => simp only [vop]; rw [h x (by simp [Op.operands])]
  | makeMap t r =>
    cases r with
    | none => rfl
    | some _ => rfl
  | mapUpdate t m x y => simp only [vop]; rw [h m (by simp [Op.operands]), h x (by simp [Op.operands]), h y (by simp [Op.operands])]
  | lookup t m x ok => simp only [vop]; rw [h m (by simp [Op.operands]), h x (by simp [Op.operands])]
  | range t x => simp only [vop]; rw [h x (by simp [Op.operands])]
  | makeInterface t x => simp only [vop]; rw [h x (by simp [Op.operands])]
  | typeAssert x xt a ok => simp only [vop]; rw [h x (by simp [Op.operands])]
  | next x b =>
    cases b with
    | false => rfl
    | true => simp only [vop]; rw [h x (by simp [Op.operands])]
  | call cl =>
    obtain ⟨callee, args, ats⟩ := cl
    simp only [vop, callV]
    have hargs : args.toList.map ρ = args.toList.map ρ' := arr args (fun x hx => h x (by simp [Op.operands, Call.operands, hx]))
    cases callee with
    | builtin b => simp only; rw [hargs]
    | invoke r m => rfl
    | value f =>
      simp only
      rw [h f (by simp [Op.operands, Call.operands]), hargs]
      split
      · rfl
      · split
        · rename_i x hx
          rw [h x (by
            have : args = #[x] := by apply Array.ext'; exact hx
            simp [Op.operands, Call.operands, this])]
        · rfl
      · rfl
  | _ => rfl

theorem evalV_put {tmp : Nat → V} {dst : Option Tmp} {v : V} {x : Operand} (h : ∀ d, dst = some d → x ≠ .tmp d) : evalV (putV tmp dst v) x = evalV tmp x := by
  cases dst with
  | none => rfl
  | some d =>
    cases x with
    | tmp t =>
      simp only [evalV, putV, upd]
      cases hb : Nat.beq t d with
      | true => exact absurd (by rw [Nat.eq_of_beq_eq_true hb]) (h d rfl)
      | false => rfl
    | _ => rfl
theorem putV_comm {tmp : Nat → V} {x y : Option Tmp} {u v : V} (h : ∀ d, x = some d → y ≠ some d) : putV (putV tmp x u) y v = putV (putV tmp y v) x u := by
  cases x with
  | none => rfl
  | some d =>
    cases y with
    | none => rfl
    | some e =>
      have hne : d ≠ e := fun he => h d rfl (by rw [he])
      funext i
      simp only [putV, upd]
      cases h1 : Nat.beq i e with
      | true =>
        cases h2 : Nat.beq i d with
        | true => exact absurd ((Nat.eq_of_beq_eq_true h2).symm.trans (Nat.eq_of_beq_eq_true h1)) hne
        | false => rfl
      | false => rfl
theorem putV_at {tmp : Nat → V} {dst : Option Tmp} {v : V} {t : Tmp} (h : ∀ d, dst = some d → d ≠ t) : putV tmp dst v t = tmp t := by
  cases dst with
  | none => rfl
  | some d =>
    simp only [putV, upd]
    cases hb : Nat.beq t d with
    | true => exact absurd (Nat.eq_of_beq_eq_true hb).symm (h d rfl)
    | false => rfl

theorem guardEv_some {o : Oper} {st s1 : St} {f : FP} (h : guardEv G T ops o st = some (s1, f)) :
    (∃ v, s1.tmp = putV st.tmp o.dst v ∧ (vop G T o.dst (evalV st.tmp) o.op).ev st.mem ⟨[], []⟩ = some (v, s1.mem, f) ∧
      ∀ st' : St, (∀ d ∈ o.looksAt ops, st'.tmp d = st.tmp d) → guardEv G T ops o st' = oneEv G T o st') ∨
    (s1 = skipOp o st ∧ f = ⟨[], []⟩ ∧ ∀ st' : St, (∀ d ∈ o.looksAt ops, st'.tmp d = st.tmp d) → guardEv G T ops o st' = some (skipOp o st', ⟨[], []⟩)) := by
  have one : oneEv G T o st = some (s1, f) → ∃ v, s1.tmp = putV st.tmp o.dst v ∧ (vop G T o.dst (evalV st.tmp) o.op).ev st.mem ⟨[], []⟩ = some (v, s1.mem, f) := by
    intro h
    unfold oneEv at h
    cases he : (vop G T o.dst (evalV st.tmp) o.op).ev st.mem ⟨[], []⟩ with
    | none => rw [he] at h; cases h
    | some p =>
      rw [he] at h
      injection h with h
      injection h with h1 h2
      subst h1 h2
      exact ⟨p.1, rfl, rfl⟩
  unfold guardEv at h
  cases hg : o.guard with
  | none =>
    rw [hg] at h
    obtain ⟨v, h1, h2⟩ := one h
    exact .inl ⟨v, h1, h2, fun st' _ => by unfold guardEv; rw [hg]⟩
  | some jw =>
    obtain ⟨j, want⟩ := jw
    rw [hg] at h
    simp only at h
    cases hd : dstAt ops j with
    | none => rw [hd] at h; cases h
    | some t =>
      rw [hd] at h
      simp only at h
      have hlook : t ∈ o.looksAt ops := by
        unfold Oper.looksAt
        rw [hg]
        refine List.mem_append_right _ ?_
        unfold dstAt at hd
        simp only [hd]
        simp
      split at h
      · rename_i b hb
        split at h
        · rename_i hw
          obtain ⟨v, h1, h2⟩ := one h
          refine .inl ⟨v, h1, h2, fun st' hs => ?_⟩
          unfold guardEv
          rw [hg]
          simp only [hd, hs t hlook, hb, if_pos hw]
        · rename_i hw
          injection h with h
          injection h with h1 h2
          refine .inr ⟨h1.symm, h2.symm, fun st' hs => ?_⟩
          unfold guardEv
          rw [hg]
          simp only [hd, hs t hlook, hb, if_neg hw]
      · rename_i hb
        injection h with h
        injection h with h1 h2
        refine .inr ⟨h1.symm, h2.symm, fun st' hs => ?_⟩
        unfold guardEv
        rw [hg]
        simp only [hd, hs t hlook, hb]
      · cases h

def Ind (ops : Array Oper) (F : Nat → FP) (i j : Nat) : Prop := ∀ x y, ops[i]? = some x → ops[j]? = some y → x.apart ops y = true ∧ fpOk (F i) (F j) = true
theorem disj_spec {l m : List Nat} (h : disj l m = true) : ∀ i, i ∈ l → i ∉ m := fun i hi hm => by
  unfold disj at h
  have := List.all_eq_true.1 h i hi
  simp only [Bool.not_eq_true'] at this
  have h2 : (m.any fun y => Nat.beq i y) = true := List.any_eq_true.2 ⟨i, hm, Nat.beq_refl i⟩
  rw [h2] at this
  cases this
theorem operand_look {o : Oper} {x : Operand} (hx : x ∈ o.op.operands) {d : Tmp} (hd : d ∉ o.looksAt ops) : x ≠ .tmp d := fun e => by
  subst e
  exact hd (List.mem_append_left _ (List.mem_filterMap.2 ⟨.tmp d, by simpa using hx, rfl⟩))

theorem swap {F : Nat → FP} {i j : Nat} {s s2 : St} {l : List Nat} (hi : Ind ops F i j) (h : Run G T ops F (i :: j :: l) s s2) : Run G T ops F (j :: i :: l) s s2 := by
  obtain ⟨x, s1, hx, hgx, y, s3, hy, hgy, hrest⟩ := h
  obtain ⟨hap, hfp⟩ := hi x y hx hy
  obtain ⟨hax, hay, haz⟩ := Oper.apart_spec hap
  simp only [fpOk, Bool.and_eq_true] at hfp
  have dwr := disj_spec hfp.1.1
  have dww := disj_spec hfp.1.2
  have dwr' := disj_spec hfp.2
  have ytmp : ∀ v, ∀ d ∈ y.looksAt ops, putV s.tmp x.dst v d = s.tmp d := fun v d hd => putV_at fun d' hd' e => hax d' hd' (e ▸ hd)
  have xtmp : ∀ v, ∀ d ∈ x.looksAt ops, putV s.tmp y.dst v d = s.tmp d := fun v d hd => putV_at fun d' hd' e => haz d' hd' (e ▸ hd)
  have yop : ∀ v, vop G T y.dst (evalV (putV s.tmp x.dst v)) y.op = vop G T y.dst (evalV s.tmp) y.op := fun v => vop_congr _ fun z hz => evalV_put fun d hd => operand_look hz (hax d hd)
  have xop : ∀ v, vop G T x.dst (evalV (putV s.tmp y.dst v)) x.op = vop G T x.dst (evalV s.tmp) x.op := fun v => vop_congr _ fun z hz => evalV_put fun d hd => operand_look hz (haz d hd)
  rcases guardEv_some hgx with ⟨vx, ex, hvx, cx⟩ | ⟨ex, fx, cx⟩
  · rcases guardEv_some hgy with ⟨vy, ey, hvy, cy⟩ | ⟨ey, fy, cy⟩
    · -- both run
      rw [ex, yop] at hvy
      obtain ⟨_, nwx, _, hwx, hoffx, _⟩ := Res.frame _ s.mem s.mem ⟨[], []⟩ vx s1.mem (F i) hvx (fun i _ => SameAt.refl i _)
      simp only [List.append_nil] at hwx
      obtain ⟨my, nwy, hy1, hwy, hoffy, hony⟩ := Res.frame _ s1.mem s.mem ⟨[], []⟩ vy s3.mem (F j) hvy (fun k hk => (hoffx k (fun hn => dwr k (by rw [hwx]; exact hn) hk)).1.symm)
      simp only [List.append_nil] at hwy
      obtain ⟨mx, nwx2, hx1, hwx2, hoffx2, honx2⟩ := Res.frame _ s.mem my ⟨[], []⟩ vx s1.mem (F i) hvx (fun k hk => (hoffy k (fun hn => dwr' k (by rw [hwy]; exact hn) hk)).2)
      simp only [List.append_nil] at hwx2
      have hmem : mx = s3.mem := Mem.ext_same fun k => by
        by_cases hkx : k ∈ (F i).w
        · have hky : k ∉ nwy := by rw [← hwy]; exact dww k hkx
          exact (honx2 k (by rw [← hwx2]; exact hkx)).symm.trans (hoffy k hky).1
        · have hkx2 : k ∉ nwx2 := by rw [← hwx2]; exact hkx
          have hkx3 : k ∉ nwx := by rw [← hwx]; exact hkx
          by_cases hky : k ∈ (F j).w
          · exact (hoffx2 k hkx2).2.symm.trans (hony k (by rw [← hwy]; exact hky)).symm
          · have hky2 : k ∉ nwy := by rw [← hwy]; exact hky
            exact ((hoffx2 k hkx2).2.symm.trans (hoffy k hky2).2.symm).trans ((hoffx k hkx3).1.trans (hoffy k hky2).1)
      have e1 : oneEv G T y s = some (⟨putV s.tmp y.dst vy, my⟩, F j) := by unfold oneEv; rw [hy1]; rfl
      have e2 : oneEv G T x ⟨putV s.tmp y.dst vy, my⟩ = some (⟨putV (putV s.tmp y.dst vy) x.dst vx, mx⟩, F i) := by unfold oneEv; rw [xop, hx1]; rfl
      have g1 : guardEv G T ops y s = oneEv G T y s := cy s (fun d hd => by rw [ex]; exact (ytmp vx d hd).symm)
      have g2 : guardEv G T ops x ⟨putV s.tmp y.dst vy, my⟩ = oneEv G T x _ := cx _ (fun d hd => xtmp vy d hd)
      refine ⟨y, _, hy, g1.trans e1, x, _, hx, g2.trans e2, ?_⟩
      have hs3 : (⟨putV (putV s.tmp y.dst vy) x.dst vx, mx⟩ : St) = s3 := by
        obtain ⟨t3, m3⟩ := s3
        simp only at hmem ey
        rw [hmem, ey, ex, putV_comm hay]
      rw [hs3]
      exact hrest
    · -- y is passed by
      subst ey
      have g1 : guardEv G T ops y s = some (skipOp y s, ⟨[], []⟩) := cy s (fun d hd => by rw [ex]; exact (ytmp vx d hd).symm)
      have g2 : guardEv G T ops x (skipOp y s) = oneEv G T x _ := cx _ (fun d hd => xtmp .und d hd)
      have e2 : oneEv G T x (skipOp y s) = some (⟨putV (putV s.tmp y.dst .und) x.dst vx, s1.mem⟩, F i) := by unfold oneEv skipOp; rw [xop, hvx]; rfl
      refine ⟨y, _, hy, by rw [g1, fy], x, _, hx, g2.trans e2, ?_⟩
      have hs3 : (⟨putV (putV s.tmp y.dst .und) x.dst vx, s1.mem⟩ : St) = skipOp y s1 := by
        obtain ⟨t1, m1⟩ := s1
        simp only at ex
        unfold skipOp
        rw [ex, putV_comm hay]
      rw [hs3]
      exact hrest
  · subst ex
    rcases guardEv_some hgy with ⟨vy, ey, hvy, cy⟩ | ⟨ey, fy, cy⟩
    · unfold skipOp at hvy ey
      simp only at hvy ey
      rw [yop] at hvy
      have g1 : guardEv G T ops y s = oneEv G T y s := cy s (fun d hd => (ytmp .und d hd).symm)
      have e1 : oneEv G T y s = some (⟨putV s.tmp y.dst vy, s3.mem⟩, F j) := by unfold oneEv; rw [hvy]; rfl
      have g2 : guardEv G T ops x ⟨putV s.tmp y.dst vy, s3.mem⟩ = some (skipOp x _, ⟨[], []⟩) := cx _ (fun d hd => xtmp vy d hd)
      refine ⟨y, _, hy, g1.trans e1, x, _, hx, by rw [g2, fx], ?_⟩
      have hs3 : skipOp x ⟨putV s.tmp y.dst vy, s3.mem⟩ = s3 := by
        obtain ⟨t3, m3⟩ := s3
        simp only at ey
        unfold skipOp
        rw [ey, putV_comm hay]
      rw [hs3]
      exact hrest
    · subst ey
      have g1 : guardEv G T ops y s = some (skipOp y s, ⟨[], []⟩) := cy s (fun d hd => (ytmp .und d hd).symm)
      have g2 : guardEv G T ops x (skipOp y s) = some (skipOp x (skipOp y s), ⟨[], []⟩) := cx _ (fun d hd => xtmp .und d hd)
      refine ⟨y, _, hy, by rw [g1, fy], x, _, hx, by rw [g2, fx], ?_⟩
      have hs3 : skipOp x (skipOp y s) = skipOp y (skipOp x s) := by
        unfold skipOp
        rw [putV_comm hay]
      rw [hs3]
      exact hrest
theorem front {F : Nat → FP} {i : Nat} {l : List Nat} : ∀ {r : List Nat} {s s' : St}, (∀ k ∈ r, Ind ops F k i) → Run G T ops F (r ++ i :: l) s s' → Run G T ops F (i :: r ++ l) s s'
  | [], _, _, _, h => h
  | k :: r, s, s', hk, h => by
    obtain ⟨o, s1, ho, hg, hr⟩ := h
    have := front (fun k' hk' => hk k' (List.mem_cons_of_mem _ hk')) hr
    exact swap (hk k List.mem_cons_self) ⟨o, s1, ho, hg, this⟩
end
end Go.Vm
end
section
namespace Go.Vm
open Go.RowKit
set_option linter.unusedVariables false
set_option linter.unusedSimpArgs false

structure Inv (P : Program) (E : Env) (n : Nat) (st : St) (c : Cx) (a : Act) : Prop where
  m : c.m = st.mem
  rel : Rel E c
  tmp : ∀ t, RelV P E c (st.tmp t) (a.tmps.getD t undef)
  def_ : a.defers = []
  n : a.tmps.size = n

section
variable {P : Program} {T : Tab} {E : Env} {G : Gam} {n : Nat} {ops : Array Oper} {Q : Exit → Act → World → Prop}

theorem Inv.put {st : St} {c c' : Cx} {a : Act} {dst : Option Tmp} {v : V} {u : Value} {m' : Mem} (h : Inv P E n st c a) (hm : c'.m = m') (hr : Rel E c') (he : Ext c c') (hv : RelV P E c' v u)
    (hd : ∀ d, dst = some d → d < n) : Inv P E n ⟨putV st.tmp dst v, m'⟩ c' (a.put dst u) := by
  refine ⟨hm, hr, fun t => ?_, ?_, ?_⟩
  · cases dst with
    | none => exact (h.tmp t).ext he
    | some d =>
      have hlt : d < a.tmps.size := by rw [h.n]; exact hd d rfl
      simp only [putV, upd, Act.put]
      cases hb : Nat.beq t d with
      | true =>
        have := Nat.eq_of_beq_eq_true hb
        subst this
        simp only [cond_true]
        have : (a.tmps.setIfInBounds t u).getD t undef = u := by simp [hlt]
        rw [this]; exact hv
      | false =>
        simp only [cond_false]
        have hne : d ≠ t := fun e => by subst e; simp at hb
        have : (a.tmps.setIfInBounds d u).getD t undef = a.tmps.getD t undef := by simp [Array.getElem?_setIfInBounds_ne hne]
        rw [this]; exact (h.tmp t).ext he
  · cases dst <;> simp [Act.put, h.def_]
  · cases dst <;> simp [Act.put, h.n]

theorem op_wp (hT : TabOk P T) (hG : ∀ f s, G f = some s → SpecOk P f s) {st s1 : St} {c : Cx} {a : Act} (inv : Inv P E n st c a) {i : Nat} {o : Oper} (hi : ops[i]? = some o) (hd : ∀ d, o.dst = some d → d < n) {f : FP}
    (h : guardEv G T ops o st = some (s1, f)) {K : Act → World → Prop} (hK : ∀ c' a', Inv P E n s1 c' a' → K a' c'.w) : wpOp P ops Q i K a c.w := by
  have one : oneEv G T o st = some (s1, f) → o.wp P a c.w K Q := by
    intro h1
    unfold oneEv at h1
    cases he : (vop G T o.dst (evalV st.tmp) o.op).ev st.mem ⟨[], []⟩ with
    | none => rw [he] at h1; cases h1
    | some p =>
      rw [he] at h1
      injection h1 with h1
      injection h1 with h1 h2
      subst h1 h2
      obtain ⟨v, m', fp'⟩ := p
      rw [← inv.m] at he
      exact vop_ok hT hG inv.rel (fun x => evalV_ok inv.tmp x) he (fun c' u hm hr hx hv => hK c' _ (inv.put hm hr hx hv hd))
  have skip : K (a.put o.dst undef) c.w → True := fun _ => trivial
  unfold wpOp
  simp only [hi]
  unfold guardEv at h
  cases hg : o.guard with
  | none =>
    rw [hg] at h
    have hw : Region.wanted o (yielded ops a.tmps) = true := by unfold Region.wanted; rw [hg]
    rw [if_pos hw]
    exact .inl (one h)
  | some jw =>
    obtain ⟨j, want⟩ := jw
    rw [hg] at h
    simp only at h
    cases hj : dstAt ops j with
    | none => rw [hj] at h; cases h
    | some t =>
      rw [hj] at h
      simp only at h
      split at h
      · rename_i b hb
        have hv := inv.tmp t
        rw [hb] at hv
        have hbv := relV_bool hv
        have hy : yielded ops a.tmps j = some b := by
          unfold yielded
          unfold dstAt at hj
          rw [hj]
          simp only [Option.bind_some]
          have : a.tmps[t]? = some (.bool b) := by
            cases hx : a.tmps[t]? with
            | none =>
              have : a.tmps.getD t undef = undef := by simp [hx]
              rw [this] at hbv
              cases hbv
            | some z =>
              have : a.tmps.getD t undef = z := by simp [hx]
              rw [this] at hbv
              rw [hbv]
          rw [this]
        have hw : Region.wanted o (yielded ops a.tmps) = decide (b = want) := by
          unfold Region.wanted
          rw [hg]
          simp only [hy]
          cases b <;> cases want <;> rfl
        rw [hw]
        split at h
        · rename_i hbw
          rw [if_pos (by simpa using hbw)]
          exact .inl (one h)
        · rename_i hbw
          rw [if_neg (by simpa using hbw)]
          injection h with h
          injection h with h1 h2
          subst h1
          exact hK c _ (inv.put inv.m inv.rel (Ext.refl c) rfl hd)
      · rename_i hb
        have hv := inv.tmp t
        rw [hb] at hv
        have hv' : a.tmps.getD t undef = undef := hv
        have hy : yielded ops a.tmps j = none := by
          unfold yielded
          unfold dstAt at hj
          rw [hj]
          simp only [Option.bind_some]
          cases hx : a.tmps[t]? with
          | none => rfl
          | some z =>
            have : a.tmps.getD t undef = z := by simp [hx]
            rw [this] at hv'
            rw [hv']
            rfl
        have hw : Region.wanted o (yielded ops a.tmps) = false := by
          unfold Region.wanted
          rw [hg]
          simp only [hy]
          rfl
        rw [hw, if_neg (by simp)]
        injection h with h
        injection h with h1 h2
        subst h1
        exact hK c _ (inv.put inv.m inv.rel (Ext.refl c) rfl hd)
      · cases h

theorem run_wp (hT : TabOk P T) (hG : ∀ f s, G f = some s → SpecOk P f s) (hd : ∀ (i : Nat) (o : Oper) (d : Tmp), ops[i]? = some o → o.dst = some d → d < n) {F : Nat → FP} {st' : St} (hQ : ∀ c a, Inv P E n st' c a → Q .normal a c.w) :
    ∀ (l : List Nat) (st : St) (c : Cx) (a : Act), Inv P E n st c a → Run G T ops F l st st' → wpOps P ops Q l a c.w
  | [], st, c, a, inv, h => by
    have : st = st' := h
    subst this
    exact hQ c a inv
  | i :: l, st, c, a, inv, ⟨o, s1, ho, hg, hr⟩ => by
    rw [wpOps_cons]
    exact op_wp hT hG inv ho (fun d hdd => hd i o d ho hdd) hg (fun c' a' inv' => run_wp hT hG hd hQ l s1 c' a' inv' hr)

def foldBits (o : Oper) (pre : List Nat) : Nat := o.after.toList.foldl (fun s e => bif Region.binds .any e then s ||| 2 ^ e.on ||| pre.getD e.on 0 else s) 0
theorem aheadGo_spec : ∀ (os : List Oper) (acc : List Nat), ∃ tail, aheadGo os acc = acc ++ tail ∧ tail.length = os.length ∧ ∀ i o, os[i]? = some o → tail[i]? = some (foldBits o ((acc ++ tail).take (acc.length + i)))
  | [], acc => ⟨[], by simp [aheadGo], rfl, fun i o h => by simp at h⟩
  | o :: os, acc => by
    obtain ⟨tail, h1, h2, h3⟩ := aheadGo_spec os (acc ++ [foldBits o acc])
    refine ⟨foldBits o acc :: tail, ?_, by simp [h2], fun i o' hi => ?_⟩
    · show aheadGo os (acc ++ [foldBits o acc]) = _
      rw [h1]; simp [List.append_assoc]
    · cases i with
      | zero =>
        have : o = o' := by simpa using hi
        subst this
        simp
      | succ i =>
        have := h3 i o' (by simpa using hi)
        simp only [List.getElem?_cons_succ, this, List.length_append, List.length_singleton, List.append_assoc, List.singleton_append]
        congr 3
        omega
theorem foldBits_test (pre : List Nat) : ∀ (l : List Edge) (s : Nat) (i : Nat), (l.foldl (fun s e => bif Region.binds .any e then s ||| 2 ^ e.on ||| pre.getD e.on 0 else s) s).testBit i = true →
    s.testBit i = true ∨ ∃ e ∈ l, Region.binds .any e = true ∧ (e.on = i ∨ (pre.getD e.on 0).testBit i = true)
  | [], s, i, h => .inl h
  | e :: l, s, i, h => by
    rcases foldBits_test pre l _ i h with h1 | ⟨e', he', hb, hh⟩
    · simp only at h1
      cases hb : Region.binds .any e with
      | false => rw [hb] at h1; exact .inl h1
      | true =>
        rw [hb] at h1
        simp only [cond_true, Nat.testBit_or, Bool.or_eq_true, Nat.testBit_two_pow, decide_eq_true_eq] at h1
        rcases h1 with (h1 | h1) | h1
        · exact .inl h1
        · exact .inr ⟨e, List.mem_cons_self, hb, .inl h1⟩
        · exact .inr ⟨e, List.mem_cons_self, hb, .inr h1⟩
    · exact .inr ⟨e', List.mem_cons_of_mem _ he', hb, hh⟩

def bitsOf (ops : Array Oper) : List Nat := aheadGo ops.toList []
def Listed (l : Array Bool) (i : Nat) : Prop := l.getD i false = true
def Closed (ops : Array Oper) (l : Array Bool) : Prop := ∀ i o, ops[i]? = some o → Listed l i → ∀ e ∈ o.after.toList, Region.binds .any e = true → Listed l e.on
theorem back_spec (h : backB ops = true) {i : Nat} {o : Oper} (ho : ops[i]? = some o) {e : Edge} (he : e ∈ o.after.toList) (hb : Region.binds .any e = true) : e.on < i := by
  unfold backB at h
  have hm : (o, i) ∈ ops.toList.zipIdx := by
    rw [List.mem_iff_getElem?]
    exact ⟨i, by simp [List.getElem?_zipIdx, ho]⟩
  have := List.all_eq_true.1 h _ hm
  have := List.all_eq_true.1 this e he
  simpa [hb] using this
theorem ahead_listed (hback : backB ops = true) {l : Array Bool} (hc : Closed ops l) : ∀ (j : Nat) (o : Oper), ops[j]? = some o → (∀ e ∈ o.after.toList, Region.binds .any e = true → Listed l e.on) →
    ∀ i, ((bitsOf ops).getD j 0).testBit i = true → Listed l i := by
  intro j
  induction j using Nat.strongRecOn with
  | _ j ih =>
    intro o ho hall i hi
    obtain ⟨tail, h1, h2, h3⟩ := aheadGo_spec ops.toList []
    have hb : bitsOf ops = tail := by unfold bitsOf; rw [h1]; rfl
    have hj := h3 j o (by rw [Array.getElem?_toList]; exact ho)
    rw [hb, List.getD_eq_getElem?_getD, hj] at hi
    simp only [Option.getD_some, List.nil_append, List.length_nil, Nat.zero_add] at hi
    rcases foldBits_test _ _ _ _ hi with h | ⟨e, he, hbd, hh⟩
    · simp at h
    · rcases hh with rfl | hh
      · exact hall e he hbd
      · have hlt := back_spec hback ho he hbd
        have hl := hall e he hbd
        rw [List.getD_eq_getElem?_getD, List.getElem?_take_of_lt hlt, ← List.getD_eq_getElem?_getD, ← hb] at hh
        cases hoe : ops[e.on]? with
        | none =>
          have : tail.length ≤ e.on := by
            rw [h2, Array.length_toList]
            exact Array.getElem?_eq_none_iff.1 hoe
          rw [hb, List.getD_eq_getElem?_getD, List.getElem?_eq_none this] at hh
          simp at hh
        | some oe => exact ih e.on hlt oe hoe (fun e' he' hb' => hc e.on oe hoe hl e' he' hb') i hh

theorem indep_spec {fps : List FP} (h : indep ops fps = true) {F : Nat → FP} (hF : ∀ i f, fps[i]? = some f → F i = f) (hl : fps.length = ops.size) {i j : Nat} (hij : i < j) (hnb : ((bitsOf ops).getD j 0).testBit i = false) : Ind ops F i j := by
  intro x y hx hy
  unfold indep at h
  simp only at h
  have hjs : j < ops.size := (Array.getElem?_eq_some_iff.1 hy).1
  have his : i < ops.size := by omega
  obtain ⟨fj, hfj⟩ : ∃ f, fps[j]? = some f := ⟨fps[j]'(by omega), List.getElem?_eq_getElem (by omega)⟩
  obtain ⟨fi, hfi⟩ : ∃ f, fps[i]? = some f := ⟨fps[i]'(by omega), List.getElem?_eq_getElem (by omega)⟩
  have hrj : (ops.toList.zip fps)[j]? = some (y, fj) := by
    rw [List.getElem?_zip_eq_some]
    exact ⟨by rw [Array.getElem?_toList]; exact hy, hfj⟩
  have hri : (ops.toList.zip fps)[i]? = some (x, fi) := by
    rw [List.getElem?_zip_eq_some]
    exact ⟨by rw [Array.getElem?_toList]; exact hx, hfi⟩
  have hmj : ((y, fj), j) ∈ (ops.toList.zip fps).zipIdx := by
    rw [List.mem_iff_getElem?]
    exact ⟨j, by simp [List.getElem?_zipIdx, hrj]⟩
  have h1 := List.all_eq_true.1 h _ hmj
  have hmi : ((x, fi), i) ∈ ((ops.toList.zip fps).take j).zipIdx := by
    rw [List.mem_iff_getElem?]
    exact ⟨i, by simp [List.getElem?_zipIdx, List.getElem?_take_of_lt hij, hri]⟩
  have h2 := List.all_eq_true.1 h1 _ hmi
  simp only [Bool.or_eq_true, Bool.and_eq_true] at h2
  rcases h2 with h2 | h2
  · have : ((bitsOf ops).getD j 0).testBit i = true := h2
    rw [hnb] at this; cases this
  · rw [hF i fi hfi, hF j fj hfj]
    exact h2

theorem ready_spec {l : Array Bool} (hs : l.size = ops.size) {i : Nat} (h : i ∈ Region.ready .any ops l) : i < ops.size ∧ ¬ Listed l i ∧ ∃ o, ops[i]? = some o ∧ ∀ e ∈ o.after.toList, Region.binds .any e = true → Listed l e.on := by
  unfold Region.ready at h
  rw [List.mem_filter, List.mem_range] at h
  obtain ⟨hlt, h⟩ := h
  simp only [Bool.and_eq_true, Bool.not_eq_true'] at h
  obtain ⟨h1, h2⟩ := h
  refine ⟨hlt, ?_, ops[i], by simp [hlt], ?_⟩
  · unfold Listed
    have hli : i < l.size := by omega
    simp [hli] at h1 ⊢
    exact h1
  · simp only [Array.getElem?_eq_getElem hlt, Option.map_some, Option.getD_some] at h2
    intro e he hb
    have := Array.all_eq_true_iff_forall_mem.1 h2 e (by simpa using he)
    simpa [hb, Listed] using this

theorem any_wp (hT : TabOk P T) (hG : ∀ f s, G f = some s → SpecOk P f s) (hd : ∀ (i : Nat) (o : Oper) (d : Tmp), ops[i]? = some o → o.dst = some d → d < n) (hback : backB ops = true) {F : Nat → FP}
    (hind : ∀ i j, i < j → ((bitsOf ops).getD j 0).testBit i = false → Ind ops F i j) {st' : St} (hQ : ∀ c a, Inv P E n st' c a → Q .normal a c.w) :
    ∀ (fuel : Nat) (l : Array Bool) (r : List Nat) (st : St) (c : Cx) (a : Act), l.size = ops.size → Closed ops l → (∀ i, i ∈ r ↔ i < ops.size ∧ ¬ Listed l i) → r.Pairwise (· < ·) → r.length ≤ fuel → Inv P E n st c a →
    Run G T ops F r st st' → wpAny P .any ops Q fuel l a c.w := by
  have none_left : ∀ (l : Array Bool) (r : List Nat), l.size = ops.size → (∀ i, i ∈ r ↔ i < ops.size ∧ ¬ Listed l i) → r.Pairwise (· < ·) → Region.ready .any ops l = [] → r = [] := by
    intro l r hs hr hp he
    cases r with
    | nil => rfl
    | cons i r =>
      exfalso
      obtain ⟨hlt, hnl⟩ := (hr i).1 List.mem_cons_self
      have hmem : i ∈ Region.ready .any ops l := by
        unfold Region.ready
        rw [List.mem_filter, List.mem_range]
        refine ⟨hlt, ?_⟩
        simp only [Bool.and_eq_true, Bool.not_eq_true']
        constructor
        · unfold Listed at hnl
          have hli : i < l.size := by omega
          simp [hli] at hnl ⊢
          exact hnl
        · simp only [Array.getElem?_eq_getElem hlt, Option.map_some, Option.getD_some]
          rw [Array.all_eq_true_iff_forall_mem]
          intro e he
          cases hb : Region.binds .any e with
          | false => rfl
          | true =>
            have hlt2 := back_spec hback (i := i) (o := ops[i]) (by simp [hlt]) (e := e) (by simpa using he) hb
            simp only [Bool.not_true, Bool.false_or]
            by_cases hl : Listed l e.on
            · exact hl
            · exfalso
              have hm := (hr e.on).2 ⟨by omega, hl⟩
              rcases List.mem_cons.1 hm with h | h
              · omega
              · have := (List.pairwise_cons.1 hp).1 _ h
                omega
      rw [he] at hmem
      simp at hmem
  intro fuel
  induction fuel with
  | zero =>
    intro l r st c a hs hc hr hp hlen inv hrun
    have : r = [] := List.eq_nil_of_length_eq_zero (by omega)
    subst this
    have : st = st' := hrun
    subst this
    refine ⟨?_, hQ c a inv⟩
    rw [List.eq_nil_iff_forall_not_mem]
    intro i hi
    obtain ⟨h1, h2, _⟩ := ready_spec hs hi
    have := (hr i).2 ⟨h1, h2⟩
    simp at this
  | succ fuel ih =>
    intro l r st c a hs hc hr hp hlen inv hrun
    refine ⟨fun he => ?_, fun i hi => ?_⟩
    · have := none_left l r hs hr hp he
      subst this
      have : st = st' := hrun
      subst this
      exact hQ c a inv
    · obtain ⟨hlt, hnl, o, ho, hall⟩ := ready_spec hs hi
      have hir : i ∈ r := (hr i).2 ⟨hlt, hnl⟩
      obtain ⟨r1, r2, rfl⟩ := List.append_of_mem hir
      have hp1 := List.pairwise_append.1 hp
      have hfront : Run G T ops F (i :: r1 ++ r2) st st' := by
        refine front (fun k hk => ?_) hrun
        have hki : k < i := hp1.2.2 k hk i List.mem_cons_self
        refine hind k i hki ?_
        cases hb : ((bitsOf ops).getD i 0).testBit k with
        | false => rfl
        | true =>
          exfalso
          exact ((hr k).1 (List.mem_append_left _ hk)).2 (ahead_listed hback hc i o ho hall k hb)
      obtain ⟨o', s1, ho', hg, hrest⟩ := hfront
      refine op_wp hT hG inv ho' (fun d hdd => hd i o' d ho' hdd) hg (fun c' a' inv' => ?_)
      have hset : ∀ k, Listed (l.setIfInBounds i true) k ↔ k = i ∨ Listed l k := by
        intro k
        unfold Listed
        by_cases hk : k = i
        · subst hk
          have : k < l.size := by omega
          simp [this]
        · simp [Array.getElem?_setIfInBounds_ne (Ne.symm hk), hk]
      refine ih (l.setIfInBounds i true) (r1 ++ r2) s1 c' a' (by simpa using hs) ?_ ?_ ?_ ?_ inv' hrest
      · intro k ok hok hk e he hb
        rw [hset] at hk ⊢
        rcases hk with rfl | hk
        · rw [ho] at hok
          injection hok with hok
          subst hok
          exact .inr (hall e he hb)
        · exact .inr (hc k ok hok hk e he hb)
      · intro k
        have hk := hr k
        rw [hset]
        simp only [List.mem_append, List.mem_cons] at hk ⊢
        constructor
        · intro hm
          have h1 : k < ops.size ∧ ¬ Listed l k := hk.1 (by rcases hm with h | h <;> simp [h])
          refine ⟨h1.1, ?_⟩
          rintro (rfl | h)
          · rcases hm with h | h
            · have := hp1.2.2 k h k List.mem_cons_self; omega
            · have := (List.pairwise_cons.1 hp1.2.1).1 k h; omega
          · exact h1.2 h
        · rintro ⟨h1, h2⟩
          have := hk.2 ⟨h1, fun h => h2 (.inr h)⟩
          rcases this with h | h | h
          · exact .inl h
          · exact absurd (.inl h) h2
          · exact .inr h
      · rw [List.pairwise_append]
        exact ⟨hp1.1, (List.pairwise_cons.1 hp1.2.1).2, fun x hx y hy => hp1.2.2 x hx y (List.mem_cons_of_mem _ hy)⟩
      · simp only [List.length_append, List.length_cons] at hlen ⊢
        omega

theorem region_ok {R : Type} (hT : TabOk P T) (hG : ∀ f s, G f = some s → SpecOk P f s) (hmix : P.follows .mixedOrders = true) {draw : Bool} {id : Nat} {st : St} {k : St → Option R} {r : R}
    (h : region (Alg.std R) G T n ops draw st k = some r) {c : Cx} {a : Act} (inv : Inv P E n st c a) (hQ : ∀ st' c' a', k st' = some r → Inv P E n st' c' a' → Q .normal a' c'.w) :
    (Code.region id ops draw).wp P Q a c.w := by
  unfold region at h
  split at h
  · cases h
  · rename_i hdb
    have hd : ∀ (i : Nat) (o : Oper) (d : Tmp), ops[i]? = some o → o.dst = some d → d < n := fun i o d ho hdd => by
      unfold dstB at hdb
      have := List.all_eq_true.1 hdb o (by rw [List.mem_iff_getElem?]; exact ⟨i, by rw [Array.getElem?_toList]; exact ho⟩)
      rw [hdd] at this
      exact of_decide_eq_true this
    obtain ⟨st', fps, hk, hl, hrun⟩ := runOps_run G T ops _ r ops.toList 0 st [] (fun i o ho => by rw [Nat.zero_add, ← Array.getElem?_toList]; exact ho) rfl h
    have hF : ∀ i f, fps[i]? = some f → (fun i => fps.getD i ⟨[], []⟩) (0 + i) = f := fun i f hf => by simp [List.getD_eq_getElem?_getD, hf]
    have hr := hrun (fun i => fps.getD i ⟨[], []⟩) hF
    have hrange : List.range' 0 ops.toList.length = List.range ops.size := by rw [Array.length_toList, ← List.range_eq_range']
    rw [hrange] at hr
    simp only [List.reverse_nil, List.nil_append] at hk
    cases draw with
    | false =>
      simp only at hk
      exact wp_region (run_wp hT hG hd (fun c' a' inv' => hQ st' c' a' hk inv') _ st c a inv hr)
    | true =>
      simp only at hk
      split at hk
      · rename_i hc
        simp only [Bool.and_eq_true] at hc
        refine wp_region_any hmix ?_
        have hb := below_ok inv.rel (w' := { c.w with drawn := c.w.drawn + 1 }) ⟨rfl, rfl, rfl, Nat.le_refl _, fun _ _ => rfl⟩ (S' := c.S) (fun _ h => h) (fun _ h => .inl h)
        have inv' : Inv P E n st { c with w := { c.w with drawn := c.w.drawn + 1 } } a := ⟨inv.m, hb.1, fun t => (inv.tmp t).ext hb.2, inv.def_, inv.n⟩
        refine any_wp hT hG hd hc.2 (F := fun i => fps.getD i ⟨[], []⟩) (fun i j hij hnb => indep_spec hc.1 (fun i f hf => by simp [List.getD_eq_getElem?_getD, hf]) (by rw [hl, Array.length_toList]) hij hnb)
          (fun c' a' inv'' => hQ st' c' a' hk inv'') ops.size (Array.replicate ops.size false) (List.range ops.size) st _ a (by simp) ?_ ?_ List.pairwise_lt_range (by simp) inv' hr
        · intro i o ho hl' e he hbd
          unfold Listed at hl'
          have : i < ops.size := (Array.getElem?_eq_some_iff.1 ho).1
          simp [this] at hl'
        · intro i
          rw [List.mem_range]
          refine ⟨fun hi => ⟨hi, fun hl' => ?_⟩, fun hi => hi.1⟩
          unfold Listed at hl'
          simp [hi] at hl'
      · cases hk
end
end Go.Vm
end
section
namespace Go.Vm
open Go.RowKit
set_option linter.unusedVariables false
set_option linter.unusedSimpArgs false

section
variable {P : Program} {T : Tab} {E : Env} {G : Gam} {n : Nat}

theorem notmem_of_disj {l m : List Nat} (h : disj l m = true) {i : Nat} (hi : i ∈ l) : i ∉ m := disj_spec h i hi
theorem nodup_cons {x : Nat} {l : List Nat} (h : nodupB (x :: l) = true) : x ∉ l ∧ nodupB l = true := by
  simp only [nodupB, Bool.and_eq_true, Bool.not_eq_true'] at h
  refine ⟨fun hm => ?_, h.2⟩
  have : (l.any fun y => Nat.beq x y) = true := List.any_eq_true.2 ⟨x, hm, Nat.beq_refl x⟩
  rw [this] at h
  cases h.1

def cutS (c : Cx) (O : List Nat) : Nat → Prop := fun b => c.S b ∨ (∃ a A, c.m.arr a = .at_ A ∧ A.open_ = true ∧ a ∉ O ∧ (c.ar a).ownBlock = some b) ∨ ∃ a M, c.m.arr a = .mp M ∧ a ∉ O ∧ c.ar a = .map (some b)

theorem readD_ok {c : Cx} (hr : Rel E c) {O : List Nat} {t : Ty} {x : V} {u : Value} (hx : RelV P E c x u) (hO : ∀ a, x = .own a → a ∉ O) {y : t.den} (h : readD t c.m x = some y) : RelD c.w (cutS c O) t y u := by
  have hS : ∀ b, c.S b → cutS c O b := fun b hb => .inl hb
  cases x with
  | dat d =>
    simp only [readD] at h
    split at h
    · rename_i he
      obtain ⟨dt, dx⟩ := d
      simp only at he
      subst he
      injection h with h
      subst h
      exact RelD.move (S := c.S) (fun _ _ => rfl) hS hx
    · cases h
  | agg d nl =>
    simp only [readD] at h
    split at h
    · rename_i he
      obtain ⟨dt, dx⟩ := d
      simp only at he
      subst he
      injection h with h
      subst h
      exact RelD.move (S := c.S) (fun _ _ => rfl) hS hx.1
    · cases h
  | nils =>
    cases t with
    | sl e t =>
      simp only [readD] at h
      injection h with h
      subst h
      have : u = .slice none 0 0 := hx
      subst this
      exact ⟨none, 0, rfl, Nat.le_refl _, fun hp => absurd hp (Nat.lt_irrefl 0)⟩
    | _ => cases h
  | nili =>
    cases t with
    | any it st =>
      simp only [readD] at h
      injection h with h
      subst h
      show [u] = [Value.nilIface]
      rw [show u = .nilIface from hx]
    | _ => cases h
  | ifv i d => cases h
  | ifp i b p pt => cases h
  | prow l => cases h
  | own a =>
    simp only [readD] at h
    cases ha : c.m.arr a with
    | no => rw [ha] at h; cases h
    | dead => rw [ha] at h; cases h
    | mp M =>
      rw [ha] at h
      simp only at h
      split at h
      · rename_i he
        subst he
        injection h with h
        subst h
        have hu : u = c.ar a := hx.2.2 M ha
        subst hu
        obtain ⟨hk, hv, g, es, cl, e, h0, hS', hh, hE⟩ := hr.ms.mps a M ha
        refine .inr ⟨g, es, cl, by rw [e], .inr (.inr ⟨a, M, ha, hO a rfl, e⟩), hh, hE.imp (fun _ _ hh => RelC.flat (keyT_flat hk) hh) (fun _ _ hh => RelC.flat (valT_flat hv) hh)⟩
      · cases h
    | at_ A =>
      rw [ha] at h
      simp only at h
      split at h
      · rename_i he
        subst he
        injection h with h
        subst h
        have hu : u = c.ar a := hx.2.1 A ha
        subst hu
        have hA := hr.arr a A ha
        unfold RelA at hA
        split at hA
        · rename_i ho
          obtain ⟨inner, h1, h2, h3⟩ := hA
          rcases h1.2 with ⟨hv, hn⟩ | ⟨g, cap, cur, hv, hb, hh, hle, _⟩
          · refine ⟨none, 0, ?_, Nat.le_of_eq hn, fun hp => absurd hp (by show ¬ 0 < A.xs.length; omega)⟩
            show [c.ar a] = [Value.slice none A.xs.length 0]
            rw [hv, hn]
          · refine ⟨some ⟨g, 0, none⟩, cap, by rw [hv]; rfl, hle, fun _ => ⟨⟨g, 0, none⟩, inner, rfl, .inr (.inl ⟨a, A, ha, ho, hO a rfl, by rw [hv]; rfl⟩), h1.1, ?_, h2.imp (fun _ _ hh => hh.move (fun _ _ => rfl) hS)⟩⟩
            exact fun i u hu => h1.cells (g := g) (by rw [hv]; rfl) i u hu
        · exact RelC.move (fun _ _ => rfl) hS hA
      · cases h
  | bad => cases h
  | und => cases h
  | ptr b p t' => cases h
  | rptr d => cases h
  | eptr a et i p t => cases h
  | clo f cs => cases h
  | fnp a r g => cases h
  | fnc a r g => cases h

structure CutInv (P : Program) (E : Env) (n : Nat) (c : Cx) (a : Act) (O : List Nat) (st : St) (cs : List CK) (st' : St) (c' : Cx) : Prop where
  m : c'.m = st'.mem
  w : c'.w = c.w
  S : c'.S = cutS c O
  rel : Rel E c'
  tmp : ∀ t, RelV P E c' (st'.tmp t) (a.tmps.getD t undef)
  box : ∀ b B, c'.m.box b = some B → c'.bx b = c.bx b ∧ (∃ B0, c.m.box b = some B0 ∧ B0.t = B.t) ∧ boxIn b cs = true
  boxR : ∀ b ty, boxB b ty cs = true → ∃ B, c'.m.box b = some B ∧ B.t = ty ∧ c'.bx b = c.bx b
  arr : ∀ i A, c'.m.arr i = .at_ A → (∃ t, i = t + ownBase ∧ ownIn t cs = true) ∧ ((c'.ar i).ownBlock = none ∨ ∃ a0 A0, a0 ∈ ownsOf st cs ∧ c.m.arr a0 = .at_ A0 ∧ A0.open_ = true ∧ c'.ar i = c.ar a0)
  dead : ∀ i, c'.m.arr i ≠ .no → ∃ t, i = t + ownBase ∧ ownIn t cs = true
  mps : ∀ i M, c'.m.arr i = .mp M → ∃ a0 M0, a0 ∈ ownsOf st cs ∧ c.m.arr a0 = .mp M0 ∧ c'.ar i = c.ar a0
  hole : ∀ b i u, holeB b i u cs = true → ∃ B', c'.m.box b = some B' ∧ (i, .hole) ∈ B'.lk ∧ (∃ ct, B'.t = .st ct ∧ chainTy ct i = some u) ∧ c'.bx b = c.bx b

theorem cut_base {c : Cx} {st : St} {a : Act} (inv : Inv P E n st c a) (O : List Nat) : CutInv P E n c a O st [] St.empty { c with S := cutS c O, m := St.empty.mem } := by
  have hr := inv.rel
  refine ⟨rfl, rfl, rfl, ⟨hr.os, hr.tape, hr.output, hr.size, hr.keep, fun b hb => .inl (hr.old b hb), ?_, ?_, ?_, ?_, ?_, ?_, ?_, ?_, ⟨fun a M h => (by cases h), fun a a' M M' h => (by cases h)⟩⟩, fun t => trivial, ?_, ?_, ?_, ?_, fun i M h => (by cases h), fun b i u h => (by cases h)⟩
  · rintro b (hb | ⟨i, A, hA, ho, _, hb⟩ | ⟨i, M, hM, _, hb⟩)
    · exact hr.lt b hb
    · exact hr.arrLt hA ho hb
    · obtain ⟨_, _, g, _, _, e, _, _, hh, _⟩ := hr.ms.mps i M hM
      rw [hb] at e
      injection e with e
      injection e with e
      subst e
      exact (Array.getElem?_eq_some_iff.1 hh).1
  · rintro b (hb | ⟨i, A, hA, ho, _, hb⟩ | ⟨i, M, hM, _, hb⟩)
    · exact hr.new b hb
    · have := hr.arr i A hA
      unfold RelA at this
      rw [if_pos ho] at this
      obtain ⟨_, h1, _⟩ := this
      exact .inr (h1.lt b hb).1
    · obtain ⟨_, _, g, _, _, e, h0, _⟩ := hr.ms.mps i M hM
      rw [hb] at e
      injection e with e
      injection e with e
      subst e
      exact .inr h0
  · intro b B h; cases h
  · intro b h; exact absurd rfl h
  · intro b B h; cases h
  · intro b b' h; exact absurd rfl h
  · intro b b' A A' g h; cases h
  · intro b i A h; exact absurd rfl h
  · intro b B h; cases h
  · intro b ty h; cases h
  · intro i A h; cases h
  · intro i h; exact absurd rfl h

theorem boxIn_of_boxB {b : Nat} {ty : Ty} : ∀ {cs : List CK}, boxB b ty cs = true → boxIn b cs = true
  | .box b' t' _ :: cs, h => by
    simp only [boxB, Bool.or_eq_true, Bool.and_eq_true] at h
    simp only [boxIn, Bool.or_eq_true]
    rcases h with h | h
    · exact .inl h.1
    · exact .inr (boxIn_of_boxB h)
  | .tmp _ _ :: cs, h => boxIn_of_boxB (cs := cs) h
  | .rptr _ _ :: cs, h => boxIn_of_boxB (cs := cs) h
  | .fnp _ _ _ :: cs, h => boxIn_of_boxB (cs := cs) h
  | .clo _ _ _ :: cs, h => boxIn_of_boxB (cs := cs) h
  | .own _ _ _ :: cs, h => boxIn_of_boxB (cs := cs) h
  | .mapo _ _ _ :: cs, h => boxIn_of_boxB (cs := cs) h
  | .ptr _ _ _ :: cs, h => boxIn_of_boxB (cs := cs) h
  | .lnk _ _ _ _ _ :: cs, h => boxIn_of_boxB (cs := cs) h

theorem caps_ok {c c' : Cx} {cs : List CK} (hS : SameOn c.S c.w c'.w) (hSS : ∀ b, c.S b → c'.S b) (hbox : ∀ b ty, boxB b ty cs = true → ∃ B, c'.m.box b = some B ∧ B.t = ty ∧ c'.bx b = c.bx b) :
    ∀ {ks : List CapK} {caps : List Cap} {vs : List Value} {l : capden ks}, capsB cs ks = true → readCaps ks caps = some l → RelCaps c caps vs → RelCaps c' (putCaps ks l) vs
  | [], [], vs, l, _, _, h => h
  | .ptr b ty :: ks, .ptr b' ty' :: caps, _, l, hb, hr, ⟨v, vs, rfl, h0, h1⟩ => by
    simp only [capsB, Bool.and_eq_true] at hb
    simp only [readCaps] at hr
    split at hr
    · rename_i hc
      simp only [Bool.and_eq_true, decide_eq_true_eq] at hc
      obtain ⟨hb1, rfl⟩ := hc
      have := Nat.eq_of_beq_eq_true hb1
      subst this
      obtain ⟨B', hB', ht', hbx⟩ := hbox b ty' hb.1
      exact ⟨v, vs, rfl, ⟨⟨B', hB', ht'⟩, by rw [hbx]; exact h0.2⟩, caps_ok hS hSS hbox hb.2 hr h1⟩
    · cases hr
  | .dat ty :: ks, .dat d :: caps, _, l, hb, hr, ⟨v, vs, rfl, h0, h1⟩ => by
    simp only [readCaps] at hr
    split at hr
    · rename_i he
      obtain ⟨dt, dx⟩ := d
      simp only at he
      subst he
      split at hr
      · rename_i l' hl'
        injection hr with hr
        subst hr
        exact ⟨v, vs, rfl, RelD.move (S := c.S) hS hSS h0, caps_ok hS hSS hbox hb hl' h1⟩
      · cases hr
    · cases hr
  | [], _ :: _, _, _, _, hr, _ => by cases hr
  | .ptr _ _ :: _, [], _, _, _, hr, _ => by cases hr
  | .dat _ :: _, [], _, _, _, hr, _ => by cases hr
  | .ptr _ _ :: _, .dat _ :: _, _, _, _, hr, _ => by cases hr
  | .dat _ :: _, .ptr _ _ :: _, _, _, _, hr, _ => by cases hr

theorem nodup_of : ∀ {l : List Nat}, nodupB l = true → l.Nodup
  | [], _ => List.nodup_nil
  | x :: l, h => by
    obtain ⟨h1, h2⟩ := nodup_cons h
    exact List.nodup_cons.2 ⟨h1, nodup_of h2⟩
theorem RelB.holes {c : Cx} {B : Box} {cs : List Value} (h : RelB c B cs) {hs : List Nat} (hh : holesB B.lk hs = true) (hn : hs.Nodup) : RelB c ⟨B.t, B.x, hs.map fun i => (i, .hole)⟩ cs := by
  obtain ⟨cs', hc, hl, hj, hnd, hk⟩ := h
  simp only [holesB, Bool.and_eq_true] at hh
  obtain ⟨h1, h2⟩ := hh
  refine ⟨cs', hc, hl, fun j hjn => ?_, by simpa [Function.comp_def] using hn, fun e he => ?_⟩
  · by_cases hm : ∀ e ∈ B.lk, fldOff B.t e.1 ≠ j
    · exact hj j hm
    · simp only [Classical.not_forall, Classical.not_not] at hm
      obtain ⟨e, he, rfl⟩ := hm
      have := (List.all_eq_true.1 h1) e he
      simp only [Bool.or_eq_true] at this
      obtain ⟨_, k2, k3⟩ := hk e he
      rcases this with hnil | hin
      · cases hl : e.2 with
        | nil => rw [hl] at k3; rw [k2]; exact k3
        | own a => rw [hl] at hnil; cases hnil
        | hole => rw [hl] at hnil; cases hnil
      · obtain ⟨i, hi, hie⟩ := List.any_eq_true.1 hin
        have := Nat.eq_of_beq_eq_true hie
        exact absurd (by show fldOff B.t i = _; rw [this]) (hjn (i, .hole) (List.mem_map.2 ⟨i, hi, rfl⟩))
  · obtain ⟨i, hi, rfl⟩ := List.mem_map.1 he
    have := (List.all_eq_true.1 h2) i hi
    cases hl : lkAt B.lk i with
    | none => rw [hl] at this; cases this
    | some l =>
      obtain ⟨k1, k2, _⟩ := hk _ (lkAt_some hl)
      exact ⟨k1, k2, trivial⟩
theorem CutInv.arrNo {c c' : Cx} {a : Act} {O : List Nat} {st st' : St} {cs : List CK} (ci : CutInv P E n c a O st cs st' c') {t : Nat} (h : ownIn t cs = false) : c'.m.arr (t + ownBase) = .no := by
  have key : c'.m.arr (t + ownBase) ≠ .no → False := fun hn => by
    obtain ⟨t', h1, h2⟩ := ci.dead (t + ownBase) hn
    have : t = t' := by omega
    subst this
    rw [h2] at h; cases h
  cases hn : c'.m.arr (t + ownBase) with
  | no => rfl
  | dead => exact (key (by rw [hn]; simp)).elim
  | at_ A => exact (key (by rw [hn]; simp)).elim
  | mp A => exact (key (by rw [hn]; simp)).elim
theorem own_loose {c c' : Cx} {a : Act} {O : List Nat} {st st' : St} {cs : List CK} (inv : Inv P E n st c a) (ci : CutInv P E n c a O st cs st' c') {a0 : Nat} {A : Arr} (hac : c.m.arr a0 = .at_ A) (ho : A.open_ = true) (hnm : a0 ∉ ownsOf st cs) (hO : a0 ∈ O) :
    Loose E c' A.e A.t A.xs (c.ar a0) := by
  have hr := inv.rel
  have hS : ∀ b, c.S b → cutS c O b := fun b hb => .inl hb
  have hA := hr.arr a0 A hac
  unfold RelA at hA
  rw [if_pos ho] at hA
  obtain ⟨inner, h1, h2, h3⟩ := hA
  refine ⟨⟨inner, by rw [ci.w]; exact h1, by rw [ci.w, ci.S]; exact h2.imp (fun _ _ h => h.move (fun _ _ => rfl) hS)⟩, fun g hg => ⟨?_, ?_, ?_⟩⟩
  · rw [ci.S]
    rintro (h | ⟨i, A', hA', ho', hni, hg'⟩ | ⟨i, M, hM, hni, hg'⟩)
    · exact h3 g hg h
    · have := hr.aa a0 i _ A' g hac hA' ho ho' hg hg'
      subst this
      exact hni hO
    · obtain ⟨_, _, g2, _, _, e2, _, _, hh2, _⟩ := hr.ms.mps i M hM
      rw [hg'] at e2
      injection e2 with e2
      injection e2 with e2
      subst e2
      rcases h1.2 with ⟨hv', _⟩ | ⟨g3, cap3, cur3, hv', hb3, hh3, _⟩
      · rw [hv'] at hg; cases hg
      · rw [hv'] at hg
        have : g3 = g := by simpa [Value.ownBlock] using hg
        subst this
        rw [hh3] at hh2; cases hh2
  · intro b hb e'
    cases hn : c'.m.box b with
    | none => exact hb hn
    | some B' =>
      obtain ⟨g1, ⟨B0, g2, _⟩, g3⟩ := ci.box b B' hn
      rw [g1] at e'
      exact hr.ba b a0 _ (by rw [g2]; simp) hac ho (by rw [hg, e'])
  · intro i A' hA' ho' hg'
    rcases (ci.arr i A' hA').2 with h | ⟨a1, A1, k1, k2, k3, k4⟩
    · rw [h] at hg'; cases hg'
    · rw [k4] at hg'
      have := hr.aa a0 a1 _ A1 g hac k2 ho k3 hg hg'
      subst this
      exact hnm k1

theorem cut_ok' {c : Cx} {st : St} {a : Act} (inv : Inv P E n st c a) (O : List Nat) : ∀ (cs : List CK) (l : cden cs), cutOk cs = true → nodupB (ownsOf st cs) = true → (∀ x ∈ ownsOf st cs, x ∈ O) → (∀ x ∈ datsOf st cs, x ∉ O) →
    readCs st cs = some l → ∃ c', CutInv P E n c a O st cs (putCs cs l) c'
  | [], l, _, _, _, _, _ => ⟨_, cut_base inv O⟩
  | k :: cs, (x, l), hok, hnd, hO, hD, hrd => by
    have hr := inv.rel
    simp only [readCs] at hrd
    split at hrd
    · rename_i x' l' hx hl
      injection hrd with hrd
      injection hrd with h1 h2
      subst h1 h2
      have hS : ∀ b, c.S b → cutS c O b := fun b hb => .inl hb
      cases k with
      | rptr t ty =>
        obtain ⟨c', ci⟩ := cut_ok' inv O cs l' hok hnd hO hD hl
        refine ⟨c', ci.m, ci.w, ci.S, ci.rel, fun i => ?_, ci.box, ci.boxR, ci.arr, ci.dead, ci.mps, ci.hole⟩
        simp only [putCs, putC, upd]
        cases hb : Nat.beq i t with
        | false => exact ci.tmp i
        | true =>
          have := Nat.eq_of_beq_eq_true hb
          subst this
          have hp := inv.tmp i
          simp only [readC] at hx
          split at hx
          · rename_i d hv
            rw [hv] at hp
            split at hx
            · rename_i he
              obtain ⟨dt, dx⟩ := d
              simp only at he
              subst he
              injection hx with hx
              subst hx
              show RelP c'.w c'.S _ _ _
              rw [ci.w, ci.S]
              exact RelP.move (S := c.S) (fun _ _ => rfl) hS hp
            · cases hx
          · cases hx
      | fnp t aa rr =>
        obtain ⟨c', ci⟩ := cut_ok' inv O cs l' hok hnd hO hD hl
        refine ⟨c', ci.m, ci.w, ci.S, ci.rel, fun i => ?_, ci.box, ci.boxR, ci.arr, ci.dead, ci.mps, ci.hole⟩
        simp only [putCs, putC, upd]
        cases hb : Nat.beq i t with
        | false => exact ci.tmp i
        | true =>
          have := Nat.eq_of_beq_eq_true hb
          subst this
          have hp := inv.tmp i
          simp only [readC] at hx
          split at hx
          · rename_i a' r' g hv
            rw [hv] at hp
            split at hx
            · rename_i he
              obtain ⟨rfl, rfl⟩ := he
              injection hx with hx
              subst hx
              exact hp
            · cases hx
          · cases hx
      | clo t f ks =>
        simp only [cutOk, Bool.and_eq_true] at hok
        obtain ⟨c', ci⟩ := cut_ok' inv O cs l' hok.2 hnd hO hD hl
        refine ⟨c', ci.m, ci.w, ci.S, ci.rel, fun i => ?_, ci.box, ci.boxR, ci.arr, ci.dead, ci.mps, ci.hole⟩
        simp only [putCs, putC, upd]
        cases hb : Nat.beq i t with
        | false => exact ci.tmp i
        | true =>
          have := Nat.eq_of_beq_eq_true hb
          subst this
          have hp := inv.tmp i
          simp only [readC] at hx
          split at hx
          · rename_i f' caps hv
            rw [hv] at hp
            split at hx
            · rename_i he
              have := Nat.eq_of_beq_eq_true he
              subst this
              obtain ⟨cv, he2, hk⟩ := hp
              exact ⟨cv, he2, caps_ok (c := c) (c' := c') (fun b _ => by rw [ci.w]) (fun b hb => by rw [ci.S]; exact hS b hb) ci.boxR hok.1 hx hk⟩
            · cases hx
          · cases hx
      | tmp t ty =>
        have hO' : ∀ y ∈ ownsOf st cs, y ∈ O := hO
        obtain ⟨c', ci⟩ := cut_ok' inv O cs l' hok hnd hO' (fun y hy => hD y (by
          simp only [datsOf]
          split
          · exact List.mem_cons_of_mem _ hy
          · exact hy)) hl
        refine ⟨c', ci.m, ci.w, ci.S, ci.rel, fun i => ?_, ci.box, ci.boxR, ci.arr, ci.dead, ci.mps, ci.hole⟩
        simp only [putCs, putC, upd]
        cases hb : Nat.beq i t with
        | false => exact ci.tmp i
        | true =>
          have := Nat.eq_of_beq_eq_true hb
          subst this
          have hrd : RelD c.w (cutS c O) ty x' (a.tmps.getD i undef) := by
            refine readD_ok hr (inv.tmp i) (fun z hz => hD z ?_) (by rw [inv.m]; exact hx)
            simp only [datsOf, hz]
            exact List.mem_cons_self
          show RelD c'.w c'.S ty x' _
          rw [ci.w, ci.S]
          exact hrd
      | ptr t b ty =>
        simp only [cutOk, Bool.and_eq_true] at hok
        obtain ⟨c', ci⟩ := cut_ok' inv O cs l' hok.2 hnd hO hD hl
        refine ⟨c', ci.m, ci.w, ci.S, ci.rel, fun i => ?_, ci.box, ci.boxR, ci.arr, ci.dead, ci.mps, ci.hole⟩
        simp only [putCs, putC, upd]
        cases hb : Nat.beq i t with
        | false => exact ci.tmp i
        | true =>
          have := Nat.eq_of_beq_eq_true hb
          subst this
          simp only [readC] at hx
          split at hx
          · rename_i b' ty' hv
            split at hx
            · rename_i hc
              simp only [Bool.and_eq_true, decide_eq_true_eq] at hc
              obtain ⟨hb1, rfl⟩ := hc
              have := Nat.eq_of_beq_eq_true hb1
              subst this
              have hp := inv.tmp i
              rw [hv] at hp
              obtain ⟨B, hB, hpt, _, he⟩ := hp
              obtain ⟨B', hB', ht', hbx⟩ := ci.boxR b ty' hok.1
              refine ⟨B', hB', by rw [ht']; rfl, trivial, ?_⟩
              rw [he, hbx]
              rfl
            · cases hx
          · cases hx
      | box b ty hs =>
        simp only [cutOk, Bool.and_eq_true, Bool.not_eq_true'] at hok
        obtain ⟨c', ci⟩ := cut_ok' inv O cs l' hok.2 hnd hO hD hl
        simp only [readC] at hx
        cases hB : st.mem.box b with
        | none => rw [hB] at hx; cases hx
        | some B =>
          rw [hB] at hx
          simp only at hx
          split at hx
          case h_2 => cases hx
          rename_i hholes
          split at hx
          · rename_i hty
            obtain ⟨Bt, Bx, Bl⟩ := B
            simp only at hty
            subst hty
            injection hx with hx
            subst hx
            have hBc : c.m.box b = some ⟨Bt, Bx, Bl⟩ := by rw [inv.m]; exact hB
            have hbr := hr.box b _ hBc
            have hlt := hr.boxLt hBc
            have hnone : c'.m.box b = none := by
              cases hn : c'.m.box b with
              | none => rfl
              | some B' =>
                have := (ci.box b B' hn).2.2
                rw [this] at hok
                cases hok.1.1
            obtain ⟨r2, e2⟩ := addBox_ok ci.rel hnone (t := Bt) (x := Bx) (lk := hs.map fun i => (i, .hole)) (g := c.bx b) (by rw [ci.w]; exact hlt) (by
              rw [ci.w]
              rcases hbr with ⟨hit, hl0⟩ | ⟨cells, tid, hh, hc⟩
              · refine .inl ⟨hit, ?_⟩
                simp only at hl0
                subst hl0
                cases hs with
                | nil => rfl
                | cons i hs => simp [holesB, lkAt] at hholes
              · refine .inr ⟨cells, tid, hh, ?_⟩
                obtain ⟨cs', k1, k2, k3, k4, k5⟩ := hc.holes hholes (nodup_of hok.1.2)
                exact ⟨cs', by rw [ci.w, ci.S]; exact RelC.move (S := c.S) (fun _ _ => rfl) hS k1, k2, k3, k4, fun e he => ⟨(k5 e he).1, (k5 e he).2.1, by
                  obtain ⟨i, _, rfl⟩ := List.mem_map.1 he
                  trivial⟩⟩) (hr.priv b (by rw [hBc]; simp)).1
              (by
                rw [ci.S]
                rintro (h | ⟨i, A, hA, ho, _, hg⟩ | ⟨i, M, hM, _, hg⟩)
                · exact (hr.priv b (by rw [hBc]; simp)).2 h
                · exact hr.ba b i A (by rw [hBc]; simp) hA ho hg
                · obtain ⟨_, _, g, _, _, e, _, _, hh', _⟩ := hr.ms.mps i M hM
                  rw [hg] at e
                  injection e with e
                  injection e with e
                  subst e
                  exact hbr.notMap hh')
              (fun b' hb' e => by
                cases hn : c'.m.box b' with
                | none => exact hb' hn
                | some B' =>
                  obtain ⟨g1, g2, g3⟩ := ci.box b' B' hn
                  rw [g1] at e
                  have := hr.bb b' b (by rw [g2.choose_spec.1]; simp) (by rw [hBc]; simp) e
                  subst this
                  rw [g3] at hok
                  cases hok.1.1)
              (fun i A hA ho hg => by
                rcases (ci.arr i A hA).2 with h | ⟨a0, A0, _, h2, h3, h4⟩
                · rw [h] at hg; cases hg
                · rw [h4] at hg
                  exact hr.ba b a0 A0 (by rw [hBc]; simp) h2 h3 hg)
            refine ⟨{ c' with bx := upd c'.bx b (c.bx b), m := c'.m.setB b ⟨Bt, Bx, hs.map fun i => (i, .hole)⟩ }, ?_, ci.w, ci.S, r2, fun i => (ci.tmp i).ext e2, ?_, ?_, ci.arr, ci.dead, ci.mps, ?_⟩
            · show c'.m.setB b ⟨Bt, Bx, hs.map fun i => (i, .hole)⟩ = (putCs cs l').mem.setB b ⟨Bt, Bx, hs.map fun i => (i, .hole)⟩
              rw [ci.m]
            · intro b' B' hB'
              simp only [Mem.setB, upd] at hB' ⊢
              cases hbb : Nat.beq b' b with
              | true =>
                have := Nat.eq_of_beq_eq_true hbb
                subst this
                rw [hbb] at hB'
                injection hB' with hB'
                subst hB'
                exact ⟨rfl, ⟨_, hBc, rfl⟩, by simp [boxIn]⟩
              | false =>
                rw [hbb] at hB'
                obtain ⟨g1, g2, g3⟩ := ci.box b' B' hB'
                exact ⟨g1, g2, by simp [boxIn, g3]⟩
            · intro b' ty hbt
              simp only [boxB, Bool.or_eq_true, Bool.and_eq_true, decide_eq_true_eq] at hbt
              simp only [Mem.setB, upd]
              cases hbb : Nat.beq b' b with
              | true =>
                have := Nat.eq_of_beq_eq_true hbb
                subst this
                rcases hbt with ⟨_, rfl⟩ | hbt
                · exact ⟨_, rfl, rfl, rfl⟩
                · have := boxIn_of_boxB hbt
                  rw [this] at hok
                  cases hok.1.1
              | false =>
                rcases hbt with ⟨h1, _⟩ | hbt
                · rw [h1] at hbb; cases hbb
                · exact ci.boxR b' ty hbt
            · intro b' i u hbt
              simp only [holeB] at hbt
              simp only [Mem.setB, upd]
              cases hbb : Nat.beq b' b with
              | true =>
                have := Nat.eq_of_beq_eq_true hbb
                subst this
                rw [hbb] at hbt
                simp only [cond_true, Bool.and_eq_true] at hbt
                obtain ⟨h1, h2⟩ := hbt
                obtain ⟨j, hj, hji⟩ := List.any_eq_true.1 h1
                have := Nat.eq_of_beq_eq_true hji
                subst this
                refine ⟨_, rfl, List.mem_map.2 ⟨j, hj, rfl⟩, ?_, rfl⟩
                cases Bt with
                | st ct => exact ⟨ct, rfl, of_decide_eq_true h2⟩
                | _ => cases h2
              | false =>
                rw [hbb] at hbt
                exact ci.hole b' i u hbt
          · cases hx
      | own t e ty =>
        simp only [cutOk, Bool.and_eq_true, Bool.not_eq_true'] at hok
        have fin : ∀ c' u, CutInv P E n c a O st cs (putCs cs l') c' → Loose E c' e ty x' u → a.tmps.getD t undef = u → (u.ownBlock = none ∨ ∃ a0 A0, a0 ∈ ownsOf st (.own t e ty :: cs) ∧ c.m.arr a0 = .at_ A0 ∧ A0.open_ = true ∧ u = c.ar a0) →
            (∀ y ∈ ownsOf st cs, y ∈ ownsOf st (.own t e ty :: cs)) → ∃ c', CutInv P E n c a O st (.own t e ty :: cs) (putCs (.own t e ty :: cs) (x', l')) c' := by
          intro c' u ci hl2 hu hsrc hsub
          obtain ⟨r2, e2⟩ := addArr_ok ci.rel (ci.arrNo hok.1) hl2
          refine ⟨{ c' with ar := upd c'.ar (t + ownBase) u, m := c'.m.setA (t + ownBase) (.at_ ⟨e, ty, x', true⟩) }, ?_, ci.w, ci.S, r2, fun i => ?_, ci.box, ci.boxR, ?_, ?_, fun i M hM => ?_, ci.hole⟩
          · show c'.m.setA _ _ = (putCs cs l').mem.setA _ _
            rw [ci.m]
          · simp only [putCs, putC, upd]
            cases hb : Nat.beq i t with
            | false => exact (ci.tmp i).ext e2
            | true =>
              have := Nat.eq_of_beq_eq_true hb
              subst this
              refine ⟨by simp [Mem.setA, upd], fun A hA => ?_, fun M hM => by simp [Mem.setA, upd] at hM⟩
              rw [hu]
              simp [upd]
          · intro i A hA
            simp only [Mem.setA, upd] at hA ⊢
            cases hb : Nat.beq i (t + ownBase) with
            | true =>
              have := Nat.eq_of_beq_eq_true hb
              subst this
              exact ⟨⟨t, rfl, by simp [ownIn]⟩, hsrc⟩
            | false =>
              rw [hb] at hA
              obtain ⟨⟨t', h1, h2⟩, h3⟩ := ci.arr i A hA
              refine ⟨⟨t', h1, by simp [ownIn, h2]⟩, ?_⟩
              rcases h3 with h3 | ⟨a0, A0, k1, k2, k3, k4⟩
              · exact .inl h3
              · exact .inr ⟨a0, A0, hsub a0 k1, k2, k3, k4⟩
          · intro i hi
            simp only [Mem.setA, upd] at hi
            cases hb : Nat.beq i (t + ownBase) with
            | true =>
              have := Nat.eq_of_beq_eq_true hb
              exact ⟨t, this, by simp [ownIn]⟩
            | false =>
              rw [hb] at hi
              obtain ⟨t', h1, h2⟩ := ci.dead i hi
              exact ⟨t', h1, by simp [ownIn, h2]⟩
          · simp only [Mem.setA, upd] at hM ⊢
            cases hb : Nat.beq i (t + ownBase) with
            | true => rw [hb] at hM; cases hM
            | false =>
              rw [hb] at hM
              obtain ⟨a0, M0, k1, k2, k3⟩ := ci.mps i M hM
              exact ⟨a0, M0, hsub a0 k1, k2, k3⟩
        simp only [readC] at hx
        split at hx
        · rename_i hv
          injection hx with hx
          subst hx
          have hos : ownsOf st (.own t e ty :: cs) = ownsOf st cs := by simp only [ownsOf, hv]
          rw [hos] at hnd hO
          obtain ⟨c', ci⟩ := cut_ok' inv O cs l' hok.2 hnd hO hD hl
          have hp := inv.tmp t
          rw [hv] at hp
          have hu : a.tmps.getD t undef = .slice none 0 0 := hp
          exact fin c' _ ci ⟨⟨[], World.ownsRow_nil _ _ _ _, rfl⟩, fun g hg => by cases hg⟩ hu (.inl rfl) (fun y hy => by rw [hos]; exact hy)
        · rename_i a0 hv
          cases ha : st.mem.arr a0 with
          | no => rw [ha] at hx; cases hx
          | dead => rw [ha] at hx; cases hx
          | mp M => rw [ha] at hx; cases hx
          | at_ A =>
            rw [ha] at hx
            simp only at hx
            split at hx
            · rename_i ho
              split at hx
              · rename_i hty
                injection hx with hx
                subst hx
                have hos : ownsOf st (.own t e ty :: cs) = a0 :: ownsOf st cs := by simp only [ownsOf, hv]
                rw [hos] at hnd hO
                obtain ⟨hnm, hnd'⟩ := nodup_cons hnd
                obtain ⟨c', ci⟩ := cut_ok' inv O cs l' hok.2 hnd' (fun y hy => hO y (List.mem_cons_of_mem _ hy)) hD hl
                have hac : c.m.arr a0 = .at_ A := by rw [inv.m]; exact ha
                have hp := inv.tmp t
                rw [hv] at hp
                have hu : a.tmps.getD t undef = c.ar a0 := hp.2.1 A hac
                have hl2 := own_loose inv ci hac ho hnm (hO a0 List.mem_cons_self)
                obtain ⟨Ae, At, Ax, Ao⟩ := A
                simp only [Ty.sl.injEq] at hty
                obtain ⟨q1, q2⟩ := hty
                subst q1 q2
                exact fin c' _ ci hl2 hu (.inr ⟨a0, _, by rw [hos]; exact List.mem_cons_self, hac, ho, rfl⟩) (fun y hy => by rw [hos]; exact List.mem_cons_of_mem _ hy)
              · cases hx
            · cases hx
        · cases hx
      | lnk t b i e ty =>
        simp only [cutOk, Bool.and_eq_true, Bool.not_eq_true'] at hok
        have fin : ∀ c' u, CutInv P E n c a O st cs (putCs cs l') c' → Loose E c' e ty x' u → (∀ cells tid, c.w.heap[c.bx b]? = some (.cells cells tid (0, 0)) → ∀ ct, c.m.box b ≠ none → (∃ B0, c.m.box b = some B0 ∧ B0.t = .st ct) → cells.toList[fldOff (.st ct) i]? = some u) → (u.ownBlock = none ∨ ∃ a0 A0, a0 ∈ ownsOf st (.lnk t b i e ty :: cs) ∧ c.m.arr a0 = .at_ A0 ∧ A0.open_ = true ∧ u = c.ar a0) →
            (∀ y ∈ ownsOf st cs, y ∈ ownsOf st (.lnk t b i e ty :: cs)) → ∃ c', CutInv P E n c a O st (.lnk t b i e ty :: cs) (putCs (.lnk t b i e ty :: cs) (x', l')) c' := by
          intro c' u ci hl2 hu hsrc hsub
          obtain ⟨r2, e2⟩ := addArr_ok ci.rel (ci.arrNo hok.1.1) hl2
          obtain ⟨B', hB', hmem, ⟨ct, hBt, hct⟩, hbx⟩ := ci.hole b i _ hok.1.2
          obtain ⟨g1, ⟨B0, hB0, hB0t⟩, _⟩ := ci.box b B' hB'
          obtain ⟨cells, tid, hh, hc⟩ : ∃ cs tid, c'.w.heap[c'.bx b]? = some (.cells cs tid (0, 0)) ∧ RelB { c' with ar := upd c'.ar (t + ownBase) u, m := c'.m.setA (t + ownBase) (.at_ ⟨e, ty, x', true⟩) } B' cs.toList := by
            rcases r2.box b B' hB' with ⟨_, h0⟩ | h
            · rw [h0] at hmem; cases hmem
            · exact h
          have hh' : c.w.heap[c.bx b]? = some (.cells cells tid (0, 0)) := by rw [← hbx, ← ci.w]; exact hh
          have hcell := hu cells tid hh' ct (by rw [hB0]; simp) ⟨B0, hB0, by rw [hB0t, hBt]⟩
          rw [← hBt] at hcell
          have hrl := RelB.relink (u := u) (l := .own (t + ownBase)) hc hmem ⟨by simp [Mem.setA, upd], fun A hA => by
            rw [set_self hcell, hcell]
            simp [upd], fun M hM => by simp [Mem.setA, upd] at hM⟩
          rw [set_self hcell] at hrl
          obtain ⟨r3, e3⟩ := setBox_ok (c := { c' with ar := upd c'.ar (t + ownBase) u, m := c'.m.setA (t + ownBase) (.at_ ⟨e, ty, x', true⟩) }) r2 hB' (x := B'.x) (lk := (i, .own (t + ownBase)) :: lkDrop B'.lk i) (w' := c'.w) rfl rfl rfl rfl (fun _ _ => rfl) (.inr ⟨cells, tid, hh, hrl⟩)
          have hput : (putCs (.lnk t b i e ty :: cs) (x', l')) = ⟨(putCs cs l').tmp, ((putCs cs l').mem.setB b ⟨B'.t, B'.x, (i, .own (t + ownBase)) :: lkDrop B'.lk i⟩).setA (t + ownBase) (.at_ ⟨e, ty, x', true⟩)⟩ := by
            have hb' : (putCs cs l').mem.box b = some B' := by rw [← ci.m]; exact hB'
            simp only [putCs, putC, hb']
          refine ⟨{ c' with ar := upd c'.ar (t + ownBase) u, m := (c'.m.setA (t + ownBase) (.at_ ⟨e, ty, x', true⟩)).setB b ⟨B'.t, B'.x, (i, .own (t + ownBase)) :: lkDrop B'.lk i⟩ }, ?_, ci.w, ci.S, r3, fun j => ?_, ?_, ?_, ?_, ?_, fun j M hM => ?_, ?_⟩
          · rw [hput, ← ci.m]; rfl
          · rw [hput]; exact (ci.tmp j).ext (e2.trans e3)
          · intro b2 B2 hB2
            simp only [Mem.setB, Mem.setA, upd] at hB2
            cases hb : Nat.beq b2 b with
            | true =>
              have := Nat.eq_of_beq_eq_true hb
              subst this
              rw [hb] at hB2
              injection hB2 with hB2
              subst hB2
              obtain ⟨k1, k2, k3⟩ := ci.box b2 B' hB'
              exact ⟨k1, k2, k3⟩
            | false => rw [hb] at hB2; exact ci.box b2 B2 hB2
          · intro b2 ty2 hb2
            obtain ⟨B2, k1, k2, k3⟩ := ci.boxR b2 ty2 hb2
            simp only [Mem.setB, Mem.setA, upd]
            cases hb : Nat.beq b2 b with
            | true =>
              have := Nat.eq_of_beq_eq_true hb
              subst this
              rw [hB'] at k1
              injection k1 with k1
              subst k1
              exact ⟨_, rfl, k2, k3⟩
            | false => exact ⟨B2, k1, k2, k3⟩
          · intro j A hA
            simp only [Mem.setB, Mem.setA, upd] at hA ⊢
            cases hb : Nat.beq j (t + ownBase) with
            | true =>
              have := Nat.eq_of_beq_eq_true hb
              subst this
              exact ⟨⟨t, rfl, by simp [ownIn]⟩, hsrc⟩
            | false =>
              rw [hb] at hA
              obtain ⟨⟨t', h1, h2⟩, h3⟩ := ci.arr j A hA
              refine ⟨⟨t', h1, by simp [ownIn, h2]⟩, ?_⟩
              rcases h3 with h3 | ⟨a0, A0, k1, k2, k3, k4⟩
              · exact .inl h3
              · exact .inr ⟨a0, A0, hsub a0 k1, k2, k3, k4⟩
          · intro j hj
            simp only [Mem.setB, Mem.setA, upd] at hj
            cases hb : Nat.beq j (t + ownBase) with
            | true =>
              have := Nat.eq_of_beq_eq_true hb
              exact ⟨t, this, by simp [ownIn]⟩
            | false =>
              rw [hb] at hj
              obtain ⟨t', h1, h2⟩ := ci.dead j hj
              exact ⟨t', h1, by simp [ownIn, h2]⟩
          · simp only [Mem.setB, Mem.setA, upd] at hM ⊢
            cases hb : Nat.beq j (t + ownBase) with
            | true => rw [hb] at hM; cases hM
            | false =>
              rw [hb] at hM
              obtain ⟨a0, M0, k1, k2, k3⟩ := ci.mps j M hM
              exact ⟨a0, M0, hsub a0 k1, k2, k3⟩
          · intro b2 i2 u2 hh2
            simp only [holeB, Bool.and_eq_true, Bool.not_eq_true', Bool.and_eq_false_iff] at hh2
            obtain ⟨hne, hh2⟩ := hh2
            obtain ⟨B2, k1, k2, k3, k4⟩ := ci.hole b2 i2 u2 hh2
            simp only [Mem.setB, Mem.setA, upd]
            cases hb : Nat.beq b2 b with
            | true =>
              have := Nat.eq_of_beq_eq_true hb
              subst this
              rw [hB'] at k1
              injection k1 with k1
              subst k1
              refine ⟨_, rfl, List.mem_cons_of_mem _ (lkDrop_mem.2 ⟨k2, fun e' => ?_⟩), k3, k4⟩
              rcases hne with h | h
              · rw [Nat.beq_refl] at h; cases h
              · simp only at e'
                rw [e', Nat.beq_refl] at h; cases h
            | false => exact ⟨B2, k1, k2, k3, k4⟩
        simp only [readC] at hx
        cases hB : st.mem.box b with
        | none => rw [hB] at hx; cases hx
        | some B =>
          rw [hB] at hx
          simp only at hx
          have hBc : c.m.box b = some B := by rw [inv.m]; exact hB
          have hbr := hr.box b B hBc
          split at hx
          · rename_i hlk
            injection hx with hx
            subst hx
            have hos : ownsOf st (.lnk t b i e ty :: cs) = ownsOf st cs := by simp only [ownsOf, hB, hlk]
            rw [hos] at hnd hO
            obtain ⟨c', ci⟩ := cut_ok' inv O cs l' hok.2 hnd hO hD hl
            obtain ⟨cells0, tid0, hh0, _, _, _, _, _, hk0⟩ : ∃ cs tid, c.w.heap[c.bx b]? = some (.cells cs tid (0, 0)) ∧ RelB c B cs.toList := by
              rcases hbr with ⟨_, h0⟩ | h
              · rw [h0] at hlk; cases hlk
              · exact h
            refine fin c' nilCell ci ⟨⟨[], World.ownsRow_nil _ _ _ _, rfl⟩, fun g hg => by cases hg⟩ (fun cells tid hh ct _ hct => ?_) (.inl rfl) (fun y hy => by rw [hos]; exact hy)
            obtain ⟨B1, hB1, hBt⟩ := hct
            rw [hBc] at hB1
            injection hB1 with hB1
            subst hB1
            rw [hh0] at hh
            injection hh with hh
            injection hh with hh _ _
            subst hh
            rw [← hBt]
            exact (hk0 _ (lkAt_some hlk)).2.2
          · rename_i a0 hlk
            cases ha : st.mem.arr a0 with
            | no => rw [ha] at hx; cases hx
            | dead => rw [ha] at hx; cases hx
            | mp M => rw [ha] at hx; cases hx
            | at_ A =>
              rw [ha] at hx
              simp only at hx
              split at hx
              · rename_i ho
                split at hx
                · rename_i hty
                  injection hx with hx
                  subst hx
                  have hos : ownsOf st (.lnk t b i e ty :: cs) = a0 :: ownsOf st cs := by simp only [ownsOf, hB, hlk]
                  rw [hos] at hnd hO
                  obtain ⟨hnm, hnd'⟩ := nodup_cons hnd
                  obtain ⟨c', ci⟩ := cut_ok' inv O cs l' hok.2 hnd' (fun y hy => hO y (List.mem_cons_of_mem _ hy)) hD hl
                  have hac : c.m.arr a0 = .at_ A := by rw [inv.m]; exact ha
                  obtain ⟨cells0, tid0, hh0, _, _, _, _, _, hk0⟩ : ∃ cs tid, c.w.heap[c.bx b]? = some (.cells cs tid (0, 0)) ∧ RelB c B cs.toList := by
                    rcases hbr with ⟨_, h0⟩ | h
                    · rw [h0] at hlk; cases hlk
                    · exact h
                  have hl2 := own_loose inv ci hac ho hnm (hO a0 List.mem_cons_self)
                  obtain ⟨Ae, At, Ax, Ao⟩ := A
                  simp only [Ty.sl.injEq] at hty
                  obtain ⟨q1, q2⟩ := hty
                  subst q1 q2
                  refine fin c' _ ci hl2 (fun cells tid hh ct _ hct => ?_) (.inr ⟨a0, _, by rw [hos]; exact List.mem_cons_self, hac, ho, rfl⟩) (fun y hy => by rw [hos]; exact List.mem_cons_of_mem _ hy)
                  obtain ⟨B1, hB1, hBt⟩ := hct
                  rw [hBc] at hB1
                  injection hB1 with hB1
                  subst hB1
                  rw [hh0] at hh
                  injection hh with hh
                  injection hh with hh _ _
                  subst hh
                  rw [← hBt]
                  exact (hk0 _ (lkAt_some hlk)).2.2.2.1 _ hac
                · cases hx
              · cases hx
          · cases hx
      | mapo t kt vt =>
        simp only [cutOk, Bool.and_eq_true, Bool.not_eq_true'] at hok
        simp only [readC] at hx
        split at hx
        · rename_i a0 hv
          cases ha : st.mem.arr a0 with
          | no => rw [ha] at hx; cases hx
          | dead => rw [ha] at hx; cases hx
          | at_ A => rw [ha] at hx; cases hx
          | mp M =>
            rw [ha] at hx
            simp only at hx
            split at hx
            · rename_i hty
              obtain ⟨Mk, Mv, Mes⟩ := M
              have hty' := hty
              simp only [Ty.mp.injEq] at hty'
              obtain ⟨q1, q2⟩ := hty'
              subst q1 q2
              injection hx with hx
              subst hx
              have hos : ownsOf st (.mapo t Mk Mv :: cs) = a0 :: ownsOf st cs := by simp only [ownsOf, hv]
              rw [hos] at hnd hO
              obtain ⟨hnm, hnd'⟩ := nodup_cons hnd
              obtain ⟨c', ci⟩ := cut_ok' inv O cs l' hok.2 hnd' (fun y hy => hO y (List.mem_cons_of_mem _ hy)) hD hl
              have hac : c.m.arr a0 = .mp ⟨Mk, Mv, Mes⟩ := by rw [inv.m]; exact ha
              have hp := inv.tmp t
              rw [hv] at hp
              have hu : a.tmps.getD t undef = c.ar a0 := hp.2.2 _ hac
              obtain ⟨hk, hvt, g, es, cl, eg, h0, hS', hh, hE⟩ := hr.ms.mps a0 _ hac
              have hno := ci.arrNo hok.1
              obtain ⟨r2, e2⟩ := addMap_ok ci.rel hno (M := ⟨Mk, Mv, Mes⟩) (g := g) (es := es) (cl := cl) hk hvt (by rw [ci.w]; exact hh) h0
                (by
                  rw [ci.S]
                  rintro (h | ⟨i, A', hA', ho', hni, hg'⟩ | ⟨i, M, hM, hni, hg'⟩)
                  · exact hS' h
                  · have hA := hr.arr i A' hA'
                    unfold RelA at hA
                    rw [if_pos ho'] at hA
                    obtain ⟨inner, h1, _, _⟩ := hA
                    rcases h1.2 with ⟨hv', _⟩ | ⟨g3, cap3, cur3, hv', hb3, hh3, _⟩
                    · rw [hv'] at hg'; cases hg'
                    · rw [hv'] at hg'
                      have : g3 = g := by simpa [Value.ownBlock] using hg'
                      subst this
                      rw [hh3] at hh; cases hh
                  · have := hr.ms.mm i a0 M _ hM hac (by rw [hg', eg])
                    subst this
                    exact hni (hO i List.mem_cons_self))
                (hE.imp (fun _ _ hh => RelC.flat (keyT_flat hk) hh) (fun _ _ hh => RelC.flat (valT_flat hvt) hh))
                (fun i M hM e => by
                  obtain ⟨a1, M1, k1, k2, k3⟩ := ci.mps i M hM
                  rw [k3] at e
                  have := hr.ms.mm a1 a0 M1 _ k2 hac (by rw [e, eg])
                  subst this
                  exact hnm k1)
              refine ⟨{ c' with ar := upd c'.ar (t + ownBase) (.map (some g)), m := c'.m.setA (t + ownBase) (.mp ⟨Mk, Mv, Mes⟩) }, ?_, ci.w, ci.S, r2, fun i => ?_, ci.box, ci.boxR, ?_, ?_, fun i M hM => ?_, ci.hole⟩
              · show c'.m.setA _ _ = (putCs cs l').mem.setA _ _
                rw [ci.m]; rfl
              · simp only [putCs, putC, upd]
                cases hb : Nat.beq i t with
                | false => exact (ci.tmp i).ext e2
                | true =>
                  have := Nat.eq_of_beq_eq_true hb
                  subst this
                  refine ⟨by simp [Mem.setA, upd], fun A hA => by simp [Mem.setA, upd] at hA, fun M hM => ?_⟩
                  rw [hu, eg]
                  simp [upd]
              · intro i A hA
                simp only [Mem.setA, upd] at hA ⊢
                cases hb : Nat.beq i (t + ownBase) with
                | true => rw [hb] at hA; cases hA
                | false =>
                  rw [hb] at hA
                  obtain ⟨⟨t', h1, h2⟩, h3⟩ := ci.arr i A hA
                  refine ⟨⟨t', h1, by simp [ownIn, h2]⟩, ?_⟩
                  rcases h3 with h3 | ⟨a1, A1, k1, k2, k3, k4⟩
                  · exact .inl h3
                  · exact .inr ⟨a1, A1, by rw [hos]; exact List.mem_cons_of_mem _ k1, k2, k3, k4⟩
              · intro i hi
                simp only [Mem.setA, upd] at hi
                cases hb : Nat.beq i (t + ownBase) with
                | true =>
                  have := Nat.eq_of_beq_eq_true hb
                  exact ⟨t, this, by simp [ownIn]⟩
                | false =>
                  rw [hb] at hi
                  obtain ⟨t', h1, h2⟩ := ci.dead i hi
                  exact ⟨t', h1, by simp [ownIn, h2]⟩
              · simp only [Mem.setA, upd] at hM ⊢
                cases hb : Nat.beq i (t + ownBase) with
                | true => exact ⟨a0, _, by rw [hos]; exact List.mem_cons_self, hac, eg.symm⟩
                | false =>
                  rw [hb] at hM
                  obtain ⟨a1, M1, k1, k2, k3⟩ := ci.mps i M hM
                  exact ⟨a1, M1, by rw [hos]; exact List.mem_cons_of_mem _ k1, k2, k3⟩
            · cases hx
        · cases hx
    · cases hrd
theorem cut_inv {c : Cx} {st : St} {a : Act} (inv : Inv P E n st c a) {cs : List CK} {l : cden cs} (h : (cutOk cs && nodupB (ownsOf st cs) && disj (datsOf st cs) (ownsOf st cs)) = true) (hl : readCs st cs = some l) :
    ∃ c', c'.w = c.w ∧ Inv P E n (putCs cs l) c' a := by
  simp only [Bool.and_eq_true] at h
  obtain ⟨c', ci⟩ := cut_ok' inv (ownsOf st cs) cs l h.1.1 h.1.2 (fun _ hx => hx) (fun x hx => notmem_of_disj h.2 hx) hl
  exact ⟨c', ci.w, ci.m, ci.rel, ci.tmp, inv.def_, inv.n⟩

def Ends (P : Program) (f : FuncId) (cs : List Frame) (R : Ending → World → Prop) (m : Machine) : Prop :=
  ∃ e w' fr, R e w' ∧ Comes P m (lone fr cs w') e ∧ fr.fn = f ∧ fr.leaving P w' e
theorem Ends.steps {f : FuncId} {cs : List Frame} {R : Ending → World → Prop} {m m' : Machine} (h : Steps P m m') (k : Ends P f cs R m') : Ends P f cs R m := by
  obtain ⟨e, w', fr, h1, h2, h3, h4⟩ := k
  exact ⟨e, w', fr, h1, Comes.of_steps h h2, h3, h4⟩
theorem Ends.head {f : FuncId} {cs : List Frame} {R : Ending → World → Prop} {m m' : Machine} (h : step P m = .next m') (k : Ends P f cs R m') : Ends P f cs R m := k.steps (.one h)

variable {f : FuncId} {fn : Func}
theorem runT_ok {R : Type} {F : Fn R} (hA : F.A = Alg.std R) (hT : TabOk P F.T) (hG : ∀ f s, F.G f = some s → SpecOk P f s) (hmix : P.follows .mixedOrders = true) (hf : P.funcs[f]? = some fn) (hn : F.n = n) {r : R} {Rr : Ending → World → Prop} {b : Frame} (hbf : b.fn = f) (hbk : b.kind = .normal) {cs : List Frame}
    {next : List Item → St → Option R} (hnext : ∀ todo st c a, next todo st = some r → Inv P E n st c a → Ends P f cs Rr (lone (b.at a todo) cs c.w))
    (hfin : ∀ st c a, F.fin st = some r → Inv P E n st c a → ∃ v, (results fn a.tmps).run P c.w = .ok v c.w ∧ Rr (.returned v) c.w) :
    ∀ (s : Nat) (fr : Bool) (todo : List Item) (st : St) (c : Cx) (a : Act), runT F next s fr todo st = some r → Inv P E n st c a → Ends P f cs Rr (lone (b.at a todo) cs c.w) := by
  have fin : ∀ st c a todo, F.fin st = some r → Inv P E n st c a → Ends P f cs Rr (lone { b.at a todo with mode := .returning } cs c.w) := by
    intro st c a todo h inv
    obtain ⟨v, hv, hR⟩ := hfin st c a h inv
    exact ⟨.returned v, c.w, { b.at a todo with mode := .returning }, hR, Steps.refl P _, hbf, rfl, inv.def_, hbk, fn, by show P.funcs[b.fn]? = some fn; rw [hbf]; exact hf, hv⟩
  intro s
  induction s with
  | zero => intro fr todo st c a h; cases h
  | succ s ih =>
    intro fr todo st c a h inv
    cases todo with
    | nil =>
      simp only [runT] at h
      exact (fin st c a [] h inv).head step_end
    | cons it k =>
      cases it with
      | code cc =>
        cases cc with
        | skip => exact (ih fr k st c a h inv).head step_skip
        | label l => exact (ih fr k st c a h inv).head step_label
        | ret => exact (fin st c a _ h inv).head step_ret
        | seq x y => exact (ih fr _ st c a h inv).head step_seq
        | cond p x y =>
          simp only [runT] at h
          split at h
          · rename_i bb hb
            have hv := evalV_ok inv.tmp p
            rw [hb] at hv
            have hbv := relV_bool hv
            rw [hA] at h
            cases bb with
            | true => exact (ih fr _ st c a h inv).head (by have := step_cond (P := P) (b := b) (a := a) (k := k) (cs := cs) (w := c.w) (c := p) (x := x) (y := y) hbv; simpa using this)
            | false => exact (ih fr _ st c a h inv).head (by have := step_cond (P := P) (b := b) (a := a) (k := k) (cs := cs) (w := c.w) (c := p) (x := x) (y := y) hbv; simpa using this)
          · cases h
        | block id x => exact (ih fr _ st c a h inv).head step_block
        | loop x => exact (ih fr _ st c a h inv).head step_loop
        | scope x => exact (ih fr _ st c a h inv).head (step_lone_go (by simp [stepG, stepG.exec, Frame.at]))
        | exit id =>
          simp only [runT] at h
          split at h
          · rename_i k' hk
            exact (ih fr k' st c a h inv).head (step_exit hk)
          · cases h
        | region id ops draw =>
          simp only [runT] at h
          split at h
          · split at h
            · rename_i l hc hl
              obtain ⟨c', hw, inv'⟩ := cut_inv inv hc hl
              rw [← hw]
              exact hnext _ _ c' a h inv'
            · cases h
          · rw [hA, hn] at h
            have hwp := region_ok (id := id) hT hG hmix h inv (Q := fun e a' w' => e = .normal ∧ ∃ st' c', c'.w = w' ∧ runT F next s false k st' = some r ∧ Inv P E n st' c' a') (fun st' c' a' hk' inv' => ⟨rfl, st', c', rfl, hk', inv'⟩)
            obtain ⟨e, a', w', ⟨rfl, st', c', rfl, hk', inv'⟩, harr⟩ := hwp b k cs
            exact (ih false k st' c' a' hk' inv').steps harr
        | rangeFunc _ _ _ _ => cases h
        | goto l => cases h
        | refuse w => cases h
      | inBlock id => exact (ih fr k st c a h inv).head step_inBlock
      | inScope x => exact (ih fr k st c a h inv).head (step_lone_go (by simp [stepG, stepG.exec, Frame.at]))
      | inLoop x => exact (ih fr _ st c a h inv).head step_inLoop
      | _ => cases h
theorem runK_ok {R : Type} {F : Nat → Fn R} (hA : ∀ k, (F k).A = Alg.std R) (hT : ∀ k, TabOk P (F k).T) (hG : ∀ k f s, (F k).G f = some s → SpecOk P f s) (hmix : P.follows .mixedOrders = true) (hf : P.funcs[f]? = some fn) (hn : ∀ k, (F k).n = n) {r : R} {Rr : Ending → World → Prop} {b : Frame} (hbf : b.fn = f) (hbk : b.kind = .normal) {cs : List Frame}
    (hfin : ∀ k st c a, (F k).fin st = some r → Inv P E n st c a → ∃ v, (results fn a.tmps).run P c.w = .ok v c.w ∧ Rr (.returned v) c.w) :
    ∀ (k : Nat) (todo : List Item) (st : St) (c : Cx) (a : Act), runK F k todo st = some r → Inv P E n st c a → Ends P f cs Rr (lone (b.at a todo) cs c.w)
  | 0, _, _, _, _, h, _ => by cases h
  | k + 1, todo, st, c, a, h, inv => runT_ok (F := F k) (hA k) (hT k) (hG k) hmix hf (hn k) hbf hbk (runK_ok hA hT hG hmix hf hn hbf hbk hfin k) (hfin k) _ _ todo st c a h inv
end
end Go.Vm
end
section
namespace Go.Vm
open Go.RowKit
set_option linter.unusedVariables false
set_option linter.unusedSimpArgs false

theorem app_cur {R : Type} : ∀ (ps : List PK) (g : dens ps → R) (a : dens ps), app ps (cur ps g) a = g a
  | [], g, a => rfl
  | _ :: ps, g, (x, l) => app_cur ps (fun a => g (x, a)) l

section
variable {P : Program} {T : Tab} {E : Env} {G : Gam} {n : Nat}

theorem putP_ok {w : World} {S S1' : Nat → Prop} {flat : Bool} {c : Cx} (hw : c.w = w) (hE : E.w0 = w) (hE2 : ∀ b, ¬ E.W0 b) (h01 : ∀ b, S b → S1' b) (hlt : ∀ b, S1' b → b < w.heap.size) (hcS : c.S = E.S0) (hSS : ∀ b, S b → E.S0 b) (hfl : flat = true → ∀ b, S1' b → E.S0 b) {arr : Array Value} :
    ∀ (ps : List PK) (as : dens ps) (vs : List Value) (i : Nat) (st : St), RelArgs P w S S1' flat ps as vs → (∀ j v, vs[j]? = some v → arr.getD (i + j) undef = v) → (∀ t, RelV P E c (st.tmp t) (arr.getD t undef)) →
      (putP ps as i st).mem = st.mem ∧ ∀ t, RelV P E c ((putP ps as i st).tmp t) (arr.getD t undef)
  | [], _, _, _, st, _, _, ht => ⟨rfl, ht⟩
  | .val t :: ps, (x, l), _, i, st, ⟨v, vs, rfl, hx, hl⟩, hv, ht => by
    have := putP_ok hw hE hE2 h01 hlt hcS hSS hfl ps l vs (i + 1) ⟨upd st.tmp i (.dat ⟨t, x⟩), st.mem⟩ hl (fun j u hj => by rw [Nat.add_assoc, Nat.add_comm 1 j]; exact hv (j + 1) u (by simpa using hj)) (fun k => by
      simp only [upd]
      cases hb : Nat.beq k i with
      | false => exact ht k
      | true =>
        have := Nat.eq_of_beq_eq_true hb
        subst this
        rw [show arr.getD k undef = v from hv 0 v rfl]
        show RelD c.w c.S t x v
        rw [hw, hcS]
        exact hx.move (fun _ _ => rfl) hSS)
    exact this
  | .ro t :: ps, (x, l), _, i, st, ⟨v, vs, rfl, hf, hx, hl⟩, hv, ht => by
    have := putP_ok hw hE hE2 h01 hlt hcS hSS hfl ps l vs (i + 1) ⟨upd st.tmp i (.rptr ⟨t, x⟩), st.mem⟩ hl (fun j u hj => by rw [Nat.add_assoc, Nat.add_comm 1 j]; exact hv (j + 1) u (by simpa using hj)) (fun k => by
      simp only [upd]
      cases hb : Nat.beq k i with
      | false => exact ht k
      | true =>
        have := Nat.eq_of_beq_eq_true hb
        subst this
        rw [show arr.getD k undef = v from hv 0 v rfl]
        show RelP c.w c.S t x v
        rw [hw, hcS]
        exact hx.move (fun _ _ => rfl) (hfl hf))
    exact this
  | .rw _ :: _, _, _, _, _, h, _, _ => h.elim
  | .fn a r :: ps, (x, l), _, i, st, ⟨v, vs, rfl, hx, hl⟩, hv, ht => by
    have := putP_ok hw hE hE2 h01 hlt hcS hSS hfl ps l vs (i + 1) ⟨upd st.tmp i (.fnp a r x), st.mem⟩ hl (fun j u hj => by rw [Nat.add_assoc, Nat.add_comm 1 j]; exact hv (j + 1) u (by simpa using hj)) (fun k => by
      simp only [upd]
      cases hb : Nat.beq k i with
      | false => exact ht k
      | true =>
        have := Nat.eq_of_beq_eq_true hb
        subst this
        rw [show arr.getD k undef = v from hv 0 v rfl]
        refine ⟨S1', fun b hb => ⟨by rw [hE]; exact hlt b hb, hE2 b⟩, ?_⟩
        rw [hE]
        exact hx.move (fun _ _ => rfl) hSS (fun _ h => h))
    exact this

def rvRun (tmps : Array Value) : ResultVar → Sem Value
  | .tmp t => pure (tmps.getD t undef)
  | .cell a t => do loadVar t (← asAddr (tmps.getD a undef))
theorem results_eq (fn : Func) (tmps : Array Value) (w : World) {vs : List Value} (h : (fn.results.toList.mapM (rvRun tmps)).run P w = .ok vs w) :
    (results fn tmps).run P w = .ok (if h : vs.toArray.size = 1 then vs.toArray[0] else .tuple vs.toArray) w := by
  have e : (results fn tmps) = (do let vs ← fn.results.mapM (rvRun tmps); pure (if h : vs.size = 1 then vs[0] else .tuple vs)) := by
    unfold results
    congr 1
  rw [e, Sem.run_bind, Array.mapM_eq_mapM_toList, Sem.run_map, h]
  rfl

theorem cutS_new {c : Cx} (hr : Rel E c) {b : Nat} (h : cutS c [] b) : Ext' E.S0 E.w0 c.w b := by
  rcases h with h | ⟨a, A, hA, ho, _, hb⟩ | ⟨a, M, hM, _, hb⟩
  · rcases hr.new b h with h' | h'
    · exact .inl h'
    · exact .inr ⟨h', hr.lt b h⟩
  · have := hr.arr a A hA
    unfold RelA at this
    rw [if_pos ho] at this
    obtain ⟨_, h1, _⟩ := this
    exact .inr (h1.lt b hb)
  · obtain ⟨_, _, g, _, _, e, h0, _, hh, _⟩ := hr.ms.mps a M hM
    rw [hb] at e
    injection e with e
    injection e with e
    subst e
    exact .inr ⟨h0, (Array.getElem?_eq_some_iff.1 hh).1⟩
theorem readR_ok (hT : TabOk P T) {st : St} {c : Cx} {a : Act} (inv : Inv P E n st c a) {t : Ty} (hg : t.good = true) {rv : ResultVar} {y : t.den} (h : readR T st t rv = some y) :
    ∃ v, (rvRun a.tmps rv).run P c.w = .ok v c.w ∧ RelV1 c.w (Ext' E.S0 E.w0 c.w) t y v := by
  have hr := inv.rel
  cases rv with
  | tmp i =>
    have := readD_ok hr (O := []) (inv.tmp i) (fun _ _ => by simp) (by rw [inv.m]; exact h)
    exact ⟨_, rfl, (this.v1 hg).move (fun _ _ => rfl) (fun b hb => cutS_new hr hb)⟩
  | cell i ty =>
    simp only [readR] at h
    split at h
    · rename_i b t' u hv hty
      split at h
      · rename_i B hB
        split at h
        case h_2 => cases h
        rename_i hfr
        split at h
        · rename_i he
          obtain ⟨he1, he2⟩ := he
          subst he2
          obtain ⟨Bt, Bx, Bl⟩ := B
          simp only at he1
          subst he1
          injection h with h
          subst h
          have hp := inv.tmp i
          rw [hv] at hp
          obtain ⟨B', hB', _, _, he⟩ := hp
          have hBc : c.m.box b = some ⟨Bt, Bx, Bl⟩ := by rw [inv.m]; exact hB
          obtain ⟨cs, tid, hh, hc0⟩ := (hr.box b _ hBc).cells (good_ni hg)
          have hc := hc0.free hfr
          have hca := cells_in hh (a := []) (m := cs.toList) (b := []) (by simp)
          obtain ⟨v, hrun, hv1⟩ := load_ok (hT _ _ hty) hc hca (hT _ _ hty).np
          refine ⟨v, ?_, hv1.move (fun _ _ => rfl) (fun b hb => cutS_new hr (.inl hb))⟩
          have e0 : pathOff [] B'.t = 0 := rfl
          simp only [rvRun, he, Sem.run_bind, asAddr, Sem.run_pure, Result.andThen_ok, e0]
          exact hrun
        · cases h
      · cases h
    · cases h
theorem readRs_ok (hT : TabOk P T) {st : St} {c : Cx} {a : Act} (inv : Inv P E n st c a) : ∀ {t : Ty} {l : List ResultVar} {y : t.den}, t.good = true → readRs T st t l = some y →
    ∃ vs, (l.mapM (rvRun a.tmps)).run P c.w = .ok vs c.w ∧ RelT c.w (Ext' E.S0 E.w0 c.w) t y vs ∧ vs.length = l.length := by
  have single : ∀ {t : Ty} {rv : ResultVar} {y : t.den}, t.isPair = false → t.good = true → readR T st t rv = some y →
      ∃ vs, ([rv].mapM (rvRun a.tmps)).run P c.w = .ok vs c.w ∧ RelT c.w (Ext' E.S0 E.w0 c.w) t y vs ∧ vs.length = 1 := by
    intro t rv y hp hg h
    obtain ⟨v, hv, hr⟩ := readR_ok hT inv hg h
    refine ⟨[v], ?_, ?_, rfl⟩
    · simp only [List.mapM_cons, List.mapM_nil, Sem.run_bind, hv, Result.andThen_ok, Sem.run_pure]
    · cases t <;> first | (simp [Ty.isPair] at hp; done) | exact ⟨v, rfl, hr⟩
  intro t
  induction t with
  | pair x y ihx ihy =>
    intro l z hg h
    simp only [Ty.good, Bool.and_eq_true] at hg
    match l, h with
    | [], h => cases h
    | [rv], h =>
      simp only [readRs] at h
      obtain ⟨v, hv, hr⟩ := readR_ok hT inv (t := .pair x y) (by simp [Ty.good, hg]) h
      exact hr.elim
    | r :: q :: rs, h =>
      simp only [readRs] at h
      split at h
      · rename_i u1 u2 h1 h2
        injection h with h
        subst h
        obtain ⟨v, hv, hr⟩ := readR_ok hT inv hg.1 h1
        obtain ⟨vs, hvs, hrs, hl⟩ := ihy hg.2 h2
        refine ⟨v :: vs, ?_, ⟨v, vs, rfl, hr, hrs⟩, by simp [hl]⟩
        rw [List.mapM_cons, Sem.run_bind, hv]
        simp only [Result.andThen_ok, Sem.run_bind, hvs, Sem.run_pure]
      · cases h
  | _ =>
    intro l z hg h
    match l, h with
    | [], h => cases h
    | [rv], h => exact single rfl hg h
    | _ :: _ :: _, h => cases h

theorem finR_ok (hT : TabOk P T) {fn : Func} {t : Ty} {st : St} {c : Cx} {a : Act} (inv : Inv P E n st c a) {y : t.den} (h : finR T fn t st = some y) :
    ∃ v, (results fn a.tmps).run P c.w = .ok v c.w ∧ RelD c.w (Ext' E.S0 E.w0 c.w) t y v := by
  unfold finR at h
  generalize hl : fn.results.toList = ls at h
  split at h
  · refine ⟨.tuple #[], ?_, rfl⟩
    rw [results_eq (P := P) fn a.tmps c.w (vs := []) (by rw [hl]; rfl)]
    rfl
  · rename_i cc r q l
    split at h
    · rename_i hg
      obtain ⟨vs, hvs, hrs, hlen⟩ := readRs_ok hT inv hg h
      refine ⟨.tuple vs.toArray, ?_, vs.toArray, rfl, by simpa using hrs⟩
      rw [results_eq (P := P) fn a.tmps c.w (vs := vs) (by rw [hl]; exact hvs)]
      rw [dif_neg]
      simp only [List.size_toArray, hlen, List.length_cons]
      omega
    · cases h
  · rename_i r _ _
    split at h
    · rename_i hg
      obtain ⟨v, hv, hr⟩ := readR_ok hT inv hg h
      refine ⟨v, ?_, RelD.of_v1 hr⟩
      rw [results_eq (P := P) fn a.tmps c.w (vs := [v]) (by rw [hl]; simp only [List.mapM_cons, List.mapM_nil, Sem.run_bind, hv, Result.andThen_ok, Sem.run_pure])]
      rfl
    · cases h
  · cases h

theorem runF_ok {G : Nat → Gam} (hT : TabOk P T) (hG : ∀ k f s, G k f = some s → SpecOk P f s) (hmix : P.follows .mixedOrders = true) {f : FuncId} {fn : Func} (hf : P.funcs[f]? = some fn) (hen : Enters P f) (cuts : List (Nat × List CK)) (ps : List PK) (r : Ty)
    (hps : ps.length ≤ fn.ntmps) (k : Nat) : SpecOk P f (.pu ps r (runF Alg.std G T fn cuts ps r k)) := by
  refine ⟨hen, fun w S S1' as vs y h01 hlt hargs hy => ?_⟩
  unfold runF at hy
  rw [app_cur] at hy
  cases hb : fn.body with
  | none => rw [hb] at hy; cases hy
  | some code =>
    rw [hb] at hy
    simp only at hy
    let E : Env := ⟨w, fun b => S b ∨ (r.flat = true ∧ S1' b), fun _ => False⟩
    let c : Cx := ⟨E.S0, fun _ => 0, fun _ => undef, St.empty.mem, w⟩
    have hvl : vs.length = ps.length := by
      have : ∀ (ps : List PK) (as : dens ps) (vs : List Value), RelArgs P w S S1' r.flat ps as vs → vs.length = ps.length := by
        intro ps
        induction ps with
        | nil => intro as vs h; have : vs = [] := h; rw [this]; rfl
        | cons p ps ih =>
          intro as vs h
          cases p with
          | val t => obtain ⟨v, l, rfl, _, hl⟩ := h; simp [ih _ _ hl]
          | ro t => obtain ⟨v, l, rfl, _, _, hl⟩ := h; simp [ih _ _ hl]
          | rw t => exact h.elim
          | fn a r => obtain ⟨v, l, rfl, _, hl⟩ := h; simp [ih _ _ hl]
      exact this ps as vs hargs
    have hS0lt : ∀ b, E.S0 b → b < w.heap.size := fun b hb => by
      rcases hb with hb | hb
      · exact hlt b (h01 b hb)
      · exact hlt b hb.2
    have hrel : Rel E c := ⟨rfl, rfl, rfl, Nat.le_refl _, fun _ _ _ => rfl, fun _ h => h, hS0lt, fun _ h => .inl h, fun b B h => (by cases h), fun b h => absurd rfl h, fun a A h => (by cases h), fun b b' h => absurd rfl h,
      fun a a' A A' g h => (by cases h), fun b a A h => absurd rfl h, ⟨fun a M h => (by cases h), fun a a' M M' h => (by cases h)⟩⟩
    let arr : Array Value := vs.toArray ++ Array.replicate (fn.ntmps - vs.toArray.size) undef
    have hput := putP_ok (P := P) (E := E) (c := c) (w := w) (S := S) (S1' := S1') (flat := r.flat) (arr := arr) rfl rfl (fun _ h => h) h01 hlt rfl (fun _ h => .inl h) (fun hf b hb => .inr ⟨hf, hb⟩) ps as vs 0 St.empty hargs (fun j v hj => by
        have hjl : j < vs.length := (List.getElem?_eq_some_iff.1 hj).1
        have : arr[j]? = some v := by
          show (vs.toArray ++ _)[j]? = some v
          rw [Array.getElem?_append_left (by simpa using hjl)]
          simpa using hj
        simp [this]) (fun t => trivial)
    have inv : Inv P E fn.ntmps (putP ps as 0 St.empty) c ⟨arr, []⟩ := ⟨hput.1.symm, hrel, hput.2, rfl, by
      show (vs.toArray ++ Array.replicate (fn.ntmps - vs.toArray.size) undef).size = fn.ntmps
      simp only [Array.size_append, Array.size_replicate, List.size_toArray, hvl]
      omega⟩
    intro cs
    let b : Frame := { (default : Frame) with fn := f, kind := .normal }
    have henter : Frame.enter P f vs.toArray .normal = b.at ⟨arr, []⟩ [.code code] := by
      simp [Frame.enter, Frame.at, hf, hb, b, arr]
    have hfin : ∀ (k : Nat) (st : St) (c' : Cx) (a : Act), (Fn.of Alg.std G T fn cuts r k).fin st = some y → Inv P E fn.ntmps st c' a → ∃ v, (results fn a.tmps).run P c'.w = .ok v c'.w ∧ Ret w S r y (.returned v) c'.w := by
      intro _ st c' a h inv'
      obtain ⟨v, hv, hrd⟩ := finR_ok hT inv' h
      refine ⟨v, hv, v, rfl, ?_, ⟨inv'.rel.os, inv'.rel.tape, inv'.rel.output, inv'.rel.size, fun k hk => inv'.rel.keep k hk (fun h => h)⟩⟩
      cases hfl : r.flat with
      | true => exact hrd.flat hfl
      | false =>
        refine hrd.move (fun _ _ => rfl) (fun b hb => ?_)
        rcases hb with (hb | hb) | hb
        · exact .inl hb
        · rw [hfl] at hb; cases hb.1
        · exact .inr hb
    have hends := runT_ok (P := P) (E := E) (n := fn.ntmps) (fn := fn) (f := f) (F := Fn.of Alg.std G T fn cuts r k) rfl hT (hG k) hmix hf rfl (r := y) (Rr := Ret w S r y) (b := b) rfl rfl (cs := cs)
      (fun todo st c' a h inv' => runK_ok (F := Fn.of Alg.std G T fn cuts r) (fun _ => rfl) (fun _ => hT) hG hmix hf (fun _ => rfl) rfl rfl hfin k todo st c' a h inv') (hfin k) _ _ _ _ c ⟨arr, []⟩ hy inv
    rw [henter]
    exact hends

def ins (f : Nat) (s : Spec) (G : Gam) : Gam := fun g => bif Nat.beq f g then some s else G g
def GOk (P : Program) (G : Nat → Gam) : Prop := ∀ k f s, G k f = some s → SpecOk P f s
theorem GOk.none : GOk P (fun _ _ => none) := fun k f s h => by cases h
theorem GOk.ins {G : Nat → Gam} (h : GOk P G) {f : Nat} {s : Nat → Spec} (hs : ∀ k, SpecOk P f (s k)) : GOk P (fun k => ins f (s k) (G k)) := fun k g t ht => by
  unfold Vm.ins at ht
  simp only at ht
  cases hb : Nat.beq f g with
  | true =>
    rw [hb] at ht
    have := Nat.eq_of_beq_eq_true hb
    subst this
    injection ht with ht
    subst ht
    exact hs k
  | false => rw [hb] at ht; exact h k g t ht
end
end Go.Vm
end
