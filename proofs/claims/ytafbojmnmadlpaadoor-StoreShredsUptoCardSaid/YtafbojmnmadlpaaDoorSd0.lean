/- Nodes of a document's events: in plain words. No condition. -/
import Derived.Test.YtafbojmnmadlpaaDoorEcA
import Derived.Test.YtafbojmnmadlpaaDoorEc3
set_option linter.all false
set_option linter.unusedSimpArgs false
set_option linter.unusedVariables false
namespace Go.Proofs.YtafbojmnmadlpaaDoor
open Go Go.Proofs.YtafbojmnmadlpaaDoor.Ab
variable [Glo]
def ndC (x : Nd) : List V := [.d (.i .i64 x.k), .d (.s x.nm), .d (.s x.vl), .d (.i .i64 x.sz), .d (.i .i64 x.lv), .d (.i .i64 x.up)]
theorem nds_data (l : List Nd) : dsRows (l.map ndC) = some (l.map ndD) := by
  induction l with
  | nil => rfl
  | cons x rs ih => simp [dsRows, ndC, ndD, dsOf, asD, ih]
theorem obBel_nd (m ver e sz : Nat) (xs : List Nd) : ObBel m (.row ver e sz (xs.map ndC)) := obBel_map ndD m ver e sz xs
def ndDoc : Nd := ⟨6, [], [], 0, 0, -1⟩
def szTo (x : Nd) (n : Int) : Nd := { x with sz := n }
/-- One more within each node that is open. -/
def bump (os : List Nat) (out : List Nd) : List Nd := out.mapIdx fun j x => if j ∈ os then szTo x (x.sz + 1) else x
/-- No node within each node that is open. -/
def bare (os : List Nat) (out : List Nd) : List Nd := out.mapIdx fun j x => if j ∈ os then szTo x 0 else x
def lvAt (out : List Nd) (up : Nat) : Int := match out[up]? with | some x => x.lv | none => 0
def shNew (out : List Nd) (up : Nat) (x : Ev) : Nd := ⟨x.k, x.nm, x.vl, 0, lvAt out up + 1, up⟩
/-- The nodes when all events have come; 'os': the open nodes but the innermost one, 'up': that. -/
def shGo : List Ev → List Nd → List Nat → Nat → List Nd
  | [], out, _, _ => out
  | x :: l, out, os, up =>
    if x.k = 5 then (match os.getLast? with | some o => shGo l out os.dropLast o | none => out)
    else if x.k = 1 then shGo l (bump (os ++ [up]) out ++ [shNew out up x]) (os ++ [up]) out.length
    else shGo l (bump (os ++ [up]) out ++ [shNew out up x]) os up
def shredded (l : List Ev) : List Nd := if eventsFault l = 0 then shGo l [ndDoc] [] 0 else []
theorem bump_len (os : List Nat) (out : List Nd) : (bump os out).length = out.length := by simp [bump]
theorem bare_len (os : List Nat) (out : List Nd) : (bare os out).length = out.length := by simp [bare]
theorem bump_get {os : List Nat} {out : List Nd} {j : Nat} {x : Nd} (h : out[j]? = some x) : (bump os out)[j]? = some (if j ∈ os then szTo x (x.sz + 1) else x) := by
  rw [bump, List.getElem?_mapIdx, h]; rfl
theorem bare_get {os : List Nat} {out : List Nd} {j : Nat} {x : Nd} (h : out[j]? = some x) : (bare os out)[j]? = some (if j ∈ os then szTo x 0 else x) := by
  rw [bare, List.getElem?_mapIdx, h]; rfl
theorem bare_bump (os : List Nat) (out : List Nd) : bare os (bump os out) = bare os out := by
  apply List.ext_getElem?
  intro j
  cases h : out[j]? with
  | none =>
    have h1 : (bump os out)[j]? = none := by rw [List.getElem?_eq_none_iff, bump_len]; exact List.getElem?_eq_none_iff.1 h
    have h2 : (bare os out)[j]? = none := by rw [List.getElem?_eq_none_iff, bare_len]; exact List.getElem?_eq_none_iff.1 h
    have h3 : (bare os (bump os out))[j]? = none := by rw [List.getElem?_eq_none_iff, bare_len, bump_len]; exact List.getElem?_eq_none_iff.1 h
    rw [h2, h3]
  | some x =>
    rw [bare_get h, bare_get (bump_get h)]
    split <;> rfl
theorem bare_app (os : List Nat) (out : List Nd) (x : Nd) (h : ∀ j, j ∈ os → j < out.length) : bare os (out ++ [x]) = bare os out ++ [x] := by
  rw [bare, bare, List.mapIdx_append]
  congr 1
  simp only [List.mapIdx_cons, List.mapIdx_nil, Nat.zero_add]
  rw [if_neg fun hm => Nat.lt_irrefl _ (h _ hm)]
theorem bare_new (os : List Nat) (out : List Nd) (x : Nd) (h : ∀ j, j ∈ os → j < out.length) (hz : x.sz = 0) : bare (os ++ [out.length]) (out ++ [x]) = bare os out ++ [x] := by
  rw [← bare_app os out x h]
  apply List.ext_getElem?
  intro j
  cases hj : (out ++ [x])[j]? with
  | none =>
    rw [List.getElem?_eq_none_iff.2 (by rw [bare_len]; exact List.getElem?_eq_none_iff.1 hj), List.getElem?_eq_none_iff.2 (by rw [bare_len]; exact List.getElem?_eq_none_iff.1 hj)]
  | some y =>
    rw [bare_get hj, bare_get hj]
    by_cases h1 : j ∈ os
    · rw [if_pos (List.mem_append_left _ h1), if_pos h1]
    · rw [if_neg h1]
      by_cases h2 : j = out.length
      · rw [if_pos (by rw [h2]; simp)]
        subst h2
        rw [List.getElem?_append_right (Nat.le_refl _), Nat.sub_self] at hj
        cases hj
        rw [szTo, ← hz]
      · rw [if_neg (by simp [h1, h2])]
theorem bare_close (os : List Nat) (up : Nat) (out : List Nd) (x : Nd) (hx : out[up]? = some x) (hn : up ∉ os) : (bare (os ++ [up]) out).set up x = bare os out := by
  apply List.ext_getElem?
  intro j
  by_cases hj : j = up
  · subst hj
    rw [List.getElem?_set_self (by rw [bare_len]; exact lt_of_get hx), bare_get hx, if_neg hn]
  · rw [List.getElem?_set_ne (Ne.symm hj)]
    cases h : out[j]? with
    | none => rw [List.getElem?_eq_none_iff.2 (by rw [bare_len]; exact List.getElem?_eq_none_iff.1 h), List.getElem?_eq_none_iff.2 (by rw [bare_len]; exact List.getElem?_eq_none_iff.1 h)]
    | some y =>
      rw [bare_get h, bare_get h]
      by_cases h1 : j ∈ os
      · rw [if_pos (List.mem_append_left _ h1), if_pos h1]
      · rw [if_neg h1, if_neg (by simp [h1, hj])]
/-- What stays true: where the open nodes stand, how many nodes are within each, and what is above each. -/
structure ShInv (out : List Nd) (os : List Nat) (up : Nat) : Prop where
  lt : ∀ j, j ∈ os ++ [up] → j < out.length
  asc : ∀ (a b : Nat) (i j : Nat), (os ++ [up])[a]? = some i → (os ++ [up])[b]? = some j → a < b → i < j
  sz : ∀ j x, j ∈ os ++ [up] → out[j]? = some x → x.sz = (out.length : Int) - j - 1
  top : (os ++ [up])[0]? = some 0 ∧ ∃ x, out[0]? = some x ∧ x.up = -1
  par : ∀ (a : Nat) (i j : Nat) x, (os ++ [up])[a]? = some i → (os ++ [up])[a + 1]? = some j → out[j]? = some x → x.up = i
  lv : ∀ x, x ∈ out → 0 ≤ x.lv ∧ x.lv ≤ out.length
  szb : ∀ x, x ∈ out → 0 ≤ x.sz ∧ x.sz ≤ out.length
theorem ShInv.zero : ShInv [ndDoc] [] 0 where
  lt := by simp
  asc := fun a b i j h1 h2 hab => by
    have := lt_of_get h2
    simp at this
    omega
  sz := fun j x hj hx => by
    simp at hj
    subst hj
    simp at hx
    subst hx
    rfl
  top := ⟨rfl, ndDoc, rfl, rfl⟩
  par := fun a i j x h1 h2 _ => by
    have := lt_of_get h2
    simp at this
  lv := by simp [ndDoc]
  szb := by simp [ndDoc]
theorem ShInv.notin {out : List Nd} {os : List Nat} {up : Nat} (h : ShInv out os up) : up ∉ os := fun hm => by
  obtain ⟨a, ha⟩ := List.getElem?_of_mem hm
  have hl := lt_of_get ha
  have := h.asc a os.length up up (by rw [List.getElem?_append_left hl]; exact ha) (by simp) hl
  omega
theorem ShInv.close {out : List Nd} {os : List Nat} {up o : Nat} (h : ShInv out (os ++ [o]) up) : ShInv out os o where
  lt := fun j hj => h.lt j (List.mem_append_left _ hj)
  asc := fun a b i j h1 h2 hab => h.asc a b i j (by rw [List.getElem?_append_left (lt_of_get h1)]; exact h1) (by rw [List.getElem?_append_left (lt_of_get h2)]; exact h2) hab
  sz := fun j x hj hx => h.sz j x (List.mem_append_left _ hj) hx
  top := ⟨by have := h.top.1; rwa [List.getElem?_append_left (by simp)] at this, h.top.2⟩
  par := fun a i j x h1 h2 hx => h.par a i j x (by rw [List.getElem?_append_left (lt_of_get h1)]; exact h1) (by rw [List.getElem?_append_left (lt_of_get h2)]; exact h2) hx
  lv := h.lv
  szb := h.szb
theorem bump_mem {os : List Nat} {out : List Nd} {x : Nd} (h : x ∈ bump os out) : ∃ y, y ∈ out ∧ x.lv = y.lv ∧ x.up = y.up ∧ (x.sz = y.sz ∨ x.sz = y.sz + 1) := by
  obtain ⟨j, hj⟩ := List.getElem?_of_mem h
  cases hy : out[j]? with
  | none => rw [List.getElem?_eq_none_iff.2 (by rw [bump_len]; exact List.getElem?_eq_none_iff.1 hy)] at hj; cases hj
  | some y =>
    rw [bump_get hy] at hj
    cases hj
    refine ⟨y, List.mem_of_getElem? hy, ?_⟩
    split
    · exact ⟨rfl, rfl, .inr rfl⟩
    · exact ⟨rfl, rfl, .inl rfl⟩
theorem lvAt_bd {out : List Nd} {os : List Nat} {up : Nat} (h : ShInv out os up) : 0 ≤ lvAt out up ∧ lvAt out up ≤ out.length := by
  unfold lvAt
  split
  · rename_i x hx
    exact h.lv x (List.mem_of_getElem? hx)
  · omega
theorem ShInv.more {out : List Nd} {os : List Nat} {up : Nat} (h : ShInv out os up) (x : Ev) : ShInv (bump (os ++ [up]) out ++ [shNew out up x]) os up where
  lt := fun j hj => by
    have := h.lt j hj
    rw [List.length_append, bump_len]; omega
  asc := h.asc
  sz := fun j y hj hy => by
    have hjl := h.lt j hj
    obtain ⟨z, hz⟩ : ∃ z, out[j]? = some z := ⟨out[j], List.getElem?_eq_getElem hjl⟩
    rw [List.getElem?_append_left (by rw [bump_len]; exact hjl), bump_get hz, if_pos hj] at hy
    cases hy
    have := h.sz j z hj hz
    rw [List.length_append, bump_len]
    show z.sz + 1 = _
    simp
    omega
  top := by
    obtain ⟨h0, z, h1, h2⟩ := h.top
    refine ⟨h0, _, by rw [List.getElem?_append_left (by rw [bump_len]; exact lt_of_get h1), bump_get h1], ?_⟩
    split <;> exact h2
  par := fun a i j y h1 h2 hy => by
    have hjl := h.lt j (List.mem_of_getElem? h2)
    obtain ⟨z, hz⟩ : ∃ z, out[j]? = some z := ⟨out[j], List.getElem?_eq_getElem hjl⟩
    rw [List.getElem?_append_left (by rw [bump_len]; exact hjl), bump_get hz, if_pos (List.mem_of_getElem? h2)] at hy
    cases hy
    exact h.par a i j z h1 h2 hz
  lv := fun y hy => by
    rw [List.length_append, bump_len]
    rcases List.mem_append.1 hy with hy | hy
    · obtain ⟨z, hz, e, _⟩ := bump_mem hy
      have := h.lv z hz
      simp; omega
    · simp at hy
      subst hy
      have := lvAt_bd h
      simp [shNew]; omega
  szb := fun y hy => by
    rw [List.length_append, bump_len]
    rcases List.mem_append.1 hy with hy | hy
    · obtain ⟨z, hz, _, _, e⟩ := bump_mem hy
      have := h.szb z hz
      simp; omega
    · simp at hy
      subst hy
      simp [shNew]; omega
theorem get_last1 {α : Type} (l : List α) (x : α) : (l ++ [x])[l.length]? = some x := by
  rw [List.getElem?_append_right (Nat.le_refl _), Nat.sub_self]; rfl
theorem ShInv.deeper {out : List Nd} {os : List Nat} {up : Nat} (h : ShInv out os up) (x : Ev) : ShInv (bump (os ++ [up]) out ++ [shNew out up x]) (os ++ [up]) out.length := by
  have m := h.more x
  refine ⟨fun j hj => ?_, fun a b i j h1 h2 hab => ?_, fun j y hj hy => ?_, ?_, fun a i j y h1 h2 hy => ?_, m.lv, m.szb⟩
  · rcases List.mem_append.1 hj with hj | hj
    · exact m.lt j hj
    · simp at hj
      rw [List.length_append, bump_len]
      simp; omega
  · have hb := lt_of_get h2
    rw [List.length_append] at hb
    simp only [List.length_cons, List.length_nil] at hb
    have ha : a < (os ++ [up]).length := by omega
    rw [List.getElem?_append_left ha] at h1
    by_cases hbl : b < (os ++ [up]).length
    · rw [List.getElem?_append_left hbl] at h2
      exact h.asc a b i j h1 h2 hab
    · have : b = (os ++ [up]).length := by omega
      subst this
      rw [get_last1] at h2
      cases h2
      exact h.lt i (List.mem_of_getElem? h1)
  · rcases List.mem_append.1 hj with hj | hj
    · exact m.sz j y hj hy
    · simp at hj
      subst hj
      have : (bump (os ++ [up]) out ++ [shNew out up x])[out.length]? = some (shNew out up x) := by
        rw [← bump_len (os ++ [up]) out]; exact get_last1 _ _
      rw [this] at hy
      cases hy
      rw [List.length_append, bump_len]
      show (0 : Int) = ((out.length + 1 : Nat) : Int) - out.length - 1
      omega
  · exact ⟨by rw [List.getElem?_append_left (by simp)]; exact m.top.1, m.top.2⟩
  · have hb := lt_of_get h2
    rw [List.length_append] at hb
    simp only [List.length_cons, List.length_nil] at hb
    rw [List.getElem?_append_left (by omega)] at h1
    by_cases hbl : a + 1 < (os ++ [up]).length
    · rw [List.getElem?_append_left hbl] at h2
      exact m.par a i j y h1 h2 hy
    · have e : a + 1 = (os ++ [up]).length := by omega
      rw [e, get_last1] at h2
      cases h2
      have : (bump (os ++ [up]) out ++ [shNew out up x])[out.length]? = some (shNew out up x) := by
        rw [← bump_len (os ++ [up]) out]; exact get_last1 _ _
      rw [this] at hy
      cases hy
      rw [List.length_append] at e
      simp at e
      subst e
      rw [get_last1] at h1
      cases h1
      rfl
theorem bare_nil (out : List Nd) : bare [] out = out := by
  apply List.ext_getElem?
  intro j
  cases h : out[j]? with
  | none => rw [List.getElem?_eq_none_iff, bare_len]; exact List.getElem?_eq_none_iff.1 h
  | some x => rw [bare_get h, if_neg (by simp)]
theorem bump_nil (out : List Nd) : bump [] out = out := by
  apply List.ext_getElem?
  intro j
  cases h : out[j]? with
  | none => rw [List.getElem?_eq_none_iff, bump_len]; exact List.getElem?_eq_none_iff.1 h
  | some x => rw [bump_get h, if_neg (by simp)]
theorem bump_cons {p : Nat} {suf : List Nat} {out : List Nd} {y : Nd} (hy : out[p]? = some y) (hn : p ∉ suf) : bump (p :: suf) out = (bump suf out).set p (szTo y (y.sz + 1)) := by
  apply List.ext_getElem?
  intro j
  by_cases hj : j = p
  · subst hj
    rw [List.getElem?_set_self (by rw [bump_len]; exact lt_of_get hy), bump_get hy, if_pos (by simp)]
  · rw [List.getElem?_set_ne (Ne.symm hj)]
    cases h : out[j]? with
    | none => rw [List.getElem?_eq_none_iff.2 (by rw [bump_len]; exact List.getElem?_eq_none_iff.1 h), List.getElem?_eq_none_iff.2 (by rw [bump_len]; exact List.getElem?_eq_none_iff.1 h)]
    | some z =>
      rw [bump_get h, bump_get h]
      by_cases h1 : j ∈ suf
      · rw [if_pos (List.mem_cons_of_mem _ h1), if_pos h1]
      · rw [if_neg (by simp [h1, hj]), if_neg h1]
theorem evGo_ok {l : List Ev} {i : Nat} {x : Ev} {s : Es} (hx : l[i]? = some x) (h : evGo (l.drop i) s (decide (i = 0)) = 0) : 1 ≤ x.k ∧ x.k ≤ 5 ∧ evF1 s x (decide (i = 0)) = 0 ∧ evGo (l.drop (i + 1)) (evS s x) (decide (i + 1 = 0)) = 0 := by
  rw [evGo_step hx] at h
  split at h
  · omega
  · rename_i hk
    split at h
    · rename_i hf
      exact ⟨by omega, by omega, hf, h⟩
    · rename_i hf
      exact absurd h hf
theorem evF1_n0 {s : Es} {x : Ev} {f : Bool} (h : x.k = 5) (hf : evF1 s x f = 0) : s.n ≠ 0 := fun h0 => by
  rw [evF1, if_pos ⟨h0, .inl (by omega)⟩] at hf
  cases hf
/-- What is known ahead of an event. -/
structure Ss where
  i : Nat
  s : Es
  out : List Nd
  os : List Nat
  up : Nat
  a : Nat
  b : Nat
structure SsOk (l : List Ev) (y : Ss) : Prop where
  hi : y.i ≤ l.length
  inv : ShInv y.out y.os y.up
  n : y.s.n = y.os.length
  ev : evGo (l.drop y.i) y.s (decide (y.i = 0)) = 0
  fin : shGo (l.drop y.i) y.out y.os y.up = shGo l [ndDoc] [] 0
  len : y.out.length ≤ y.i + 1
theorem SsOk.zero {l : List Ev} (h : evGo l evSt true = 0) : SsOk l ⟨0, evSt, [ndDoc], [], 0, 0, 0⟩ := ⟨Nat.zero_le _, ShInv.zero, rfl, h, rfl, Nat.le_refl _⟩
theorem evGo_end0 {i : Nat} {s : Es} : evGo [] s (decide (i = 0)) = if i = 0 ∨ 0 < s.n then 5 else 0 := by
  rw [evGo]; simp
theorem SsOk.last {l : List Ev} {y : Ss} (h : SsOk l y) (hi : y.i = l.length) : y.os = [] ∧ y.out = shGo l [ndDoc] [] 0 ∧ y.up = 0 := by
  have h1 := h.ev
  rw [hi, List.drop_length, evGo_end0] at h1
  have h2 : y.os = [] := by
    split at h1
    · cases h1
    · rename_i hn
      have := h.n
      exact List.length_eq_zero_iff.1 (by omega)
  refine ⟨h2, ?_, ?_⟩
  · have := h.fin
    rw [hi, List.drop_length, shGo] at this
    exact this
  · have := h.inv.top.1
    rw [h2] at this
    simpa using this
theorem SsOk.close {l : List Ev} {y : Ss} {x : Ev} (h : SsOk l y) (hx : l[y.i]? = some x) (hk : x.k = 5) (a b : Nat) : ∃ r o, y.os = r ++ [o] ∧ SsOk l ⟨y.i + 1, evS y.s x, y.out, r, o, a, b⟩ := by
  obtain ⟨_, _, h3, h4⟩ := evGo_ok hx h.ev
  have hn := evF1_n0 hk h3
  rcases hos : y.os.eq_nil_or_concat with h0 | ⟨r, o, h0⟩
  · have := h.n
    rw [h0] at this
    exact absurd this hn
  · rw [List.concat_eq_append] at h0
    have hi := h.inv
    rw [h0] at hi
    have he : evS y.s x = ⟨y.s.n - 1, [], true, false⟩ := by
      rw [evS, if_neg (by omega), if_neg (by omega), if_neg (by omega), if_neg (by omega)]
    have hl := h.n
    rw [h0, List.length_append] at hl
    refine ⟨r, o, h0, lt_of_get hx, hi.close, ?_, h4, ?_, by have := h.len; show y.out.length ≤ y.i + 1 + 1; omega⟩
    · rw [he]
      show y.s.n - 1 = r.length
      simp at hl
      omega
    · have := h.fin
      rw [drop_of_get hx, shGo, if_pos hk, h0] at this
      simpa using this
theorem SsOk.deeper {l : List Ev} {y : Ss} {x : Ev} (h : SsOk l y) (hx : l[y.i]? = some x) (hk : x.k = 1) (a b : Nat) : SsOk l ⟨y.i + 1, evS y.s x, bump (y.os ++ [y.up]) y.out ++ [shNew y.out y.up x], y.os ++ [y.up], y.out.length, a, b⟩ := by
  obtain ⟨_, _, h3, h4⟩ := evGo_ok hx h.ev
  have he : evS y.s x = ⟨y.s.n + 1, [], false, false⟩ := by rw [evS, if_pos hk]
  refine ⟨lt_of_get hx, h.inv.deeper x, ?_, h4, ?_, ?_⟩
  · rw [he]
    show y.s.n + 1 = _
    rw [h.n]; simp
  · have := h.fin
    rw [drop_of_get hx, shGo, if_neg (by omega), if_pos hk] at this
    exact this
  · show (bump (y.os ++ [y.up]) y.out ++ [shNew y.out y.up x]).length ≤ y.i + 1 + 1
    rw [List.length_append, bump_len]
    exact Nat.succ_le_succ h.len
theorem SsOk.more {l : List Ev} {y : Ss} {x : Ev} (h : SsOk l y) (hx : l[y.i]? = some x) (hk1 : x.k ≠ 1) (hk5 : x.k ≠ 5) (a b : Nat) : SsOk l ⟨y.i + 1, evS y.s x, bump (y.os ++ [y.up]) y.out ++ [shNew y.out y.up x], y.os, y.up, a, b⟩ := by
  obtain ⟨h1, h2, h3, h4⟩ := evGo_ok hx h.ev
  have he : (evS y.s x).n = y.s.n := by
    rw [evS, if_neg hk1]
    split
    · rfl
    · split
      · rfl
      · rw [if_pos (by omega)]
  refine ⟨lt_of_get hx, h.inv.more x, ?_, h4, ?_, ?_⟩
  · rw [he]; exact h.n
  · have := h.fin
    rw [drop_of_get hx, shGo, if_neg hk5, if_neg hk1] at this
    exact this
  · show (bump (y.os ++ [y.up]) y.out ++ [shNew y.out y.up x]).length ≤ y.i + 1 + 1
    rw [List.length_append, bump_len]
    exact Nat.succ_le_succ h.len
end Go.Proofs.YtafbojmnmadlpaaDoor
