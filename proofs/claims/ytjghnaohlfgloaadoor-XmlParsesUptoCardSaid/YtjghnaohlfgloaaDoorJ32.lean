/- The parser as a whole, in plain words: how great what it makes is. No condition. -/
import Derived.Test.YtjghnaohlfgloaaDoorJ31
set_option linter.all false
set_option linter.unusedSimpArgs false
set_option linter.unusedVariables false
namespace Go.Proofs.YtjghnaohlfgloaaDoor
open Go Go.Proofs.YtjghnaohlfgloaaDoor.Ab
variable [Glo]
set_option maxHeartbeats 4000000
set_option maxRecDepth 20000
def Thin (n : Nat) (x : Ev) : Prop := x.nm.length ≤ n ∧ x.vl.length ≤ n
theorem Thin.mono {m n : Nat} {x : Ev} (h : Thin m x) (hm : m ≤ n) : Thin n x := ⟨Nat.le_trans h.1 hm, Nat.le_trans h.2 hm⟩
theorem attrT_thin : ∀ (fuel : Nat) (l : List UInt8), ∀ x, x ∈ (attrT fuel l).evs → Thin l.length x
  | 0, l => fun x hx => by simp [attrT] at hx
  | fuel + 1, l => by
    have hnm : (atNm l).length ≤ l.length := by
      unfold atNm
      rw [List.length_take, List.length_drop]; omega
    have hvl : (atV l).out.length ≤ l.length := by
      have := valN_out 34 (l.drop (atE l + 2)) 0
      rw [List.length_drop] at this
      unfold atV; omega
    rw [attrT]
    have one : ∀ {e : Ev}, Thin l.length e → ∀ x, x ∈ [e] → Thin l.length x := fun he x hx => by rw [List.mem_singleton.1 hx]; exact he
    have non : ∀ x, x ∈ ([] : List Ev) → Thin l.length x := fun x hx => (by cases hx)
    split
    · exact one ⟨Nat.zero_le _, Nat.zero_le _⟩
    split
    · exact non
    split
    · exact non
    split
    · exact non
    split
    · exact one ⟨Nat.zero_le _, Nat.zero_le _⟩
    split
    · exact one ⟨hnm, Nat.zero_le _⟩
    split
    · exact one ⟨hnm, hvl⟩
    split
    · intro x hx
      rcases List.mem_cons.1 hx with rfl | hx
      · exact ⟨hnm, hvl⟩
      · have := attrT_thin fuel _ x hx
        rw [List.length_drop] at this
        exact this.mono (by omega)
    · exact one ⟨hnm, hvl⟩
theorem attrT_few : ∀ (fuel : Nat) (l : List UInt8), (attrT fuel l).f = 0 → (attrT fuel l).evs.length ≤ (attrT fuel l).n
  | 0, l => fun _ => by simp [attrT]
  | fuel + 1, l => by
    rw [attrT]
    have mf : ∀ r t, missF r t ≠ 0 := fun r t => by rw [missF]; split <;> decide
    split
    · intro _; simp
    split
    · intro _; simp
    split
    · exact fun h => absurd h (mf _ _)
    split
    · intro h; cases h
    split
    · intro h
      simp only [] at h
      split at h <;> cases h
    split
    · exact fun h => absurd h (mf _ _)
    split
    · rename_i hf; exact fun h => absurd h hf
    split
    · intro h
      have := attrT_few fuel _ h
      simp only [List.length_cons] at this ⊢
      omega
    · intro h; cases h
theorem tgOf_thin {s : List UInt8} {at_ : Nat} {f : Int} : ∀ x, x ∈ (tgOf s at_ f).evs → Thin s.length x := by
  unfold tgOf
  split
  · unfold tagT
    split
    · intro x hx
      rw [List.mem_singleton.1 hx]
      exact ⟨Nat.zero_le _, Nat.zero_le _⟩
    · intro x hx
      rcases List.mem_cons.1 hx with rfl | hx
      · refine ⟨?_, Nat.zero_le _⟩
        rw [List.length_take, List.length_drop]; omega
      · have := attrT_thin _ _ x hx
        simp only [List.length_drop] at this
        exact this.mono (by omega)
  · intro x hx
    rw [List.mem_singleton.1 hx]
    exact ⟨Nat.zero_le _, Nat.zero_le _⟩
theorem tgOf_few {s : List UInt8} {at_ : Nat} {f : Int} (h : (tgOf s at_ f).f = 0) : (tgOf s at_ f).evs.length ≤ (tgOf s at_ f).n + 1 := by
  unfold tgOf at h ⊢
  split at h
  · rename_i hf
    rw [if_pos hf]
    unfold tagT at h ⊢
    split at h
    · simp only [] at h
      split at h <;> cases h
    · rename_i hk
      rw [if_neg hk]
      have := attrT_few _ _ h
      simp only [List.length_cons]
      omega
  · rename_i hf
    rw [if_neg hf]
    simp
theorem contT_thin : ∀ (fuel : Nat) (os : List (List UInt8)) (l : List UInt8), ∀ x, x ∈ (contT fuel os l).evs → Thin l.length x
  | 0, _, _ => fun x hx => by simp [contT] at hx
  | fuel + 1, [], l => fun x hx => by simp [contT] at hx
  | fuel + 1, o :: os, l => by
    have z : ∀ {e : Ev}, Thin l.length e → ∀ x, x ∈ [e] → Thin l.length x := fun he x hx => by rw [List.mem_singleton.1 hx]; exact he
    have non : ∀ x, x ∈ ([] : List Ev) → Thin l.length x := fun x hx => (by cases hx)
    have ih : ∀ os k x, x ∈ (contT fuel os (l.drop k)).evs → Thin l.length x := fun os k x hx => by
      have := contT_thin fuel os _ x hx
      rw [List.length_drop] at this
      exact this.mono (by omega)
    have e5 : Thin l.length ⟨5, [], []⟩ := ⟨Nat.zero_le _, Nat.zero_le _⟩
    have tg : ∀ x, x ∈ (tagT (l.drop 1)).evs → Thin l.length x := fun x hx => by
      have h := tgOf_thin (s := l) (at_ := 1) (f := 0) x
      rw [tgOf, if_pos rfl] at h
      exact h hx
    rw [contT]
    split
    · split
      · exact non
      · intro x hx
        rcases List.mem_cons.1 hx with rfl | hx
        · refine ⟨Nat.zero_le _, ?_⟩
          rw [List.length_take, List.length_drop]; omega
        · exact ih _ _ x hx
    split
    · split
      · exact z e5
      split
      · exact z e5
      split
      · exact z e5
      · intro x hx
        rcases List.mem_cons.1 hx with rfl | hx
        · exact e5
        · exact ih _ _ x hx
    split
    · split
      · exact tg
      · intro x hx
        rcases List.mem_append.1 hx with hx | hx
        · exact tg x hx
        · exact ih _ _ x hx
    split
    · exact non
    · intro x hx
      rcases List.mem_cons.1 hx with rfl | hx
      · exact ⟨Nat.zero_le _, valN_out 60 l 0⟩
      · exact ih _ _ x hx
theorem contT_few : ∀ (fuel : Nat) (os : List (List UInt8)) (l : List UInt8), (contT fuel os l).f = 0 → (contT fuel os l).evs.length ≤ (contT fuel os l).n
  | 0, _, _ => fun _ => by simp [contT]
  | fuel + 1, [], l => fun _ => by simp [contT]
  | fuel + 1, o :: os, l => by
    have mf : ∀ r t, missF r t ≠ 0 := fun r t => by rw [missF]; split <;> decide
    rw [contT]
    split
    · split
      · intro h; cases h
      · intro h
        have := contT_few fuel _ _ h
        simp only [List.length_cons] at this ⊢
        omega
    rename_i q0
    split
    · split
      · intro h
        simp only [] at h
        split at h <;> cases h
      split
      · exact fun h => absurd h (mf _ _)
      split
      · intro h; cases h
      · intro h
        have := contT_few fuel _ _ h
        simp only [List.length_cons] at this ⊢
        omega
    rename_i q1
    split
    · split
      · rename_i hf; exact fun h => absurd h hf
      · rename_i hf
        intro h
        have h1 := contT_few fuel _ _ h
        have h2 := tgOf_few (s := l) (at_ := 1) (f := 0)
        rw [tgOf, if_pos rfl] at h2
        have h2 := h2 (by simpa using hf)
        simp only [List.length_append] at h1 ⊢
        omega
    rename_i q2
    split
    · rename_i hf; exact fun h => absurd h hf
    · rename_i hf
      intro h
      have h1 := contT_few fuel _ _ h
      have hh : l.head? ≠ some 60 := fun e => by
        rw [head_prefix, e] at q2
        simp at q2
      have := valN_pos 60 (by simpa using hf) hh hh
      simp only [List.length_cons] at h1 ⊢
      omega
theorem ctOf_thin {F : Nat} {ns : List (List UInt8)} {s : List UInt8} {at_ : Nat} {f : Int} : ∀ x, x ∈ (ctOf F ns s at_ f).evs → Thin s.length x := by
  unfold ctOf
  split
  · intro x hx
    have := contT_thin _ _ _ x hx
    rw [List.length_drop] at this
    exact this.mono (by omega)
  · intro x hx; cases hx
theorem ctOf_few {F : Nat} {ns : List (List UInt8)} {s : List UInt8} {at_ : Nat} {f : Int} (h : (ctOf F ns s at_ f).f = 0) : (ctOf F ns s at_ f).evs.length ≤ (ctOf F ns s at_ f).n := by
  unfold ctOf at h ⊢
  split at h
  · rename_i hf; rw [if_pos hf]; exact contT_few _ _ _ h
  · rename_i hf; rw [if_neg hf]; simp
theorem evs_data (l : List Ev) : dsRows (l.map evR) = some (l.map evD) := by
  induction l with
  | nil => rfl
  | cons x l ih =>
    simp only [List.map_cons, dsRows, ih]
    rfl
def psA (s : List UInt8) : Nat := mustAt s 0 0 [60]
def psF (s : List UInt8) : Int := mustF s 0 0 [60]
def psT (s : List UInt8) : Tg := tgOf s (psA s) (psF s)
def psN (s : List UInt8) : List UInt8 := (s.drop (psA s)).take (nmN s (psA s) (psF s))
def psC (s : List UInt8) : Ct := ctOf (s.length + 1) [psN s] s (psA s + (psT s).n) (psT s).f
def endT (s : List UInt8) (a : Nat) (f : Int) (l : List Ev) : List Ev × Int :=
  if f ≠ 0 then ([], f) else if a < s.length then ([], 4) else if eventsFault l ≠ 0 then ([], eventsFault l) else (l, 0)
theorem tagT_closed (l : List UInt8) : (tagT l).c = true → (tagT l).f = 0 := by
  have hA : ∀ (fuel : Nat) (l : List UInt8), (attrT fuel l).c = true → (attrT fuel l).f = 0 := by
    intro fuel
    induction fuel with
    | zero => intro l h; rfl
    | succ fuel ih =>
      intro l
      rw [attrT]
      repeat' split
      all_goals first
        | exact fun _ => rfl
        | exact fun h => by cases h
        | exact ih _
  unfold tagT
  split
  · exact fun h => by cases h
  · exact hA _ _
theorem psT_closed (s : List UInt8) : (psT s).c = true → (psT s).f = 0 := by
  rw [psT, tgOf]
  split
  · exact tagT_closed _
  · exact fun h => by cases h
theorem contT_le : ∀ (fuel : Nat) (os : List (List UInt8)) (l : List UInt8), (contT fuel os l).f = 0 → (contT fuel os l).n ≤ l.length
  | 0, _, _ => fun _ => Nat.zero_le _
  | fuel + 1, [], l => fun _ => Nat.zero_le _
  | fuel + 1, o :: os, l => by
    have mf : ∀ r t, missF r t ≠ 0 := fun r t => by rw [missF]; split <;> decide
    have ih : ∀ os k, k ≤ l.length → (contT fuel os (l.drop k)).f = 0 → k + (contT fuel os (l.drop k)).n ≤ l.length := fun os k hk h => by
      have := contT_le fuel os _ h
      rw [List.length_drop] at this
      omega
    have pl : ∀ {p : List UInt8} {k : Nat}, p.isPrefixOf (l.drop k) = true → p.length ≤ l.length - k := fun hp => by
      have := (List.isPrefixOf_iff_prefix.1 hp).length_le
      rwa [List.length_drop] at this
    rw [contT]
    split
    · split
      · intro h; cases h
      · rename_i j hj
        have := cmtN_le hj
        rw [List.length_drop] at this
        exact ih _ _ (by omega)
    split
    · split
      · intro h
        simp only [] at h
        split at h <;> cases h
      split
      · exact fun h => absurd h (mf _ _)
      rename_i hq
      have := pl (Bool.not_eq_false _ ▸ hq)
      simp only [List.length_cons, List.length_nil] at this
      split
      · intro h; cases h
      · exact ih _ _ (by omega)
    split
    · split
      · rename_i hf; exact fun h => absurd h hf
      · rename_i hp _
        have h1 : 1 ≤ l.length := by
          have := (List.isPrefixOf_iff_prefix.1 hp).length_le
          simpa using this
        have h2 := tgOf_le (s := l) (at_ := 1) (f := 0) h1
        rw [tgOf, if_pos rfl] at h2
        exact ih _ _ h2
    split
    · rename_i hf; exact fun h => absurd h hf
    · exact ih _ _ (valN_le 60 l 0)
theorem ctOf_le {F : Nat} {ns : List (List UInt8)} {s : List UInt8} {at_ : Nat} {f : Int} (h : at_ ≤ s.length) (h0 : (ctOf F ns s at_ f).f = 0) : at_ + (ctOf F ns s at_ f).n ≤ s.length := by
  unfold ctOf at h0 ⊢
  split at h0
  · rename_i hf
    rw [if_pos hf]
    have := contT_le _ _ _ h0
    rw [List.length_drop] at this
    omega
  · rename_i hf
    rw [if_neg hf]
    exact h
theorem parseT_eq {s : List UInt8} (h : ¬ 4000 < s.length) : parseT s = if (psT s).c = true then endT s (psA s + (psT s).n) (psT s).f (psT s).evs else endT s (psA s + (psT s).n + (psC s).n) (psC s).f ((psT s).evs ++ (psC s).evs) := by
  rw [parseT, if_neg h]
  cases hp : [60].isPrefixOf s with
  | false =>
    have a1 : psA s = 0 := by rw [psA, mustAt, if_neg (by rw [List.drop_zero, hp]; rintro ⟨_, h⟩; cases h)]
    have a2 : psF s = missF s [60] := by rw [psF, mustF, if_pos rfl, List.drop_zero, hp]; rfl
    have a2' : missF s [60] ≠ 0 := by rw [missF]; split <;> decide
    have a3 : psT s = ⟨[⟨1, [], []⟩], 0, false, missF s [60]⟩ := by rw [psT, a2, tgOf, if_neg a2']
    have a4 : (psC s).f = missF s [60] := by rw [psC, a3, ctOf, if_neg a2']
    rw [if_pos rfl, a3]
    simp only [Bool.false_eq_true, if_false]
    rw [endT, a4, if_pos a2']
  | true =>
    have a1 : psA s = 1 := by rw [psA, mustAt, if_pos ⟨rfl, by rw [List.drop_zero]; exact hp⟩]; rfl
    have a2 : psF s = 0 := by rw [psF, mustF, if_pos rfl, List.drop_zero, if_pos hp]
    have a3 : psT s = tagT (s.drop 1) := by rw [psT, a2, a1, tgOf, if_pos rfl]
    have a4 : psN s = (s.drop 1).take (nameN true (s.drop 1)) := by rw [psN, a1, a2, nmN, if_pos rfl]
    rw [if_neg (by decide), a3, a1]
    have hc : (tagT (s.drop 1)).c = true → (tagT (s.drop 1)).f = 0 := tagT_closed _
    generalize hT : tagT (s.drop 1) = T at *
    by_cases hf : T.f = 0
    · rw [if_neg (by simpa using hf)]
      by_cases h1 : T.c = true
      · rw [if_pos h1]
        simp only [if_pos h1]
        simp only [endT, hf, ne_eq, not_true_eq_false, if_false, Nat.add_zero, List.append_nil]
      · have a5 : psC s = contT (s.length + 1) [(s.drop 1).take (nameN true (s.drop 1))] (s.drop (1 + T.n)) := by
          rw [psC, a3, a1, a4, ctOf, if_pos hf]; rfl
        rw [if_neg h1]
        simp only [if_neg h1]
        rw [← a5, endT]
    · have h1 : ¬ T.c = true := fun h => hf (hc h)
      have a5 : (psC s).f = T.f := by rw [psC, a3, ctOf, if_neg hf]
      rw [if_pos hf, if_neg h1, endT, a5, if_pos hf]
end Go.Proofs.YtjghnaohlfgloaaDoor
