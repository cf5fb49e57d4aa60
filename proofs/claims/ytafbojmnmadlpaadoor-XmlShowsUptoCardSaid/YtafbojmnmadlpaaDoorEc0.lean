/- Events, one behind the other: what must hold of them, in plain words. No condition. -/
import Derived.Test.YtafbojmnmadlpaaDoorXml1
import Derived.Test.YtafbojmnmadlpaaDoorXml2
import Derived.Test.YtafbojmnmadlpaaDoorDat
set_option linter.all false
set_option linter.unusedSimpArgs false
set_option linter.unusedVariables false
namespace Go.Proofs.YtafbojmnmadlpaaDoor
open Go Go.Proofs.YtafbojmnmadlpaaDoor.Ab
variable [Glo]
/-- What is open: how many elements; of the innermost one the attributes' names, whether something else came, and whether a text came last. -/
structure Es where
  n : Nat
  at_ : List (List UInt8)
  ins : Bool
  txt : Bool
/-- Whether a comment may not be. -/
def dashB : List UInt8 → Bool
  | [] => false
  | [a] => decide (a = 45)
  | a :: b :: l => (decide (a = 45) && decide (b = 45)) || dashB (b :: l)
def evKind (s : Es) (e : Ev) : Int :=
  if e.k = 1 then (if s.n = 20 then 8 else 0)
  else if e.k = 2 then (if s.ins = true then 4 else if e.nm ∈ s.at_ then 7 else 0)
  else if e.k = 3 then (if e.vl = [] ∨ s.txt = true then 4 else 0)
  else if e.k = 4 then (if dashB e.vl = true then 4 else 0)
  else 0
def evVal (e : Ev) : Int := if e.k = 1 ∨ e.k = 5 then (if e.vl = [] then 0 else 4) else textFault e.vl
def evNam (e : Ev) : Int := if e.k = 1 ∨ e.k = 2 then nameFault e.nm else (if e.nm = [] then 0 else 4)
/-- What is wrong with an event that comes. -/
def evF1 (s : Es) (e : Ev) (first : Bool) : Int :=
  if s.n = 0 ∧ (e.k ≠ 1 ∨ first = false) then 4
  else if evNam e = 0 then (if evVal e = 0 then evKind s e else evVal e) else evNam e
/-- What is open then. -/
def evS (s : Es) (e : Ev) : Es :=
  if e.k = 1 then ⟨s.n + 1, [], false, false⟩
  else if e.k = 2 then ⟨s.n, s.at_ ++ [e.nm], false, false⟩
  else if e.k = 3 then ⟨s.n, s.at_, true, true⟩
  else if e.k = 4 then ⟨s.n, s.at_, true, false⟩
  else ⟨s.n - 1, [], true, false⟩
def evGo : List Ev → Es → Bool → Int
  | [], s, first => if first = true ∨ 0 < s.n then 5 else 0
  | e :: l, s, first => if e.k < 1 ∨ 5 < e.k then 3 else if evF1 s e first = 0 then evGo l (evS s e) false else evF1 s e first
def evSt : Es := ⟨0, [], true, false⟩
def eventsFault (l : List Ev) : Int := if l.length ≤ 400 then evGo l evSt true else 1
theorem evGo_step {l : List Ev} {i : Nat} {x : Ev} {s : Es} (h : l[i]? = some x) : evGo (l.drop i) s (decide (i = 0)) = if x.k < 1 ∨ 5 < x.k then 3 else if evF1 s x (decide (i = 0)) = 0 then evGo (l.drop (i + 1)) (evS s x) (decide (i + 1 = 0)) else evF1 s x (decide (i = 0)) := by
  rw [drop_of_get h, evGo, decide_eq_false (by omega : ¬ i + 1 = 0)]
theorem evS_n {s : Es} {e : Ev} {first : Bool} (h : s.n ≤ 20) (hf : evF1 s e first = 0) : (evS s e).n ≤ 20 := by
  unfold evS
  by_cases h1 : e.k = 1
  · rw [if_pos h1]
    show s.n + 1 ≤ 20
    unfold evF1 at hf
    split at hf
    · cases hf
    · split at hf
      · split at hf
        · rw [evKind, if_pos h1] at hf
          split at hf
          · cases hf
          · omega
        · omega
      · omega
  · rw [if_neg h1]
    split
    · exact h
    · split
      · exact h
      · split
        · exact h
        · show s.n - 1 ≤ 20
          omega
/-- Where the elements begin that are open, and what came last. -/
structure EvInv (l : List Ev) (i : Nat) (s : Es) (os : List Nat) : Prop where
  len : os.length = s.n
  lt : ∀ o, o ∈ os → o < i
  no : s.ins = false → s.txt = false
  top : ∀ r o, os = r ++ [o] → ∃ x, l[i - 1]? = some x ∧ (s.ins = false → s.at_ = ((l.take i).drop (o + 1)).map (·.nm) ∧ (x.k = 1 ∨ x.k = 2)) ∧ (s.ins = true → ¬ (x.k = 1 ∨ x.k = 2)) ∧ (s.txt = true ↔ x.k = 3)
theorem EvInv.zero (l : List Ev) : EvInv l 0 evSt [] := ⟨rfl, by simp, by simp [evSt], fun r o h => by simp at h⟩
theorem app_inj1 {α : Type} {r r' : List α} {a b : α} (h : r ++ [a] = r' ++ [b]) : r = r' ∧ a = b := by
  have := List.append_inj' h rfl
  simpa using this
theorem EvInv.start {l : List Ev} {i : Nat} {s : Es} {os : List Nat} {x : Ev} (h : EvInv l i s os) (hx : l[i]? = some x) (hk : x.k = 1) : EvInv l (i + 1) (evS s x) (os ++ [i]) := by
  rw [evS, if_pos hk]
  refine ⟨by simp [h.len], fun o ho => ?_, fun _ => rfl, fun r o he => ?_⟩
  · rcases List.mem_append.1 ho with ho | ho
    · have := h.lt o ho; omega
    · simp at ho; omega
  · obtain ⟨_, rfl⟩ := app_inj1 he
    refine ⟨x, hx, fun _ => ⟨?_, .inl hk⟩, fun h => by simp at h, ?_⟩
    · rw [List.drop_eq_nil_of_le (by simp; omega)]; rfl
    · simp [hk]
theorem EvInv.attr {l : List Ev} {i : Nat} {s : Es} {os : List Nat} {x : Ev} (h : EvInv l i s os) (hx : l[i]? = some x) (hk : x.k = 2) (hi : s.ins = false) : EvInv l (i + 1) (evS s x) os := by
  rw [evS, if_neg (by omega), if_pos hk]
  refine ⟨h.len, fun o ho => by have := h.lt o ho; omega, fun _ => rfl, fun r o he => ?_⟩
  obtain ⟨y, h1, h2, h3, h4⟩ := h.top r o he
  have ho := h.lt o (by rw [he]; simp)
  have hl := lt_of_get hx
  refine ⟨x, hx, fun _ => ⟨?_, .inr hk⟩, fun h => by simp at h, by simp [hk]⟩
  show s.at_ ++ [x.nm] = _
  rw [take_of_get hx, List.drop_append_of_le_length (by rw [List.length_take]; omega), List.map_append, (h2 hi).1]
  rfl
theorem EvInv.text {l : List Ev} {i : Nat} {s : Es} {os : List Nat} {x : Ev} (h : EvInv l i s os) (hx : l[i]? = some x) (hk : x.k = 3) : EvInv l (i + 1) (evS s x) os := by
  rw [evS, if_neg (by omega), if_neg (by omega), if_pos hk]
  exact ⟨h.len, fun o ho => by have := h.lt o ho; omega, fun h => by simp at h, fun r o he => ⟨x, hx, fun h => by simp at h, fun _ => by omega, by simp [hk]⟩⟩
theorem EvInv.comment {l : List Ev} {i : Nat} {s : Es} {os : List Nat} {x : Ev} (h : EvInv l i s os) (hx : l[i]? = some x) (hk : x.k = 4) : EvInv l (i + 1) (evS s x) os := by
  rw [evS, if_neg (by omega), if_neg (by omega), if_neg (by omega), if_pos hk]
  exact ⟨h.len, fun o ho => by have := h.lt o ho; omega, fun h => by simp at h, fun r o he => ⟨x, hx, fun h => by simp at h, fun _ => by omega, by simp [hk]⟩⟩
theorem EvInv.end_ {l : List Ev} {i : Nat} {s : Es} {os : List Nat} {x : Ev} {o : Nat} (h : EvInv l i s (os ++ [o])) (hx : l[i]? = some x) (hk : x.k = 5) : EvInv l (i + 1) (evS s x) os := by
  rw [evS, if_neg (by omega), if_neg (by omega), if_neg (by omega), if_neg (by omega)]
  have := h.len
  rw [List.length_append] at this
  exact ⟨by show os.length = s.n - 1; simp at this; omega, fun o ho => by have := h.lt o (List.mem_append_left _ ho); omega, fun h => by simp at h, fun r o he => ⟨x, hx, fun h => by simp at h, fun _ => by omega, by simp [hk]⟩⟩
theorem dashB_step {l : List UInt8} {k : Nat} {c : UInt8} (h : l[k]? = some c) : dashB (l.drop k) = ((decide (c = 45) && (decide (k = l.length - 1) || decide (l[k + 1]? = some 45))) || dashB (l.drop (k + 1))) := by
  have hk := lt_of_get h
  rw [drop_of_get h]
  cases hd : l.drop (k + 1) with
  | nil =>
    have hl := congrArg List.length hd
    rw [List.length_drop, List.length_nil] at hl
    rw [dashB, decide_eq_true (by omega : k = l.length - 1)]
    simp [dashB]
  | cons b r =>
    have hl := congrArg List.length hd
    rw [List.length_drop, List.length_cons] at hl
    have hb : l[k + 1]? = some b := by
      have := congrArg (·[0]?) hd
      simpa using this
    rw [dashB, decide_eq_false (by omega : ¬ k = l.length - 1), hb]
    simp
end Go.Proofs.YtafbojmnmadlpaaDoor
