/- What must not stand as it is in a text: replaced one by one, and all at once. No condition. -/
import Derived.Test.YtafbojmnmadlpaaDoorDat
import Derived.Lib.Replace
import Derived.Lib.SplitLaws
import Derived.Lib.IndexBytes
set_option linter.all false
set_option linter.unusedSimpArgs false
set_option linter.unusedVariables false
namespace Go.Proofs.YtafbojmnmadlpaaDoor
open Go Go.Proofs.YtafbojmnmadlpaaDoor.Ab
variable [Glo]
/-- One byte turned into a text, wherever it stands. -/
def esc1 (c : UInt8) (new : List UInt8) (s : List UInt8) : List UInt8 := s.flatMap fun b => if b = c then new else [b]
theorem esc1_cons (c : UInt8) (new : List UInt8) (b : UInt8) (s : List UInt8) : esc1 c new (b :: s) = (if b = c then new else [b]) ++ esc1 c new s := by simp [esc1]
theorem repl_one (c : UInt8) (new : List UInt8) : ∀ s, Lib.replaceK [c] new (Lib.count s [c]) s = esc1 c new s
  | [] => by
    rw [Lib.count_one]
    rfl
  | b :: l => by
    have ih := repl_one c new l
    rw [esc1_cons]
    by_cases h : b = c
    · subst h
      rw [if_pos rfl, Lib.count_cons_eq, Nat.add_comm, Lib.replaceK_hit (i := 0)]
      · simp only [List.take_zero, List.nil_append, List.length_cons, List.length_nil, Nat.zero_add, List.drop_succ_cons, List.drop_zero, ih]
      · rw [Lib.index_one, Lib.indexByte]
        simp
    · rw [if_neg h, Lib.count_cons_ne b c l h]
      cases hk : Lib.count l [c] with
      | zero =>
        rw [hk] at ih
        rw [← ih]
        rfl
      | succ m =>
        rw [hk] at ih
        obtain ⟨i, hi⟩ := Lib.index_of_count (s := l) (old := [c]) (by omega)
        rw [Lib.replaceK_hit (h := hi)] at ih
        rw [Lib.replaceK_hit (i := i + 1)]
        · rw [← ih]
          simp only [List.take_succ_cons, List.length_cons, List.length_nil, Nat.zero_add, List.cons_append, List.nil_append, List.drop_succ_cons]
        · rw [Lib.index_one] at hi ⊢
          rw [Lib.indexByte, hi]
          have h1 : (b == c) = false := by simpa using h
          have h2 : ((i : Int) == -1) = false := by first | (simp; done) | (simp; omega)
          simp [h1, h2]
theorem replaceAll_one (c : UInt8) (new s : List UInt8) (hne : [c] ≠ new) : Lib.replaceAll s [c] new = esc1 c new s := by
  rw [Lib.replaceAll, Lib.replace, if_neg (by simpa using hne), Lib.replaceNum, if_pos (.inl (by decide)), repl_one]
theorem esc1_len (c : UInt8) (new s : List UInt8) (hn : new.length ≤ 6) : (esc1 c new s).length ≤ 6 * s.length := by
  induction s with
  | nil => simp [esc1]
  | cons b s ih =>
    rw [esc1_cons, List.length_append, List.length_cons]
    split
    · omega
    · simp; omega
/-- One byte, as it must stand. -/
def escB (c : UInt8) : List UInt8 :=
  if c = 38 then [38, 97, 109, 112, 59] else if c = 60 then [38, 108, 116, 59] else if c = 62 then [38, 103, 116, 59] else if c = 34 then [38, 113, 117, 111, 116, 59] else [c]
def escT (s : List UInt8) : List UInt8 := s.flatMap escB
theorem escT_eq (s : List UInt8) : esc1 34 [38, 113, 117, 111, 116, 59] (esc1 62 [38, 103, 116, 59] (esc1 60 [38, 108, 116, 59] (esc1 38 [38, 97, 109, 112, 59] s))) = escT s := by
  simp only [esc1, escT, List.flatMap_assoc]
  congr 1
  funext c
  unfold escB
  by_cases h1 : c = 38
  · subst h1; decide
  by_cases h2 : c = 60
  · subst h2; decide
  by_cases h3 : c = 62
  · subst h3; decide
  by_cases h4 : c = 34
  · subst h4; decide
  simp [h1, h2, h3, h4]
theorem escT_len (s : List UInt8) : (escT s).length ≤ 6 * s.length := by
  induction s with
  | nil => simp [escT]
  | cons b s ih =>
    have : (escB b).length ≤ 6 := by
      unfold escB
      repeat' split
      all_goals simp
    simp only [escT, List.flatMap_cons, List.length_append, List.length_cons] at ih ⊢
    omega
theorem escT_take {s : List UInt8} {i : Nat} {c : UInt8} (h : s[i]? = some c) : escT (s.take (i + 1)) = escT (s.take i) ++ escB c := by
  rw [take_of_get h, escT, List.flatMap_append]
  simp [escT]
end Go.Proofs.YtafbojmnmadlpaaDoor
