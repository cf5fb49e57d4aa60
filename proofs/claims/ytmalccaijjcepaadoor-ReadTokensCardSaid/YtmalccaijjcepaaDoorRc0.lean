/- A query cut into tokens, in plain words. No condition. -/
import Derived.Test.YtmalccaijjcepaaDoorXml1
import Derived.Test.YtmalccaijjcepaaDoorXml2
import Derived.Test.YtmalccaijjcepaaDoorDat
set_option linter.all false
set_option linter.unusedSimpArgs false
set_option linter.unusedVariables false
namespace Go.Proofs.YtmalccaijjcepaaDoor
open Go Go.Proofs.YtmalccaijjcepaaDoor.Ab
variable [Glo]
def wordB (c : Int) (first : Bool) : Bool := !decide (c = 46) && nameB c first
/-- Where a word ends that begins at a. -/
def wEnd (s : List UInt8) (a j : Nat) : Nat :=
  if h : j < s.length then (if wordB (s[j]).toNat (decide (j = a)) = true then wEnd s a (j + 1) else j) else j
termination_by s.length - j
theorem wEnd_next {s : List UInt8} {a j : Nat} {c : UInt8} (h : s[j]? = some c) (hw : wordB c.toNat (decide (j = a)) = true) : wEnd s a j = wEnd s a (j + 1) := by
  obtain ⟨hj, rfl⟩ := List.getElem?_eq_some_iff.1 h
  rw [wEnd, dif_pos hj, if_pos hw]
theorem wEnd_stop {s : List UInt8} {a j : Nat} {c : UInt8} (h : s[j]? = some c) (hw : wordB c.toNat (decide (j = a)) = false) : wEnd s a j = j := by
  obtain ⟨hj, rfl⟩ := List.getElem?_eq_some_iff.1 h
  rw [wEnd, dif_pos hj, if_neg (by rw [hw]; decide)]
theorem wEnd_end {s : List UInt8} {a j : Nat} (h : s.length ≤ j) : wEnd s a j = j := by rw [wEnd, dif_neg (by omega)]
theorem wEnd_le (s : List UInt8) (a : Nat) : ∀ (m j : Nat), s.length - j ≤ m → j ≤ s.length → j ≤ wEnd s a j ∧ wEnd s a j ≤ s.length
  | 0, j, h, hj => by rw [wEnd_end (by omega)]; omega
  | m + 1, j, h, hj => by
    by_cases hl : j < s.length
    · rw [wEnd, dif_pos hl]
      split
      · have := wEnd_le s a m (j + 1) (by omega) (by omega); omega
      · omega
    · rw [wEnd_end (by omega)]; omega
def digB (c : Int) : Bool := decide (48 ≤ c ∧ c ≤ 57)
/-- A number that goes on at j. -/
def numGo (s : List UInt8) (j : Nat) (n : Int) : Option (Int × Nat) :=
  if h : j < s.length then (if digB (s[j]).toNat = true then (if 1099511627776 < 10 * n + ((s[j]).toNat - 48) then none else numGo s (j + 1) (10 * n + ((s[j]).toNat - 48))) else some (n, j)) else some (n, j)
termination_by s.length - j
theorem numGo_get {s : List UInt8} {j : Nat} {n : Int} {c : UInt8} (h : s[j]? = some c) : numGo s j n = if digB c.toNat = true then (if 1099511627776 < 10 * n + (c.toNat - 48) then none else numGo s (j + 1) (10 * n + (c.toNat - 48))) else some (n, j) := by
  obtain ⟨hj, rfl⟩ := List.getElem?_eq_some_iff.1 h
  rw [numGo, dif_pos hj]
theorem numGo_end {s : List UInt8} {j : Nat} {n : Int} (h : s.length ≤ j) : numGo s j n = some (n, j) := by rw [numGo, dif_neg (by omega)]
theorem numGo_le (s : List UInt8) : ∀ (m j : Nat) (n : Int) (r : Int × Nat), s.length - j ≤ m → j ≤ s.length → numGo s j n = some r → j ≤ r.2 ∧ r.2 ≤ s.length
  | 0, j, n, r, h, hj, hr => by rw [numGo_end (by omega)] at hr; cases hr; show j ≤ j ∧ j ≤ s.length; omega
  | m + 1, j, n, r, h, hj, hr => by
    by_cases hl : j < s.length
    · rw [numGo, dif_pos hl] at hr
      split at hr
      · split at hr
        · cases hr
        · have := numGo_le s m (j + 1) _ r (by omega) (by omega) hr; omega
      · cases hr; show j ≤ j ∧ j ≤ s.length; omega
    · rw [numGo_end (by omega)] at hr; cases hr; show j ≤ j ∧ j ≤ s.length; omega
/-- The next quote at or behind j; none: the end. -/
def qAt (s : List UInt8) (j : Nat) : Nat :=
  if h : j < s.length then (if s[j] = 34 then j else qAt s (j + 1)) else s.length
termination_by s.length - j
theorem qAt_hit {s : List UInt8} {j : Nat} {c : UInt8} (h : s[j]? = some c) (hc : c = 34) : qAt s j = j := by
  obtain ⟨hj, rfl⟩ := List.getElem?_eq_some_iff.1 h
  rw [qAt, dif_pos hj, if_pos hc]
theorem qAt_next {s : List UInt8} {j : Nat} {c : UInt8} (h : s[j]? = some c) (hc : c ≠ 34) : qAt s j = qAt s (j + 1) := by
  obtain ⟨hj, rfl⟩ := List.getElem?_eq_some_iff.1 h
  rw [qAt, dif_pos hj, if_neg hc]
theorem qAt_end {s : List UInt8} {j : Nat} (h : s.length ≤ j) : qAt s j = s.length := by rw [qAt, dif_neg (by omega)]
theorem qAt_le (s : List UInt8) : ∀ (m j : Nat), s.length - j ≤ m → j ≤ s.length → j ≤ qAt s j ∧ qAt s j ≤ s.length
  | 0, j, h, hj => by rw [qAt_end (by omega)]; omega
  | m + 1, j, h, hj => by
    by_cases hl : j < s.length
    · rw [qAt, dif_pos hl]
      split
      · omega
      · have := qAt_le s m (j + 1) (by omega) (by omega); omega
    · rw [qAt_end (by omega)]; omega
/-- What stands for itself, the longer ones first. -/
def marksL : List (List UInt8) := [[58, 58], [47, 47], [46, 46], [58, 61], [33, 61], [60, 61], [62, 61], [60, 60], [62, 62], [47], [40], [41], [91], [93], [123], [125], [44], [46], [64], [42], [61], [60], [62], [43], [45], [124]]
def isPre (m t : List UInt8) : Bool := decide (m.length ≤ t.length ∧ t.take m.length = m)
def markAt (s : List UInt8) (p : Nat) : Option (List UInt8) := marksL.find? fun m => isPre m (s.drop p)
def tk0 : Tk := ⟨0, [], 0⟩
/-- One token at p, whose byte is c; what is behind it; the error. -/
def oneT (s : List UInt8) (p : Nat) (c : Int) : Tk × Nat × Int :=
  if wordB c true = true then (if 20 < ((s.take (wEnd s p p)).drop p).length then (tk0, p, 10) else (⟨1, (s.take (wEnd s p p)).drop p, 0⟩, wEnd s p p, 0))
  else if digB c = true then (match numGo s p 0 with | none => (tk0, p, 2) | some (n, e) => (⟨2, [], n⟩, e, 0))
  else if c = 34 then (if qAt s (p + 1) = s.length then (tk0, p, 5) else (⟨3, (s.take (qAt s (p + 1))).drop (p + 1), 0⟩, qAt s (p + 1) + 1, textFault ((s.take (qAt s (p + 1))).drop (p + 1))))
  else if c = 36 then (if (s.take (wEnd s (p + 1) (p + 1))).drop (p + 1) = [] ∨ 20 < ((s.take (wEnd s (p + 1) (p + 1))).drop (p + 1)).length then (tk0, p, 10) else (⟨4, (s.take (wEnd s (p + 1) (p + 1))).drop (p + 1), 0⟩, wEnd s (p + 1) (p + 1), 0))
  else match markAt s p with | some m => (⟨5, m, 0⟩, p + m.length, 0) | none => (tk0, p, 4)
def cutGo (s : List UInt8) (p : Nat) (out : List Tk) : List Tk × Nat × Int :=
  if h : p < s.length then
    (if s[p] = 32 ∨ s[p] = 10 ∨ s[p] = 9 then cutGo s (p + 1) out
    else if 200 ≤ out.length then ([], p, 1)
    else if (oneT s p (s[p]).toNat).2.2 ≠ 0 then ([], p, (oneT s p (s[p]).toNat).2.2)
    else if p < (oneT s p (s[p]).toNat).2.1 then cutGo s (oneT s p (s[p]).toNat).2.1 (out ++ [(oneT s p (s[p]).toNat).1])
    else ([], 0, 0))
  else (out, 0, 0)
termination_by s.length - p
def cut (s : List UInt8) : List Tk × Nat × Int := if s.length ≤ 1000 then cutGo s 0 [] else ([], 0, 1)
end Go.Proofs.YtmalccaijjcepaaDoor
