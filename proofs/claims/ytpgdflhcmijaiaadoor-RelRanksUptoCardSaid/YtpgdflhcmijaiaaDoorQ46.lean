/- The how many-th of its part each row is: the reference's answer. No condition but that the tables of package unicode/utf8 are there. -/
import Derived.Test.YtpgdflhcmijaiaaDoorQ45
set_option linter.all false
set_option linter.unusedSimpArgs false
set_option linter.unusedVariables false
namespace Go.Proofs.YtpgdflhcmijaiaaDoor
open Go Go.Proofs.YtpgdflhcmijaiaaDoor.Ab
variable [Glo] [U8]
set_option maxHeartbeats 4000000
set_option maxRecDepth 20000
theorem colsGo_ne : ∀ (l d : List (List UInt8)), colsGo d l = 0 → [] ∉ l
  | [], _, _, h => by cases h
  | s :: l, d, h0, h => by
    rw [colsGo] at h0
    split at h0
    · cases h0
    · rename_i hs
      split at h0
      · cases h0
      · rcases List.mem_cons.1 h with h | h
        · exact hs (.inl h.symm)
        · exact colsGo_ne l _ h0 h
theorem txtAt_empty {l : List (List UInt8)} (h : colsFault l = 0) : txtAt l [] < 0 := by
  unfold colsFault at h
  split at h
  · have := txtAt_ge l []
    rw [decide_eq_decide] at this
    have hn := colsGo_ne l [] h
    have : ¬ 0 ≤ txtAt l [] := fun h' => hn (this.1 h')
    omega
  · cases h
theorem rk_it_ext {x y : It} (h : x.k = y.k ∧ x.n = y.n ∧ x.s = y.s) : x = y := by cases x; cases y; simp at h; simp [h]
theorem rk_it_ne (x y : It) : (!(decide (y.k = x.k) && (decide (y.n = x.n) && decide (y.s = x.s)))) = decide (y ≠ x) := by
  by_cases h : y = x
  · subst h; simp
  · rw [decide_eq_true h]
    by_cases a : y.k = x.k
    · by_cases b : y.n = x.n
      · by_cases c : y.s = x.s
        · exact absurd (rk_it_ext ⟨a, b, c⟩) h
        · simp [c]
      · simp [b]
    · simp [a]
def rkP (ps q : List Int) (rows : List (List It)) (i k : Nat) : Nat := (List.range k).countP (fun j => smB q rows i j && befB (rkC ps rows) j i) + 1
theorem rkP_end (ps q : List Int) (rows : List (List It)) (i : Nat) : rkP ps q rows i rows.length = rkN ps q rows i := rfl
theorem rkP_le (ps q : List Int) (rows : List (List It)) (i k : Nat) : rkP ps q rows i k ≤ k + 1 := by
  have := List.countP_le_length (p := fun j => smB q rows i j && befB (rkC ps rows) j i) (l := List.range k)
  rw [List.length_range] at this
  exact Nat.succ_le_succ this
theorem rkP_succ (ps q : List Int) (rows : List (List It)) (i k : Nat) : rkP ps q rows i (k + 1) = rkP ps q rows i k + if (smB q rows i k && befB (rkC ps rows) k i) = true then 1 else 0 := by
  rw [rkP, List.range_succ, List.countP_append, List.countP_singleton, rkP]
  omega
theorem befB_ls {ps : List Int} {rows : List (List It)} {i k : Nat} {ri rk : List It} (hi : rows[i]? = some ri) (hk : rows[k]? = some rk) : befB (rkC ps rows) k i = (lsI (projRow ps rk) (projRow ps ri) || (decide (k < i) && !lsI (projRow ps ri) (projRow ps rk))) := by
  have hl : ∀ r : List It, (projRow ps r).length = ps.length := fun r => by simp [projRow]
  have e1 : decide (rkC ps rows k i < 0) = lsI (projRow ps rk) (projRow ps ri) := by
    rw [Bool.eq_iff_iff, decide_eq_true_eq, lsI_lt (by rw [hl, hl])]
    simp [rkC, List.getD, hi, hk]
  have e2 : decide (rkC ps rows i k < 0) = lsI (projRow ps ri) (projRow ps rk) := by
    rw [Bool.eq_iff_iff, decide_eq_true_eq, lsI_lt (by rw [hl, hl])]
    simp [rkC, List.getD, hi, hk]
  rw [befB, e1, e2]
theorem smB_nil (rows : List (List It)) (i k : Nat) : smB [] rows i k = true := by simp [smB, projRow]
theorem smB_one {rows : List (List It)} {i k c : Nat} {ri rk : List It} (hi : rows[i]? = some ri) (hk : rows[k]? = some rk) : smB [(c : Int)] rows i k = decide (rg ri c = rg rk c) := by
  simp [smB, projRow, List.getD, hi, hk]
def ks_11 : Nat → List Nat
  | 0 => [1, 2, 3, 4, 8]
  | 1 => [1, 2, 3, 4, 8, 10]
  | 2 => [1, 3, 4, 8, 10, 11, 12]
  | 3 => [1, 3, 4, 8, 10, 11, 12, 13]
  | 4 => [1, 4, 8, 10, 11, 13, 45]
  | 5 => [1, 4, 8, 10, 11, 13]
  | 6 => [1, 4, 8, 10, 11, 13, 47]
  | 7 => [8, 9]
  | 8 => [1, 4, 8, 11, 13, 14]
  | 9 => [1, 4, 8, 11, 13, 14, 15]
  | 10 => [1, 4, 8, 11, 13, 14, 15, 54]
  | 11 => [1, 4, 8, 11, 13, 14, 15]
  | 12 => [1, 4, 8, 11, 13, 14, 15, 16]
  | 13 => [1, 4, 8, 11, 13, 14, 15, 16, 17]
  | 14 => [1, 4, 8, 11, 13, 14, 15, 16, 17, 61]
  | 15 => [1, 4, 8, 11, 13, 14, 15, 16, 17]
  | 16 => [1, 4, 8, 11, 13, 14, 15, 16, 17, 84]
  | 17 => [1, 4, 8, 11, 13, 14, 15, 16, 17, 18]
  | 18 => [1, 4, 8, 11, 13, 14, 15, 16, 17, 18, 19]
  | 19 => [1, 4, 8, 11, 13, 14, 15, 16, 17, 112]
  | 20 => [1, 4, 8, 11, 13, 14, 15, 16, 17]
  | 21 => [1, 4, 8, 11, 13, 14, 15, 20]
  | 22 => [1, 4, 8, 11, 13, 14, 15]
  | 23 => [8, 9]
  | _ => []
def mu_11 : List Nat := [14]
def in_11 : List Nat := [0, 1, 2, 3]
def nd_11 : Nat → Nat
  | 16 => 20
  | _ => 0
end Go.Proofs.YtpgdflhcmijaiaaDoor
