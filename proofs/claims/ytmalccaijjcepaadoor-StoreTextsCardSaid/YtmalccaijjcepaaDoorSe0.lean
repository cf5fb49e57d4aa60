/- Events of a node, in plain words. No condition. -/
import Derived.Test.YtmalccaijjcepaaDoorSt0
set_option linter.all false
set_option linter.unusedSimpArgs false
set_option linter.unusedVariables false
namespace Go.Proofs.YtmalccaijjcepaaDoor
open Go Go.Proofs.YtmalccaijjcepaaDoor.Ab
variable [Glo]
def evE : Ev := ⟨5, [], []⟩
def evN (x : Nd) : Ev := ⟨x.k, x.nm, x.vl⟩
/-- The events of the nodes from a up to, but not with, b. -/
def evF (l : List Nd) (a b : Nat) : List Ev :=
  if h : a < b then
    (if (gd l a).k = 6 then evF l (a + 1) b
    else if (gd l a).k = 1 then evN (gd l a) :: (evF l (a + 1) (min b (a + 1 + (gd l a).sz.toNat)) ++ evE :: evF l (a + 1 + (gd l a).sz.toNat) b)
    else evN (gd l a) :: evF l (a + 1) b)
  else []
termination_by b - a
decreasing_by all_goals omega
theorem evF_end {l : List Nd} {a b : Nat} (h : b ≤ a) : evF l a b = [] := by rw [evF, dif_neg (by omega)]
theorem evF_len {l : List Nd} : ∀ (m a b : Nat), b - a ≤ m → (evF l a b).length ≤ 2 * (b - a)
  | 0, a, b, h => by rw [evF_end (by omega)]; simp
  | m + 1, a, b, h => by
    by_cases hab : a < b
    · rw [evF, dif_pos hab]
      split
      · have := evF_len (l := l) m (a + 1) b (by omega); omega
      · split
        · have h1 := evF_len (l := l) m (a + 1) (min b (a + 1 + (gd l a).sz.toNat)) (by omega)
          have h2 := evF_len (l := l) m (a + 1 + (gd l a).sz.toNat) b (by omega)
          simp only [List.length_cons, List.length_append]
          omega
        · have := evF_len (l := l) m (a + 1) b (by omega)
          simp only [List.length_cons]
          omega
    · rw [evF_end (by omega)]; simp
theorem okAt_up {l : List Nd} {i : Nat} (h : okAt l i = true) : (gd l i).up = climb l i (i - 1) := by
  unfold okAt at h
  simp only [Bool.and_eq_true, decide_eq_true_eq] at h
  exact h.1.2
theorem okAt_in {l : List Nd} {i : Nat} (h : okAt l i = true) (h0 : 0 ≤ (gd l i).up) : i + (gd l i).sz ≤ (gd l i).up + (gd l (gd l i).up).sz := by
  have e := okAt_up h
  unfold okAt at h
  simp only [Bool.and_eq_true, decide_eq_true_eq] at h
  obtain ⟨_, h3⟩ := h
  rw [← e, if_neg (by omega)] at h3
  simp only [Bool.and_eq_true, decide_eq_true_eq] at h3
  exact h3.1.2.1
/-- Within another one's bounds: it stays within them. -/
theorem nest {l : List Nd} {N : Nat} (hg : Good l N) : ∀ (i j : Nat), j < i → i < N → (i : Int) ≤ j + (gd l j).sz → (j : Int) ≤ (gd l i).up ∧ i + (gd l i).sz ≤ j + (gd l j).sz := by
  intro i
  induction i using Nat.strongRecOn with
  | _ i ih =>
    intro j hji hi hj
    have hcl : ∀ (m : Nat) (up : Int), (up + 1).toNat ≤ m → (j : Int) ≤ up → up < i → (j : Int) ≤ climb l i up := by
      intro m
      induction m with
      | zero => intro up h1 h2 h3; omega
      | succ m ihm =>
        intro up h1 h2 h3
        by_cases hs : up + (gd l up).sz < i
        · obtain ⟨b1, b2, _⟩ := good_bd' hg (j := up) (by omega) (by omega)
          rw [climb_go (by omega) hs b2]
          have hne : up ≠ j := fun e => by rw [e] at hs; omega
          have e : gd l up = gd l (up.toNat : Int) := by rw [Int.toNat_of_nonneg (by omega)]
          have := (ih up.toNat (by omega) j (by omega) (by omega) (by omega)).1
          rw [← e] at this
          exact ihm (gd l up).up (by omega) this (by omega)
        · rw [climb_stop (by omega)]; exact h2
    have hup : (j : Int) ≤ (gd l i).up := by rw [okAt_up (hg i hi)]; exact hcl (i - 1 + 1) _ (by omega) (by omega) (by omega)
    refine ⟨hup, ?_⟩
    have h1 := okAt_in (hg i hi) (by omega)
    by_cases e : (gd l i).up = j
    · rw [e] at h1; exact h1
    · obtain ⟨_, b2, _⟩ := good_bd hg i hi
      have e2 : gd l (gd l i).up = gd l ((gd l i).up.toNat : Int) := by rw [Int.toNat_of_nonneg (by omega)]
      have := (ih (gd l i).up.toNat (by omega) j (by omega) (by omega) (by omega)).2
      rw [← e2] at this
      omega
/-- Behind a node's last one, within its parent: the parent's next. -/
theorem next_up {l : List Nd} {N n a : Nat} (hg : Good l N) (hna : n < a) (hup : (gd l a).up = n) (h0 : 0 ≤ (gd l a).sz) (hi : (a : Int) + (gd l a).sz + 1 ≤ n + (gd l n).sz) (hN : a + (gd l a).sz.toNat + 1 < N) :
    (gd l (a + (gd l a).sz.toNat + 1 : Nat)).up = n := by
  generalize hb : a + (gd l a).sz.toNat + 1 = b at *
  have h1 := (nest hg b n (by omega) hN (by omega)).1
  obtain ⟨_, h2, _⟩ := good_bd hg b hN
  by_cases e : (gd l b).up = n
  · exact e
  exfalso
  have hc := climb_bd hg (k := b) (b + 1) ((b : Int) - 1) (by omega) (by omega) (by omega)
  rw [← okAt_up (hg b hN)] at hc
  have h3 := hc.2.2 (by omega)
  have e2 : gd l (gd l b).up = gd l ((gd l b).up.toNat : Int) := by rw [Int.toNat_of_nonneg (by omega)]
  rw [e2] at h3
  by_cases hma : (gd l b).up < a
  · have := (nest hg a (gd l b).up.toNat (by omega) (by omega) (by omega)).1
    omega
  · by_cases hma2 : (gd l b).up = a
    · rw [show (gd l b).up.toNat = a by omega] at h3
      omega
    · have := (nest hg (gd l b).up.toNat a (by omega) (by omega) (by omega)).2
      omega
theorem first_up {l : List Nd} {N n : Nat} (hg : Good l N) (h : 1 ≤ (gd l n).sz) (hN : n + 1 < N) : (gd l (n + 1 : Nat)).up = n := by
  have h1 := (nest hg (n + 1) n (by omega) hN (by omega)).1
  obtain ⟨_, h2, _⟩ := good_bd hg (n + 1) hN
  omega
theorem okAt_kind {l : List Nd} {i : Nat} (h : okAt l i = true) : ((gd l i).k ≠ 1 → (gd l i).k ≠ 6 → (gd l i).sz = 0) ∧ ((gd l i).k = 6 → (gd l i).up = -1) := by
  unfold okAt at h
  simp only [Bool.and_eq_true, decide_eq_true_eq] at h
  have hm := h.1.1.1
  unfold nodeMay at hm
  constructor
  · intro h1 h2
    rw [if_neg h1] at hm
    split at hm
    · exact (of_decide_eq_true hm).2.2
    · split at hm
      · exact (of_decide_eq_true hm).2.2
      · simp at hm
  · intro h6
    rw [if_neg (by omega), if_neg (by omega), if_neg (by omega), if_pos h6] at hm
    exact (of_decide_eq_true hm).2.2
/-- A child and what is behind it. -/
theorem evF_child {l : List Nd} {N a b : Nat} (hg : Good l N) (ha : a < N) (h6 : (gd l a).k ≠ 6) (hb : a + (gd l a).sz.toNat + 1 ≤ b) : evF l a b = evF l a (a + (gd l a).sz.toNat + 1) ++ evF l (a + (gd l a).sz.toNat + 1) b := by
  rw [evF, dif_pos (by omega), if_neg h6]
  conv => rhs; rw [evF, dif_pos (by omega), if_neg h6]
  by_cases h1 : (gd l a).k = 1
  · rw [if_pos h1, if_pos h1, Nat.min_eq_right (by omega), Nat.min_eq_right (by omega)]
    have e : a + 1 + (gd l a).sz.toNat = a + (gd l a).sz.toNat + 1 := by omega
    rw [e, evF_end (l := l) (a := a + (gd l a).sz.toNat + 1) (b := a + (gd l a).sz.toNat + 1) (Nat.le_refl _)]
    simp
  · rw [if_neg h1, if_neg h1]
    have := (okAt_kind (hg a ha)).1 h1 h6
    rw [this]
    simp [evF_end (l := l) (a := a + 1) (b := a + 1) (Nat.le_refl _)]

/-- What is still to come at place i: 'ends' the last places of those that are open, the innermost first. -/
def remE (l : List Nd) (N : Nat) : Nat → List Nat → List Ev
  | i, [] => evF l i N
  | i, e :: r => evF l i (e + 1) ++ evE :: remE l N (e + 1) r
/-- The stack is in order. -/
def stk (N : Nat) : Nat → List Nat → Prop
  | i, [] => i ≤ N
  | i, e :: r => i ≤ e + 1 ∧ stk N (e + 1) r
theorem stk_mono {N : Nat} : ∀ {i j : Nat} {r : List Nat}, stk N i r → j ≤ i → stk N j r
  | i, j, [], h, hj => Nat.le_trans hj h
  | i, j, e :: r, h, hj => ⟨Nat.le_trans hj h.1, h.2⟩
theorem stk_le {N : Nat} : ∀ {i : Nat} {r : List Nat}, stk N i r → i ≤ N
  | i, [], h => h
  | i, e :: r, h => Nat.le_trans h.1 (stk_le h.2)
theorem remE_pop {l : List Nd} {N i e : Nat} {r : List Nat} (h : e < i) (hs : stk N i (e :: r)) : i = e + 1 ∧ remE l N i (e :: r) = evE :: remE l N i r := by
  have : i = e + 1 := by have := hs.1; omega
  subst this
  refine ⟨rfl, ?_⟩
  rw [remE, evF_end (Nat.le_refl _)]
  rfl
/-- The bound of what is innermost. -/
def topN (N : Nat) : List Nat → Nat
  | [] => N
  | e :: _ => e + 1
theorem remE_split {l : List Nd} {N i c : Nat} {r : List Nat} : (∃ t, ∀ j, remE l N j r = evF l j (topN N r) ++ t) := by
  cases r with
  | nil => exact ⟨[], fun j => by simp [remE, topN]⟩
  | cons e r => exact ⟨_, fun j => rfl⟩
theorem remE_leaf {l : List Nd} {N i : Nat} {r : List Nat} (hi : i < topN N r) (h6 : (gd l i).k ≠ 6) (h1 : (gd l i).k ≠ 1) : remE l N i r = evN (gd l i) :: remE l N (i + 1) r := by
  obtain ⟨t, ht⟩ := remE_split (l := l) (N := N) (i := i) (c := i) (r := r)
  rw [ht, ht, evF, dif_pos hi, if_neg h6, if_neg h1]
  rfl
theorem remE_doc {l : List Nd} {N i : Nat} {r : List Nat} (hi : i < topN N r) (h6 : (gd l i).k = 6) : remE l N i r = remE l N (i + 1) r := by
  obtain ⟨t, ht⟩ := remE_split (l := l) (N := N) (i := i) (c := i) (r := r)
  rw [ht, ht, evF, dif_pos hi, if_pos h6]
theorem remE_elem {l : List Nd} {N i : Nat} {r : List Nat} (hi : i < topN N r) (h1 : (gd l i).k = 1) (hz : i + (gd l i).sz.toNat < topN N r) : remE l N i r = evN (gd l i) :: remE l N (i + 1) ((i + (gd l i).sz.toNat) :: r) := by
  obtain ⟨t, ht⟩ := remE_split (l := l) (N := N) (i := i) (c := i) (r := r)
  rw [remE, ht, ht, evF, dif_pos hi, if_neg (by omega), if_pos h1, Nat.min_eq_right (by omega)]
  simp [show i + 1 + (gd l i).sz.toNat = i + (gd l i).sz.toNat + 1 by omega]
end Go.Proofs.YtmalccaijjcepaaDoor
