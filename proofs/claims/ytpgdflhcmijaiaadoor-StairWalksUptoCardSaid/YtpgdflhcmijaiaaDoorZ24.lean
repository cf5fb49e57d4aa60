/- Steps from nodes: what lies on an axis, and which nodes are found, in plain words. No condition. -/
import Derived.Test.YtpgdflhcmijaiaaDoorZ23
set_option linter.all false
set_option linter.unusedSimpArgs false
set_option linter.unusedVariables false
namespace Go.Proofs.YtpgdflhcmijaiaaDoor
open Go Go.Proofs.YtpgdflhcmijaiaaDoor.Ab
variable [Glo]
def onAx (l : List Nd) (c : Nat) (axis : Int) (j : Nat) : Bool :=
  if axis = 1 then decide ((gd l j).up = c) && !decide ((gd l j).k = 2)
  else if axis = 2 then wtB l j c && !decide ((gd l j).k = 2)
  else if axis = 3 then decide (j = c) || (wtB l j c && !decide ((gd l j).k = 2))
  else if axis = 4 then decide (j = c)
  else if axis = 5 then decide ((gd l c).up = j)
  else if axis = 6 then wtB l c j
  else if axis = 7 then decide (j = c) || wtB l c j
  else if axis = 8 then (decide (rt l j = rt l c) && decide (en l c < j)) && !decide ((gd l j).k = 2)
  else if axis = 9 then (decide (rt l j = rt l c) && decide (en l j < c)) && !decide ((gd l j).k = 2)
  else if axis = 10 then (((decide (0 ≤ (gd l c).up) && decide ((gd l j).up = (gd l c).up)) && decide (c < j)) && !decide ((gd l j).k = 2)) && !decide ((gd l c).k = 2)
  else if axis = 11 then (((decide (0 ≤ (gd l c).up) && decide ((gd l j).up = (gd l c).up)) && decide (j < c)) && !decide ((gd l j).k = 2)) && !decide ((gd l c).k = 2)
  else decide ((gd l j).up = c) && decide ((gd l j).k = 2)
def refQ (l : List Nd) (cs : List Nat) (axis : Int) (t : Ts) (j : Nat) : Bool := (cs.any fun c => onAx l c axis j) && meetsB (gd l j) axis t
def walked (l : List Nd) (cs : List Nat) (axis : Int) (t : Ts) : List Nat := colF (refQ l cs axis t) l.length
theorem refQ_false {l : List Nd} {cs : List Nat} {axis : Int} {t : Ts} {j : Nat} (h : ∀ c, c ∈ cs → onAx l c axis j = false) : refQ l cs axis t j = false := by
  have : (cs.any fun c => onAx l c axis j) = false := List.any_eq_false.2 fun c hc => by simp [h c hc]
  rw [refQ, this, Bool.false_and]
theorem refQ_true {l : List Nd} {cs : List Nat} {axis : Int} {t : Ts} {j c : Nat} (hc : c ∈ cs) (h : onAx l c axis j = true) : refQ l cs axis t j = meetsB (gd l j) axis t := by
  have : (cs.any fun c => onAx l c axis j) = true := List.any_eq_true.2 ⟨c, hc, h⟩
  rw [refQ, this, Bool.true_and]
theorem colF_ext {Q Q' : Nat → Bool} {m : Nat} (h : ∀ j, j < m → Q j = Q' j) : colF Q m = colF Q' m := by
  unfold colF
  exact List.filter_congr fun j hj => h j (List.mem_range.1 hj)
theorem walked_ext {l : List Nd} {cs cs' : List Nat} {axis : Int} {t : Ts} (h : ∀ c, c ∈ cs ↔ c ∈ cs') : walked l cs axis t = walked l cs' axis t := by
  refine colF_ext fun j _ => ?_
  have : (cs.any fun c => onAx l c axis j) = (cs'.any fun c => onAx l c axis j) := by
    rw [Bool.eq_iff_iff, List.any_eq_true, List.any_eq_true]
    exact ⟨fun ⟨c, h1, h2⟩ => ⟨c, (h c).1 h1, h2⟩, fun ⟨c, h1, h2⟩ => ⟨c, (h c).2 h1, h2⟩⟩
  rw [refQ, refQ, this]
def tk (n : Nd) (axis : Int) (t : Ts) (self : Bool) (L : List Nat) (i : Nat) : List Nat := if takeB n axis t self = true then L ++ [i] else L
theorem tk_col {Q : Nat → Bool} {n : Nd} {axis : Int} {t : Ts} {self : Bool} {i : Nat} (h : Q i = takeB n axis t self) : tk n axis t self (colF Q i) i = colF Q (i + 1) := by
  rw [tk, colF_succ, h]
  split
  · rfl
  · rw [List.append_nil]
def setQ (l : List Nd) (C : List Nat) (axis : Int) (t : Ts) (j : Nat) : Bool := decide (j ∈ C) && takeB (gd l j) axis t true
theorem setQ_step {l : List Nd} {C : List Nat} (hr : Rise C) {axis : Int} {t : Ts} {k x : Nat} {n : Nd} (hx : C[k]? = some x) (hn : l[x]? = some n) : tk n axis t true (colF (setQ l C axis t) (past C k)) x = colF (setQ l C axis t) (past C (k + 1)) := by
  obtain ⟨h1, h2, h3⟩ := past_step hr hx
  rw [h2, ← colF_skip h1 fun j j1 j2 => by rw [setQ, decide_eq_false (h3 j j1 j2), Bool.false_and]]
  refine tk_col ?_
  rw [setQ, decide_eq_true (List.mem_of_getElem? hx), Bool.true_and, gd_of_get hn]
theorem setQ_end {l : List Nd} {C : List Nat} (hr : Rise C) (hC : ∀ c, c ∈ C → c < l.length) {axis : Int} {t : Ts} : colF (setQ l C axis t) (past C C.length) = colF (setQ l C axis t) l.length := by
  obtain ⟨h1, h2⟩ := past_end hr hC
  exact (colF_skip h1 fun j j1 _ => by rw [setQ, decide_eq_false (h2 j j1), Bool.false_and]).symm
theorem past_le {C : List Nat} {N : Nat} (hC : ∀ c, c ∈ C → c < N) (k : Nat) : past C k ≤ N ∨ C.length < k := by
  cases k with
  | zero => exact .inl (Nat.zero_le _)
  | succ k =>
    by_cases h : k < C.length
    · left
      simp only [past, List.getElem?_eq_getElem h, Option.getD_some]
      exact hC _ (List.getElem_mem h)
    · right; omega
theorem takeB_true (n : Nd) (axis : Int) (t : Ts) : takeB n axis t true = meetsB n axis t := by simp [takeB]
theorem setQ_walked {l : List Nd} {C cs : List Nat} {axis : Int} {t : Ts} (h : ∀ j, j < l.length → (j ∈ C ↔ ∃ c, c ∈ cs ∧ onAx l c axis j = true)) : colF (setQ l C axis t) l.length = walked l cs axis t := by
  refine colF_ext fun j hj => ?_
  rw [setQ, refQ, takeB_true]
  congr 1
  rw [Bool.eq_iff_iff, decide_eq_true_eq, List.any_eq_true]
  exact h j hj
def dnM (l : List Nd) (C : List Nat) : Nat → Nat
  | 0 => 0
  | k + 1 => max (dnM l C k) (en l ((C[k]?).getD 0) + 1)
theorem dnM_s {l : List Nd} {C : List Nat} {k n : Nat} (h : C[k]? = some n) : dnM l C (k + 1) = max (dnM l C k) (en l n + 1) := by rw [dnM, h]; rfl
theorem dnM_ge {l : List Nd} {C : List Nat} {i c : Nat} (h : C[i]? = some c) : ∀ k, i < k → en l c + 1 ≤ dnM l C k
  | k + 1, hk => by
    rw [dnM]
    by_cases e : i = k
    · subst e; rw [h]; exact Nat.le_max_right _ _
    · exact Nat.le_trans (dnM_ge h k (by omega)) (Nat.le_max_left _ _)
theorem dnM_le {l : List Nd} (hg : Good l l.length) {C : List Nat} (hC : ∀ c, c ∈ C → c < l.length) : ∀ k, k ≤ C.length → dnM l C k ≤ l.length
  | 0, _ => Nat.zero_le _
  | k + 1, hk => by
    have h := List.getElem?_eq_getElem (show k < C.length by omega)
    rw [dnM_s h]
    have := dnM_le hg hC k (by omega)
    have := en_lt hg (hC _ (List.getElem_mem (show k < C.length by omega)))
    omega
theorem wtB_false {l : List Nd} {i n : Nat} (h : i ≤ n ∨ en l n < i) : wtB l i n = false := by
  unfold wtB
  rcases h with h | h
  · rw [decide_eq_false (by omega), Bool.false_and]
  · rw [decide_eq_false (p := i ≤ en l n) (by omega), Bool.and_false]
theorem wtB_true {l : List Nd} {i n : Nat} (h1 : n < i) (h2 : i ≤ en l n) : wtB l i n = true := by
  unfold wtB
  rw [decide_eq_true h1, decide_eq_true h2]; rfl
theorem onAx2 (l : List Nd) (c j : Nat) : onAx l c 2 j = (wtB l j c && !decide ((gd l j).k = 2)) := rfl
theorem onAx3 (l : List Nd) (c j : Nat) : onAx l c 3 j = (decide (j = c) || (wtB l j c && !decide ((gd l j).k = 2))) := rfl
theorem before {C : List Nat} (hr : Rise C) {k n c : Nat} (hn : C[k]? = some n) (hc : c ∈ C) (h : c < n) : ∃ i, i < k ∧ C[i]? = some c := by
  obtain ⟨i, hi⟩ := List.getElem?_of_mem hc
  refine ⟨i, Classical.byContradiction fun hk => ?_, hi⟩
  by_cases e : i = k
  · subst e; rw [hn] at hi; cases hi; omega
  · have := hr.lt hn hi (by omega); omega
theorem down_skip {l : List Nd} {C : List Nat} (hr : Rise C) {k n : Nat} (hn : C[k]? = some n) (t : Ts) : ∀ j, dnM l C k ≤ j → j < max (n + 1) (dnM l C k) → refQ l C 2 t j = false := fun j j1 j2 => refQ_false fun c hc => by
  rw [onAx2]
  have : wtB l j c = false := by
    by_cases h : c < n
    · obtain ⟨i, i1, i2⟩ := before hr hn hc h
      have := dnM_ge (l := l) i2 k i1
      exact wtB_false (.inr (by omega))
    · exact wtB_false (.inl (by omega))
  rw [this, Bool.false_and]
theorem down_hit {l : List Nd} {C : List Nat} {n j : Nat} (hn : n ∈ C) (t : Ts) (h1 : n < j) (h2 : j ≤ en l n) : refQ l C 2 t j = takeB (gd l j) 2 t false := by
  by_cases h : (gd l j).k = 2
  · have e : takeB (gd l j) 2 t false = false := by simp [takeB, h]
    rw [e]
    exact refQ_false fun c _ => by rw [onAx2]; simp [h]
  · rw [refQ_true hn (by rw [onAx2, wtB_true h1 h2]; simp [h])]
    simp [takeB, h]
theorem down_end {l : List Nd} {C : List Nat} (t : Ts) : ∀ j, dnM l C C.length ≤ j → refQ l C 2 t j = false := fun j hj => refQ_false fun c hc => by
  obtain ⟨i, hi⟩ := List.getElem?_of_mem hc
  have := dnM_ge (l := l) hi C.length (List.getElem?_eq_some_iff.1 hi).1
  rw [onAx2, wtB_false (.inr (by omega)), Bool.false_and]
theorem ds_skip {l : List Nd} {C : List Nat} (hr : Rise C) {k n : Nat} (hn : C[k]? = some n) (t : Ts) : ∀ j, dnM l C k ≤ j → j < max n (dnM l C k) → refQ l C 3 t j = false := fun j j1 j2 => refQ_false fun c hc => by
  rw [onAx3]
  have : wtB l j c = false ∧ j ≠ c := by
    by_cases h : c < n
    · obtain ⟨i, i1, i2⟩ := before hr hn hc h
      have := dnM_ge (l := l) i2 k i1
      have := en_ge l c
      exact ⟨wtB_false (.inr (by omega)), by omega⟩
    · exact ⟨wtB_false (.inl (by omega)), by omega⟩
  rw [this.1, decide_eq_false this.2]; rfl
theorem ds_hit {l : List Nd} {C : List Nat} {n j : Nat} (hn : n ∈ C) (t : Ts) (h1 : n ≤ j) (h2 : j ≤ en l n) : refQ l C 3 t j = takeB (gd l j) 3 t (decide (j ∈ C)) := by
  by_cases hj : j ∈ C
  · rw [refQ_true hj (by rw [onAx3]; simp), decide_eq_true hj, takeB_true]
  · have hnj : n ≠ j := fun e => hj (e ▸ hn)
    rw [decide_eq_false hj]
    by_cases h : (gd l j).k = 2
    · have e : takeB (gd l j) 3 t false = false := by simp [takeB, h]
      rw [e]
      exact refQ_false fun c hc => by
        have : j ≠ c := fun e => hj (e ▸ hc)
        rw [onAx3]; simp [h, this]
    · rw [refQ_true hn (by rw [onAx3, wtB_true (by omega) h2]; simp [h])]
      simp [takeB, h]
theorem ds_end {l : List Nd} {C : List Nat} (t : Ts) : ∀ j, dnM l C C.length ≤ j → refQ l C 3 t j = false := fun j hj => refQ_false fun c hc => by
  obtain ⟨i, hi⟩ := List.getElem?_of_mem hc
  have := dnM_ge (l := l) hi C.length (List.getElem?_eq_some_iff.1 hi).1
  have := en_ge l c
  have h : j ≠ c := by omega
  rw [onAx3, wtB_false (.inr (by omega)), Bool.false_and, decide_eq_false h]; rfl
theorem toNat_map {zs : List Int} (h : ∀ z, z ∈ zs → 0 ≤ z) : (zs.map Int.toNat).map (fun i : Nat => (i : Int)) = zs := by
  rw [List.map_map]
  conv => rhs; rw [← List.map_id zs]
  refine List.map_congr_left fun z hz => ?_
  show ((z.toNat : Nat) : Int) = z
  have := h z hz
  omega
theorem sorted_pair (zs : List Int) : (zs.mergeSort fun x y => decide (x ≤ y)).Pairwise (· ≤ ·) := by
  have := List.pairwise_mergeSort (le := fun x y : Int => decide (x ≤ y)) (fun a b c h1 h2 => by simp at h1 h2 ⊢; omega) (fun a b => by simp; omega) zs
  exact this.imp fun h => by simpa using h
theorem sorted_mem (zs : List Int) (x : Int) : x ∈ (zs.mergeSort fun x y => decide (x ≤ y)) ↔ x ∈ zs := List.mem_mergeSort
end Go.Proofs.YtpgdflhcmijaiaaDoor
namespace Go.Proofs.YtpgdflhcmijaiaaDoor
open Go Go.Proofs.YtpgdflhcmijaiaaDoor.Ab
variable [Glo]
theorem keeps_ne {zs : List Int} {j : Nat} (h : Lib.keeps zs.toArray j = true) (hj : 0 < j) (hl : j < zs.length) : zs[j] ≠ zs[j - 1]'(by omega) := by
  simp only [Lib.keeps, decide_eq_true_eq] at h
  rcases h with h | h
  · omega
  · intro e
    apply h
    rw [getElem!_pos _ _ (by simpa using hl), getElem!_pos _ _ (by simp; omega)]
    simpa using e
theorem compact_eq (zs : List Int) : Lib.compact zs = ((List.range zs.length).filter (Lib.keeps zs.toArray)).map fun j => zs.toArray[j]! := rfl
theorem compact_mem {zs : List Int} (hs : zs.Pairwise (· ≤ ·)) (x : Int) : x ∈ Lib.compact zs ↔ x ∈ zs := by
  rw [compact_eq, List.mem_map]
  constructor
  · rintro ⟨j, hj, rfl⟩
    have hj := List.mem_range.1 (List.mem_filter.1 hj).1
    rw [getElem!_pos _ _ (by simpa using hj)]
    simp
  · intro hx
    obtain ⟨j, hj, e⟩ := List.getElem_of_mem hx
    induction j using Nat.strongRecOn with
    | _ j ih =>
      by_cases hk : Lib.keeps zs.toArray j = true
      · refine ⟨j, List.mem_filter.2 ⟨List.mem_range.2 hj, hk⟩, ?_⟩
        rw [getElem!_pos _ _ (by simpa using hj)]
        simpa using e
      · have hj0 : j ≠ 0 := fun h => hk (by simp [Lib.keeps, h])
        have e2 : zs[j]'hj = zs[j - 1]'(by omega) := by
          simp only [Lib.keeps, decide_eq_true_eq, not_or, Classical.not_not] at hk
          have := hk.2
          rw [getElem!_pos _ _ (by simpa using hj), getElem!_pos _ _ (by simp; omega)] at this
          simpa using this
        exact ih (j - 1) (by omega) (by omega) (e2.symm.trans e)
theorem compact_rise {zs : List Int} (hs : zs.Pairwise (· ≤ ·)) : (Lib.compact zs).Pairwise (· < ·) := by
  rw [compact_eq, List.pairwise_map]
  refine List.Pairwise.imp_of_mem ?_ (List.Pairwise.filter _ (List.pairwise_lt_range (n := zs.length)))
  intro a b ha hb hab
  obtain ⟨ha1, ha2⟩ := List.mem_filter.1 ha
  obtain ⟨hb1, hb2⟩ := List.mem_filter.1 hb
  have ha1 := List.mem_range.1 ha1
  have hb1 := List.mem_range.1 hb1
  have h1 := keeps_ne hb2 (by omega) hb1
  rw [getElem!_pos _ _ (by simpa using ha1), getElem!_pos _ _ (by simpa using hb1)]
  have hp := List.pairwise_iff_getElem.1 hs
  have h2 : zs[a] ≤ zs[b - 1]'(by omega) := by
    by_cases e : a = b - 1
    · subst e; exact Int.le_refl _
    · exact hp a (b - 1) ha1 (by omega) (by omega)
  have h3 : zs[b - 1]'(by omega) ≤ zs[b] := hp (b - 1) b (by omega) hb1 (by omega)
  have : zs.toArray[a]'(by simpa using ha1) = zs[a] := by simp
  rw [this]
  have : zs.toArray[b]'(by simpa using hb1) = zs[b] := by simp
  rw [this]
  omega
def sortU (zs : List Int) : List Nat := (Lib.compact (zs.mergeSort fun x y => decide (x ≤ y))).map Int.toNat
theorem sortU_eq {zs : List Int} (h : ∀ z, z ∈ zs → 0 ≤ z) : Lib.compact (zs.mergeSort fun x y => decide (x ≤ y)) = (sortU zs).map fun i : Nat => (i : Int) := by
  rw [sortU, toNat_map fun z hz => h z ((sorted_mem zs z).1 ((compact_mem (sorted_pair zs) z).1 hz))]
theorem sortU_mem {zs : List Int} (h : ∀ z, z ∈ zs → 0 ≤ z) (j : Nat) : j ∈ sortU zs ↔ (j : Int) ∈ zs := by
  rw [sortU, List.mem_map]
  constructor
  · rintro ⟨z, hz, rfl⟩
    have hz := (sorted_mem zs z).1 ((compact_mem (sorted_pair zs) z).1 hz)
    rw [Int.toNat_of_nonneg (h z hz)]
    exact hz
  · intro hj
    exact ⟨(j : Int), (compact_mem (sorted_pair zs) _).2 ((sorted_mem zs _).2 hj), Int.toNat_natCast j⟩
theorem sortU_rise {zs : List Int} (h : ∀ z, z ∈ zs → 0 ≤ z) : Rise (sortU zs) := by
  have hc := compact_rise (sorted_pair zs)
  rw [sortU_eq h, List.pairwise_map] at hc
  exact hc.imp fun h => by omega
theorem sortU_len (zs : List Int) : (sortU zs).length ≤ zs.length := by
  have := Lib.compact_length_le (zs.mergeSort fun x y => decide (x ≤ y))
  rw [sortU, List.length_map]
  rw [List.length_mergeSort] at this
  exact this
theorem sort_eq {zs : List Int} (h : ∀ z, z ∈ zs → 0 ≤ z) (hn : zs.Nodup) : (zs.mergeSort fun x y => decide (x ≤ y)) = (sortU zs).map fun i : Nat => (i : Int) := by
  rw [← sortU_eq h]
  refine (Lib.compact_all _ fun j hj => ?_).symm
  by_cases hj0 : j = 0
  · subst hj0; simp [Lib.keeps]
  · refine Lib.keeps_pos ?_
    rw [getElem!_pos _ _ (by simpa using hj), getElem!_pos _ _ (by simp at hj ⊢; omega)]
    have hnd : (zs.mergeSort fun x y => decide (x ≤ y)).Nodup := (List.mergeSort_perm zs _).nodup_iff.2 hn
    have := List.pairwise_iff_getElem.1 hnd (j - 1) j (by omega) hj (by omega)
    intro e
    exact this (by simpa using e.symm)
section
variable {l : List Nd} (hg : Good l l.length)
include hg
theorem anc_mem : ∀ {n : Nat}, n < l.length → ∀ j : Nat, (j : Int) ∈ anc l (gd l n).up ↔ wtB l n j = true := by
  intro n
  induction n using Nat.strongRecOn with
  | _ n ih =>
    intro hn j
    have b := good_bd hg n hn
    by_cases h0 : 0 ≤ (gd l n).up
    · have b2 := good_bd' hg (j := (gd l n).up) h0 (by omega)
      rw [anc_pos h0 b2.2.1, List.mem_cons]
      have hu := ih (gd l n).up.toNat (by omega) (by omega) j
      rw [Int.toNat_of_nonneg h0] at hu
      rw [hu]
      have h1 := up_in hg hn h0
      simp only [wtB, Bool.and_eq_true, decide_eq_true_eq]
      constructor
      · rintro (h | ⟨h2, h3⟩)
        · have : j = (gd l n).up.toNat := by omega
          subst this
          exact ⟨by omega, h1⟩
        · have := lam hg (i := (gd l n).up.toNat) (j := j) (by omega) (by omega) h3
          exact ⟨by omega, by omega⟩
      · rintro ⟨h2, h3⟩
        have := in_up hg hn h2 h3
        by_cases e : (j : Int) = (gd l n).up
        · exact .inl e
        · exact .inr ⟨by omega, by omega⟩
    · rw [anc_neg (by omega)]
      simp only [List.not_mem_nil, false_iff, wtB, Bool.and_eq_true, decide_eq_true_eq]
      rintro ⟨h2, h3⟩
      have := in_up hg hn h2 h3
      omega
end
end Go.Proofs.YtpgdflhcmijaiaaDoor
