/- Nodes that may be a store: what it is, in plain words. No condition. -/
import Derived.Test.YtpgdflhcmijaiaaDoorZ18
import Derived.Ground.NamesProg
import Derived.Ground.Names2Prog
import Derived.Shelf.Sort.Plain
import Derived.Shelf.Slices.In.SortNone
import Derived.Shelf.Slices.CompactI
import Derived.Test.YtpgdflhcmijaiaaDoorProg
set_option linter.all false
set_option linter.unusedSimpArgs false
set_option linter.unusedVariables false
namespace Go.Proofs.YtpgdflhcmijaiaaDoor
open Go Go.Proofs.YtpgdflhcmijaiaaDoor.Ab
variable [Glo]
def gd (l : List Nd) (j : Int) : Nd := (l[j.toNat]?).getD ⟨0, [], [], 0, 0, 0⟩
theorem gd_of_get {l : List Nd} {i : Nat} {x : Nd} (h : l[i]? = some x) : gd l i = x := by simp [gd, h]
theorem gd_of_get' {l : List Nd} {j : Int} {x : Nd} (h : l[j.toNat]? = some x) : gd l j = x := by simp [gd, h]
def nodeMay (n : Nd) : Bool :=
  if n.k = 1 then decide (nameFault n.nm = 0 ∧ n.vl = [])
  else if n.k = 2 then decide (nameFault n.nm = 0 ∧ textFault n.vl = 0 ∧ n.sz = 0)
  else if n.k = 3 ∨ n.k = 4 then decide (n.nm = [] ∧ textFault n.vl = 0 ∧ n.sz = 0)
  else if n.k = 6 then decide (n.nm = [] ∧ n.vl = [] ∧ n.up = -1)
  else false
def climb (l : List Nd) (i : Int) (up : Int) : Int :=
  if h : 0 ≤ up ∧ up + (gd l up).sz < i ∧ (gd l up).up < up then climb l i (gd l up).up else up
termination_by (up + 1).toNat
decreasing_by omega
def okAt (l : List Nd) (i : Nat) : Bool :=
  let n := gd l i
  let up := climb l i (i - 1)
  nodeMay n && decide (0 ≤ n.sz ∧ n.sz ≤ l.length - 1 - i) && decide (n.up = up) &&
    (if up < 0 then decide (n.lv = 0)
     else let p := gd l up
      decide (n.lv = p.lv + 1 ∧ i + n.sz ≤ up + p.sz ∧ (p.k = 1 ∨ p.k = 6)) && !(decide (n.k = 2) && (decide (p.k = 6) || (decide ((i : Int) - 1 ≠ up) && decide ((gd l (i - 1)).k ≠ 2)))))
def Good (l : List Nd) (i : Nat) : Prop := ∀ j, j < i → okAt l j = true
def nodesFault (l : List Nd) : Int := if l.length ≤ 100000 then (if (List.range l.length).all (okAt l) = true then 0 else 4) else 1
theorem nodesFault_good {l : List Nd} (h : Good l l.length) (hN : l.length ≤ 100000) : nodesFault l = 0 := by
  unfold nodesFault
  rw [if_pos hN, if_pos]
  rw [List.all_eq_true]
  intro j hj
  exact h j (by simpa using hj)
theorem nodesFault_bad {l : List Nd} {i : Nat} (hi : i < l.length) (h : okAt l i = false) (hN : l.length ≤ 100000) : nodesFault l = 4 := by
  unfold nodesFault
  rw [if_pos hN, if_neg]
  intro hall
  have := List.all_eq_true.1 hall i (by simpa using hi)
  rw [h] at this
  cases this
theorem good_of {l : List Nd} (h : nodesFault l = 0) : l.length ≤ 100000 ∧ Good l l.length := by
  unfold nodesFault at h
  split at h
  · rename_i hN
    split at h
    · rename_i hall
      exact ⟨hN, fun j hj => List.all_eq_true.1 hall j (by simpa using hj)⟩
    · omega
  · omega
theorem Good.mono {l : List Nd} {i j : Nat} (h : Good l i) (hj : j ≤ i) : Good l j := fun k hk => h k (by omega)
theorem Good.succ {l : List Nd} {i : Nat} (h : Good l i) (h1 : okAt l i = true) : Good l (i + 1) := fun k hk => by
  by_cases e : k = i
  · subst e; exact h1
  · exact h k (by omega)
theorem climb_go {l : List Nd} {i up : Int} (h0 : 0 ≤ up) (h1 : up + (gd l up).sz < i) (h2 : (gd l up).up < up) : climb l i up = climb l i (gd l up).up := by
  rw [climb, dif_pos ⟨h0, h1, h2⟩]
theorem climb_neg {l : List Nd} {i up : Int} (h : up < 0) : climb l i up = up := by
  rw [climb, dif_neg (by omega)]
theorem climb_stop {l : List Nd} {i up : Int} (h : i ≤ up + (gd l up).sz) : climb l i up = up := by
  rw [climb, dif_neg (by omega)]
theorem good_bd {l : List Nd} : ∀ {i : Nat}, Good l i → ∀ (j : Nat), j < i → -1 ≤ (gd l j).up ∧ (gd l j).up < j ∧ 0 ≤ (gd l j).sz ∧ (gd l j).sz ≤ l.length - 1 - j ∧ 0 ≤ (gd l j).lv ∧ (gd l j).lv ≤ j := by
  intro i hg j
  induction j using Nat.strongRecOn with
  | _ j ih =>
    intro hj
    have hok := hg j hj
    have hcl : ∀ (m : Nat) (up : Int), (up + 1).toNat ≤ m → -1 ≤ up → up < j → -1 ≤ climb l j up ∧ climb l j up ≤ up := by
      intro m
      induction m with
      | zero => intro up h1 h2 h3; rw [climb_neg (by omega)]; omega
      | succ m ihm =>
        intro up h1 h2 h3
        by_cases hn : up < 0
        · rw [climb_neg hn]; omega
        · by_cases hs : up + (gd l up).sz < j
          · have e : gd l up = gd l (up.toNat : Int) := by rw [Int.toNat_of_nonneg (by omega)]
            obtain ⟨b1, b2, _⟩ := ih up.toNat (by omega) (by omega)
            rw [← e] at b1 b2
            have b3 : (gd l up).up < up := by omega
            rw [climb_go (by omega) hs b3]
            obtain ⟨c1, c2⟩ := ihm (gd l up).up (by omega) b1 (by omega)
            omega
          · rw [climb_stop (by omega)]; omega
    obtain ⟨c1, c2⟩ := hcl (j - 1 + 1) ((j : Int) - 1) (by omega) (by omega) (by omega)
    unfold okAt at hok
    simp only [Bool.and_eq_true, decide_eq_true_eq] at hok
    obtain ⟨⟨⟨_, h1⟩, h2⟩, h3⟩ := hok
    refine ⟨by omega, by omega, by omega, by omega, ?_⟩
    split at h3
    · have := of_decide_eq_true h3; omega
    · rename_i hup
      simp only [Bool.and_eq_true, decide_eq_true_eq] at h3
      have e : gd l (climb l j (j - 1)) = gd l ((climb l j (j - 1)).toNat : Int) := by rw [Int.toNat_of_nonneg (by omega)]
      obtain ⟨_, _, _, _, b5, b6⟩ := ih (climb l j (j - 1)).toNat (by omega) (by omega)
      rw [← e] at b5 b6
      omega
theorem good_bd' {l : List Nd} {i : Nat} (hg : Good l i) {j : Int} (h0 : 0 ≤ j) (hj : j < i) : -1 ≤ (gd l j).up ∧ (gd l j).up < j ∧ 0 ≤ (gd l j).sz ∧ (gd l j).sz ≤ l.length - 1 - j ∧ 0 ≤ (gd l j).lv ∧ (gd l j).lv ≤ j := by
  have := good_bd hg j.toNat (by omega)
  rw [Int.toNat_of_nonneg h0] at this
  exact this
theorem climb_bd {l : List Nd} {i : Nat} (hg : Good l i) {k : Int} : ∀ (m : Nat) (up : Int), (up + 1).toNat ≤ m → -1 ≤ up → up < i → -1 ≤ climb l k up ∧ climb l k up ≤ up ∧ (0 ≤ climb l k up → k ≤ climb l k up + (gd l (climb l k up)).sz) := by
  intro m
  induction m with
  | zero => intro up h1 h2 h3; rw [climb_neg (by omega)]; omega
  | succ m ihm =>
    intro up h1 h2 h3
    by_cases hn : up < 0
    · rw [climb_neg hn]; omega
    · by_cases hs : up + (gd l up).sz < k
      · obtain ⟨b1, b2, _⟩ := good_bd' hg (j := up) (by omega) h3
        rw [climb_go (by omega) hs b2]
        obtain ⟨c1, c2, c3⟩ := ihm (gd l up).up (by omega) b1 (by omega)
        exact ⟨c1, by omega, c3⟩
      · rw [climb_stop (by omega)]; omega
def anc (l : List Nd) (up : Int) : List Int :=
  if h : 0 ≤ up then up :: (if h2 : (gd l up).up < up then anc l (gd l up).up else []) else []
termination_by (up + 1).toNat
decreasing_by omega
theorem anc_neg {l : List Nd} {up : Int} (h : up < 0) : anc l up = [] := by rw [anc, dif_neg (by omega)]
theorem anc_pos {l : List Nd} {up : Int} (h : 0 ≤ up) (h2 : (gd l up).up < up) : anc l up = up :: anc l (gd l up).up := by rw [anc, dif_pos h, dif_pos h2]
theorem anc_len {l : List Nd} {i : Nat} (hg : Good l i) : ∀ (m : Nat) (up : Int), (up + 1).toNat ≤ m → up < i → (anc l up).length ≤ m := by
  intro m
  induction m with
  | zero => intro up h1 h2; rw [anc_neg (by omega)]; simp
  | succ m ih =>
    intro up h1 h2
    by_cases hn : up < 0
    · rw [anc_neg hn]; simp
    · obtain ⟨b1, b2, _⟩ := good_bd' hg (j := up) (by omega) h2
      rw [anc_pos (by omega) b2]
      have := ih (gd l up).up (by omega) (by omega)
      simp only [List.length_cons]
      omega
theorem top_get {l : List Nd} {up x : Int} {k : Nat} (h0 : 0 ≤ up) (h : (anc l up).reverse[((k : Int) - 1).toNat]? = some x) (hk : k = (anc l up).length) : x = up := by
  have hne : ∃ r, anc l up = up :: r := by rw [anc, dif_pos h0]; exact ⟨_, rfl⟩
  obtain ⟨r, hr⟩ := hne
  rw [hr] at h hk
  simp only [List.length_cons] at hk
  subst hk
  have : (((r.length + 1 : Nat) : Int) - 1).toNat = r.length := by omega
  rw [this, List.reverse_cons, List.getElem?_append_right (by simp)] at h
  simpa using h.symm
theorem anc_some {l : List Nd} {up : Int} (h0 : 0 ≤ up) : 0 < (((anc l up).reverse.length : Nat) : Int) ∧ (anc l up).reverse[((((anc l up).reverse.length : Nat) : Int) - 1).toNat]? = some up := by
  obtain ⟨r, hr⟩ : ∃ r, anc l up = up :: r := by rw [anc, dif_pos h0]; exact ⟨_, rfl⟩
  rw [hr]
  simp only [List.reverse_cons, List.length_append, List.length_reverse, List.length_cons, List.length_nil]
  have : (((r.length + (0 + 1) : Nat) : Int) - 1).toNat = r.length := by omega
  rw [this]
  refine ⟨by omega, ?_⟩
  rw [List.getElem?_append_right (by simp)]
  simp
theorem anc_nil {l : List Nd} {up : Int} (h : (anc l up).length = 0) : up < 0 := by
  by_cases h0 : 0 ≤ up
  · rw [anc, dif_pos h0] at h
    simp at h
  · omega
theorem anc_take {l : List Nd} {up : Int} (h0 : 0 ≤ up) (h2 : (gd l up).up < up) : (anc l up).reverse.take ((((anc l up).length : Nat) : Int) - 1).toNat = (anc l (gd l up).up).reverse := by
  rw [anc_pos h0 h2]
  simp only [List.length_cons, List.reverse_cons]
  rw [List.take_left' (by simp)]
theorem anc_push {l : List Nd} {i : Nat} (h2 : (gd l i).up < i) : (anc l i).reverse = (anc l (gd l i).up).reverse ++ [(i : Int)] := by
  rw [anc_pos (by omega) h2, List.reverse_cons]
def soundB (l : List Nd) (i : Nat) (n p : Nd) : Bool :=
  decide (0 ≤ n.sz ∧ n.sz ≤ l.length - 1 - i ∧ 1 ≤ n.k ∧ n.k ≠ 5 ∧ n.k ≤ 6) &&
  (decide (n.k = 1 ∨ n.k = 2) == decide (nameFault n.nm = 0)) && (decide (n.k = 1 ∨ n.k = 2) || decide (n.nm = [])) && decide (textFault n.vl = 0) &&
  (if n.k = 1 ∨ n.k = 6 then decide (n.vl = []) else decide (n.sz ≤ 0)) &&
  (if n.up = -1 then decide (n.lv = 0) else decide (n.k ≠ 6 ∧ 0 ≤ n.up ∧ n.up < i ∧ n.lv = p.lv + 1 ∧ i + n.sz ≤ n.up + p.sz ∧ (p.k = 1 ∨ p.k = 6 ∧ n.k ≠ 2)))
theorem okAt_eq {l : List Nd} {i : Nat} (hg : Good l i) : okAt l i = (soundB l i (gd l i) (gd l (gd l i).up) && (decide ((gd l i).up = climb l i (i - 1)) &&
    !(decide ((gd l i).k = 2) && decide (0 ≤ climb l i (i - 1)) && decide ((gd l (i - 1)).k ≠ 2) && decide ((i : Int) - 1 ≠ climb l i (i - 1))))) := by
  have hc := climb_bd hg (k := i) (i + 1) ((i : Int) - 1) (by omega) (by omega) (by omega)
  have hn : nameFault [] = 1 := by decide
  have ht : textFault [] = 0 := by decide
  unfold okAt
  dsimp only
  generalize gd l i = n at *
  generalize climb l i (i - 1) = up at *
  by_cases h : n.up = up
  · subst h
    generalize gd l n.up = p at *
    generalize gd l (i - 1) = q at *
    obtain ⟨k, nm, vl, sz, lv, up⟩ := n
    simp only [] at hc ⊢
    by_cases e1 : nm = [] <;> by_cases e2 : vl = [] <;> by_cases e3 : up < 0
    all_goals simp only [nodeMay, soundB]
    all_goals grind
  · simp [h]
end Go.Proofs.YtpgdflhcmijaiaaDoor
namespace Go.Proofs.YtpgdflhcmijaiaaDoor
open Go Go.Proofs.YtpgdflhcmijaiaaDoor.Ab
variable [Glo]
def en (l : List Nd) (i : Nat) : Nat := i + (gd l i).sz.toNat
theorem en_ge (l : List Nd) (i : Nat) : i ≤ en l i := Nat.le_add_right _ _
theorem gd_nat (l : List Nd) {j : Int} (h : 0 ≤ j) : gd l j = gd l (j.toNat : Int) := by rw [Int.toNat_of_nonneg h]
section
variable {l : List Nd} (hg : Good l l.length)
include hg
theorem en_lt {i : Nat} (hi : i < l.length) : en l i < l.length := by
  have := good_bd hg i hi
  unfold en
  omega
theorem en_int {i : Nat} (hi : i < l.length) : (en l i : Int) = i + (gd l i).sz := by
  have := good_bd hg i hi
  unfold en
  omega
theorem up_climb {i : Nat} (hi : i < l.length) : (gd l i).up = climb l i (i - 1) := by
  have hok := hg i hi
  unfold okAt at hok
  simp only [Bool.and_eq_true, decide_eq_true_eq] at hok
  exact hok.1.2
theorem up_en {i : Nat} (hi : i < l.length) (h0 : 0 ≤ (gd l i).up) : en l i ≤ en l (gd l i).up.toNat := by
  have b := good_bd hg i hi
  have hok := hg i hi
  unfold okAt at hok
  simp only [Bool.and_eq_true, decide_eq_true_eq] at hok
  obtain ⟨⟨⟨_, h1⟩, h2⟩, h3⟩ := hok
  rw [← h2] at h3
  rw [if_neg (by omega)] at h3
  simp only [Bool.and_eq_true, decide_eq_true_eq] at h3
  have h4 := h3.1.2.1
  have hu : (gd l i).up.toNat < l.length := by omega
  have e1 := en_int hg hi
  have e2 := en_int hg hu
  rw [Int.toNat_of_nonneg h0] at e2
  omega
theorem between {i : Nat} (hi : i < l.length) : ∀ j : Nat, (gd l i).up < j → j < i → en l j < i := by
  induction i using Nat.strongRecOn with
  | _ i ih =>
    have go : ∀ (m : Nat) (c : Int), (c + 1).toNat ≤ m → -1 ≤ c → c < i → (∀ j : Nat, c < j → j < i → en l j < i) → ∀ j : Nat, climb l i c < j → j < i → en l j < i := by
      intro m
      induction m with
      | zero => intro c h1 h2 h3 h4; rw [climb_neg (by omega)]; exact h4
      | succ m ihm =>
        intro c h1 h2 h3 h4
        by_cases hn : c < 0
        · rw [climb_neg hn]; exact h4
        · obtain ⟨d, rfl⟩ : ∃ d : Nat, c = d := ⟨c.toNat, by omega⟩
          have hd : d < l.length := by omega
          have b := good_bd hg d hd
          by_cases hs : (d : Int) + (gd l d).sz < i
          · rw [climb_go (by omega) hs b.2.1]
            refine ihm _ (by omega) b.1 (by omega) fun j j1 j2 => ?_
            rcases Nat.lt_trichotomy j d with hj | hj | hj
            · have := ih d (by omega) hd j j1 hj
              omega
            · subst hj
              have := en_int hg hd
              omega
            · exact h4 j (by omega) j2
          · rw [climb_stop (by omega)]; exact h4
    rw [up_climb hg hi]
    exact go i ((i : Int) - 1) (by omega) (by omega) (by omega) fun j h1 h2 => by omega
theorem in_up {i j : Nat} (hi : i < l.length) (h1 : j < i) (h2 : i ≤ en l j) : (j : Int) ≤ (gd l i).up := by
  rcases Int.lt_or_le (gd l i).up j with h | h
  · have := between hg hi j h h1
    omega
  · exact h
theorem lam {i j : Nat} (hi : i < l.length) (h1 : j < i) (h2 : i ≤ en l j) : en l i ≤ en l j := by
  induction i using Nat.strongRecOn with
  | _ i ih =>
    have b := good_bd hg i hi
    have hu := in_up hg hi h1 h2
    have h3 := up_en hg hi (by omega)
    by_cases e : (gd l i).up.toNat = j
    · rw [e] at h3; exact h3
    · have := ih (gd l i).up.toNat (by omega) (by omega) (by omega) (by omega)
      omega
theorem up_in {i : Nat} (hi : i < l.length) (h0 : 0 ≤ (gd l i).up) : i ≤ en l (gd l i).up.toNat := Nat.le_trans (en_ge l i) (up_en hg hi h0)
theorem up_is {i u : Nat} (hi : i < l.length) (h1 : u < i) (h2 : i ≤ en l u) (h3 : ∀ j, u < j → j < i → en l j < i) : (gd l i).up = u := by
  have h4 := in_up hg hi h1 h2
  have b := good_bd hg i hi
  rcases Int.lt_or_eq_of_le h4 with h | h
  · have := h3 (gd l i).up.toNat (by omega) (by omega)
    have := up_in hg hi (by omega)
    omega
  · exact h.symm
theorem first_child {n : Nat} (hn : n < l.length) (h : n + 1 ≤ en l n) : (gd l ((n + 1 : Nat) : Int)).up = n :=
  up_is hg (by have := en_lt hg hn; omega) (Nat.lt_succ_self n) h fun j h1 h2 => by omega
theorem next_child {n i : Nat} (hn : n < l.length) (hi : i < l.length) (h : (gd l i).up = n) (h2 : en l i + 1 ≤ en l n) : (gd l ((en l i + 1 : Nat) : Int)).up = n := by
  have b := good_bd hg i hi
  have hen := en_lt hg hn
  refine up_is hg (by omega) (by have := en_ge l i; omega) h2 fun j h3 h4 => ?_
  rcases Nat.lt_trichotomy j i with hj | hj | hj
  · have := between hg hi j (by omega) hj
    have := en_ge l i
    omega
  · subst hj; omega
  · have := lam hg (i := j) (j := i) (by omega) hj (by omega)
    omega
theorem no_child {n i j : Nat} (hi : i < l.length) (h : (gd l i).up = n) (h1 : i < j) (h2 : j ≤ en l i) : (gd l j).up ≠ n := fun e => by
  have b := good_bd hg i hi
  have hj : j < l.length := by have := en_lt hg hi; omega
  have := in_up hg hj h1 h2
  omega
theorem child_in {n i : Nat} (hi : i < l.length) (h : (gd l i).up = n) : n < i ∧ i ≤ en l n := by
  have b := good_bd hg i hi
  have := up_in hg hi (by omega)
  rw [h] at this
  exact ⟨by omega, by simpa using this⟩
def rootN (l : List Nd) (fuel : Nat) (n : Nat) : Nat := match fuel with
  | 0 => n
  | f + 1 => if 0 ≤ (gd l n).up then rootN l f (gd l n).up.toNat else n
omit hg in
theorem rootN_0 {n : Nat} (f : Nat) (h : (gd l n).up < 0) : rootN l f n = n := by
  cases f with
  | zero => rfl
  | succ f => rw [rootN, if_neg (by omega)]
omit hg in
theorem rootN_s {n : Nat} (f : Nat) (h : 0 ≤ (gd l n).up) : rootN l (f + 1) n = rootN l f (gd l n).up.toNat := by rw [rootN, if_pos h]
theorem rootN_fuel : ∀ (n : Nat), n < l.length → ∀ f f', n ≤ f → n ≤ f' → rootN l f n = rootN l f' n := by
  intro n
  induction n using Nat.strongRecOn with
  | _ n ih =>
    intro hn f f' h1 h2
    have b := good_bd hg n hn
    by_cases h0 : 0 ≤ (gd l n).up
    · obtain ⟨g, rfl⟩ : ∃ g, f = g + 1 := ⟨f - 1, by omega⟩
      obtain ⟨g', rfl⟩ : ∃ g', f' = g' + 1 := ⟨f' - 1, by omega⟩
      rw [rootN_s _ h0, rootN_s _ h0]
      exact ih _ (by omega) (by omega) _ _ (by omega) (by omega)
    · rw [rootN_0 _ (by omega), rootN_0 _ (by omega)]
omit hg in
def rt (l : List Nd) (n : Nat) : Nat := rootN l n n
theorem rt_up {n : Nat} (hn : n < l.length) (h0 : 0 ≤ (gd l n).up) : rt l n = rt l (gd l n).up.toNat := by
  have b := good_bd hg n hn
  obtain ⟨g, hgn⟩ : ∃ g, n = g + 1 := ⟨n - 1, by omega⟩
  unfold rt
  rw [show rootN l n n = rootN l (g + 1) n by rw [hgn], rootN_s _ h0]
  exact rootN_fuel hg _ (by omega) _ _ (by omega) (by omega)
omit hg in
theorem rt_top {n : Nat} (h : (gd l n).up < 0) : rt l n = n := rootN_0 _ h
theorem rt_spec {n : Nat} (hn : n < l.length) : rt l n ≤ n ∧ n ≤ en l (rt l n) ∧ (gd l (rt l n : Int)).up < 0 := by
  induction n using Nat.strongRecOn with
  | _ n ih =>
    have b := good_bd hg n hn
    by_cases h0 : 0 ≤ (gd l n).up
    · rw [rt_up hg hn h0]
      obtain ⟨h1, h2, h3⟩ := ih (gd l n).up.toNat (by omega) (by omega)
      refine ⟨by omega, ?_, h3⟩
      have h4 := up_in hg hn h0
      by_cases e : rt l (gd l n).up.toNat = (gd l n).up.toNat
      · rw [e]; exact h4
      · have := lam hg (i := (gd l n).up.toNat) (j := rt l (gd l n).up.toNat) (by omega) (by omega) h2
        omega
    · rw [rt_top (by omega)]
      exact ⟨Nat.le_refl _, en_ge l n, by omega⟩
theorem top_out {r j : Nat} (hr : r < l.length) (h : (gd l r).up < 0) (h1 : j < r) : en l j < r := between hg hr j (by omega) h1
theorem rt_in {r n : Nat} (hr : r < l.length) (hn : n < l.length) (h : (gd l r).up < 0) (h1 : r ≤ n) (h2 : n ≤ en l r) : rt l n = r := by
  obtain ⟨a, b, c⟩ := rt_spec hg hn
  have hr2 : rt l n < l.length := by omega
  rcases Nat.lt_trichotomy (rt l n) r with h3 | h3 | h3
  · have := top_out hg hr h h3
    omega
  · exact h3
  · have := top_out hg hr2 c h3
    omega
theorem rt_end {n : Nat} (hn : n < l.length) : en l n ≤ en l (rt l n) := by
  obtain ⟨a, b, c⟩ := rt_spec hg hn
  by_cases e : rt l n = n
  · rw [e]; exact Nat.le_refl _
  · exact lam hg hn (by omega) b
theorem rt_mono {a b : Nat} (hb : b < l.length) (h : a ≤ b) : rt l a ≤ rt l b := by
  obtain ⟨a1, a2, a3⟩ := rt_spec hg (n := a) (by omega)
  obtain ⟨b1, b2, b3⟩ := rt_spec hg hb
  rcases Nat.lt_or_ge (rt l b) (rt l a) with h1 | h1
  · have := top_out hg (r := rt l a) (by omega) a3 h1
    omega
  · exact h1
end
def colF (Q : Nat → Bool) (m : Nat) : List Nat := (List.range m).filter Q
theorem colF_succ (Q : Nat → Bool) (m : Nat) : colF Q (m + 1) = colF Q m ++ if Q m = true then [m] else [] := by
  rw [colF, List.range_succ, List.filter_append, colF]
  congr 1
  by_cases h : Q m = true
  · simp [h]
  · simp [h]
theorem colF_hit {Q : Nat → Bool} {m : Nat} (h : Q m = true) : colF Q (m + 1) = colF Q m ++ [m] := by rw [colF_succ, if_pos h]
theorem colF_miss {Q : Nat → Bool} {m : Nat} (h : Q m = false) : colF Q (m + 1) = colF Q m := by rw [colF_succ, if_neg (by simp [h]), List.append_nil]
theorem colF_skip {Q : Nat → Bool} {m m' : Nat} (h : m ≤ m') (hq : ∀ j, m ≤ j → j < m' → Q j = false) : colF Q m' = colF Q m := by
  obtain ⟨d, rfl⟩ : ∃ d, m' = m + d := ⟨m' - m, by omega⟩
  induction d with
  | zero => rfl
  | succ d ih =>
    rw [show m + (d + 1) = (m + d) + 1 by omega, colF_miss (hq _ (by omega) (by omega))]
    exact ih (by omega) fun j h1 h2 => hq j h1 (by omega)
theorem colF_len (Q : Nat → Bool) (m : Nat) : (colF Q m).length ≤ m := by
  have := List.length_filter_le Q (List.range m)
  rw [List.length_range] at this
  exact this
def Rise (L : List Nat) : Prop := L.Pairwise (· < ·)
theorem Rise.lt {L : List Nat} (h : Rise L) {i j a b : Nat} (ha : L[i]? = some a) (hb : L[j]? = some b) (hij : i < j) : a < b := by
  obtain ⟨h1, rfl⟩ := List.getElem?_eq_some_iff.1 ha
  obtain ⟨h2, rfl⟩ := List.getElem?_eq_some_iff.1 hb
  exact List.pairwise_iff_getElem.1 h i j h1 h2 hij
def past (L : List Nat) (k : Nat) : Nat := match k with
  | 0 => 0
  | k + 1 => (L[k]?).getD 0 + 1
theorem past_step {L : List Nat} (hr : Rise L) {k x : Nat} (hx : L[k]? = some x) : past L k ≤ x ∧ past L (k + 1) = x + 1 ∧ ∀ j, past L k ≤ j → j < x → j ∉ L := by
  refine ⟨?_, by simp [past, hx], fun j h1 h2 hm => ?_⟩
  · cases k with
    | zero => exact Nat.zero_le _
    | succ k =>
      have hk : k < L.length := by have := (List.getElem?_eq_some_iff.1 hx).1; omega
      have := hr.lt (List.getElem?_eq_getElem hk) hx (Nat.lt_succ_self k)
      simp only [past, List.getElem?_eq_getElem hk, Option.getD_some]
      omega
  · obtain ⟨i, hi⟩ := List.getElem?_of_mem hm
    have h3 : i < k := Classical.byContradiction fun h => by
      by_cases e : i = k
      · subst e; rw [hx] at hi; cases hi; omega
      · have := hr.lt hx hi (by omega); omega
    obtain ⟨k', rfl⟩ : ∃ k', k = k' + 1 := ⟨k - 1, by omega⟩
    have hk : k' < L.length := by have := (List.getElem?_eq_some_iff.1 hx).1; omega
    simp only [past, List.getElem?_eq_getElem hk, Option.getD_some] at h1
    by_cases e : i = k'
    · subst e
      rw [List.getElem?_eq_getElem hk] at hi
      cases hi
      omega
    · have := hr.lt hi (List.getElem?_eq_getElem hk) (by omega)
      omega
theorem past_end {L : List Nat} (hr : Rise L) {n : Nat} (hL : ∀ x, x ∈ L → x < n) : past L L.length ≤ n ∧ ∀ j, past L L.length ≤ j → j ∉ L := by
  refine ⟨?_, fun j h1 hm => ?_⟩
  · cases hk : L.length with
    | zero => exact Nat.zero_le _
    | succ k =>
      have hk' : k < L.length := by omega
      simp only [past, List.getElem?_eq_getElem hk', Option.getD_some]
      exact hL _ (List.getElem_mem hk')
  · obtain ⟨i, hi⟩ := List.getElem?_of_mem hm
    have hil := (List.getElem?_eq_some_iff.1 hi).1
    obtain ⟨k, hk⟩ : ∃ k, L.length = k + 1 := ⟨L.length - 1, by omega⟩
    have hk' : k < L.length := by omega
    rw [hk] at h1
    simp only [past, List.getElem?_eq_getElem hk', Option.getD_some] at h1
    by_cases e : i = k
    · subst e
      rw [List.getElem?_eq_getElem hk'] at hi
      cases hi
      omega
    · have := hr.lt hi (List.getElem?_eq_getElem hk') (by omega)
      omega
end Go.Proofs.YtpgdflhcmijaiaaDoor
namespace Go.Proofs
open Go.Shelf
def Tryd.lays189_ren : Go.Shelf.Ren := ⟨fun | 189 => 44 | 125 => 75 | 257 => 74 | 128 => 103 | 129 => 104 | 294 => 94 | 295 => 95 | 296 => 96 | 297 => 97 | 298 => 98 | 299 => 99 | 216 => 100 | 300 => 101 | 301 => 102 | 328 => 115 | 329 => 116 | 330 => 117 | 331 => 118 | 332 => 119 | 215 => 110 | 343 => 125 | n => n, fun | 28 => 35 | 3 => 3 | 46 => 106 | 0 => 0 | 51 => 132 | 53 => 134 | 4 => 4 | 183 => 124 | 182 => 123 | 131 => 129 | 5 => 5 | 9 => 9 | 218 => 141 | 222 => 145 | 228 => 153 | 229 => 154 | n => n, fun | n => n⟩
theorem Tryd.lays189 : Go.Proofs.Lays.n189 Tryd.prog Tryd.lays189_ren := {
  mixed := by kernel_rfl
  f125 := Tryd.func75.trans (congrArg some (by kernel_rfl))
  f128 := Tryd.func103.trans (congrArg some (by kernel_rfl))
  f129 := Tryd.func104.trans (congrArg some (by kernel_rfl))
  f189 := Tryd.func44.trans (congrArg some (by kernel_rfl))
  f215 := Tryd.func110.trans (congrArg some (by kernel_rfl))
  f216 := Tryd.func100.trans (congrArg some (by kernel_rfl))
  f257 := Tryd.func74.trans (congrArg some (by kernel_rfl))
  f294 := Tryd.func94.trans (congrArg some (by kernel_rfl))
  f295 := Tryd.func95.trans (congrArg some (by kernel_rfl))
  f296 := Tryd.func96.trans (congrArg some (by kernel_rfl))
  f297 := Tryd.func97.trans (congrArg some (by kernel_rfl))
  f298 := Tryd.func98.trans (congrArg some (by kernel_rfl))
  f299 := Tryd.func99.trans (congrArg some (by kernel_rfl))
  f300 := Tryd.func101.trans (congrArg some (by kernel_rfl))
  f301 := Tryd.func102.trans (congrArg some (by kernel_rfl))
  f328 := Tryd.func115.trans (congrArg some (by kernel_rfl))
  f329 := Tryd.func116.trans (congrArg some (by kernel_rfl))
  f330 := Tryd.func117.trans (congrArg some (by kernel_rfl))
  f331 := Tryd.func118.trans (congrArg some (by kernel_rfl))
  f332 := Tryd.func119.trans (congrArg some (by kernel_rfl))
  f343 := Tryd.func125.trans (congrArg some (by kernel_rfl))
  t0 := Tryd.underlying0
  a0 := Tryd.isAgg0
  z0 := Tryd.sizeOf0
  v0 := Tryd.zeroValue0
  t3 := Tryd.underlying3
  a3 := Tryd.isAgg3
  z3 := Tryd.sizeOf3
  v3 := Tryd.zeroValue3
  t4 := Tryd.underlying4
  a4 := Tryd.isAgg4
  z4 := Tryd.sizeOf4
  v4 := Tryd.zeroValue4
  t5 := Tryd.underlying5
  a5 := Tryd.isAgg5
  z5 := Tryd.sizeOf5
  v5 := Tryd.zeroValue5
  t9 := Tryd.underlying9
  a9 := Tryd.isAgg9
  z9 := Tryd.sizeOf9
  v9 := Tryd.zeroValue9
  t28 := Tryd.underlying35
  a28 := Tryd.isAgg35
  z28 := Tryd.sizeOf35
  v28 := Tryd.zeroValue35
  t46 := Tryd.underlying106
  a46 := Tryd.isAgg106
  z46 := Tryd.sizeOf106
  v46 := Tryd.zeroValue106
  t51 := Tryd.underlying132
  a51 := Tryd.isAgg132
  z51 := Tryd.sizeOf132
  v51 := Tryd.zeroValue132
  t53 := Tryd.underlying134
  a53 := Tryd.isAgg134
  z53 := Tryd.sizeOf134
  v53 := Tryd.zeroValue134
  t131 := Tryd.underlying129
  a131 := Tryd.isAgg129
  z131 := Tryd.sizeOf129
  v131 := Tryd.zeroValue129
  t182 := Tryd.underlying123
  a182 := Tryd.isAgg123
  z182 := Tryd.sizeOf123
  v182 := Tryd.zeroValue123
  t183 := Tryd.underlying124
  a183 := Tryd.isAgg124
  z183 := Tryd.sizeOf124
  v183 := Tryd.zeroValue124
  t218 := Tryd.underlying141
  a218 := Tryd.isAgg141
  z218 := Tryd.sizeOf141
  v218 := Tryd.zeroValue141
  t222 := Tryd.underlying145
  a222 := Tryd.isAgg145
  z222 := Tryd.sizeOf145
  v222 := Tryd.zeroValue145
  t228 := Tryd.underlying153
  a228 := Tryd.isAgg153
  z228 := Tryd.sizeOf153
  v228 := Tryd.zeroValue153
  t229 := Tryd.underlying154
  a229 := Tryd.isAgg154
  z229 := Tryd.sizeOf154
  v229 := Tryd.zeroValue154 }
def Tryd.lays2_20_ren : Go.Shelf.Ren := ⟨fun | 20 => 45 | n => n, fun | 22 => 35 | 3 => 3 | 4 => 4 | 0 => 0 | n => n, fun | n => n⟩
theorem Tryd.lays2_20 : Go.Proofs.Lays2.n20 Tryd.prog Tryd.lays2_20_ren := {
  mixed := by kernel_rfl
  f20 := Tryd.func45.trans (congrArg some (by kernel_rfl))
  t0 := Tryd.underlying0
  a0 := Tryd.isAgg0
  z0 := Tryd.sizeOf0
  v0 := Tryd.zeroValue0
  t3 := Tryd.underlying3
  a3 := Tryd.isAgg3
  z3 := Tryd.sizeOf3
  v3 := Tryd.zeroValue3
  t4 := Tryd.underlying4
  a4 := Tryd.isAgg4
  z4 := Tryd.sizeOf4
  v4 := Tryd.zeroValue4
  t22 := Tryd.underlying35
  a22 := Tryd.isAgg35
  z22 := Tryd.sizeOf35
  v22 := Tryd.zeroValue35
  i3 := by kernel_rfl }
end Go.Proofs
