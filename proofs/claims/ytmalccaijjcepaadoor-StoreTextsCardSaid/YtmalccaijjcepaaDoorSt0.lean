/- Nodes that may be a store: what it is, in plain words. No condition. -/
import Derived.Test.YtmalccaijjcepaaDoorXml1
import Derived.Test.YtmalccaijjcepaaDoorXml2
import Derived.Test.YtmalccaijjcepaaDoorDat
set_option linter.all false
set_option linter.unusedSimpArgs false
set_option linter.unusedVariables false
namespace Go.Proofs.YtmalccaijjcepaaDoor
open Go Go.Proofs.YtmalccaijjcepaaDoor.Ab
variable [Glo]
def gd (l : List Nd) (j : Int) : Nd := (l[j.toNat]?).getD ⟨0, [], [], 0, 0, 0⟩
theorem gd_of_get {l : List Nd} {i : Nat} {x : Nd} (h : l[i]? = some x) : gd l i = x := by simp [gd, h]
theorem gd_of_get' {l : List Nd} {j : Int} {x : Nd} (h : l[j.toNat]? = some x) : gd l j = x := by simp [gd, h]

def nodeMay (n : Nd) : Bool :=
  if n.k = 1 then decide (nameFault n.nm = 0 ∧ n.vl = [])
  else if n.k = 2 then decide (nameFault n.nm = 0 ∧ textFault n.vl = 0 ∧ n.sz = 0)
  else if n.k = 3 ∨ n.k = 4 then decide (n.nm = [] ∧ textFault n.vl = 0 ∧ n.sz = 0)
  else if n.k = 6 then decide (n.nm = [] ∧ n.vl = [] ∧ n.up = -1)
  else false

/-- From a place up to the first that does not end ahead of i. -/
def climb (l : List Nd) (i : Int) (up : Int) : Int :=
  if h : 0 ≤ up ∧ up + (gd l up).sz < i ∧ (gd l up).up < up then climb l i (gd l up).up else up
termination_by (up + 1).toNat
decreasing_by omega

/-- The node at i may stand there. -/
def okAt (l : List Nd) (i : Nat) : Bool :=
  let n := gd l i
  let up := climb l i (i - 1)
  nodeMay n && decide (0 ≤ n.sz ∧ n.sz ≤ l.length - 1 - i) && decide (n.up = up) &&
    (if up < 0 then decide (n.lv = 0)
     else let p := gd l up
      decide (n.lv = p.lv + 1 ∧ i + n.sz ≤ up + p.sz ∧ (p.k = 1 ∨ p.k = 6)) && !(decide (n.k = 2) && (decide (p.k = 6) || (decide ((i : Int) - 1 ≠ up) && decide ((gd l (i - 1)).k ≠ 2)))))

def Good (l : List Nd) (i : Nat) : Prop := ∀ j, j < i → okAt l j = true
def nodesFault (l : List Nd) : Int := if l.length ≤ 100000 then (if (List.range l.length).all (okAt l) = true then 0 else 4) else 1
theorem nodesFault_good {l : List Nd} (h : Good l l.length) (hN : l.length ≤ 100000) : nodesFault l = 0 := by
  unfold nodesFault
  rw [if_pos hN, if_pos]
  rw [List.all_eq_true]
  intro j hj
  exact h j (by simpa using hj)
theorem nodesFault_bad {l : List Nd} {i : Nat} (hi : i < l.length) (h : okAt l i = false) (hN : l.length ≤ 100000) : nodesFault l = 4 := by
  unfold nodesFault
  rw [if_pos hN, if_neg]
  intro hall
  have := List.all_eq_true.1 hall i (by simpa using hi)
  rw [h] at this
  cases this
theorem good_of {l : List Nd} (h : nodesFault l = 0) : l.length ≤ 100000 ∧ Good l l.length := by
  unfold nodesFault at h
  split at h
  · rename_i hN
    split at h
    · rename_i hall
      exact ⟨hN, fun j hj => List.all_eq_true.1 hall j (by simpa using hj)⟩
    · omega
  · omega
theorem Good.mono {l : List Nd} {i j : Nat} (h : Good l i) (hj : j ≤ i) : Good l j := fun k hk => h k (by omega)
theorem Good.succ {l : List Nd} {i : Nat} (h : Good l i) (h1 : okAt l i = true) : Good l (i + 1) := fun k hk => by
  by_cases e : k = i
  · subst e; exact h1
  · exact h k (by omega)

theorem climb_go {l : List Nd} {i up : Int} (h0 : 0 ≤ up) (h1 : up + (gd l up).sz < i) (h2 : (gd l up).up < up) : climb l i up = climb l i (gd l up).up := by
  rw [climb, dif_pos ⟨h0, h1, h2⟩]
theorem climb_neg {l : List Nd} {i up : Int} (h : up < 0) : climb l i up = up := by
  rw [climb, dif_neg (by omega)]
theorem climb_stop {l : List Nd} {i up : Int} (h : i ≤ up + (gd l up).sz) : climb l i up = up := by
  rw [climb, dif_neg (by omega)]

/-- What is known of a node that may stand there. -/
theorem good_bd {l : List Nd} : ∀ {i : Nat}, Good l i → ∀ (j : Nat), j < i → -1 ≤ (gd l j).up ∧ (gd l j).up < j ∧ 0 ≤ (gd l j).sz ∧ (gd l j).sz ≤ l.length - 1 - j ∧ 0 ≤ (gd l j).lv ∧ (gd l j).lv ≤ j := by
  intro i hg j
  induction j using Nat.strongRecOn with
  | _ j ih =>
    intro hj
    have hok := hg j hj
    have hcl : ∀ (m : Nat) (up : Int), (up + 1).toNat ≤ m → -1 ≤ up → up < j → -1 ≤ climb l j up ∧ climb l j up ≤ up := by
      intro m
      induction m with
      | zero => intro up h1 h2 h3; rw [climb_neg (by omega)]; omega
      | succ m ihm =>
        intro up h1 h2 h3
        by_cases hn : up < 0
        · rw [climb_neg hn]; omega
        · by_cases hs : up + (gd l up).sz < j
          · have e : gd l up = gd l (up.toNat : Int) := by rw [Int.toNat_of_nonneg (by omega)]
            obtain ⟨b1, b2, _⟩ := ih up.toNat (by omega) (by omega)
            rw [← e] at b1 b2
            have b3 : (gd l up).up < up := by omega
            rw [climb_go (by omega) hs b3]
            obtain ⟨c1, c2⟩ := ihm (gd l up).up (by omega) b1 (by omega)
            omega
          · rw [climb_stop (by omega)]; omega
    obtain ⟨c1, c2⟩ := hcl (j - 1 + 1) ((j : Int) - 1) (by omega) (by omega) (by omega)
    unfold okAt at hok
    simp only [Bool.and_eq_true, decide_eq_true_eq] at hok
    obtain ⟨⟨⟨_, h1⟩, h2⟩, h3⟩ := hok
    refine ⟨by omega, by omega, by omega, by omega, ?_⟩
    split at h3
    · have := of_decide_eq_true h3; omega
    · rename_i hup
      simp only [Bool.and_eq_true, decide_eq_true_eq] at h3
      have e : gd l (climb l j (j - 1)) = gd l ((climb l j (j - 1)).toNat : Int) := by rw [Int.toNat_of_nonneg (by omega)]
      obtain ⟨_, _, _, _, b5, b6⟩ := ih (climb l j (j - 1)).toNat (by omega) (by omega)
      rw [← e] at b5 b6
      omega
theorem good_bd' {l : List Nd} {i : Nat} (hg : Good l i) {j : Int} (h0 : 0 ≤ j) (hj : j < i) : -1 ≤ (gd l j).up ∧ (gd l j).up < j ∧ 0 ≤ (gd l j).sz ∧ (gd l j).sz ≤ l.length - 1 - j ∧ 0 ≤ (gd l j).lv ∧ (gd l j).lv ≤ j := by
  have := good_bd hg j.toNat (by omega)
  rw [Int.toNat_of_nonneg h0] at this
  exact this
theorem climb_bd {l : List Nd} {i : Nat} (hg : Good l i) {k : Int} : ∀ (m : Nat) (up : Int), (up + 1).toNat ≤ m → -1 ≤ up → up < i → -1 ≤ climb l k up ∧ climb l k up ≤ up ∧ (0 ≤ climb l k up → k ≤ climb l k up + (gd l (climb l k up)).sz) := by
  intro m
  induction m with
  | zero => intro up h1 h2 h3; rw [climb_neg (by omega)]; omega
  | succ m ihm =>
    intro up h1 h2 h3
    by_cases hn : up < 0
    · rw [climb_neg hn]; omega
    · by_cases hs : up + (gd l up).sz < k
      · obtain ⟨b1, b2, _⟩ := good_bd' hg (j := up) (by omega) h3
        rw [climb_go (by omega) hs b2]
        obtain ⟨c1, c2, c3⟩ := ihm (gd l up).up (by omega) b1 (by omega)
        exact ⟨c1, by omega, c3⟩
      · rw [climb_stop (by omega)]; omega

/-- A place and those above it, the lowest first. -/
def anc (l : List Nd) (up : Int) : List Int :=
  if h : 0 ≤ up then up :: (if h2 : (gd l up).up < up then anc l (gd l up).up else []) else []
termination_by (up + 1).toNat
decreasing_by omega
theorem anc_neg {l : List Nd} {up : Int} (h : up < 0) : anc l up = [] := by rw [anc, dif_neg (by omega)]
theorem anc_pos {l : List Nd} {up : Int} (h : 0 ≤ up) (h2 : (gd l up).up < up) : anc l up = up :: anc l (gd l up).up := by rw [anc, dif_pos h, dif_pos h2]
theorem anc_len {l : List Nd} {i : Nat} (hg : Good l i) : ∀ (m : Nat) (up : Int), (up + 1).toNat ≤ m → up < i → (anc l up).length ≤ m := by
  intro m
  induction m with
  | zero => intro up h1 h2; rw [anc_neg (by omega)]; simp
  | succ m ih =>
    intro up h1 h2
    by_cases hn : up < 0
    · rw [anc_neg hn]; simp
    · obtain ⟨b1, b2, _⟩ := good_bd' hg (j := up) (by omega) h2
      rw [anc_pos (by omega) b2]
      have := ih (gd l up).up (by omega) (by omega)
      simp only [List.length_cons]
      omega
/-- The last place of the chain, as it stands at the end of a stack. -/
theorem top_get {l : List Nd} {up x : Int} {k : Nat} (h0 : 0 ≤ up) (h : (anc l up).reverse[((k : Int) - 1).toNat]? = some x) (hk : k = (anc l up).length) : x = up := by
  have hne : ∃ r, anc l up = up :: r := by rw [anc, dif_pos h0]; exact ⟨_, rfl⟩
  obtain ⟨r, hr⟩ := hne
  rw [hr] at h hk
  simp only [List.length_cons] at hk
  subst hk
  have : (((r.length + 1 : Nat) : Int) - 1).toNat = r.length := by omega
  rw [this, List.reverse_cons, List.getElem?_append_right (by simp)] at h
  simpa using h.symm
theorem anc_some {l : List Nd} {up : Int} (h0 : 0 ≤ up) : 0 < (((anc l up).reverse.length : Nat) : Int) ∧ (anc l up).reverse[((((anc l up).reverse.length : Nat) : Int) - 1).toNat]? = some up := by
  obtain ⟨r, hr⟩ : ∃ r, anc l up = up :: r := by rw [anc, dif_pos h0]; exact ⟨_, rfl⟩
  rw [hr]
  simp only [List.reverse_cons, List.length_append, List.length_reverse, List.length_cons, List.length_nil]
  have : (((r.length + (0 + 1) : Nat) : Int) - 1).toNat = r.length := by omega
  rw [this]
  refine ⟨by omega, ?_⟩
  rw [List.getElem?_append_right (by simp)]
  simp
theorem anc_nil {l : List Nd} {up : Int} (h : (anc l up).length = 0) : up < 0 := by
  by_cases h0 : 0 ≤ up
  · rw [anc, dif_pos h0] at h
    simp at h
  · omega
theorem anc_take {l : List Nd} {up : Int} (h0 : 0 ≤ up) (h2 : (gd l up).up < up) : (anc l up).reverse.take ((((anc l up).length : Nat) : Int) - 1).toNat = (anc l (gd l up).up).reverse := by
  rw [anc_pos h0 h2]
  simp only [List.length_cons, List.reverse_cons]
  rw [List.take_left' (by simp)]
theorem anc_push {l : List Nd} {i : Nat} (h2 : (gd l i).up < i) : (anc l i).reverse = (anc l (gd l i).up).reverse ++ [(i : Int)] := by
  rw [anc_pos (by omega) h2, List.reverse_cons]

def soundB (l : List Nd) (i : Nat) (n p : Nd) : Bool :=
  decide (0 ≤ n.sz ∧ n.sz ≤ l.length - 1 - i ∧ 1 ≤ n.k ∧ n.k ≠ 5 ∧ n.k ≤ 6) &&
  (decide (n.k = 1 ∨ n.k = 2) == decide (nameFault n.nm = 0)) && (decide (n.k = 1 ∨ n.k = 2) || decide (n.nm = [])) && decide (textFault n.vl = 0) &&
  (if n.k = 1 ∨ n.k = 6 then decide (n.vl = []) else decide (n.sz ≤ 0)) &&
  (if n.up = -1 then decide (n.lv = 0) else decide (n.k ≠ 6 ∧ 0 ≤ n.up ∧ n.up < i ∧ n.lv = p.lv + 1 ∧ i + n.sz ≤ n.up + p.sz ∧ (p.k = 1 ∨ p.k = 6 ∧ n.k ≠ 2)))
theorem okAt_eq {l : List Nd} {i : Nat} (hg : Good l i) : okAt l i = (soundB l i (gd l i) (gd l (gd l i).up) && (decide ((gd l i).up = climb l i (i - 1)) &&
    !(decide ((gd l i).k = 2) && decide (0 ≤ climb l i (i - 1)) && decide ((gd l (i - 1)).k ≠ 2) && decide ((i : Int) - 1 ≠ climb l i (i - 1))))) := by
  have hc := climb_bd hg (k := i) (i + 1) ((i : Int) - 1) (by omega) (by omega) (by omega)
  have hn : nameFault [] = 1 := by decide
  have ht : textFault [] = 0 := by decide
  unfold okAt
  dsimp only
  generalize gd l i = n at *
  generalize climb l i (i - 1) = up at *
  by_cases h : n.up = up
  · subst h
    generalize gd l n.up = p at *
    generalize gd l (i - 1) = q at *
    obtain ⟨k, nm, vl, sz, lv, up⟩ := n
    simp only [] at hc ⊢
    by_cases e1 : nm = [] <;> by_cases e2 : vl = [] <;> by_cases e3 : up < 0
    all_goals simp only [nodeMay, soundB]
    all_goals grind
  · simp [h]
end Go.Proofs.YtmalccaijjcepaaDoor
