/- Items and lists of items are ordered weakly. No condition. -/
import Derived.Test.YtpgdflhcmijaiaaDoorJ24
import Derived.Test.YtpgdflhcmijaiaaDoorJ23
import Derived.Test.YtpgdflhcmijaiaaDoorJ18
set_option linter.all false
set_option linter.unusedSimpArgs false
set_option linter.unusedVariables false
namespace Go.Proofs.YtpgdflhcmijaiaaDoor
open Go Go.Proofs.YtpgdflhcmijaiaaDoor.Ab
variable [Glo]
set_option maxHeartbeats 4000000
theorem cmpB_zero : ∀ {a b : List UInt8}, Lib.compareBytes a b = 0 → a = b
  | [], [], _ => rfl
  | [], _ :: _, h => by simp [Lib.compareBytes] at h
  | _ :: _, [], h => by simp [Lib.compareBytes] at h
  | x :: a, y :: b, h => by
    simp only [Lib.compareBytes] at h
    by_cases h1 : x < y
    · simp [h1] at h
    · by_cases h2 : y < x
      · simp [h1, h2] at h
      · simp only [h1, h2, if_false] at h
        rw [UInt8.le_antisymm (UInt8.not_lt.1 h2) (UInt8.not_lt.1 h1), cmpB_zero h]
theorem cmpB_trans : ∀ {a b c : List UInt8}, Lib.compareBytes a b < 0 → Lib.compareBytes b c < 0 → Lib.compareBytes a c < 0
  | [], [], c, h, _ => by simp [Lib.compareBytes] at h
  | [], _ :: _, [], _, k => by simp [Lib.compareBytes] at k
  | [], _ :: _, _ :: _, _, _ => by simp [Lib.compareBytes]
  | _ :: _, [], _, h, _ => by simp [Lib.compareBytes] at h
  | _ :: _, _ :: _, [], _, k => by simp [Lib.compareBytes] at k
  | x :: a, y :: b, z :: c, h, k => by
    simp only [Lib.compareBytes] at h k ⊢
    by_cases h1 : x < y
    · by_cases k1 : y < z
      · rw [if_pos (UInt8.lt_trans h1 k1)]; decide
      · by_cases k2 : z < y
        · simp [k1, k2] at k
        · have e : y = z := UInt8.le_antisymm (UInt8.not_lt.1 k2) (UInt8.not_lt.1 k1)
          rw [← e, if_pos h1]; decide
    · by_cases h2 : y < x
      · simp [h1, h2] at h
      · have e : x = y := UInt8.le_antisymm (UInt8.not_lt.1 h2) (UInt8.not_lt.1 h1)
        subst e
        simp only [h1, if_false] at h
        by_cases k1 : x < z
        · rw [if_pos k1]; decide
        · by_cases k2 : z < x
          · simp [k1, k2] at k
          · simp only [k1, k2, if_false] at k ⊢
            exact cmpB_trans h k
theorem cmpIt_zero {x y : It} (h : cmpIt x y = 0) : x = y := by
  obtain ⟨a, b, s⟩ := x
  obtain ⟨a', b', s'⟩ := y
  simp only [cmpIt, relCompare, cmpI] at h
  have e1 : a = a' := by grind
  subst e1
  have e2 : b = b' := by grind
  subst e2
  simp at h
  rw [cmpB_zero h]
theorem cmpIt_self (x : It) : cmpIt x x = 0 := by
  have h := compareBytes_swap x.s x.s
  simp only [cmpIt, relCompare, cmpI]
  simp
  omega
theorem cmpIt_swap (x y : It) : (cmpIt y x < 0) ↔ (0 < cmpIt x y) := by
  obtain ⟨h1, _⟩ := signs y.k y.n y.s x.k x.n x.s
  obtain ⟨_, h2⟩ := signs x.k x.n x.s y.k y.n y.s
  exact h1.trans h2.symm
theorem cmpIt_trans {x y z : It} (h : cmpIt x y < 0) (k : cmpIt y z < 0) : cmpIt x z < 0 := by
  obtain ⟨a, b, s⟩ := x
  obtain ⟨a', b', s'⟩ := y
  obtain ⟨a2, b2, s2⟩ := z
  have ht := cmpB_trans (a := s) (b := s') (c := s2)
  simp only [cmpIt, relCompare, cmpI] at h k ⊢
  grind
theorem ordI_lt {x y : It} {a b : List It} : ordI (x :: a) (y :: b) < 0 ↔ cmpIt x y < 0 ∨ (x = y ∧ ordI a b < 0) := by
  rw [ordI]
  by_cases hz : cmpIt x y = 0
  · rw [if_pos hz]
    constructor
    · exact fun h => .inr ⟨cmpIt_zero hz, h⟩
    · rintro (h | ⟨_, h⟩)
      · omega
      · exact h
  · rw [if_neg hz]
    constructor
    · exact .inl
    · rintro (h | ⟨rfl, _⟩)
      · exact h
      · exact absurd (cmpIt_self _) hz
theorem ordI_asym : ∀ {a b : List It}, ordI a b < 0 → ¬ ordI b a < 0
  | [], [], h => by simp [ordI] at h
  | [], _ :: _, _ => by simp [ordI]
  | _ :: _, [], h => by simp [ordI] at h
  | x :: a, y :: b, h => by
    rw [ordI_lt] at h ⊢
    rintro (k | ⟨rfl, k⟩)
    · rcases h with h | ⟨rfl, _⟩
      · have := (cmpIt_swap x y).1 k; omega
      · rw [cmpIt_self] at k; omega
    · rcases h with h | ⟨_, h⟩
      · rw [cmpIt_self] at h; omega
      · exact ordI_asym h k
theorem cmpIt_tot {x y : It} (h : ¬ cmpIt y x < 0) : cmpIt x y < 0 ∨ x = y := by
  rw [cmpIt_swap] at h
  by_cases hz : cmpIt x y = 0
  · exact .inr (cmpIt_zero hz)
  · exact .inl (by omega)
theorem ordI_tr : ∀ {a b c : List It}, ¬ ordI b a < 0 → ¬ ordI c b < 0 → ¬ ordI c a < 0
  | [], _, [], _, _ => by simp [ordI]
  | [], _, _ :: _, _, _ => by simp [ordI]
  | _ :: _, [], _, h, _ => by simp [ordI] at h
  | _ :: _, _ :: _, [], _, k => by simp [ordI] at k
  | x :: a, y :: b, z :: c, h, k => by
    rw [ordI_lt] at h k ⊢
    have h1 := cmpIt_tot (x := x) (y := y) fun e => h (.inl e)
    have k1 := cmpIt_tot (x := y) (y := z) fun e => k (.inl e)
    rintro (m | ⟨rfl, m⟩)
    · rcases h1 with h1 | rfl
      · rcases k1 with k1 | rfl
        · have := (cmpIt_swap _ _).1 (cmpIt_trans h1 k1); have := (cmpIt_swap _ _).1 m; have := (cmpIt_swap z x).2; omega
        · have := (cmpIt_swap x y).1 m; omega
      · exact k (.inl m)
    · rcases h1 with h1 | rfl
      · rcases k1 with k1 | rfl
        · have := (cmpIt_swap _ _).1 k1; omega
        · rw [cmpIt_self] at h1; omega
      · exact ordI_tr (fun e => h (.inr ⟨rfl, e⟩)) (fun e => k (.inr ⟨rfl, e⟩)) m
theorem lsI_lt : ∀ {a b : List It}, a.length = b.length → (lsI a b = true ↔ ordI a b < 0)
  | [], [], _ => by simp [lsI, ordI]
  | [], _ :: _, h => by simp at h
  | _ :: _, [], h => by simp at h
  | x :: a, y :: b, h => by
    rw [ordI_lt, lsI]
    by_cases hz : x = y
    · subst hz
      rw [if_pos rfl, lsI_lt (by simpa using h), cmpIt_self]
      constructor
      · exact fun h => .inr ⟨rfl, h⟩
      · rintro (h | ⟨_, h⟩)
        · omega
        · exact h
    · rw [if_neg hz, ← (signs x.k x.n x.s y.k y.n y.s).1]
      exact ⟨.inl, fun h => h.elim id fun h => absurd h.1 hz⟩
theorem ordI_weak {α : Type} (f : α → List It) : Weak fun x y => ordI (f x) (f y) := ⟨fun _ _ => ordI_asym, fun _ _ _ => ordI_tr⟩
end Go.Proofs.YtpgdflhcmijaiaaDoor
namespace Go.Proofs.YtpgdflhcmijaiaaDoor
open Go Go.Proofs.YtpgdflhcmijaiaaDoor.Ab
section
variable {α : Type} (dd : α → D)
def tab (n : Nat) (g : Nat → α) : List (List V) := (List.range n).map fun k => [V.d (dd (g k))]
theorem tab_len (n : Nat) (g : Nat → α) : (tab dd n g).length = n := by simp [tab]
theorem tab_get {n : Nat} {g : Nat → α} {k : Nat} (h : k < n) : (tab dd n g)[k]? = some [V.d (dd (g k))] := by
  rw [tab, List.getElem?_map, List.getElem?_range h]; rfl
theorem tab_ext {n : Nat} {g g' : Nat → α} (h : ∀ k, k < n → g k = g' k) : tab dd n g = tab dd n g' := by
  rw [tab, tab]
  refine List.map_congr_left fun k hk => ?_
  rw [h k (List.mem_range.1 hk)]
def upd (g : Nat → α) (i : Nat) (x : α) (k : Nat) : α := if k = i then x else g k
theorem tab_set {n : Nat} {g : Nat → α} {i : Nat} {x : α} : (tab dd n g).set i [V.d (dd x)] = tab dd n (upd g i x) := by
  apply List.ext_getElem?
  intro k
  rw [List.getElem?_set, tab_len]
  by_cases hk : k < n
  · by_cases e : i = k
    · subst e
      rw [if_pos rfl, if_pos hk, tab_get dd hk, upd, if_pos rfl]
    · rw [if_neg e, tab_get dd hk, tab_get dd hk, upd, if_neg (fun h => e h.symm)]
  · have e1 : (tab dd n g)[k]? = none := List.getElem?_eq_none (by rw [tab_len]; omega)
    have e2 : (tab dd n (upd g i x))[k]? = none := List.getElem?_eq_none (by rw [tab_len]; omega)
    rw [e1, e2]
    split
    · split
      · omega
      · rfl
    · rfl
theorem tab_bel (m v e n : Nat) (g : Nat → α) : Ab.ObBel m (.row v e 1 (tab dd n g)) := by
  intro row hr v hv
  obtain ⟨k, _, rfl⟩ := List.mem_map.1 hr
  rw [List.mem_singleton.1 hv]
  exact .d _
variable {dd}
def swrF (g : Nat → α) (a b c k : Nat) : α := if a ≤ k ∧ k < a + c then g (k - a + b) else if b ≤ k ∧ k < b + c then g (k - b + a) else g k
theorem swr_zero (g : Nat → α) (a b : Nat) : swrF g a b 0 = g := by
  funext k
  rw [swrF, if_neg (by omega), if_neg (by omega)]
theorem swr_step {g : Nat → α} {a b i : Nat} (h : a + i < b) : upd (upd (swrF g a b i) (a + i) (swrF g a b i (b + i))) (b + i) (swrF g a b i (a + i)) = swrF g a b (i + 1) := by
  funext k
  have v1 : swrF g a b i (a + i) = g (a + i) := by rw [swrF, if_neg (by omega), if_neg (by omega)]
  have v2 : swrF g a b i (b + i) = g (b + i) := by rw [swrF, if_neg (by omega), if_neg (by omega)]
  rw [upd, v1, v2]
  by_cases c1 : k = b + i
  · rw [if_pos c1, swrF, if_neg (by omega), if_pos ⟨by omega, by omega⟩]
    congr 1; omega
  rw [if_neg c1, upd]
  by_cases c2 : k = a + i
  · rw [if_pos c2, swrF, if_pos ⟨by omega, by omega⟩]
    congr 1; omega
  rw [if_neg c2, swrF, swrF]
  by_cases d1 : a ≤ k ∧ k < a + i
  · rw [if_pos d1, if_pos ⟨by omega, by omega⟩]
  rw [if_neg d1, if_neg (show ¬ (a ≤ k ∧ k < a + (i + 1)) by omega)]
  by_cases d2 : b ≤ k ∧ k < b + i
  · rw [if_pos d2, if_pos ⟨by omega, by omega⟩]
  · rw [if_neg d2, if_neg (by omega)]
theorem rot_end {g : Nat → α} {m i : Nat} (h : i ≤ m) : swrF g (m - i) m i = rotF g (m - i) m (m + i) := by
  funext k
  rw [swrF, rotF]
  by_cases c1 : m - i ≤ k ∧ k < m
  · rw [if_pos ⟨by omega, by omega⟩, if_pos ⟨by omega, by omega⟩]
    congr 1; omega
  by_cases c2 : m ≤ k ∧ k < m + i
  · rw [if_neg (by omega), if_pos ⟨by omega, by omega⟩, if_neg (by omega), if_pos ⟨by omega, by omega⟩]
    congr 1; omega
  · rw [if_neg (by omega), if_neg (by omega), if_neg (by omega), if_neg (by omega)]
theorem rot_big {g : Nat → α} {m i j : Nat} (h : i ≤ m) (hj : j < i) : rotF (swrF g (m - i) m j) (m - (i - j)) m (m + j) = rotF g (m - i) m (m + j) := by
  funext k
  unfold rotF
  by_cases c0 : k < m - i ∨ m + j ≤ k
  · rw [if_neg (by omega), if_neg (by omega), if_neg (by omega), if_neg (by omega), swrF, if_neg (by omega), if_neg (by omega)]
  by_cases c1 : k < m - i + j
  · rw [if_neg (by omega), if_neg (by omega), if_pos ⟨by omega, by omega⟩, swrF, if_pos ⟨by omega, by omega⟩]
    all_goals (congr 1; omega)
  by_cases c2 : k < m - i + j + j
  · rw [if_pos ⟨by omega, by omega⟩, if_neg (by omega), if_pos ⟨by omega, by omega⟩, swrF, if_neg (by omega), if_pos ⟨by omega, by omega⟩]
    all_goals (congr 1; omega)
  · rw [if_neg (by omega), if_pos ⟨by omega, by omega⟩, if_neg (by omega), if_pos ⟨by omega, by omega⟩, swrF, if_neg (by omega), if_neg (by omega)]
    all_goals (congr 1; omega)
theorem rot_small {g : Nat → α} {m i j : Nat} (h : i ≤ m) (hj : i < j) : rotF (swrF g (m - i) (m + j - i) i) (m - i) m (m + (j - i)) = rotF g (m - i) m (m + j) := by
  funext k
  unfold rotF
  by_cases c0 : k < m - i ∨ m + j ≤ k
  · rw [if_neg (by omega), if_neg (by omega), if_neg (by omega), if_neg (by omega), swrF, if_neg (by omega), if_neg (by omega)]
  by_cases c1 : k < m - i + (j - i)
  · rw [if_pos ⟨by omega, by omega⟩, if_pos ⟨by omega, by omega⟩, swrF, if_neg (by omega), if_neg (by omega)]
    all_goals (congr 1; omega)
  by_cases c2 : k < m + j - i
  · rw [if_neg (by omega), if_pos ⟨by omega, by omega⟩, if_pos ⟨by omega, by omega⟩, swrF, if_pos ⟨by omega, by omega⟩]
    all_goals (congr 1; omega)
  · rw [if_neg (by omega), if_neg (by omega), if_neg (by omega), if_pos ⟨by omega, by omega⟩, swrF, if_neg (by omega), if_pos ⟨by omega, by omega⟩]
    all_goals (congr 1; omega)
theorem ins_step {g : Nat → α} {j i : Nat} (h : j < i) : upd (upd (insF g (j + 1) i) (j + 1) (insF g (j + 1) i j)) j (insF g (j + 1) i (j + 1)) = insF g j i := by
  funext k
  have v1 : insF g (j + 1) i j = g j := if_pos (Nat.lt_succ_self j)
  have v2 : insF g (j + 1) i (j + 1) = g i := by rw [insF, if_neg (Nat.lt_irrefl _), if_pos rfl]
  rw [upd, v1, v2]
  by_cases c1 : k = j
  · rw [if_pos c1, insF, if_neg (by omega), if_pos c1]
  rw [if_neg c1, upd]
  by_cases c2 : k = j + 1
  · rw [if_pos c2, insF, if_neg (by omega), if_neg c1, if_pos (by omega)]
    congr 1; omega
  rw [if_neg c2, insF, insF]
  by_cases c3 : k < j
  · rw [if_pos (by omega), if_pos c3]
  rw [if_neg (by omega), if_neg c2, if_neg c3, if_neg c1]
theorem ins_self (g : Nat → α) (i : Nat) : insF g i i = g := by
  funext k
  unfold insF
  by_cases c1 : k < i
  · rw [if_pos c1]
  rw [if_neg c1]
  by_cases c2 : k = i
  · rw [if_pos c2, c2]
  · rw [if_neg c2, if_neg (by omega)]
end
end Go.Proofs.YtpgdflhcmijaiaaDoor
