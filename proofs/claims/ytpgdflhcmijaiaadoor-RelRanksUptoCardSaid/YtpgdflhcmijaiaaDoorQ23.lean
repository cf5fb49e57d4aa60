/- Items and lists of items are ordered weakly. No condition. -/
import Derived.Test.YtpgdflhcmijaiaaDoorQ22
import Derived.Test.YtpgdflhcmijaiaaDoorQ21
import Derived.Test.YtpgdflhcmijaiaaDoorQ17
import Derived.Ground.NamesProg
import Derived.Shelf.Small.Strs
import Derived.Shelf.Strings.Search1
import Derived.Shelf.Unicode.ValidAny
import Derived.Shelf.Strings.Builder1
import Derived.Test.YtpgdflhcmijaiaaDoorProg
import Derived.Lib.LaidU8T
set_option linter.all false
set_option linter.unusedSimpArgs false
set_option linter.unusedVariables false
namespace Go.Proofs.YtpgdflhcmijaiaaDoor
open Go Go.Proofs.YtpgdflhcmijaiaaDoor.Ab
variable [Glo]
set_option maxHeartbeats 4000000
theorem cmpB_zero : ∀ {a b : List UInt8}, Lib.compareBytes a b = 0 → a = b
  | [], [], _ => rfl
  | [], _ :: _, h => by simp [Lib.compareBytes] at h
  | _ :: _, [], h => by simp [Lib.compareBytes] at h
  | x :: a, y :: b, h => by
    simp only [Lib.compareBytes] at h
    by_cases h1 : x < y
    · simp [h1] at h
    · by_cases h2 : y < x
      · simp [h1, h2] at h
      · simp only [h1, h2, if_false] at h
        rw [UInt8.le_antisymm (UInt8.not_lt.1 h2) (UInt8.not_lt.1 h1), cmpB_zero h]
theorem cmpB_trans : ∀ {a b c : List UInt8}, Lib.compareBytes a b < 0 → Lib.compareBytes b c < 0 → Lib.compareBytes a c < 0
  | [], [], c, h, _ => by simp [Lib.compareBytes] at h
  | [], _ :: _, [], _, k => by simp [Lib.compareBytes] at k
  | [], _ :: _, _ :: _, _, _ => by simp [Lib.compareBytes]
  | _ :: _, [], _, h, _ => by simp [Lib.compareBytes] at h
  | _ :: _, _ :: _, [], _, k => by simp [Lib.compareBytes] at k
  | x :: a, y :: b, z :: c, h, k => by
    simp only [Lib.compareBytes] at h k ⊢
    by_cases h1 : x < y
    · by_cases k1 : y < z
      · rw [if_pos (UInt8.lt_trans h1 k1)]; decide
      · by_cases k2 : z < y
        · simp [k1, k2] at k
        · have e : y = z := UInt8.le_antisymm (UInt8.not_lt.1 k2) (UInt8.not_lt.1 k1)
          rw [← e, if_pos h1]; decide
    · by_cases h2 : y < x
      · simp [h1, h2] at h
      · have e : x = y := UInt8.le_antisymm (UInt8.not_lt.1 h2) (UInt8.not_lt.1 h1)
        subst e
        simp only [h1, if_false] at h
        by_cases k1 : x < z
        · rw [if_pos k1]; decide
        · by_cases k2 : z < x
          · simp [k1, k2] at k
          · simp only [k1, k2, if_false] at k ⊢
            exact cmpB_trans h k
theorem cmpIt_zero {x y : It} (h : cmpIt x y = 0) : x = y := by
  obtain ⟨a, b, s⟩ := x
  obtain ⟨a', b', s'⟩ := y
  simp only [cmpIt, relCompare, cmpI] at h
  have e1 : a = a' := by grind
  subst e1
  have e2 : b = b' := by grind
  subst e2
  simp at h
  rw [cmpB_zero h]
theorem cmpIt_self (x : It) : cmpIt x x = 0 := by
  have h := compareBytes_swap x.s x.s
  simp only [cmpIt, relCompare, cmpI]
  simp
  omega
theorem cmpIt_swap (x y : It) : (cmpIt y x < 0) ↔ (0 < cmpIt x y) := by
  obtain ⟨h1, _⟩ := signs y.k y.n y.s x.k x.n x.s
  obtain ⟨_, h2⟩ := signs x.k x.n x.s y.k y.n y.s
  exact h1.trans h2.symm
theorem cmpIt_trans {x y z : It} (h : cmpIt x y < 0) (k : cmpIt y z < 0) : cmpIt x z < 0 := by
  obtain ⟨a, b, s⟩ := x
  obtain ⟨a', b', s'⟩ := y
  obtain ⟨a2, b2, s2⟩ := z
  have ht := cmpB_trans (a := s) (b := s') (c := s2)
  simp only [cmpIt, relCompare, cmpI] at h k ⊢
  grind
theorem ordI_lt {x y : It} {a b : List It} : ordI (x :: a) (y :: b) < 0 ↔ cmpIt x y < 0 ∨ (x = y ∧ ordI a b < 0) := by
  rw [ordI]
  by_cases hz : cmpIt x y = 0
  · rw [if_pos hz]
    constructor
    · exact fun h => .inr ⟨cmpIt_zero hz, h⟩
    · rintro (h | ⟨_, h⟩)
      · omega
      · exact h
  · rw [if_neg hz]
    constructor
    · exact .inl
    · rintro (h | ⟨rfl, _⟩)
      · exact h
      · exact absurd (cmpIt_self _) hz
theorem ordI_asym : ∀ {a b : List It}, ordI a b < 0 → ¬ ordI b a < 0
  | [], [], h => by simp [ordI] at h
  | [], _ :: _, _ => by simp [ordI]
  | _ :: _, [], h => by simp [ordI] at h
  | x :: a, y :: b, h => by
    rw [ordI_lt] at h ⊢
    rintro (k | ⟨rfl, k⟩)
    · rcases h with h | ⟨rfl, _⟩
      · have := (cmpIt_swap x y).1 k; omega
      · rw [cmpIt_self] at k; omega
    · rcases h with h | ⟨_, h⟩
      · rw [cmpIt_self] at h; omega
      · exact ordI_asym h k
theorem cmpIt_tot {x y : It} (h : ¬ cmpIt y x < 0) : cmpIt x y < 0 ∨ x = y := by
  rw [cmpIt_swap] at h
  by_cases hz : cmpIt x y = 0
  · exact .inr (cmpIt_zero hz)
  · exact .inl (by omega)
theorem ordI_tr : ∀ {a b c : List It}, ¬ ordI b a < 0 → ¬ ordI c b < 0 → ¬ ordI c a < 0
  | [], _, [], _, _ => by simp [ordI]
  | [], _, _ :: _, _, _ => by simp [ordI]
  | _ :: _, [], _, h, _ => by simp [ordI] at h
  | _ :: _, _ :: _, [], _, k => by simp [ordI] at k
  | x :: a, y :: b, z :: c, h, k => by
    rw [ordI_lt] at h k ⊢
    have h1 := cmpIt_tot (x := x) (y := y) fun e => h (.inl e)
    have k1 := cmpIt_tot (x := y) (y := z) fun e => k (.inl e)
    rintro (m | ⟨rfl, m⟩)
    · rcases h1 with h1 | rfl
      · rcases k1 with k1 | rfl
        · have := (cmpIt_swap _ _).1 (cmpIt_trans h1 k1); have := (cmpIt_swap _ _).1 m; have := (cmpIt_swap z x).2; omega
        · have := (cmpIt_swap x y).1 m; omega
      · exact k (.inl m)
    · rcases h1 with h1 | rfl
      · rcases k1 with k1 | rfl
        · have := (cmpIt_swap _ _).1 k1; omega
        · rw [cmpIt_self] at h1; omega
      · exact ordI_tr (fun e => h (.inr ⟨rfl, e⟩)) (fun e => k (.inr ⟨rfl, e⟩)) m
theorem lsI_lt : ∀ {a b : List It}, a.length = b.length → (lsI a b = true ↔ ordI a b < 0)
  | [], [], _ => by simp [lsI, ordI]
  | [], _ :: _, h => by simp at h
  | _ :: _, [], h => by simp at h
  | x :: a, y :: b, h => by
    rw [ordI_lt, lsI]
    by_cases hz : x = y
    · subst hz
      rw [if_pos rfl, lsI_lt (by simpa using h), cmpIt_self]
      constructor
      · exact fun h => .inr ⟨rfl, h⟩
      · rintro (h | ⟨_, h⟩)
        · omega
        · exact h
    · rw [if_neg hz, ← (signs x.k x.n x.s y.k y.n y.s).1]
      exact ⟨.inl, fun h => h.elim id fun h => absurd h.1 hz⟩
theorem ordI_weak {α : Type} (f : α → List It) : Weak fun x y => ordI (f x) (f y) := ⟨fun _ _ => ordI_asym, fun _ _ _ => ordI_tr⟩
end Go.Proofs.YtpgdflhcmijaiaaDoor
namespace Go.Proofs.YtpgdflhcmijaiaaDoor
open Go Go.Proofs.YtpgdflhcmijaiaaDoor.Ab
section
variable {α : Type} (dd : α → D)
def tab (n : Nat) (g : Nat → α) : List (List V) := (List.range n).map fun k => [V.d (dd (g k))]
theorem tab_len (n : Nat) (g : Nat → α) : (tab dd n g).length = n := by simp [tab]
theorem tab_get {n : Nat} {g : Nat → α} {k : Nat} (h : k < n) : (tab dd n g)[k]? = some [V.d (dd (g k))] := by
  rw [tab, List.getElem?_map, List.getElem?_range h]; rfl
theorem tab_ext {n : Nat} {g g' : Nat → α} (h : ∀ k, k < n → g k = g' k) : tab dd n g = tab dd n g' := by
  rw [tab, tab]
  refine List.map_congr_left fun k hk => ?_
  rw [h k (List.mem_range.1 hk)]
def upd (g : Nat → α) (i : Nat) (x : α) (k : Nat) : α := if k = i then x else g k
theorem tab_set {n : Nat} {g : Nat → α} {i : Nat} {x : α} : (tab dd n g).set i [V.d (dd x)] = tab dd n (upd g i x) := by
  apply List.ext_getElem?
  intro k
  rw [List.getElem?_set, tab_len]
  by_cases hk : k < n
  · by_cases e : i = k
    · subst e
      rw [if_pos rfl, if_pos hk, tab_get dd hk, upd, if_pos rfl]
    · rw [if_neg e, tab_get dd hk, tab_get dd hk, upd, if_neg (fun h => e h.symm)]
  · have e1 : (tab dd n g)[k]? = none := List.getElem?_eq_none (by rw [tab_len]; omega)
    have e2 : (tab dd n (upd g i x))[k]? = none := List.getElem?_eq_none (by rw [tab_len]; omega)
    rw [e1, e2]
    split
    · split
      · omega
      · rfl
    · rfl
theorem tab_bel (m v e n : Nat) (g : Nat → α) : Ab.ObBel m (.row v e 1 (tab dd n g)) := by
  intro row hr v hv
  obtain ⟨k, _, rfl⟩ := List.mem_map.1 hr
  rw [List.mem_singleton.1 hv]
  exact .d _
variable {dd}
def swrF (g : Nat → α) (a b c k : Nat) : α := if a ≤ k ∧ k < a + c then g (k - a + b) else if b ≤ k ∧ k < b + c then g (k - b + a) else g k
theorem swr_zero (g : Nat → α) (a b : Nat) : swrF g a b 0 = g := by
  funext k
  rw [swrF, if_neg (by omega), if_neg (by omega)]
theorem swr_step {g : Nat → α} {a b i : Nat} (h : a + i < b) : upd (upd (swrF g a b i) (a + i) (swrF g a b i (b + i))) (b + i) (swrF g a b i (a + i)) = swrF g a b (i + 1) := by
  funext k
  have v1 : swrF g a b i (a + i) = g (a + i) := by rw [swrF, if_neg (by omega), if_neg (by omega)]
  have v2 : swrF g a b i (b + i) = g (b + i) := by rw [swrF, if_neg (by omega), if_neg (by omega)]
  rw [upd, v1, v2]
  by_cases c1 : k = b + i
  · rw [if_pos c1, swrF, if_neg (by omega), if_pos ⟨by omega, by omega⟩]
    congr 1; omega
  rw [if_neg c1, upd]
  by_cases c2 : k = a + i
  · rw [if_pos c2, swrF, if_pos ⟨by omega, by omega⟩]
    congr 1; omega
  rw [if_neg c2, swrF, swrF]
  by_cases d1 : a ≤ k ∧ k < a + i
  · rw [if_pos d1, if_pos ⟨by omega, by omega⟩]
  rw [if_neg d1, if_neg (show ¬ (a ≤ k ∧ k < a + (i + 1)) by omega)]
  by_cases d2 : b ≤ k ∧ k < b + i
  · rw [if_pos d2, if_pos ⟨by omega, by omega⟩]
  · rw [if_neg d2, if_neg (by omega)]
theorem rot_end {g : Nat → α} {m i : Nat} (h : i ≤ m) : swrF g (m - i) m i = rotF g (m - i) m (m + i) := by
  funext k
  rw [swrF, rotF]
  by_cases c1 : m - i ≤ k ∧ k < m
  · rw [if_pos ⟨by omega, by omega⟩, if_pos ⟨by omega, by omega⟩]
    congr 1; omega
  by_cases c2 : m ≤ k ∧ k < m + i
  · rw [if_neg (by omega), if_pos ⟨by omega, by omega⟩, if_neg (by omega), if_pos ⟨by omega, by omega⟩]
    congr 1; omega
  · rw [if_neg (by omega), if_neg (by omega), if_neg (by omega), if_neg (by omega)]
theorem rot_big {g : Nat → α} {m i j : Nat} (h : i ≤ m) (hj : j < i) : rotF (swrF g (m - i) m j) (m - (i - j)) m (m + j) = rotF g (m - i) m (m + j) := by
  funext k
  unfold rotF
  by_cases c0 : k < m - i ∨ m + j ≤ k
  · rw [if_neg (by omega), if_neg (by omega), if_neg (by omega), if_neg (by omega), swrF, if_neg (by omega), if_neg (by omega)]
  by_cases c1 : k < m - i + j
  · rw [if_neg (by omega), if_neg (by omega), if_pos ⟨by omega, by omega⟩, swrF, if_pos ⟨by omega, by omega⟩]
    all_goals (congr 1; omega)
  by_cases c2 : k < m - i + j + j
  · rw [if_pos ⟨by omega, by omega⟩, if_neg (by omega), if_pos ⟨by omega, by omega⟩, swrF, if_neg (by omega), if_pos ⟨by omega, by omega⟩]
    all_goals (congr 1; omega)
  · rw [if_neg (by omega), if_pos ⟨by omega, by omega⟩, if_neg (by omega), if_pos ⟨by omega, by omega⟩, swrF, if_neg (by omega), if_neg (by omega)]
    all_goals (congr 1; omega)
theorem rot_small {g : Nat → α} {m i j : Nat} (h : i ≤ m) (hj : i < j) : rotF (swrF g (m - i) (m + j - i) i) (m - i) m (m + (j - i)) = rotF g (m - i) m (m + j) := by
  funext k
  unfold rotF
  by_cases c0 : k < m - i ∨ m + j ≤ k
  · rw [if_neg (by omega), if_neg (by omega), if_neg (by omega), if_neg (by omega), swrF, if_neg (by omega), if_neg (by omega)]
  by_cases c1 : k < m - i + (j - i)
  · rw [if_pos ⟨by omega, by omega⟩, if_pos ⟨by omega, by omega⟩, swrF, if_neg (by omega), if_neg (by omega)]
    all_goals (congr 1; omega)
  by_cases c2 : k < m + j - i
  · rw [if_neg (by omega), if_pos ⟨by omega, by omega⟩, if_pos ⟨by omega, by omega⟩, swrF, if_pos ⟨by omega, by omega⟩]
    all_goals (congr 1; omega)
  · rw [if_neg (by omega), if_neg (by omega), if_neg (by omega), if_pos ⟨by omega, by omega⟩, swrF, if_neg (by omega), if_pos ⟨by omega, by omega⟩]
    all_goals (congr 1; omega)
theorem ins_step {g : Nat → α} {j i : Nat} (h : j < i) : upd (upd (insF g (j + 1) i) (j + 1) (insF g (j + 1) i j)) j (insF g (j + 1) i (j + 1)) = insF g j i := by
  funext k
  have v1 : insF g (j + 1) i j = g j := if_pos (Nat.lt_succ_self j)
  have v2 : insF g (j + 1) i (j + 1) = g i := by rw [insF, if_neg (Nat.lt_irrefl _), if_pos rfl]
  rw [upd, v1, v2]
  by_cases c1 : k = j
  · rw [if_pos c1, insF, if_neg (by omega), if_pos c1]
  rw [if_neg c1, upd]
  by_cases c2 : k = j + 1
  · rw [if_pos c2, insF, if_neg (by omega), if_neg c1, if_pos (by omega)]
    congr 1; omega
  rw [if_neg c2, insF, insF]
  by_cases c3 : k < j
  · rw [if_pos (by omega), if_pos c3]
  rw [if_neg (by omega), if_neg c2, if_neg c3, if_neg c1]
theorem ins_self (g : Nat → α) (i : Nat) : insF g i i = g := by
  funext k
  unfold insF
  by_cases c1 : k < i
  · rw [if_pos c1]
  rw [if_neg c1]
  by_cases c2 : k = i
  · rw [if_pos c2, c2]
  · rw [if_neg c2, if_neg (by omega)]
end
end Go.Proofs.YtpgdflhcmijaiaaDoor
namespace Go.Proofs
open Go.Shelf
def Tryd.laysValid_ren : Go.Shelf.Ren := ⟨fun | 196 => 108 | 259 => 121 | n => n, fun | 9 => 9 | 4 => 4 | 3 => 3 | 5 => 5 | 12 => 12 | 119 => 149 | 0 => 0 | 46 => 106 | 139 => 152 | 138 => 151 | 53 => 134 | n => n, fun | 3 => 0 | 4 => 1 | n => n⟩
theorem Tryd.laysValid : Go.Proofs.Lays.n196 Tryd.prog Tryd.laysValid_ren := {
  mixed := by kernel_rfl
  f196 := Tryd.func108.trans (congrArg some (by kernel_rfl))
  f259 := Tryd.func121.trans (congrArg some (by kernel_rfl))
  t0 := Tryd.underlying0
  a0 := Tryd.isAgg0
  z0 := Tryd.sizeOf0
  v0 := Tryd.zeroValue0
  t3 := Tryd.underlying3
  a3 := Tryd.isAgg3
  z3 := Tryd.sizeOf3
  v3 := Tryd.zeroValue3
  t4 := Tryd.underlying4
  a4 := Tryd.isAgg4
  z4 := Tryd.sizeOf4
  v4 := Tryd.zeroValue4
  t5 := Tryd.underlying5
  a5 := Tryd.isAgg5
  z5 := Tryd.sizeOf5
  v5 := Tryd.zeroValue5
  t9 := Tryd.underlying9
  a9 := Tryd.isAgg9
  z9 := Tryd.sizeOf9
  v9 := Tryd.zeroValue9
  t12 := Tryd.underlying12
  a12 := Tryd.isAgg12
  z12 := Tryd.sizeOf12
  v12 := Tryd.zeroValue12
  t46 := Tryd.underlying106
  a46 := Tryd.isAgg106
  z46 := Tryd.sizeOf106
  v46 := Tryd.zeroValue106
  t53 := Tryd.underlying134
  a53 := Tryd.isAgg134
  z53 := Tryd.sizeOf134
  v53 := Tryd.zeroValue134
  t119 := Tryd.underlying149
  a119 := Tryd.isAgg149
  z119 := Tryd.sizeOf149
  t138 := Tryd.underlying151
  a138 := Tryd.isAgg151
  z138 := Tryd.sizeOf151
  v138 := Tryd.zeroValue151
  t139 := Tryd.underlying152
  a139 := Tryd.isAgg152
  z139 := Tryd.sizeOf152
  v139 := Tryd.zeroValue152
  g3 := by kernel_rfl
  g4 := by kernel_rfl }
end Go.Proofs
namespace Go.Proofs.YtpgdflhcmijaiaaDoor
open Go Go.Proofs.YtpgdflhcmijaiaaDoor.Ab
variable [Glo]
def firstRow : List D := Lib.firstTab.map fun z => .i .u8 z
def acceptRow : List D := (List.range 16).flatMap fun i => [.i .u8 (Lib.accLo i), .i .u8 (Lib.accHi i)]
class U8 [Glo] : Prop where
  first : glob 0 = some firstRow
  accept : glob 1 = some acceptRow
theorem firstRow_get (c : Nat) (hc : c < 256) : firstRow[c]? = some (.i .u8 (Lib.firstT c)) := by
  simp [firstRow, Lib.firstTab, hc]
theorem acceptRow_get (i : Nat) (hi : i < 16) : acceptRow[2 * i]? = some (.i .u8 (Lib.accLo i)) ∧ acceptRow[2 * i + 1]? = some (.i .u8 (Lib.accHi i)) := by
  match i, hi with
  | 0, _ | 1, _ | 2, _ | 3, _ | 4, _ | 5, _ | 6, _ | 7, _ | 8, _ | 9, _ | 10, _ | 11, _ | 12, _ | 13, _ | 14, _ | 15, _ => exact ⟨rfl, rfl⟩
  | n + 16, h => exact absurd h (by omega)
theorem tabs_of [U8] {w : World} {H : Heap} {σ : Conc} (hw : WOk w H σ) : Lib.Utf8Tabs 0 1 w := by
  obtain ⟨_, _, f, f1, f2⟩ := hw.glob _ _ U8.first
  obtain ⟨_, _, a, a1, a2⟩ := hw.glob _ _ U8.accept
  refine ⟨fun c hc => ?_, fun i hi => ⟨?_, ?_⟩⟩
  · rw [f1 c _ (firstRow_get c hc), (f2 c _ (firstRow_get c hc)).inv_i]
  · rw [a1 _ _ (acceptRow_get i hi).1, (a2 _ _ (acceptRow_get i hi).1).inv_i]
  · rw [a1 _ _ (acceptRow_get i hi).2, (a2 _ _ (acceptRow_get i hi).2).inv_i]
theorem valid_A [U8] (l : List UInt8) (hl : l.length ≤ 9223372036854775807) (H : Heap) (K : V → Heap → Prop) (hk : K (.d (.b (Lib.validD l))) H) : ACalls Tryd.prog 108 [.d (.s l)] H K := by
  refine ACalls_below _ hk fun w σ args hw hlen hr => ?_
  obtain ⟨u, rfl⟩ := Array.size_eq_one_iff.1 (by simpa using hlen.symm)
  obtain rfl := (hr 0 _ u rfl rfl).inv_d.inv_s
  refine ⟨.bool (Lib.validD l), fun w' _ => .d _ _ (.b _), ?_⟩
  have := Any.utf8_ValidString Tryd.laysValid ⟨l.toArray⟩ w (by rw [size_mk]; exact hl) (tabs_of hw)
  have e : (⟨l.toArray⟩ : ByteArray).data.toList = l := by simp
  rw [e] at this
  exact this
end Go.Proofs.YtpgdflhcmijaiaaDoor
