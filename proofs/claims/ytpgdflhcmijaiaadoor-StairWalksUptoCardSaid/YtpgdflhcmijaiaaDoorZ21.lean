/- Merging in place without more room, in plain words: what keeps its order, and when two sorted parts are one. No condition. -/
import Derived.Test.YtpgdflhcmijaiaaDoorZ18
import Derived.Test.YtpgdflhcmijaiaaDoorZ19
import Derived.Test.YtpgdflhcmijaiaaDoorZ20
import Derived.Lib.RowBridge
set_option linter.all false
set_option linter.unusedSimpArgs false
set_option linter.unusedVariables false
namespace Go.Proofs.YtpgdflhcmijaiaaDoor
section
variable {α : Type} (cf : α → α → Int) (tg : α → Nat)
structure Weak : Prop where
  asym : ∀ x y, cf x y < 0 → ¬ cf y x < 0
  tr : ∀ x y z, ¬ cf y x < 0 → ¬ cf z y < 0 → ¬ cf z x < 0
def bef (x y : α) : Prop := cf x y < 0 ∨ (¬ cf y x < 0 ∧ tg x < tg y)
variable {cf tg}
theorem bef_le (w : Weak cf) {x y : α} (h : bef cf tg x y) : ¬ cf y x < 0 := h.elim (w.asym _ _) (·.1)
theorem bef_lt_le (w : Weak cf) {x y z : α} (h : cf x y < 0) (k : ¬ cf z y < 0) : cf x z < 0 :=
  Classical.byContradiction fun hn => w.tr y z x k hn h
theorem bef_le_lt (w : Weak cf) {x y z : α} (k : ¬ cf y x < 0) (h : cf y z < 0) : cf x z < 0 :=
  Classical.byContradiction fun hn => w.tr z x y hn k h
theorem bef_trans (w : Weak cf) {x y z : α} (h : bef cf tg x y) (k : bef cf tg y z) : bef cf tg x z := by
  rcases h with h | ⟨h1, h2⟩
  · exact .inl (bef_lt_le w h (bef_le w k))
  · rcases k with k | ⟨k1, k2⟩
    · exact .inl (bef_le_lt w h1 k)
    · exact .inr ⟨w.tr _ _ _ h1 k1, Nat.lt_trans h2 k2⟩
theorem bef_asym (w : Weak cf) {x y : α} (h : bef cf tg x y) (k : bef cf tg y x) : False := by
  rcases h with h | ⟨h1, h2⟩
  · exact bef_le w k h
  · rcases k with k | ⟨k1, k2⟩
    · exact h1 k
    · omega
variable (cf tg)
def Srt (g : Nat → α) (a b : Nat) : Prop := ∀ i j, a ≤ i → i < j → j < b → bef cf tg (g i) (g j)
variable {tg}
structure Mrg (tg : α → Nat) (g : Nat → α) (a m b : Nat) : Prop where
  l : Srt cf tg g a m
  r : Srt cf tg g m b
  t : ∀ i j, a ≤ i → i < m → m ≤ j → j < b → tg (g i) < tg (g j)
variable {cf}
def Sg (g : Nat → α) (a b : Nat) (x : α) : Prop := ∃ k, a ≤ k ∧ k < b ∧ g k = x
structure Pst (a b : Nat) (g g' : Nat → α) : Prop where
  o : ∀ k, k < a ∨ b ≤ k → g' k = g k
  s : ∀ x, Sg g' a b x ↔ Sg g a b x
theorem Pst.refl (a b : Nat) (g : Nat → α) : Pst a b g g := ⟨fun _ _ => rfl, fun _ => Iff.rfl⟩
theorem Pst.trans {a b : Nat} {g g1 g2 : Nat → α} (h : Pst a b g g1) (k : Pst a b g1 g2) : Pst a b g g2 := ⟨fun i hi => (k.o i hi).trans (h.o i hi), fun x => (k.s x).trans (h.s x)⟩
theorem Pst.wide {a b a' b' : Nat} {g g' : Nat → α} (h : Pst a b g g') (ha : a' ≤ a) (hab : a ≤ b) (hb : b ≤ b') : Pst a' b' g g' := by
  refine ⟨fun k hk => h.o k (by omega), fun x => ⟨?_, ?_⟩⟩
  · rintro ⟨k, k1, k2, rfl⟩
    by_cases hk : a ≤ k ∧ k < b
    · obtain ⟨q, q1, q2, q3⟩ := (h.s (g' k)).1 ⟨k, hk.1, hk.2, rfl⟩
      exact ⟨q, by omega, by omega, q3⟩
    · exact ⟨k, k1, k2, (h.o k (by omega)).symm⟩
  · rintro ⟨k, k1, k2, rfl⟩
    by_cases hk : a ≤ k ∧ k < b
    · obtain ⟨q, q1, q2, q3⟩ := (h.s (g k)).2 ⟨k, hk.1, hk.2, rfl⟩
      exact ⟨q, by omega, by omega, q3⟩
    · exact ⟨k, k1, k2, h.o k (by omega)⟩
def rotF (g : Nat → α) (s m e k : Nat) : α := if s ≤ k ∧ k < s + (e - m) then g (k + (m - s)) else if s + (e - m) ≤ k ∧ k < e then g (k - (e - m)) else g k
theorem rot1 {g : Nat → α} {s m e k : Nat} (h1 : s ≤ k) (h2 : k < s + (e - m)) : rotF g s m e k = g (k + (m - s)) := if_pos ⟨h1, h2⟩
theorem rot2 {g : Nat → α} {s m e k : Nat} (h1 : s + (e - m) ≤ k) (h2 : k < e) : rotF g s m e k = g (k - (e - m)) := by
  rw [rotF, if_neg (by omega), if_pos ⟨h1, h2⟩]
theorem rot3 {g : Nat → α} {s m e k : Nat} (hs : s ≤ m) (he : m ≤ e) (h : k < s ∨ e ≤ k) : rotF g s m e k = g k := by
  rw [rotF, if_neg (by omega), if_neg (by omega)]
theorem rot_post {g : Nat → α} {s m e : Nat} (hs : s ≤ m) (he : m ≤ e) : Pst s e g (rotF g s m e) := by
  refine ⟨fun k hk => rot3 hs he hk, fun x => ⟨?_, ?_⟩⟩
  · rintro ⟨k, k1, k2, rfl⟩
    by_cases h : k < s + (e - m)
    · exact ⟨k + (m - s), by omega, by omega, (rot1 k1 h).symm⟩
    · exact ⟨k - (e - m), by omega, by omega, (rot2 (by omega) k2).symm⟩
  · rintro ⟨k, k1, k2, rfl⟩
    by_cases h : k < m
    · exact ⟨k + (e - m), by omega, by omega, by rw [rot2 (by omega) (by omega), Nat.add_sub_cancel]⟩
    · refine ⟨k - (m - s), by omega, by omega, ?_⟩
      rw [rot1 (by omega) (by omega)]
      congr 1; omega
theorem Mrg.one {g : Nat → α} {a m b : Nat} (h : Mrg cf tg g a m b) (c : ∀ i j, a ≤ i → i < m → m ≤ j → j < b → ¬ cf (g j) (g i) < 0) : Srt cf tg g a b := by
  intro i j h1 h2 h3
  by_cases hj : j < m
  · exact h.l i j h1 h2 hj
  by_cases hi : m ≤ i
  · exact h.r i j hi h2 h3
  · exact .inr ⟨c i j h1 (by omega) (by omega) h3, h.t i j h1 (by omega) (by omega) h3⟩
section
variable {g : Nat → α} {a s m e b : Nat} (h : Mrg cf tg g a m b) (ha : a ≤ s) (hs : s ≤ m) (he : m ≤ e) (hb : e ≤ b)
include h ha hs he hb
theorem rot_l : Mrg cf tg (rotF g s m e) a s (s + (e - m)) := by
  refine ⟨fun i j h1 h2 h3 => ?_, fun i j h1 h2 h3 => ?_, fun i j h1 h2 h3 h4 => ?_⟩
  · rw [rot3 hs he (by omega), rot3 hs he (by omega)]
    exact h.l i j h1 h2 (by omega)
  · rw [rot1 (by omega) (by omega), rot1 (by omega) (by omega)]
    exact h.r _ _ (by omega) (by omega) (by omega)
  · rw [rot3 hs he (by omega), rot1 (by omega) (by omega)]
    exact h.t _ _ (by omega) (by omega) (by omega) (by omega)
theorem rot_r : Mrg cf tg (rotF g s m e) (s + (e - m)) e b := by
  refine ⟨fun i j h1 h2 h3 => ?_, fun i j h1 h2 h3 => ?_, fun i j h1 h2 h3 h4 => ?_⟩
  · rw [rot2 (by omega) (by omega), rot2 (by omega) (by omega)]
    exact h.l _ _ (by omega) (by omega) (by omega)
  · rw [rot3 hs he (by omega), rot3 hs he (by omega)]
    exact h.r _ _ (by omega) (by omega) (by omega)
  · rw [rot2 (by omega) (by omega), rot3 hs he (by omega)]
    exact h.t _ _ (by omega) (by omega) (by omega) (by omega)
theorem rot_x (w : Weak cf) (c1 : ∀ i j, s ≤ i → i < m → m ≤ j → j < e → cf (g j) (g i) < 0) (c2 : ∀ i j, a ≤ i → i < s → e ≤ j → j < b → ¬ cf (g j) (g i) < 0) :
    ∀ i j, a ≤ i → i < s + (e - m) → s + (e - m) ≤ j → j < b → bef cf tg (rotF g s m e i) (rotF g s m e j) := by
  intro i j h1 h2 h3 h4
  by_cases hi : i < s
  · rw [rot3 hs he (by omega)]
    by_cases hj : j < e
    · rw [rot2 (by omega) hj]
      exact h.l _ _ h1 (by omega) (by omega)
    · rw [rot3 hs he (by omega)]
      exact .inr ⟨c2 i j h1 hi (by omega) h4, h.t i j h1 (by omega) (by omega) h4⟩
  · rw [rot1 (by omega) h2]
    by_cases hj : j < e
    · rw [rot2 (by omega) hj]
      exact .inl (c1 _ _ (by omega) (by omega) (by omega) (by omega))
    · rw [rot3 hs he (by omega)]
      exact h.r _ _ (by omega) (by omega) h4
end
theorem halves {h g1 : Nat → α} {a c b : Nat} (hac : a ≤ c) (hcb : c ≤ b) (x : ∀ i j, a ≤ i → i < c → c ≤ j → j < b → bef cf tg (h i) (h j))
    (p1 : ∀ y, Sg g1 a c y ↔ Sg h a c y) (p2 : ∀ y, Sg g1 c b y ↔ Sg h c b y) (s1 : Srt cf tg g1 a c) (s2 : Srt cf tg g1 c b) : Srt cf tg g1 a b := by
  intro i j h1 h2 h3
  by_cases hj : j < c
  · exact s1 i j h1 h2 hj
  by_cases hi : c ≤ i
  · exact s2 i j hi h2 h3
  · obtain ⟨p, q1, q2, q3⟩ := (p1 (g1 i)).1 ⟨i, h1, by omega, rfl⟩
    obtain ⟨q, r1, r2, r3⟩ := (p2 (g1 j)).1 ⟨j, by omega, h3, rfl⟩
    rw [← q3, ← r3]
    exact x p q q1 q2 r1 r2
theorem Mrg.of {g g' : Nat → α} {a m b : Nat} (h : Mrg cf tg g a m b) (e : ∀ k, a ≤ k → k < b → g' k = g k) (ham : a ≤ m) (hmb : m ≤ b) : Mrg cf tg g' a m b :=
  ⟨fun i j h1 h2 h3 => by rw [e i h1 (by omega), e j (by omega) (by omega)]; exact h.l i j h1 h2 h3,
   fun i j h1 h2 h3 => by rw [e i (by omega) (by omega), e j (by omega) h3]; exact h.r i j h1 h2 h3,
   fun i j h1 h2 h3 h4 => by rw [e i h1 (by omega), e j (by omega) h4]; exact h.t i j h1 h2 h3 h4⟩
def insF (g : Nat → α) (j i k : Nat) : α := if k < j then g k else if k = j then g i else if k ≤ i then g (k - 1) else g k
theorem ins_post {g : Nat → α} {a j i b : Nat} (h1 : a ≤ j) (h2 : j ≤ i) (h3 : i < b) : Pst a b g (insF g j i) := by
  have e : insF g j i = rotF g j i (i + 1) := by
    funext k
    unfold insF rotF
    by_cases c1 : k < j
    · rw [if_pos c1, if_neg (by omega), if_neg (by omega)]
    rw [if_neg c1]
    by_cases c2 : k = j
    · subst c2
      rw [if_pos rfl, if_pos ⟨Nat.le_refl _, by omega⟩]
      congr 1; omega
    rw [if_neg c2]
    by_cases c3 : k ≤ i
    · rw [if_pos c3, if_neg (by omega), if_pos ⟨by omega, by omega⟩]
      congr 1; omega
    · rw [if_neg c3, if_neg (by omega), if_neg (by omega)]
  rw [e]
  exact (rot_post h2 (Nat.le_succ i)).wide h1 (by omega) (by omega)
theorem ins_srt (w : Weak cf) {g : Nat → α} {a j i : Nat} (h1 : a ≤ j) (h2 : j ≤ i) (hs : Srt cf tg g a i) (ht : ∀ k, a ≤ k → k < i → tg (g k) < tg (g i)) (hl : ∀ k, j ≤ k → k < i → cf (g i) (g k) < 0)
    (hx : j = a ∨ ¬ cf (g i) (g (j - 1)) < 0) : Srt cf tg (insF g j i) a (i + 1) := by
  have v1 : ∀ k, k < j → insF g j i k = g k := fun k h => if_pos h
  have v2 : insF g j i j = g i := by rw [insF, if_neg (Nat.lt_irrefl _), if_pos rfl]
  have v3 : ∀ k, j < k → k ≤ i → insF g j i k = g (k - 1) := fun k h h' => by rw [insF, if_neg (by omega), if_neg (by omega), if_pos h']
  have lo : ∀ p, a ≤ p → p < j → bef cf tg (g p) (g i) := fun p hp hpj => by
    refine .inr ⟨?_, ht p hp (by omega)⟩
    rcases hx with hx | hx
    · omega
    · by_cases hq : p = j - 1
      · rw [hq]; exact hx
      · exact w.tr _ _ _ (bef_le w (hs p (j - 1) hp (by omega) (by omega))) hx
  intro p q hp hpq hq
  by_cases c1 : q < j
  · rw [v1 p (by omega), v1 q c1]
    exact hs p q hp hpq (by omega)
  by_cases c2 : q = j
  · rw [c2, v2, v1 p (by omega)]
    exact lo p hp (by omega)
  rw [v3 q (by omega) (by omega)]
  by_cases d1 : p < j
  · rw [v1 p d1]
    exact hs p (q - 1) hp (by omega) (by omega)
  by_cases d2 : p = j
  · rw [d2, v2]
    exact .inl (hl _ (by omega) (by omega))
  · rw [v3 p (by omega) (by omega)]
    exact hs (p - 1) (q - 1) (by omega) (by omega) (by omega)
theorem srt_uniq (w : Weak cf) {g g' : Nat → α} : ∀ (n a : Nat), Srt cf tg g a (a + n) → Srt cf tg g' a (a + n) → (∀ x, Sg g a (a + n) x ↔ Sg g' a (a + n) x) → ∀ k, a ≤ k → k < a + n → g k = g' k
  | 0, a, _, _, _, k, h1, h2 => by omega
  | n + 1, a, h, h', hs, k, h1, h2 => by
    have e : g a = g' a := by
      obtain ⟨p, p1, p2, p3⟩ := (hs (g a)).1 ⟨a, Nat.le_refl _, by omega, rfl⟩
      obtain ⟨q, q1, q2, q3⟩ := (hs (g' a)).2 ⟨a, Nat.le_refl _, by omega, rfl⟩
      by_cases c1 : p = a
      · rw [← p3, c1]
      by_cases c2 : q = a
      · rw [← q3, c2]
      have b1 := h' a p (Nat.le_refl _) (by omega) p2
      have b2 := h a q (Nat.le_refl _) (by omega) q2
      rw [p3] at b1
      rw [q3] at b2
      exact (bef_asym w b1 b2).elim
    by_cases hk : k = a
    · rw [hk]; exact e
    have irr : ∀ x, ¬ bef cf tg x x := fun x hx => bef_asym w hx hx
    refine srt_uniq w n (a + 1) (fun i j i1 i2 i3 => h i j (by omega) i2 (by omega)) (fun i j i1 i2 i3 => h' i j (by omega) i2 (by omega)) (fun x => ⟨?_, ?_⟩) k (by omega) (by omega)
    · rintro ⟨i, i1, i2, i3⟩
      obtain ⟨p, p1, p2, p3⟩ := (hs x).1 ⟨i, by omega, by omega, i3⟩
      refine ⟨p, ?_, by omega, p3⟩
      by_cases c : p = a
      · exfalso
        rw [c, ← e] at p3
        have := h a i (Nat.le_refl _) (by omega) (by omega)
        rw [p3, i3] at this
        exact irr _ this
      · omega
    · rintro ⟨i, i1, i2, i3⟩
      obtain ⟨p, p1, p2, p3⟩ := (hs x).2 ⟨i, by omega, by omega, i3⟩
      refine ⟨p, ?_, by omega, p3⟩
      by_cases c : p = a
      · exfalso
        rw [c, e] at p3
        have := h' a i (Nat.le_refl _) (by omega) (by omega)
        rw [p3, i3] at this
        exact irr _ this
      · omega
end
end Go.Proofs.YtpgdflhcmijaiaaDoor
namespace Go.Proofs.YtpgdflhcmijaiaaDoor
open Go Go.RowKit Go.Sort Go.Proofs.YtpgdflhcmijaiaaDoor.Ab
variable [Glo]
def icell (z : Int) : List V := [V.d (.i .i64 z)]
theorem own_ints {w : World} {H : Heap} {σ : Conc} {id ver e : Nat} {zs : List Int} (hw : WOk w H σ) (hr : H[id]? = some (.row ver e 1 (zs.map icell))) :
    (zs = [] ∧ ∃ a, σ id = .no a) ∨ ∃ g cap cur, σ id = .blk g cap ∧ w.heap[g]? = some (.cells cur e (0, 0)) ∧ zs.length ≤ cap ∧ cap ≤ maxLen ∧ cur.size = cap ∧ ∀ (j : Nat) (z : Int), zs[j]? = some z → cur[j]? = some (.int .i64 z) := by
  rcases hw.obj _ _ _ _ _ hr with ⟨h1, h2⟩ | ⟨g, cap, cur, h1, h2, h3, h4, h5, h6, h7⟩ | ⟨g, cap, es, clock, sh, ks, vs, h1, h2, h3, _⟩
  · exact .inl ⟨by simpa using h2, h1⟩
  · refine .inr ⟨g, cap, cur, h1, h2, by simpa using h3, h4, by simpa using h5, fun j z hj => ?_⟩
    obtain ⟨cv, a1, a2, a3⟩ := h7 j 0 (icell z) (.d (.i .i64 z)) (by rw [List.getElem?_map, hj]; rfl) rfl
    obtain rfl := a3.inv_d.inv_i
    simpa using a1
  · cases h3
theorem own_holds {w : World} {g e : Nat} {cur : Array Value} {zs : List Int} (hh : w.heap[g]? = some (.cells cur e (0, 0))) (hc : ∀ (j : Nat) (z : Int), zs[j]? = some z → cur[j]? = some (.int .i64 z)) : Holds (Value.int .i64) w g 0 zs.toArray := fun j hj => by
  have hj : j < zs.length := by simpa using hj
  have := hc j zs[j] (List.getElem?_eq_getElem hj)
  refine ⟨?_, ?_⟩
  · simp only [World.cell?, hh, Option.isSome_none, Bool.false_eq_true, if_false, Nat.zero_add]
    rw [this]
    simp [hj]
  · simp [World.frozen?, hh]
theorem ints_turn {w : World} {H : Heap} {σ : Conc} {id ver ver' e g cap : Nat} {cur : Array Value} {zs zs' : List Int} (hw : WOk w H σ) (hr : H[id]? = some (.row ver e 1 (zs.map icell))) (hσ : σ id = .blk g cap) (hh : w.heap[g]? = some (.cells cur e (0, 0)))
    (hcap : cap ≤ maxLen) (hcur : cur.size = cap) (hl : zs'.length ≤ cap) (m : Nat) (hm : m ≤ zs'.length) (hv : ver ≤ ver') (hvv : ver = ver' → m = zs.length) (n : Nat) (os : Array Obj) :
    Pres w H σ (grow (Sort.putRow (Value.int .i64) (Sort.ahead w n) g 0 zs'.toArray) os) (H.set id (.row ver' e 1 ((zs'.take m).map icell))) (σ.put id (.blk g cap)) ∧ WOk (grow (Sort.putRow (Value.int .i64) (Sort.ahead w n) g 0 zs'.toArray) os) (H.set id (.row ver' e 1 ((zs'.take m).map icell))) (σ.put id (.blk g cap)) := by
  have hgl : g < w.heap.size := (Array.getElem?_eq_some_iff.1 hh).1
  have hmod : ∀ k, k < w.heap.size → (grow (Sort.putRow (Value.int .i64) (Sort.ahead w n) g 0 zs'.toArray) os).heap[k]? = if k = g then some (.cells (putCells (Value.int .i64) 0 zs'.toArray cur) e (0, 0)) else w.heap[k]? := fun k hk => by
    simp only [grow, Sort.putRow, mapBlock, Sort.ahead]
    rw [Array.getElem?_append_left (by simpa using hk), Array.getElem?_modify]
    by_cases hkg : k = g
    · subst hkg
      rw [if_pos rfl, if_pos rfl, hh]
      rfl
    · rw [if_neg (fun h => hkg h.symm), if_neg hkg]
  refine hw.set hr hv (fun h => ⟨hσ.symm, rfl, by rw [List.length_map, List.length_map, List.length_take, ← hvv h]; omega⟩) rfl rfl rfl (by simp [grow, Sort.putRow, mapBlock, Sort.ahead]) (fun k hk hne => ?_) (fun g' cap' h => by cases h; exact .inl ⟨cap, hσ⟩) (.inr <| .inl ⟨g, cap, putCells (Value.int .i64) 0 zs'.toArray cur, rfl, ?_, ?_, hcap, ?_, fun i row hi => ?_, fun i j row v hi hj => ?_⟩)
  · rw [hmod k hk, if_neg fun h => hne cap (by rw [h]; exact hσ)]
  · rw [hmod g hgl, if_pos rfl]
  · simp; omega
  · simp [putCells, hcur]
  · rw [List.getElem?_map] at hi
    obtain ⟨z, _, rfl⟩ := Option.map_eq_some_iff.1 hi
    rfl
  · rw [List.getElem?_map] at hi
    obtain ⟨z, hz, rfl⟩ := Option.map_eq_some_iff.1 hi
    have hj0 : j = 0 := by have := (List.getElem?_eq_some_iff.1 hj).1; simp [icell] at this; exact this
    subst hj0
    obtain rfl : V.d (.i .i64 z) = v := by simpa [icell] using hj
    rw [List.getElem?_take] at hz
    split at hz
    case isFalse => cases hz
    have hil := (List.getElem?_eq_some_iff.1 hz).1
    refine ⟨.int .i64 z, ?_, rfl, .d _ _ (.i _ _)⟩
    rw [Nat.mul_one, Nat.add_zero]
    simp only [putCells, Array.getElem?_mapIdx]
    have hic : i < cur.size := by omega
    rw [Array.getElem?_eq_getElem hic, Option.map_some, if_pos ⟨Nat.zero_le _, by simpa using hil⟩]
    have hz' := (List.getElem?_eq_some_iff.1 hz).2
    simp [hil, hz']
theorem sortI_A (e : Nat) (zs : List Int) (hlen : zs.length < 4611686018427387904) (id ver : Nat) (H : Heap) (K : V → Heap → Prop) (hr : H[id]? = some (.row ver e 1 (zs.map icell)))
    (hk : K (.tu []) (H.set id (.row ver e 1 ((zs.mergeSort fun x y => decide (x ≤ y)).map icell)))) : ACalls Tryd.prog 44 [.os id ver] H K := by
  unfold ACalls
  intro w σ args hw hl hrr
  obtain ⟨u, rfl⟩ : ∃ u, args = #[u] := Array.size_eq_one_iff.1 (by simpa using hl.symm)
  have hu := hrr 0 _ u rfl rfl
  obtain ⟨_, hv⟩ := hu.inv_os hr
  have hv := hv rfl
  subst hv
  rcases own_ints hw hr with ⟨rfl, a, ha⟩ | ⟨g, cap, cur, h1, h2, h3, h4, h5, h6⟩
  · rw [ha]
    refine (Any.slices_Sort_int_none Tryd.lays189 a 0 w).mono ?_
    rintro e' w' ⟨rfl, rfl⟩
    refine ⟨.tuple #[], .tu [], H, σ, rfl, ?_, .tu _ _ rfl (fun j c v h => by simp at h), hw, Pres.refl _ _ _⟩
    have : H.set id (.row ver e 1 ((([] : List Int).mergeSort fun x y => decide (x ≤ y)).map icell)) = H := set_same (by simpa using hr)
    rw [this] at hk
    exact hk
  · rw [h1]
    have hgl : g < w.heap.size := (Array.getElem?_eq_some_iff.1 h2).1
    have e1 : slv (.blk g cap) (zs.map icell).length = .slice (some ⟨g, 0, none⟩) zs.length cap := by rw [List.length_map]; rfl
    rw [e1]
    refine (Any.slices_Sort_int Tryd.lays189 g 0 cap zs w (own_holds h2 h6) hgl hlen).mono ?_
    rintro e' w' ⟨rfl, n, os, rfl⟩
    have hml : (zs.mergeSort fun x y => decide (x ≤ y)).length = zs.length := List.length_mergeSort ..
    obtain ⟨p, ok⟩ := ints_turn (ver' := ver) hw hr h1 h2 h4 h5 (zs' := zs.mergeSort fun x y => decide (x ≤ y)) (by omega) zs.length (by omega) (Nat.le_refl _) (fun _ => rfl) n os
    rw [List.take_of_length_le (by omega)] at p ok
    exact ⟨.tuple #[], .tu [], _, _, rfl, hk, .tu _ _ rfl (fun j c v h => by simp at h), ok, p⟩
theorem compactI_A (e : Nat) (zs : List Int) (hlen : zs.length ≤ 9223372036854775807) (id ver : Nat) (H : Heap) (K : V → Heap → Prop) (hr : H[id]? = some (.row ver e 1 (zs.map icell)))
    (hk : K (.os id (ver + 1)) (H.set id (.row (ver + 1) e 1 ((Lib.compact zs).map icell)))) : ACalls Tryd.prog 45 [.os id ver] H K := by
  unfold ACalls
  intro w σ args hw hl hrr
  obtain ⟨u, rfl⟩ : ∃ u, args = #[u] := Array.size_eq_one_iff.1 (by simpa using hl.symm)
  have hu := hrr 0 _ u rfl rfl
  have hnz := hu.nz_os hr
  obtain ⟨_, hv⟩ := hu.inv_os hr
  have hv := hv rfl
  subst hv
  have hid := (List.getElem?_eq_some_iff.1 hr).1
  rcases own_ints hw hr with ⟨rfl, a, ha⟩ | ⟨g, cap, cur, h1, h2, h3, h4, h5, h6⟩
  · rw [ha]
    refine (Any.slices_Compact_int_empty Tryd.lays2_20 a 0 w).mono ?_
    rintro e' w' ⟨rfl, rfl⟩
    obtain ⟨p, ok⟩ := hw.set (w' := w') (ver' := ver + 1) (e' := e) (sz' := 1) (rows' := []) (c := .no a) hr (by omega) (fun he => by omega) rfl rfl (OutSame.refl w') (Nat.le_refl _) (fun _ _ _ => rfl) (fun g cap hc => by cases hc) (.inl ⟨⟨a, rfl⟩, rfl⟩) (fun a' h => by cases h; exact hw.nil _ a ha)
    have ec : Lib.compact ([] : List Int) = [] := rfl
    rw [ec] at hk
    refine ⟨.slice a 0 0, .os id (ver + 1), _, _, rfl, hk, .os _ _ _ (by simpa using hid) fun v1 e1 s1 r1 hr1 => ?_, ok, p⟩
    rw [List.getElem?_set, if_pos rfl, if_pos hid] at hr1
    cases hr1
    exact ⟨Nat.le_refl _, fun _ => ⟨by decide, by simp [Conc.put, slv]⟩⟩
  · rw [h1]
    have e1 : slv (.blk g cap) (zs.map icell).length = .slice (some ⟨g, 0, none⟩) zs.length cap := by rw [List.length_map]; rfl
    rw [e1]
    refine (Any.slices_Compact_int Tryd.lays2_20 g 0 cap zs w (own_holds h2 h6) hlen h3).mono ?_
    rintro e' w' ⟨rfl, n, rfl⟩
    have hcl := Lib.compact_length_le zs
    obtain ⟨p, ok⟩ := ints_turn (ver' := ver + 1) hw hr h1 h2 h4 h5 (zs' := Lib.compact zs ++ List.replicate (zs.length - (Lib.compact zs).length) 0) (by simp; omega) (Lib.compact zs).length (by simp) (by omega) (fun h => by omega) n #[]
    rw [List.take_left, grow_empty] at p ok
    refine ⟨_, .os id (ver + 1), _, _, rfl, hk, .os _ _ _ (by simpa using hid) fun v1 e1 s1 r1 hr1 => ?_, ok, p⟩
    rw [List.getElem?_set, if_pos rfl, if_pos hid] at hr1
    cases hr1
    exact ⟨Nat.le_refl _, fun _ => ⟨by decide, by simp [Conc.put, slv]⟩⟩
end Go.Proofs.YtpgdflhcmijaiaaDoor
namespace Go.Proofs.YtpgdflhcmijaiaaDoor.Ab
open Go
variable [Glo]
theorem vcD_0 {P : Program} {n : Nat} {M : List Nat} {all l : List Oper} {H : Heap} {T : Frame → Prop} {F : Frame} : vcD P n M all H T 0 l F = T F := by
  unfold vcD; rfl
theorem vcD_n {P : Program} {n k : Nat} {M : List Nat} {all rest : List Oper} {d : Option Tmp} {op : Op} {ty : TypeId} {ps : String} {af : Array Edge} {H : Heap} {T : Frame → Prop} {F : Frame} : vcD P n M all H T (k + 1) (⟨d, op, ty, ps, af, none⟩ :: rest) F = (dstOk n d ∧ vcQ P M ⟨d, op, ty, ps, af, none⟩ F H (lk (fun v => vcD P n M all H T k rest (F.put d v)) .mk)) := by
  rw [vcD]; rfl
def vcDg (P : Program) (n : Nat) (M : List Nat) (all : List Oper) (H : Heap) (T : Frame → Prop) (k : Nat) (o : Oper) (rest : List Oper) (want : Bool) (d : Nat) (F : Frame) (x : V) : Prop :=
  match x with
  | .d (.b t) => d < n ∧ dstOk n o.dst ∧ (match want with
      | true => onB t (vcQ P M o (F.put (some d) (.d (.b true))) H (lk (fun v => vcD P n M all H T k rest ((F.put (some d) (.d (.b true))).put o.dst v)) .mk))
          (vcD P n M all H T k rest ((F.put (some d) (.d (.b false))).put o.dst .un))
      | false => onB t (vcD P n M all H T k rest ((F.put (some d) (.d (.b true))).put o.dst .un))
          (vcQ P M o (F.put (some d) (.d (.b false))) H (lk (fun v => vcD P n M all H T k rest ((F.put (some d) (.d (.b false))).put o.dst v)) .mk)))
  | .un => dstOk n o.dst ∧ vcD P n M all H T k rest (F.put o.dst .un)
  | _ => False
theorem vcD_s {P : Program} {n k j : Nat} {M : List Nat} {all rest : List Oper} {d : Option Tmp} {op : Op} {ty : TypeId} {ps : String} {af : Array Edge} {want : Bool} {H : Heap} {T : Frame → Prop} {F : Frame} : vcD P n M all H T (k + 1) (⟨d, op, ty, ps, af, some (j, want)⟩ :: rest) F = (match (all[j]?).bind (·.dst) with | some e => vcDg P n M all H T k ⟨d, op, ty, ps, af, some (j, want)⟩ rest want e F (F.get e) | none => False) := by
  rw [vcD]
  simp only []
  cases (all[j]?).bind (·.dst) <;> rfl
theorem vcDg_un {P : Program} {n k : Nat} {M : List Nat} {all rest : List Oper} {o : Oper} {want : Bool} {e : Nat} {H : Heap} {T : Frame → Prop} {F : Frame} : vcDg P n M all H T k o rest want e F .un = (dstOk n o.dst ∧ vcD P n M all H T k rest (F.put o.dst .un)) := rfl
theorem vcDg_t {P : Program} {n k : Nat} {M : List Nat} {all rest : List Oper} {o : Oper} {e : Nat} {t : Bool} {H : Heap} {T : Frame → Prop} {F : Frame} : vcDg P n M all H T k o rest true e F (.d (.b t)) = (e < n ∧ dstOk n o.dst ∧ onB t (vcQ P M o (F.put (some e) (.d (.b true))) H (lk (fun v => vcD P n M all H T k rest ((F.put (some e) (.d (.b true))).put o.dst v)) .mk)) (vcD P n M all H T k rest ((F.put (some e) (.d (.b false))).put o.dst .un))) := rfl
theorem vcDg_f {P : Program} {n k : Nat} {M : List Nat} {all rest : List Oper} {o : Oper} {e : Nat} {t : Bool} {H : Heap} {T : Frame → Prop} {F : Frame} : vcDg P n M all H T k o rest false e F (.d (.b t)) = (e < n ∧ dstOk n o.dst ∧ onB t (vcD P n M all H T k rest ((F.put (some e) (.d (.b true))).put o.dst .un)) (vcQ P M o (F.put (some e) (.d (.b false))) H (lk (fun v => vcD P n M all H T k rest ((F.put (some e) (.d (.b false))).put o.dst v)) .mk))) := rfl
theorem vcQ_o {P : Program} {M : List Nat} {o : Oper} {F : Frame} {H : Heap} {K : V → Prop} {u : Lk K} (hc : (match o.op with | .call _ => false | _ => true) = true) : vcQ P M o F H (lk K u) = vcOp P M o F H (lk (fun v H' => H' = H ∧ K v) .mk) := by
  unfold vcQ
  split
  · rename_i h; rw [h] at hc; cases hc
  · rfl
attribute [go_sem ↓ 2000] vcD_0 vcD_n vcD_s
attribute [go_sem ↓] vcDg_un vcDg_t vcDg_f
end Go.Proofs.YtpgdflhcmijaiaaDoor.Ab
