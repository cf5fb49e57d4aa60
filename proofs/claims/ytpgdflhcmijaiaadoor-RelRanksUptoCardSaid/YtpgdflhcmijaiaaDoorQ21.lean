/- Items, nodes, events, tokens as known cells. No condition. -/
import Derived.Test.YtpgdflhcmijaiaaDoorQ18
set_option linter.all false
set_option linter.unusedSimpArgs false
set_option linter.unusedVariables false
namespace Go.Proofs.YtpgdflhcmijaiaaDoor
open Go Go.Proofs.YtpgdflhcmijaiaaDoor.Ab
variable [Glo]
structure It where
  k : Int
  n : Int
  s : List UInt8
  deriving DecidableEq
def itD (x : It) : List D := [.i .i64 x.k, .i .i64 x.n, .s x.s]
def itV (x : It) : V := .ag [.d (.i .i64 x.k), .d (.i .i64 x.n), .d (.s x.s)]
structure Nd where
  k : Int
  nm : List UInt8
  vl : List UInt8
  sz : Int
  lv : Int
  up : Int
  deriving DecidableEq
def ndD (x : Nd) : List D := [.i .i64 x.k, .s x.nm, .s x.vl, .i .i64 x.sz, .i .i64 x.lv, .i .i64 x.up]
def ndV (x : Nd) : V := .ag [.d (.i .i64 x.k), .d (.s x.nm), .d (.s x.vl), .d (.i .i64 x.sz), .d (.i .i64 x.lv), .d (.i .i64 x.up)]
structure Ev where
  k : Int
  nm : List UInt8
  vl : List UInt8
  deriving DecidableEq
def evD (x : Ev) : List D := [.i .i64 x.k, .s x.nm, .s x.vl]
def evV (x : Ev) : V := .ag [.d (.i .i64 x.k), .d (.s x.nm), .d (.s x.vl)]
structure Tk where
  k : Int
  s : List UInt8
  n : Int
  deriving DecidableEq
def tkD (x : Tk) : List D := [.i .i64 x.k, .s x.s, .i .i64 x.n]
def tkV (x : Tk) : V := .ag [.d (.i .i64 x.k), .d (.s x.s), .d (.i .i64 x.n)]
abbrev tyIt : Ty := .cons (.i .i64) (.cons (.i .i64) (.cons .s .nil))
abbrev tyNd : Ty := .cons (.i .i64) (.cons .s (.cons .s (.cons (.i .i64) (.cons (.i .i64) (.cons (.i .i64) .nil)))))
abbrev tyEv : Ty := .cons (.i .i64) (.cons .s (.cons .s .nil))
abbrev tyTk : Ty := .cons (.i .i64) (.cons .s (.cons (.i .i64) .nil))
theorem inR_le {n : Int} (h : inR .i64 n) : -9223372036854775808 ≤ n ∧ n ≤ 9223372036854775807 := by rwa [inR_i64] at h
theorem typed_it {ds : List D} {m : Nat} (h : Typed tyIt ds m) : ∃ x : It, ds = itD x ∧ x.s.length + 3 ≤ m ∧ inR .i64 x.n ∧ inR .i64 x.k := by
  obtain ⟨_, _, _, _, rfl, e1, h1, g1⟩ := typed_cons h
  obtain ⟨_, _, _, _, rfl, e2, h2, g2⟩ := typed_cons g1
  obtain ⟨_, _, _, _, rfl, e3, h3, g3⟩ := typed_cons g2
  obtain ⟨a, rfl, ra, la⟩ := typed_i h1
  obtain ⟨b, rfl, rb, lb⟩ := typed_i h2
  obtain ⟨s, rfl, ls⟩ := typed_s h3
  obtain rfl := typed_nil g3
  exact ⟨⟨a, b, s⟩, rfl, by simp only []; omega, rb, ra⟩
theorem typed_nd {ds : List D} {m : Nat} (h : Typed tyNd ds m) : ∃ x : Nd, ds = ndD x ∧ x.nm.length + x.vl.length + 6 ≤ m ∧ inR .i64 x.k ∧ inR .i64 x.sz ∧ inR .i64 x.lv ∧ inR .i64 x.up := by
  obtain ⟨_, _, _, _, rfl, e1, h1, g1⟩ := typed_cons h
  obtain ⟨_, _, _, _, rfl, e2, h2, g2⟩ := typed_cons g1
  obtain ⟨_, _, _, _, rfl, e3, h3, g3⟩ := typed_cons g2
  obtain ⟨_, _, _, _, rfl, e4, h4, g4⟩ := typed_cons g3
  obtain ⟨_, _, _, _, rfl, e5, h5, g5⟩ := typed_cons g4
  obtain ⟨_, _, _, _, rfl, e6, h6, g6⟩ := typed_cons g5
  obtain ⟨a, rfl, ra, la⟩ := typed_i h1
  obtain ⟨b, rfl, lb⟩ := typed_s h2
  obtain ⟨c, rfl, lc⟩ := typed_s h3
  obtain ⟨d, rfl, rd, ld⟩ := typed_i h4
  obtain ⟨e, rfl, re, le⟩ := typed_i h5
  obtain ⟨f, rfl, rf, lf⟩ := typed_i h6
  obtain rfl := typed_nil g6
  exact ⟨⟨a, b, c, d, e, f⟩, rfl, by simp only []; omega, ra, rd, re, rf⟩
theorem typed_ev {ds : List D} {m : Nat} (h : Typed tyEv ds m) : ∃ x : Ev, ds = evD x ∧ x.nm.length + x.vl.length + 3 ≤ m ∧ inR .i64 x.k := by
  obtain ⟨_, _, _, _, rfl, e1, h1, g1⟩ := typed_cons h
  obtain ⟨_, _, _, _, rfl, e2, h2, g2⟩ := typed_cons g1
  obtain ⟨_, _, _, _, rfl, e3, h3, g3⟩ := typed_cons g2
  obtain ⟨a, rfl, ra, la⟩ := typed_i h1
  obtain ⟨b, rfl, lb⟩ := typed_s h2
  obtain ⟨s, rfl, ls⟩ := typed_s h3
  obtain rfl := typed_nil g3
  exact ⟨⟨a, b, s⟩, rfl, by simp only []; omega, ra⟩
theorem typed_tk {ds : List D} {m : Nat} (h : Typed tyTk ds m) : ∃ x : Tk, ds = tkD x ∧ x.s.length + 3 ≤ m ∧ inR .i64 x.k ∧ inR .i64 x.n := by
  obtain ⟨_, _, _, _, rfl, e1, h1, g1⟩ := typed_cons h
  obtain ⟨_, _, _, _, rfl, e2, h2, g2⟩ := typed_cons g1
  obtain ⟨_, _, _, _, rfl, e3, h3, g3⟩ := typed_cons g2
  obtain ⟨a, rfl, ra, la⟩ := typed_i h1
  obtain ⟨b, rfl, lb⟩ := typed_s h2
  obtain ⟨s, rfl, rs, ls⟩ := typed_i h3
  obtain rfl := typed_nil g3
  exact ⟨⟨a, b, s⟩, rfl, by simp only []; omega, ra, rs⟩
theorem typed_list {α : Type} {E : Ty} {f : α → List D} {p : α → Nat → Prop} (hE : ∀ ds m, Typed E ds m → ∃ x, ds = f x ∧ p x m) {ds : List D} {m : Nat} (h : Typed (.sl E) ds m) :
    ∃ (xs : List α) (ws : List Nat), ds = [.sl E.size (xs.map f)] ∧ ws.length = xs.length ∧ ws.sum + 1 ≤ m ∧ ∀ (i : Nat) (x : α) (w : Nat), xs[i]? = some x → ws[i]? = some w → p x w := by
  obtain ⟨rows, rfl, ws, h1, h2, h3⟩ := typed_sl h
  have : ∀ (rows : List (List D)) (ws : List Nat), ws.length = rows.length → (∀ (i : Nat) (row : List D) (w : Nat), rows[i]? = some row → ws[i]? = some w → Typed E row w) → ∃ xs : List α, rows = xs.map f ∧ ∀ (i : Nat) (x : α) (w : Nat), xs[i]? = some x → ws[i]? = some w → p x w := by
    intro rows
    induction rows with
    | nil => intro ws _ _; exact ⟨[], rfl, by simp⟩
    | cons r rows ih =>
      intro ws hl hw
      cases ws with
      | nil => simp at hl
      | cons w ws =>
        obtain ⟨x, rfl, hx⟩ := hE r w (hw 0 r w rfl rfl)
        obtain ⟨xs, rfl, hxs⟩ := ih ws (by simpa using hl) (fun i row w' h1 h2 => hw (i + 1) row w' (by simpa using h1) (by simpa using h2))
        refine ⟨x :: xs, rfl, fun i y w' h1 h2 => ?_⟩
        cases i with
        | zero => simp at h1 h2; subst h1 h2; exact hx
        | succ i => exact hxs i y w' (by simpa using h1) (by simpa using h2)
  obtain ⟨xs, rfl, hxs⟩ := this rows ws h1 h3
  exact ⟨xs, ws, rfl, by simpa using h1, h2, hxs⟩
theorem le_sum : ∀ {ws : List Nat} {i w : Nat}, ws[i]? = some w → w ≤ ws.sum
  | [], i, w, h => by simp at h
  | x :: ws, 0, w, h => by simp at h; subst h; simp
  | x :: ws, i + 1, w, h => by
    have := le_sum (ws := ws) (i := i) (w := w) (by simpa using h)
    simp only [List.sum_cons]
    omega
theorem len_sum {ws : List Nat} (c : Nat) (h : ∀ (i w : Nat), ws[i]? = some w → c ≤ w) : c * ws.length ≤ ws.sum := by
  induction ws with
  | nil => simp
  | cons x ws ih =>
    have h1 := h 0 x rfl
    have h2 := ih fun i w hw => h (i + 1) w (by simpa using hw)
    simp only [List.length_cons, List.sum_cons, Nat.mul_add]
    omega
end Go.Proofs.YtpgdflhcmijaiaaDoor
namespace Go.Proofs.YtpgdflhcmijaiaaDoor
section
variable {α : Type} (cf : α → α → Int) (tg : α → Nat)
structure Weak : Prop where
  asym : ∀ x y, cf x y < 0 → ¬ cf y x < 0
  tr : ∀ x y z, ¬ cf y x < 0 → ¬ cf z y < 0 → ¬ cf z x < 0
def bef (x y : α) : Prop := cf x y < 0 ∨ (¬ cf y x < 0 ∧ tg x < tg y)
variable {cf tg}
theorem bef_le (w : Weak cf) {x y : α} (h : bef cf tg x y) : ¬ cf y x < 0 := h.elim (w.asym _ _) (·.1)
theorem bef_lt_le (w : Weak cf) {x y z : α} (h : cf x y < 0) (k : ¬ cf z y < 0) : cf x z < 0 :=
  Classical.byContradiction fun hn => w.tr y z x k hn h
theorem bef_le_lt (w : Weak cf) {x y z : α} (k : ¬ cf y x < 0) (h : cf y z < 0) : cf x z < 0 :=
  Classical.byContradiction fun hn => w.tr z x y hn k h
theorem bef_trans (w : Weak cf) {x y z : α} (h : bef cf tg x y) (k : bef cf tg y z) : bef cf tg x z := by
  rcases h with h | ⟨h1, h2⟩
  · exact .inl (bef_lt_le w h (bef_le w k))
  · rcases k with k | ⟨k1, k2⟩
    · exact .inl (bef_le_lt w h1 k)
    · exact .inr ⟨w.tr _ _ _ h1 k1, Nat.lt_trans h2 k2⟩
theorem bef_asym (w : Weak cf) {x y : α} (h : bef cf tg x y) (k : bef cf tg y x) : False := by
  rcases h with h | ⟨h1, h2⟩
  · exact bef_le w k h
  · rcases k with k | ⟨k1, k2⟩
    · exact h1 k
    · omega
variable (cf tg)
def Srt (g : Nat → α) (a b : Nat) : Prop := ∀ i j, a ≤ i → i < j → j < b → bef cf tg (g i) (g j)
variable {tg}
structure Mrg (tg : α → Nat) (g : Nat → α) (a m b : Nat) : Prop where
  l : Srt cf tg g a m
  r : Srt cf tg g m b
  t : ∀ i j, a ≤ i → i < m → m ≤ j → j < b → tg (g i) < tg (g j)
variable {cf}
def Sg (g : Nat → α) (a b : Nat) (x : α) : Prop := ∃ k, a ≤ k ∧ k < b ∧ g k = x
structure Pst (a b : Nat) (g g' : Nat → α) : Prop where
  o : ∀ k, k < a ∨ b ≤ k → g' k = g k
  s : ∀ x, Sg g' a b x ↔ Sg g a b x
theorem Pst.refl (a b : Nat) (g : Nat → α) : Pst a b g g := ⟨fun _ _ => rfl, fun _ => Iff.rfl⟩
theorem Pst.trans {a b : Nat} {g g1 g2 : Nat → α} (h : Pst a b g g1) (k : Pst a b g1 g2) : Pst a b g g2 := ⟨fun i hi => (k.o i hi).trans (h.o i hi), fun x => (k.s x).trans (h.s x)⟩
theorem Pst.wide {a b a' b' : Nat} {g g' : Nat → α} (h : Pst a b g g') (ha : a' ≤ a) (hab : a ≤ b) (hb : b ≤ b') : Pst a' b' g g' := by
  refine ⟨fun k hk => h.o k (by omega), fun x => ⟨?_, ?_⟩⟩
  · rintro ⟨k, k1, k2, rfl⟩
    by_cases hk : a ≤ k ∧ k < b
    · obtain ⟨q, q1, q2, q3⟩ := (h.s (g' k)).1 ⟨k, hk.1, hk.2, rfl⟩
      exact ⟨q, by omega, by omega, q3⟩
    · exact ⟨k, k1, k2, (h.o k (by omega)).symm⟩
  · rintro ⟨k, k1, k2, rfl⟩
    by_cases hk : a ≤ k ∧ k < b
    · obtain ⟨q, q1, q2, q3⟩ := (h.s (g k)).2 ⟨k, hk.1, hk.2, rfl⟩
      exact ⟨q, by omega, by omega, q3⟩
    · exact ⟨k, k1, k2, h.o k (by omega)⟩
def rotF (g : Nat → α) (s m e k : Nat) : α := if s ≤ k ∧ k < s + (e - m) then g (k + (m - s)) else if s + (e - m) ≤ k ∧ k < e then g (k - (e - m)) else g k
theorem rot1 {g : Nat → α} {s m e k : Nat} (h1 : s ≤ k) (h2 : k < s + (e - m)) : rotF g s m e k = g (k + (m - s)) := if_pos ⟨h1, h2⟩
theorem rot2 {g : Nat → α} {s m e k : Nat} (h1 : s + (e - m) ≤ k) (h2 : k < e) : rotF g s m e k = g (k - (e - m)) := by
  rw [rotF, if_neg (by omega), if_pos ⟨h1, h2⟩]
theorem rot3 {g : Nat → α} {s m e k : Nat} (hs : s ≤ m) (he : m ≤ e) (h : k < s ∨ e ≤ k) : rotF g s m e k = g k := by
  rw [rotF, if_neg (by omega), if_neg (by omega)]
theorem rot_post {g : Nat → α} {s m e : Nat} (hs : s ≤ m) (he : m ≤ e) : Pst s e g (rotF g s m e) := by
  refine ⟨fun k hk => rot3 hs he hk, fun x => ⟨?_, ?_⟩⟩
  · rintro ⟨k, k1, k2, rfl⟩
    by_cases h : k < s + (e - m)
    · exact ⟨k + (m - s), by omega, by omega, (rot1 k1 h).symm⟩
    · exact ⟨k - (e - m), by omega, by omega, (rot2 (by omega) k2).symm⟩
  · rintro ⟨k, k1, k2, rfl⟩
    by_cases h : k < m
    · exact ⟨k + (e - m), by omega, by omega, by rw [rot2 (by omega) (by omega), Nat.add_sub_cancel]⟩
    · refine ⟨k - (m - s), by omega, by omega, ?_⟩
      rw [rot1 (by omega) (by omega)]
      congr 1; omega
theorem Mrg.one {g : Nat → α} {a m b : Nat} (h : Mrg cf tg g a m b) (c : ∀ i j, a ≤ i → i < m → m ≤ j → j < b → ¬ cf (g j) (g i) < 0) : Srt cf tg g a b := by
  intro i j h1 h2 h3
  by_cases hj : j < m
  · exact h.l i j h1 h2 hj
  by_cases hi : m ≤ i
  · exact h.r i j hi h2 h3
  · exact .inr ⟨c i j h1 (by omega) (by omega) h3, h.t i j h1 (by omega) (by omega) h3⟩
section
variable {g : Nat → α} {a s m e b : Nat} (h : Mrg cf tg g a m b) (ha : a ≤ s) (hs : s ≤ m) (he : m ≤ e) (hb : e ≤ b)
include h ha hs he hb
theorem rot_l : Mrg cf tg (rotF g s m e) a s (s + (e - m)) := by
  refine ⟨fun i j h1 h2 h3 => ?_, fun i j h1 h2 h3 => ?_, fun i j h1 h2 h3 h4 => ?_⟩
  · rw [rot3 hs he (by omega), rot3 hs he (by omega)]
    exact h.l i j h1 h2 (by omega)
  · rw [rot1 (by omega) (by omega), rot1 (by omega) (by omega)]
    exact h.r _ _ (by omega) (by omega) (by omega)
  · rw [rot3 hs he (by omega), rot1 (by omega) (by omega)]
    exact h.t _ _ (by omega) (by omega) (by omega) (by omega)
theorem rot_r : Mrg cf tg (rotF g s m e) (s + (e - m)) e b := by
  refine ⟨fun i j h1 h2 h3 => ?_, fun i j h1 h2 h3 => ?_, fun i j h1 h2 h3 h4 => ?_⟩
  · rw [rot2 (by omega) (by omega), rot2 (by omega) (by omega)]
    exact h.l _ _ (by omega) (by omega) (by omega)
  · rw [rot3 hs he (by omega), rot3 hs he (by omega)]
    exact h.r _ _ (by omega) (by omega) (by omega)
  · rw [rot2 (by omega) (by omega), rot3 hs he (by omega)]
    exact h.t _ _ (by omega) (by omega) (by omega) (by omega)
theorem rot_x (w : Weak cf) (c1 : ∀ i j, s ≤ i → i < m → m ≤ j → j < e → cf (g j) (g i) < 0) (c2 : ∀ i j, a ≤ i → i < s → e ≤ j → j < b → ¬ cf (g j) (g i) < 0) :
    ∀ i j, a ≤ i → i < s + (e - m) → s + (e - m) ≤ j → j < b → bef cf tg (rotF g s m e i) (rotF g s m e j) := by
  intro i j h1 h2 h3 h4
  by_cases hi : i < s
  · rw [rot3 hs he (by omega)]
    by_cases hj : j < e
    · rw [rot2 (by omega) hj]
      exact h.l _ _ h1 (by omega) (by omega)
    · rw [rot3 hs he (by omega)]
      exact .inr ⟨c2 i j h1 hi (by omega) h4, h.t i j h1 (by omega) (by omega) h4⟩
  · rw [rot1 (by omega) h2]
    by_cases hj : j < e
    · rw [rot2 (by omega) hj]
      exact .inl (c1 _ _ (by omega) (by omega) (by omega) (by omega))
    · rw [rot3 hs he (by omega)]
      exact h.r _ _ (by omega) (by omega) h4
end
theorem halves {h g1 : Nat → α} {a c b : Nat} (hac : a ≤ c) (hcb : c ≤ b) (x : ∀ i j, a ≤ i → i < c → c ≤ j → j < b → bef cf tg (h i) (h j))
    (p1 : ∀ y, Sg g1 a c y ↔ Sg h a c y) (p2 : ∀ y, Sg g1 c b y ↔ Sg h c b y) (s1 : Srt cf tg g1 a c) (s2 : Srt cf tg g1 c b) : Srt cf tg g1 a b := by
  intro i j h1 h2 h3
  by_cases hj : j < c
  · exact s1 i j h1 h2 hj
  by_cases hi : c ≤ i
  · exact s2 i j hi h2 h3
  · obtain ⟨p, q1, q2, q3⟩ := (p1 (g1 i)).1 ⟨i, h1, by omega, rfl⟩
    obtain ⟨q, r1, r2, r3⟩ := (p2 (g1 j)).1 ⟨j, by omega, h3, rfl⟩
    rw [← q3, ← r3]
    exact x p q q1 q2 r1 r2
theorem Mrg.of {g g' : Nat → α} {a m b : Nat} (h : Mrg cf tg g a m b) (e : ∀ k, a ≤ k → k < b → g' k = g k) (ham : a ≤ m) (hmb : m ≤ b) : Mrg cf tg g' a m b :=
  ⟨fun i j h1 h2 h3 => by rw [e i h1 (by omega), e j (by omega) (by omega)]; exact h.l i j h1 h2 h3,
   fun i j h1 h2 h3 => by rw [e i (by omega) (by omega), e j (by omega) h3]; exact h.r i j h1 h2 h3,
   fun i j h1 h2 h3 h4 => by rw [e i h1 (by omega), e j (by omega) h4]; exact h.t i j h1 h2 h3 h4⟩
def insF (g : Nat → α) (j i k : Nat) : α := if k < j then g k else if k = j then g i else if k ≤ i then g (k - 1) else g k
theorem ins_post {g : Nat → α} {a j i b : Nat} (h1 : a ≤ j) (h2 : j ≤ i) (h3 : i < b) : Pst a b g (insF g j i) := by
  have e : insF g j i = rotF g j i (i + 1) := by
    funext k
    unfold insF rotF
    by_cases c1 : k < j
    · rw [if_pos c1, if_neg (by omega), if_neg (by omega)]
    rw [if_neg c1]
    by_cases c2 : k = j
    · subst c2
      rw [if_pos rfl, if_pos ⟨Nat.le_refl _, by omega⟩]
      congr 1; omega
    rw [if_neg c2]
    by_cases c3 : k ≤ i
    · rw [if_pos c3, if_neg (by omega), if_pos ⟨by omega, by omega⟩]
      congr 1; omega
    · rw [if_neg c3, if_neg (by omega), if_neg (by omega)]
  rw [e]
  exact (rot_post h2 (Nat.le_succ i)).wide h1 (by omega) (by omega)
theorem ins_srt (w : Weak cf) {g : Nat → α} {a j i : Nat} (h1 : a ≤ j) (h2 : j ≤ i) (hs : Srt cf tg g a i) (ht : ∀ k, a ≤ k → k < i → tg (g k) < tg (g i)) (hl : ∀ k, j ≤ k → k < i → cf (g i) (g k) < 0)
    (hx : j = a ∨ ¬ cf (g i) (g (j - 1)) < 0) : Srt cf tg (insF g j i) a (i + 1) := by
  have v1 : ∀ k, k < j → insF g j i k = g k := fun k h => if_pos h
  have v2 : insF g j i j = g i := by rw [insF, if_neg (Nat.lt_irrefl _), if_pos rfl]
  have v3 : ∀ k, j < k → k ≤ i → insF g j i k = g (k - 1) := fun k h h' => by rw [insF, if_neg (by omega), if_neg (by omega), if_pos h']
  have lo : ∀ p, a ≤ p → p < j → bef cf tg (g p) (g i) := fun p hp hpj => by
    refine .inr ⟨?_, ht p hp (by omega)⟩
    rcases hx with hx | hx
    · omega
    · by_cases hq : p = j - 1
      · rw [hq]; exact hx
      · exact w.tr _ _ _ (bef_le w (hs p (j - 1) hp (by omega) (by omega))) hx
  intro p q hp hpq hq
  by_cases c1 : q < j
  · rw [v1 p (by omega), v1 q c1]
    exact hs p q hp hpq (by omega)
  by_cases c2 : q = j
  · rw [c2, v2, v1 p (by omega)]
    exact lo p hp (by omega)
  rw [v3 q (by omega) (by omega)]
  by_cases d1 : p < j
  · rw [v1 p d1]
    exact hs p (q - 1) hp (by omega) (by omega)
  by_cases d2 : p = j
  · rw [d2, v2]
    exact .inl (hl _ (by omega) (by omega))
  · rw [v3 p (by omega) (by omega)]
    exact hs (p - 1) (q - 1) (by omega) (by omega) (by omega)
theorem srt_uniq (w : Weak cf) {g g' : Nat → α} : ∀ (n a : Nat), Srt cf tg g a (a + n) → Srt cf tg g' a (a + n) → (∀ x, Sg g a (a + n) x ↔ Sg g' a (a + n) x) → ∀ k, a ≤ k → k < a + n → g k = g' k
  | 0, a, _, _, _, k, h1, h2 => by omega
  | n + 1, a, h, h', hs, k, h1, h2 => by
    have e : g a = g' a := by
      obtain ⟨p, p1, p2, p3⟩ := (hs (g a)).1 ⟨a, Nat.le_refl _, by omega, rfl⟩
      obtain ⟨q, q1, q2, q3⟩ := (hs (g' a)).2 ⟨a, Nat.le_refl _, by omega, rfl⟩
      by_cases c1 : p = a
      · rw [← p3, c1]
      by_cases c2 : q = a
      · rw [← q3, c2]
      have b1 := h' a p (Nat.le_refl _) (by omega) p2
      have b2 := h a q (Nat.le_refl _) (by omega) q2
      rw [p3] at b1
      rw [q3] at b2
      exact (bef_asym w b1 b2).elim
    by_cases hk : k = a
    · rw [hk]; exact e
    have irr : ∀ x, ¬ bef cf tg x x := fun x hx => bef_asym w hx hx
    refine srt_uniq w n (a + 1) (fun i j i1 i2 i3 => h i j (by omega) i2 (by omega)) (fun i j i1 i2 i3 => h' i j (by omega) i2 (by omega)) (fun x => ⟨?_, ?_⟩) k (by omega) (by omega)
    · rintro ⟨i, i1, i2, i3⟩
      obtain ⟨p, p1, p2, p3⟩ := (hs x).1 ⟨i, by omega, by omega, i3⟩
      refine ⟨p, ?_, by omega, p3⟩
      by_cases c : p = a
      · exfalso
        rw [c, ← e] at p3
        have := h a i (Nat.le_refl _) (by omega) (by omega)
        rw [p3, i3] at this
        exact irr _ this
      · omega
    · rintro ⟨i, i1, i2, i3⟩
      obtain ⟨p, p1, p2, p3⟩ := (hs x).2 ⟨i, by omega, by omega, i3⟩
      refine ⟨p, ?_, by omega, p3⟩
      by_cases c : p = a
      · exfalso
        rw [c, e] at p3
        have := h' a i (Nat.le_refl _) (by omega) (by omega)
        rw [p3, i3] at this
        exact irr _ this
      · omega
end
end Go.Proofs.YtpgdflhcmijaiaaDoor
