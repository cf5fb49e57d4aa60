/- Sorting by blocks that are merged, in plain words. No condition. -/
import Derived.Test.YtpgdflhcmijaiaaDoorQ36
set_option linter.all false
set_option linter.unusedSimpArgs false
set_option linter.unusedVariables false
namespace Go.Proofs.YtpgdflhcmijaiaaDoor
section
variable {α : Type} {cf : α → α → Int} {tg : α → Nat}
structure Okb (cf : α → α → Int) (tg : α → Nat) (g0 g : Nat → α) (p q : Nat) : Prop where
  s : Srt cf tg g p q
  m : ∀ x, Sg g p q x ↔ Sg g0 p q x
theorem Okb.of {g0 g g' : Nat → α} {p q : Nat} (h : Okb cf tg g0 g p q) (e : ∀ k, p ≤ k → k < q → g' k = g k) : Okb cf tg g0 g' p q := by
  refine ⟨fun i j h1 h2 h3 => by rw [e i h1 (by omega), e j (by omega) h3]; exact h.s i j h1 h2 h3, fun x => Iff.trans ?_ (h.m x)⟩
  constructor
  · rintro ⟨k, k1, k2, k3⟩; exact ⟨k, k1, k2, by rw [← k3, e k k1 k2]⟩
  · rintro ⟨k, k1, k2, k3⟩; exact ⟨k, k1, k2, by rw [← k3, e k k1 k2]⟩
theorem Okb.new {g0 g g' : Nat → α} {p q : Nat} (h : Pst p q g g') (s : Srt cf tg g' p q) (m : ∀ x, Sg g p q x ↔ Sg g0 p q x) : Okb cf tg g0 g' p q := ⟨s, fun x => (h.s x).trans (m x)⟩
theorem Okb.join {g0 g : Nat → α} {p m q : Nat} (h : Okb cf tg g0 g p m) (k : Okb cf tg g0 g m q) (h1 : p ≤ m) (h2 : m ≤ q) : ∀ x, Sg g p q x ↔ Sg g0 p q x := fun x => by
  constructor
  · rintro ⟨i, i1, i2, i3⟩
    by_cases c : i < m
    · obtain ⟨j, j1, j2, j3⟩ := (h.m x).1 ⟨i, i1, c, i3⟩; exact ⟨j, j1, by omega, j3⟩
    · obtain ⟨j, j1, j2, j3⟩ := (k.m x).1 ⟨i, by omega, i2, i3⟩; exact ⟨j, by omega, j2, j3⟩
  · rintro ⟨i, i1, i2, i3⟩
    by_cases c : i < m
    · obtain ⟨j, j1, j2, j3⟩ := (h.m x).2 ⟨i, i1, c, i3⟩; exact ⟨j, j1, by omega, j3⟩
    · obtain ⟨j, j1, j2, j3⟩ := (k.m x).2 ⟨i, by omega, i2, i3⟩; exact ⟨j, by omega, j2, j3⟩
theorem Okb.mrg {g0 g : Nat → α} {p m q n : Nat} (h : Okb cf tg g0 g p m) (k : Okb cf tg g0 g m q) (hq : q ≤ n) (ht : ∀ i j, i < j → j < n → tg (g0 i) < tg (g0 j)) : Mrg cf tg g p m q :=
  ⟨h.s, k.s, fun i j i1 i2 j1 j2 => by
    obtain ⟨a, a1, a2, a3⟩ := (h.m (g i)).1 ⟨i, i1, i2, rfl⟩
    obtain ⟨b, b1, b2, b3⟩ := (k.m (g j)).1 ⟨j, j1, j2, rfl⟩
    rw [← a3, ← b3]
    exact ht a b (by omega) (by omega)⟩
def Blk (cf : α → α → Int) (tg : α → Nat) (g0 g : Nat → α) (n s : Nat) : Prop := ∀ c, c * s < n → Okb cf tg g0 g (c * s) (min (c * s + s) n)
structure Half (cf : α → α → Int) (tg : α → Nat) (g0 g : Nat → α) (n s q : Nat) : Prop where
  d : ∀ c, c < q → Okb cf tg g0 g (c * (s + s)) (c * (s + s) + (s + s))
  r : ∀ c, q * (s + s) + c * s < n → Okb cf tg g0 g (q * (s + s) + c * s) (min (q * (s + s) + c * s + s) n)
  b : q * (s + s) ≤ n
  o : ∀ k, n ≤ k → g k = g0 k
theorem Half.zero {g0 g : Nat → α} {n s : Nat} (h : Blk cf tg g0 g n s) (o : ∀ k, n ≤ k → g k = g0 k) : Half cf tg g0 g n s 0 :=
  ⟨fun c hc => by omega, fun c hc => by simpa using h c (by simpa using hc), by simp, o⟩
theorem mul_step {c q s : Nat} (h : c < q) : c * s + s ≤ q * s := by
  have := Nat.mul_le_mul_right s (show c + 1 ≤ q from h)
  rwa [Nat.add_mul, Nat.one_mul] at this
theorem Half.two {g0 g : Nat → α} {n s q : Nat} (h : Half cf tg g0 g n s q) (hs : 0 < s) (hm : q * (s + s) + s < n) :
    Okb cf tg g0 g (q * (s + s)) (q * (s + s) + s) ∧ Okb cf tg g0 g (q * (s + s) + s) (min (q * (s + s) + s + s) n) := by
  have h1 := h.r 0 (by omega)
  have h2 := h.r 1 (by omega)
  rw [Nat.zero_mul, Nat.add_zero, Nat.min_eq_left (by omega)] at h1
  rw [Nat.one_mul] at h2
  exact ⟨h1, h2⟩
theorem Half.step {g0 g g' : Nat → α} {n s q : Nat} (h : Half cf tg g0 g n s q) (hs : 0 < s) (hb : q * (s + s) + (s + s) ≤ n) (p : Pst (q * (s + s)) (q * (s + s) + (s + s)) g g') (hS : Srt cf tg g' (q * (s + s)) (q * (s + s) + (s + s))) : Half cf tg g0 g' n s (q + 1) := by
  obtain ⟨t1, t2⟩ := h.two hs (by omega)
  rw [Nat.min_eq_left (by omega)] at t2
  have eq1 : (q + 1) * (s + s) = q * (s + s) + (s + s) := by rw [Nat.add_mul, Nat.one_mul]
  refine ⟨fun c hc => ?_, fun c hc => ?_, by omega, fun k hk => (p.o k (by omega)).trans (h.o k hk)⟩
  · by_cases e : c = q
    · rw [e]
      refine Okb.new p hS ?_
      have := t1.join t2 (by omega) (by omega)
      rwa [Nat.add_assoc] at this
    · have := mul_step (s := s + s) (show c < q by omega)
      exact (h.d c (by omega)).of fun k k1 k2 => p.o k (by omega)
  · have e2 : (q + 1) * (s + s) + c * s = q * (s + s) + (c + 2) * s := by rw [eq1, Nat.add_mul]; omega
    rw [e2] at hc ⊢
    have e3 : (c + 2) * s = c * s + 2 * s := Nat.add_mul ..
    exact (h.r (c + 2) hc).of fun k k1 k2 => p.o k (by omega)
theorem Half.last {g0 g g' : Nat → α} {n s q : Nat} (h : Half cf tg g0 g n s q) (hs : 0 < s) (hb : n < q * (s + s) + (s + s)) (hm : q * (s + s) + s < n) (p : Pst (q * (s + s)) n g g') (hS : Srt cf tg g' (q * (s + s)) n) : Blk cf tg g0 g' n (s + s) := by
  obtain ⟨t1, t2⟩ := h.two hs hm
  rw [Nat.min_eq_right (by omega)] at t2
  intro c hc
  by_cases e : c = q
  · rw [e, Nat.min_eq_right (by omega)]
    exact Okb.new p hS (t1.join t2 (by omega) (by omega))
  · by_cases e2 : c < q
    · have := mul_step (s := s + s) e2
      rw [Nat.min_eq_left (by omega)]
      exact (h.d c e2).of fun k k1 k2 => p.o k (by omega)
    · have := mul_step (s := s + s) (show q < c by omega)
      omega
theorem Half.none {g0 g : Nat → α} {n s q : Nat} (h : Half cf tg g0 g n s q) (hs : 0 < s) (hb : n < q * (s + s) + (s + s)) (hm : ¬ q * (s + s) + s < n) : Blk cf tg g0 g n (s + s) := by
  intro c hc
  by_cases e : c = q
  · have := h.r 0 (by rw [e] at hc; omega)
    rw [Nat.zero_mul, Nat.add_zero, Nat.min_eq_right (by omega)] at this
    rw [e, Nat.min_eq_right (by omega)]
    exact this
  · by_cases e2 : c < q
    · have := mul_step (s := s + s) e2
      have hq := h.b
      rw [Nat.min_eq_left (by omega)]
      exact h.d c e2
    · have := mul_step (s := s + s) (show q < c by omega)
      omega
structure Fst (cf : α → α → Int) (tg : α → Nat) (g0 g : Nat → α) (n s q : Nat) : Prop where
  d : ∀ c, c < q → Okb cf tg g0 g (c * s) (c * s + s)
  e : ∀ k, q * s ≤ k → g k = g0 k
  b : q * s ≤ n
theorem Fst.zero (g0 : Nat → α) (n s : Nat) : Fst cf tg g0 g0 n s 0 := ⟨fun c hc => by omega, fun _ _ => rfl, by simp⟩
theorem Fst.step {g0 g g' : Nat → α} {n s q : Nat} (h : Fst cf tg g0 g n s q) (hb : q * s + s ≤ n) (p : Pst (q * s) (q * s + s) g g') (hS : Srt cf tg g' (q * s) (q * s + s)) : Fst cf tg g0 g' n s (q + 1) := by
  have eq1 : (q + 1) * s = q * s + s := by rw [Nat.add_mul, Nat.one_mul]
  refine ⟨fun c hc => ?_, fun k hk => (p.o k (by omega)).trans (h.e k (by omega)), by omega⟩
  by_cases e : c = q
  · rw [e]
    refine Okb.new p hS fun x => ?_
    constructor
    · rintro ⟨k, k1, k2, k3⟩; exact ⟨k, k1, k2, by rw [← k3, h.e k k1]⟩
    · rintro ⟨k, k1, k2, k3⟩; exact ⟨k, k1, k2, by rw [← k3, h.e k k1]⟩
  · have := mul_step (s := s) (show c < q by omega)
    exact (h.d c (by omega)).of fun k k1 k2 => p.o k (by omega)
theorem Fst.last {g0 g g' : Nat → α} {n s q : Nat} (h : Fst cf tg g0 g n s q) (hb : n < q * s + s) (p : Pst (q * s) n g g') (hS : Srt cf tg g' (q * s) n) : Blk cf tg g0 g' n s ∧ ∀ k, n ≤ k → g' k = g0 k := by
  refine ⟨fun c hc => ?_, fun k hk => (p.o k (.inr hk)).trans (h.e k (by have := h.b; omega))⟩
  by_cases e : c = q
  · rw [e, Nat.min_eq_right (by omega)]
    refine Okb.new p hS fun x => ?_
    constructor
    · rintro ⟨k, k1, k2, k3⟩; exact ⟨k, k1, k2, by rw [← k3, h.e k k1]⟩
    · rintro ⟨k, k1, k2, k3⟩; exact ⟨k, k1, k2, by rw [← k3, h.e k k1]⟩
  · by_cases e2 : c < q
    · have := mul_step (s := s) e2
      have := h.b
      rw [Nat.min_eq_left (by omega)]
      exact (h.d c e2).of fun k k1 k2 => p.o k (by omega)
    · have := mul_step (s := s) (show q < c by omega)
      omega
theorem Blk.all {g0 g : Nat → α} {n s : Nat} (h : Blk cf tg g0 g n s) (hs : n ≤ s) (o : ∀ k, n ≤ k → g k = g0 k) : Pst 0 n g0 g ∧ Srt cf tg g 0 n := by
  by_cases h0 : n = 0
  · subst h0
    exact ⟨⟨fun k _ => o k (Nat.zero_le _), fun x => ⟨fun ⟨k, _, k2, _⟩ => by omega, fun ⟨k, _, k2, _⟩ => by omega⟩⟩, fun i j _ _ h3 => by omega⟩
  · have := h 0 (by omega)
    rw [Nat.zero_mul, Nat.zero_add, Nat.min_eq_right hs] at this
    exact ⟨⟨fun k hk => o k (by omega), this.m⟩, this.s⟩
end
end Go.Proofs.YtpgdflhcmijaiaaDoor
