/- Merging two sorted neighbours, in plain words: what the searches find, and what comes of it. No condition. -/
import Derived.Test.YtpgdflhcmijaiaaDoorQ23
set_option linter.all false
set_option linter.unusedSimpArgs false
set_option linter.unusedVariables false
namespace Go.Proofs.YtpgdflhcmijaiaaDoor
section
variable {α : Type} {cf : α → α → Int} {tg : α → Nat}
theorem rot_self {g : Nat → α} {s e : Nat} (h : s ≤ e) : rotF g s s e = g := by
  funext k
  by_cases c : s ≤ k ∧ k < e
  · rw [rot1 c.1 (by omega), Nat.sub_self, Nat.add_zero]
  · rw [rot3 (Nat.le_refl _) h (by omega)]
theorem rot_self2 {g : Nat → α} {s m : Nat} (h : s ≤ m) : rotF g s m m = g := by
  funext k
  by_cases c : s ≤ k ∧ k < m
  · rw [rot2 (by omega) c.2, Nat.sub_self, Nat.sub_zero]
  · rw [rot3 h (Nat.le_refl _) (by omega)]
theorem ins_rot {g : Nat → α} {j i : Nat} (h2 : j ≤ i) : insF g j i = rotF g j i (i + 1) := by
  funext k
  unfold insF rotF
  by_cases c1 : k < j
  · rw [if_pos c1, if_neg (by omega), if_neg (by omega)]
  rw [if_neg c1]
  by_cases c2 : k = j
  · subst c2
    rw [if_pos rfl, if_pos ⟨Nat.le_refl _, by omega⟩]
    congr 1; omega
  rw [if_neg c2]
  by_cases c3 : k ≤ i
  · rw [if_pos c3, if_neg (by omega), if_pos ⟨by omega, by omega⟩]
    congr 1; omega
  · rw [if_neg c3, if_neg (by omega), if_neg (by omega)]
theorem up_step {g : Nat → α} {a k : Nat} (h : a ≤ k) : upd (upd (rotF g a (a + 1) (k + 1)) k (rotF g a (a + 1) (k + 1) (k + 1))) (k + 1) (rotF g a (a + 1) (k + 1) k) = rotF g a (a + 1) (k + 1 + 1) := by
  have v1 : rotF g a (a + 1) (k + 1) (k + 1) = g (k + 1) := rot3 (by omega) (by omega) (.inr (Nat.le_refl _))
  have v2 : rotF g a (a + 1) (k + 1) k = g a := by
    rw [rot2 (by omega) (by omega)]
    congr 1; omega
  funext q
  rw [upd, v1, v2]
  by_cases c1 : q = k + 1
  · rw [if_pos c1, rot2 (by omega) (by omega)]
    congr 1; omega
  rw [if_neg c1, upd]
  by_cases c2 : q = k
  · rw [if_pos c2, c2, rot1 h (by omega)]
    congr 1; omega
  rw [if_neg c2]
  by_cases c3 : a ≤ q ∧ q < k
  · rw [rot1 c3.1 (by omega), rot1 c3.1 (by omega)]
  · rw [rot3 (by omega) (by omega) (by omega), rot3 (by omega) (by omega) (by omega)]
theorem mrg_end (w : Weak cf) {g g1 : Nat → α} {a s m e b : Nat} (h : Mrg cf tg g a m b) (ha : a ≤ s) (hs : s ≤ m) (he : m ≤ e) (hb : e ≤ b)
    (c1 : ∀ i j, s ≤ i → i < m → m ≤ j → j < e → cf (g j) (g i) < 0) (c2 : ∀ i j, a ≤ i → i < s → e ≤ j → j < b → ¬ cf (g j) (g i) < 0)
    (p : Pst a b (rotF g s m e) g1) (p1 : ∀ y, Sg g1 a (s + (e - m)) y ↔ Sg (rotF g s m e) a (s + (e - m)) y) (p2 : ∀ y, Sg g1 (s + (e - m)) b y ↔ Sg (rotF g s m e) (s + (e - m)) b y)
    (s1 : Srt cf tg g1 a (s + (e - m))) (s2 : Srt cf tg g1 (s + (e - m)) b) : Pst a b g g1 ∧ Srt cf tg g1 a b :=
  ⟨((rot_post hs he).wide ha (by omega) hb).trans p, halves (by omega) (by omega) (rot_x h ha hs he hb w c1 c2) p1 p2 s1 s2⟩
theorem mrg_a (w : Weak cf) {g : Nat → α} {a i b : Nat} (h : Mrg cf tg g a (a + 1) b) (h1 : a + 1 ≤ i) (h2 : i ≤ b) (q1 : ∀ k, a + 1 ≤ k → k < i → cf (g k) (g a) < 0) (q2 : ∀ k, i ≤ k → k < b → ¬ cf (g k) (g a) < 0) :
    Pst a b g (rotF g a (a + 1) i) ∧ Srt cf tg (rotF g a (a + 1) i) a b := by
  have hl := rot_l h (Nat.le_refl a) (Nat.le_succ a) h1 h2
  have hr := rot_r h (Nat.le_refl a) (Nat.le_succ a) h1 h2
  refine mrg_end w h (Nat.le_refl a) (Nat.le_succ a) h1 h2 (fun p q p1 p2 p3 p4 => ?_) (fun p q p1 p2 => by omega) (Pst.refl _ _ _) (fun _ => Iff.rfl) (fun _ => Iff.rfl) (hl.one fun p q p1 p2 => by omega) (hr.one fun p q p1 p2 p3 p4 => ?_)
  · have : p = a := by omega
    rw [this]; exact q1 q p3 p4
  · rw [rot2 (by omega) p2, rot3 (by omega) (by omega) (.inr p3), show p - (i - (a + 1)) = a by omega]
    exact q2 q p3 p4
theorem mrg_b (w : Weak cf) {g : Nat → α} {a i m : Nat} (h : Mrg cf tg g a m (m + 1)) (h1 : a ≤ i) (h2 : i ≤ m) (q1 : ∀ k, a ≤ k → k < i → ¬ cf (g m) (g k) < 0) (q2 : ∀ k, i ≤ k → k < m → cf (g m) (g k) < 0) :
    Pst a (m + 1) g (insF g i m) ∧ Srt cf tg (insF g i m) a (m + 1) := by
  rw [ins_rot h2]
  have hl := rot_l h h1 h2 (Nat.le_succ m) (Nat.le_refl _)
  have hr := rot_r h h1 h2 (Nat.le_succ m) (Nat.le_refl _)
  refine mrg_end w h h1 h2 (Nat.le_succ m) (Nat.le_refl _) (fun p q p1 p2 p3 p4 => ?_) (fun p q p1 p2 p3 p4 => by omega) (Pst.refl _ _ _) (fun _ => Iff.rfl) (fun _ => Iff.rfl) (hl.one fun p q p1 p2 p3 p4 => ?_) (hr.one fun p q p1 p2 p3 p4 => by omega)
  · have : q = m := by omega
    rw [this]; exact q2 p p1 p2
  · have : q = i := by omega
    rw [this, rot3 h2 (by omega) (.inl p2), rot1 (Nat.le_refl _) (by omega), show i + (m - i) = m by omega]
    exact q1 p p1 p2
theorem up_lo (w : Weak cf) {g : Nat → α} {m h b : Nat} {x : α} (s : Srt cf tg g m b) (hh : m ≤ h) (hb : h < b) (c : cf (g h) x < 0) : ∀ k, m ≤ k → k < h + 1 → cf (g k) x < 0 := fun k k1 k2 => by
  by_cases e : k = h
  · rw [e]; exact c
  · exact bef_le_lt w (bef_le w (s k h k1 (by omega) hb)) c
theorem up_hi (w : Weak cf) {g : Nat → α} {m h b : Nat} {x : α} (s : Srt cf tg g m b) (hh : m ≤ h) (hb : h < b) (c : ¬ cf (g h) x < 0) : ∀ k, h ≤ k → k < b → ¬ cf (g k) x < 0 := fun k k1 k2 => by
  by_cases e : k = h
  · rw [e]; exact c
  · exact w.tr x (g h) (g k) c (bef_le w (s h k hh (by omega) k2))
theorem dn_lo (w : Weak cf) {g : Nat → α} {a h m : Nat} {x : α} (s : Srt cf tg g a m) (hh : a ≤ h) (hb : h < m) (c : ¬ cf x (g h) < 0) : ∀ k, a ≤ k → k < h + 1 → ¬ cf x (g k) < 0 := fun k k1 k2 => by
  by_cases e : k = h
  · rw [e]; exact c
  · exact w.tr (g k) (g h) x (bef_le w (s k h k1 (by omega) hb)) c
theorem dn_hi (w : Weak cf) {g : Nat → α} {a h m : Nat} {x : α} (s : Srt cf tg g a m) (hh : a ≤ h) (hb : h < m) (c : cf x (g h) < 0) : ∀ k, h ≤ k → k < m → cf x (g k) < 0 := fun k k1 k2 => by
  by_cases e : k = h
  · rw [e]; exact c
  · exact bef_lt_le w c (bef_le w (s h k hh (by omega) k2))
structure Mid (cf : α → α → Int) (g : Nat → α) (p lo hi st r : Nat) : Prop where
  h1 : lo ≤ st
  h2 : st ≤ r
  h3 : r ≤ hi
  q1 : ∀ c, lo ≤ c → c < st → ¬ cf (g (p - c)) (g c) < 0
  q2 : ∀ c, r ≤ c → c < hi → cf (g (p - c)) (g c) < 0
theorem mid_yes (w : Weak cf) {g : Nat → α} {a m b p lo hi st r c : Nat} (h : Mrg cf tg g a m b) (d : Mid cf g p lo hi st r) (hlo : a ≤ lo) (hhi : hi ≤ m) (hp : ∀ c, lo ≤ c → c < hi → m ≤ p - c ∧ p - c < b ∧ c ≤ p) (c1 : st ≤ c) (c2 : c < r) (t : cf (g (p - c)) (g c) < 0) : Mid cf g p lo hi st c := by
  obtain ⟨h1, h2, h3, q1, q2⟩ := d
  refine ⟨h1, c1, by omega, q1, fun k k1 k2 => ?_⟩
  by_cases e : k = c
  · rw [e]; exact t
  obtain ⟨p1, p2, p3⟩ := hp k (by omega) k2
  obtain ⟨p4, p5, p6⟩ := hp c (by omega) (by omega)
  exact bef_le_lt w (bef_le w (h.r (p - k) (p - c) p1 (by omega) p5)) (bef_lt_le w t (bef_le w (h.l c k (by omega) (by omega) (by omega))))
theorem mid_no (w : Weak cf) {g : Nat → α} {a m b p lo hi st r c : Nat} (h : Mrg cf tg g a m b) (d : Mid cf g p lo hi st r) (hlo : a ≤ lo) (hhi : hi ≤ m) (hp : ∀ c, lo ≤ c → c < hi → m ≤ p - c ∧ p - c < b ∧ c ≤ p) (c1 : st ≤ c) (c2 : c < r) (t : ¬ cf (g (p - c)) (g c) < 0) : Mid cf g p lo hi (c + 1) r := by
  obtain ⟨h1, h2, h3, q1, q2⟩ := d
  refine ⟨by omega, by omega, h3, fun k k1 k2 => ?_, q2⟩
  by_cases e : k = c
  · rw [e]; exact t
  intro hk
  obtain ⟨p1, p2, p3⟩ := hp k k1 (by omega)
  obtain ⟨p4, p5, p6⟩ := hp c (by omega) (by omega)
  exact t (bef_le_lt w (bef_le w (h.r (p - c) (p - k) p4 (by omega) p2)) (bef_lt_le w hk (bef_le w (h.l k c (by omega) (by omega) (by omega)))))
theorem mid_end (w : Weak cf) {g : Nat → α} {a m b lo hi st mid : Nat} (h : Mrg cf tg g a m b) (d : Mid cf g (mid + m - 1) lo hi st st) (hl : a ≤ lo) (hh : hi ≤ m) (hp : ∀ c, lo ≤ c → c < hi → m ≤ mid + m - 1 - c ∧ mid + m - 1 - c < b ∧ c ≤ mid + m - 1) (hm : st ≤ mid) (hlo : lo = a ∨ lo + b = mid + m) (hhi : hi = m ∨ hi = mid) (h0 : 0 < m) :
    (∀ i j, st ≤ i → i < m → m ≤ j → j < mid + m - st → cf (g j) (g i) < 0) ∧ (∀ i j, a ≤ i → i < st → mid + m - st ≤ j → j < b → ¬ cf (g j) (g i) < 0) := by
  obtain ⟨h1, h2, h3, q1, q2⟩ := d
  refine ⟨fun i j i1 i2 j1 j2 => ?_, fun i j i1 i2 j1 j2 => ?_⟩
  · by_cases e : st = hi
    · omega
    have t := q2 st (Nat.le_refl _) (by omega)
    obtain ⟨p1, p2, p3⟩ := hp st h1 (by omega)
    have t1 : cf (g (mid + m - 1 - st)) (g i) < 0 := by
      by_cases e2 : i = st
      · rw [e2]; exact t
      · exact bef_lt_le w t (bef_le w (h.l st i (by omega) (by omega) i2))
    by_cases e3 : j = mid + m - 1 - st
    · rw [e3]; exact t1
    · exact bef_le_lt w (bef_le w (h.r j (mid + m - 1 - st) j1 (by omega) p2)) t1
  · by_cases e : st = lo
    · omega
    have t := q1 (st - 1) (by omega) (by omega)
    obtain ⟨p1, p2, p3⟩ := hp (st - 1) (by omega) (by omega)
    have ee : mid + m - 1 - (st - 1) = mid + m - st := by omega
    rw [ee] at t p1 p2
    have t1 : ¬ cf (g (mid + m - st)) (g i) < 0 := by
      by_cases e2 : i = st - 1
      · rw [e2]; exact t
      · exact w.tr (g i) (g (st - 1)) _ (bef_le w (h.l i (st - 1) i1 (by omega) (by omega))) t
    by_cases e3 : j = mid + m - st
    · rw [e3]; exact t1
    · exact w.tr (g i) (g (mid + m - st)) (g j) t1 (bef_le w (h.r (mid + m - st) j p1 (by omega) j2))
end
end Go.Proofs.YtpgdflhcmijaiaaDoor
