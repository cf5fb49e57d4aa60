/- The parser reads what stands behind a tag: the state, and one step in plain words. No condition. -/
import Derived.Test.YtjghnaohlfgloaaDoorJ26
set_option linter.all false
set_option linter.unusedSimpArgs false
set_option linter.unusedVariables false
namespace Go.Proofs.YtjghnaohlfgloaaDoor
open Go Go.Proofs.YtjghnaohlfgloaaDoor.Ab
variable [Glo]
set_option maxHeartbeats 4000000
set_option maxRecDepth 20000
def ctG (H : Heap) (id oid aid : Nat) (s : List UInt8) (i f : Int) (vp v : Nat) (rows : List (List V)) (w : Nat) (ars : List (List V)) : Heap :=
  (paG H id oid s i f vp v rows).set aid (.row w 9 1 ars)
section
variable {H : Heap} {id oid aid : Nat} (hid : id < H.length) (hod : oid < H.length) (had : aid < H.length) (hne : id ≠ oid) (hna : id ≠ aid) (hoa : oid ≠ aid) {s : List UInt8}
include hid hod had hne hna hoa
theorem ctG_P (i f : Int) (vp v : Nat) (rows : List (List V)) (w : Nat) (ars : List (List V)) : (ctG H id oid aid s i f vp v rows w ars)[id]? = some (.row 0 86 4 [[.d (.s s), .d (.i .i64 i), .os oid vp, .d (.i .i64 f)]]) := by
  rw [ctG, List.getElem?_set, if_neg (fun e => hna e.symm)]; exact paG_P hid hod hne _ _ _ _ _
theorem ctG_O (i f : Int) (vp v : Nat) (rows : List (List V)) (w : Nat) (ars : List (List V)) : (ctG H id oid aid s i f vp v rows w ars)[oid]? = some (.row v 97 3 rows) := by
  rw [ctG, List.getElem?_set, if_neg (fun e => hoa e.symm)]; exact paG_O hid hod hne _ _ _ _ _
theorem ctG_A (i f : Int) (vp v : Nat) (rows : List (List V)) (w : Nat) (ars : List (List V)) : (ctG H id oid aid s i f vp v rows w ars)[aid]? = some (.row w 9 1 ars) := by
  rw [ctG, List.getElem?_set, if_pos rfl, if_pos (by rw [paG_len hid hod hne]; exact had)]
theorem ctG_len (i f : Int) (vp v : Nat) (rows : List (List V)) (w : Nat) (ars : List (List V)) : (ctG H id oid aid s i f vp v rows w ars).length = H.length := by
  rw [ctG, List.length_set, paG_len hid hod hne]
theorem ctG_setP (i f : Int) (vp v : Nat) (rows : List (List V)) (w : Nat) (ars : List (List V)) (i' f' : Int) (vp' : Nat) : (ctG H id oid aid s i f vp v rows w ars).set id (.row 0 86 4 [[.d (.s s), .d (.i .i64 i'), .os oid vp', .d (.i .i64 f')]]) = ctG H id oid aid s i' f' vp' v rows w ars := by
  rw [ctG, ctG, List.set_comm _ _ (fun e => hna e.symm), paG_setP hid hod hne]
theorem ctG_setO (i f : Int) (vp v : Nat) (rows : List (List V)) (w : Nat) (ars : List (List V)) (v' : Nat) (rows' : List (List V)) : (ctG H id oid aid s i f vp v rows w ars).set oid (.row v' 97 3 rows') = ctG H id oid aid s i f vp v' rows' w ars := by
  rw [ctG, ctG, List.set_comm _ _ (fun e => hoa e.symm), paG_setO hid hod hne]
theorem ctG_setA (i f : Int) (vp v : Nat) (rows : List (List V)) (w : Nat) (ars : List (List V)) (w' : Nat) (ars' : List (List V)) : (ctG H id oid aid s i f vp v rows w ars).set aid (.row w' 9 1 ars') = ctG H id oid aid s i f vp v rows w' ars' := by
  rw [ctG, ctG, List.set_set]
theorem ctG_paG (i f : Int) (vp v : Nat) (rows : List (List V)) (w : Nat) (ars : List (List V)) (i' f' : Int) (vp' v' : Nat) (rows' : List (List V)) : paG (ctG H id oid aid s i f vp v rows w ars) id oid s i' f' vp' v' rows' = ctG H id oid aid s i' f' vp' v' rows' w ars := by
  rw [paG, prC, ctG_setP hid hod had hne hna hoa, ctG_setO hid hod had hne hna hoa]
theorem ctG_closed (i f : Int) (vp v : Nat) (l : List Ev) (w : Nat) (ns : List (List UInt8)) : Closed H (ctG H id oid aid s i f vp v (l.map evR) w (ns.map strC)) := by
  unfold ctG
  exact closed_set (paG_closed hid hod hne _ _ _ _ _) (obBel_map (fun s : List UInt8 => [D.s s]) _ _ _ 1 _)
end
theorem strC_app (ns : List (List UInt8)) (n : List UInt8) : ns.map strC ++ [[.d (.s n)]] = (ns ++ [n]).map strC := by simp [strC]
theorem attrT_kinds : ∀ (fuel : Nat) (l : List UInt8), (∀ x, x ∈ (attrT fuel l).evs → x.k = 2 ∨ x.k = 5) ∧ (attrT fuel l).evs.length ≤ fuel + 1
  | 0, l => ⟨fun x hx => by simp [attrT] at hx, by simp [attrT]⟩
  | fuel + 1, l => by
    rw [attrT]
    have one : ∀ {e : Ev}, e.k = 2 ∨ e.k = 5 → (∀ x, x ∈ [e] → x.k = 2 ∨ x.k = 5) ∧ [e].length ≤ fuel + 1 + 1 := fun he => ⟨fun x hx => by rw [List.mem_singleton.1 hx]; exact he, by simp⟩
    have non : (∀ x, x ∈ ([] : List Ev) → x.k = 2 ∨ x.k = 5) ∧ ([] : List Ev).length ≤ fuel + 1 + 1 := ⟨fun x hx => (by cases hx), by simp⟩
    split
    · exact one (.inr rfl)
    split
    · exact non
    split
    · exact non
    split
    · exact non
    split
    · exact one (.inl rfl)
    split
    · exact one (.inl rfl)
    split
    · exact one (.inl rfl)
    split
    · obtain ⟨h1, h2⟩ := attrT_kinds fuel (l.drop (atE l + 2 + (atV l).n + 1))
      refine ⟨fun x hx => ?_, by simp only [List.length_cons]; omega⟩
      rcases List.mem_cons.1 hx with rfl | hx
      · exact .inl rfl
      · exact h1 x hx
    · exact one (.inl rfl)
theorem tgOf_evs (s : List UInt8) (at_ : Nat) (f : Int) (h : at_ ≤ s.length) : ∃ r, (tgOf s at_ f).evs = ⟨1, (s.drop at_).take (nmN s at_ f), []⟩ :: r ∧ (∀ x, x ∈ r → x.k ≠ 1) ∧ r.length ≤ s.length + 3 := by
  unfold tgOf
  by_cases hf : f = 0
  · rw [if_pos hf, nmN, if_pos hf, tagT]
    by_cases hk : nameN true (s.drop at_) = 0
    · rw [if_pos hk, hk]
      exact ⟨[], rfl, fun x hx => (by cases hx), by simp⟩
    · rw [if_neg hk]
      obtain ⟨h1, h2⟩ := attrT_kinds ((s.drop at_).length + 1) ((s.drop at_).drop (nameN true (s.drop at_)))
      rw [List.length_drop] at h2
      refine ⟨_, rfl, fun x hx h0 => ?_, by rw [List.length_drop]; omega⟩
      rcases h1 x hx with h | h <;> rw [h] at h0 <;> cases h0
  · rw [if_neg hf, nmN, if_neg hf]
    exact ⟨[], rfl, fun x hx => (by cases hx), by simp⟩
theorem attrT_le : ∀ (fuel : Nat) (l : List UInt8), (attrT fuel l).n ≤ l.length
  | 0, l => Nat.zero_le _
  | fuel + 1, l => by
    have hb := blankN_le l
    have hn := nameN_le true (l.drop (blankN l))
    rw [List.length_drop] at hn
    have pl : ∀ {p : List UInt8} {k : Nat}, p.isPrefixOf (l.drop k) = true → p.length ≤ l.length - k := fun hp => by
      have := (List.isPrefixOf_iff_prefix.1 hp).length_le
      rwa [List.length_drop] at this
    rw [attrT]
    split
    · rename_i hp; have := pl hp; simp at this ⊢; omega
    split
    · rename_i hp; have := pl hp; simp at this ⊢; omega
    split
    · exact hb
    split
    · exact Nat.zero_le _
    split
    · exact hb
    split
    · show atE l ≤ _
      unfold atE; omega
    rename_i hq
    have hq2 := pl (Bool.not_eq_false _ ▸ hq)
    simp only [List.length_cons, List.length_nil] at hq2
    have ha : atE l + 2 ≤ l.length := by
      have : atE l ≤ l.length := by unfold atE; omega
      omega
    have hv := valN_le 34 (l.drop (atE l + 2)) 0
    rw [List.length_drop] at hv
    have hv2 : (atV l).n ≤ l.length - (atE l + 2) := hv
    split
    · show atE l + 2 + (atV l).n ≤ _
      omega
    split
    · rename_i hh
      have h1 : atE l + 2 + (atV l).n < l.length := by
        by_cases hc : atE l + 2 + (atV l).n < l.length
        · exact hc
        · rw [List.drop_eq_nil_of_le (by omega)] at hh
          cases hh
      have ih := attrT_le fuel (l.drop (atE l + 2 + (atV l).n + 1))
      rw [List.length_drop] at ih
      show atE l + 2 + (atV l).n + 1 + _ ≤ _
      omega
    · show atE l + 2 + (atV l).n ≤ _
      omega
theorem tgOf_le {s : List UInt8} {at_ : Nat} {f : Int} (h : at_ ≤ s.length) : at_ + (tgOf s at_ f).n ≤ s.length := by
  unfold tgOf
  split
  · unfold tagT
    split
    · exact h
    · have h1 := nameN_le true (s.drop at_)
      have h2 := attrT_le ((s.drop at_).length + 1) ((s.drop at_).drop (nameN true (s.drop at_)))
      simp only [List.length_drop] at h1 h2 ⊢
      omega
  · exact h
structure Cy where
  i : Nat
  f : Int
  acc : List Ev
  ns : List (List UInt8)
  w : Nat
  fuel : Nat
structure CtOk (s : List UInt8) (R : Ct) (at_ B : Nat) (y : Cy) : Prop where
  h2 : y.i ≤ s.length
  h3 : y.f = 0 → y.acc ++ (contT y.fuel y.ns.reverse (s.drop y.i)).evs = R.evs ∧ y.i + (contT y.fuel y.ns.reverse (s.drop y.i)).n = at_ + R.n ∧ (contT y.fuel y.ns.reverse (s.drop y.i)).f = R.f ∧ s.length - y.i < y.fuel
  h4 : y.f ≠ 0 → y.acc = R.evs ∧ y.i = at_ + R.n ∧ y.f = R.f
  h5 : y.acc.length + y.fuel * (s.length + 4) ≤ B
  h6 : y.ns.length + y.fuel ≤ B
section
variable {s : List UInt8} {R : Ct} {at_ B i w w' fuel : Nat} {acc : List Ev} {ns : List (List UInt8)} {o : List UInt8}
theorem CtOk.unf (h : CtOk s R at_ B ⟨i, 0, acc, ns, w, fuel⟩) : ∃ fl, fuel = fl + 1 := by
  have := (h.h3 rfl).2.2.2
  exact ⟨fuel - 1, by simp only [] at this; omega⟩
theorem CtOk.fin (h : CtOk s R at_ B ⟨i, 0, acc, [], w, fuel + 1⟩) : acc = R.evs ∧ i = at_ + R.n ∧ R.f = 0 := by
  obtain ⟨q1, q2, q3, q4⟩ := h.h3 rfl
  simp only [List.reverse_nil, contT, List.append_nil, Nat.add_zero] at q1 q2 q3
  exact ⟨q1, q2, q3.symm⟩
theorem CtOk.bnd (h : CtOk s R at_ B ⟨i, 0, acc, ns, w, fuel + 1⟩) : acc.length + (fuel * (s.length + 4)) + (s.length + 4) ≤ B := by
  have := h.h5
  simp only [Nat.add_mul, Nat.one_mul] at this
  omega
theorem CtOk.cmt (h : CtOk s R at_ B ⟨i, 0, acc, ns ++ [o], w, fuel + 1⟩) (p : [60, 33, 45, 45].isPrefixOf (s.drop i) = true) {j : Nat} (hj : cmtN (s.drop (i + 4)) = some j) :
    CtOk s R at_ B ⟨i + 4 + j + 3, 0, acc ++ [⟨4, [], (s.drop (i + 4)).take j⟩], ns ++ [o], w', fuel⟩ := by
  obtain ⟨q1, q2, q3, q4⟩ := h.h3 rfl
  have q5 := h.bnd
  have q6 := h.h6
  have hle := cmtN_le hj
  rw [List.length_drop] at hle
  have e0 : i + (4 + j + 3) = i + 4 + j + 3 := by omega
  simp only [List.reverse_append, List.reverse_cons, List.reverse_nil, List.nil_append, List.singleton_append, List.cons_append, contT, List.drop_drop, p, if_true, hj, e0] at q1 q2 q3 q4 q6
  have hi : i ≤ s.length := h.h2
  refine ⟨by show i + 4 + j + 3 ≤ s.length; omega, fun _ => ?_, fun h0 => absurd rfl h0, ?_, ?_⟩
  · simp only [List.reverse_append, List.reverse_cons, List.reverse_nil, List.nil_append, List.singleton_append, List.cons_append]
    exact ⟨by rw [← q1]; simp, by omega, q3, by omega⟩
  · simp only [List.length_append, List.length_cons, List.length_nil]; omega
  · simp only [List.length_append, List.length_cons, List.length_nil] at q6 ⊢; omega
theorem CtOk.cmt0 (h : CtOk s R at_ B ⟨i, 0, acc, ns ++ [o], w, fuel + 1⟩) (p : [60, 33, 45, 45].isPrefixOf (s.drop i) = true) (hj : cmtN (s.drop (i + 4)) = none) : acc = R.evs ∧ i + 4 = at_ + R.n ∧ R.f = 5 := by
  obtain ⟨q1, q2, q3, q4⟩ := h.h3 rfl
  simp only [List.reverse_append, List.reverse_cons, List.reverse_nil, List.nil_append, List.singleton_append, List.cons_append, contT, List.drop_drop, p, if_true, hj, List.append_nil] at q1 q2 q3
  exact ⟨q1, by omega, q3.symm⟩
def enK (s : List UInt8) (i : Nat) : Nat := nmN s (i + 2) 0
def enF1 (s : List UInt8) (i : Nat) : Int := nmF s (i + 2) 0
def enA (s : List UInt8) (i : Nat) : Nat := mustAt s (i + 2 + enK s i) (enF1 s i) [62]
def enF (s : List UInt8) (i : Nat) : Int := mustF s (i + 2 + enK s i) (enF1 s i) [62]
theorem enA_le (hi : i + 2 ≤ s.length) : i + 2 + enK s i ≤ s.length ∧ enA s i ≤ s.length := ⟨nmN_le hi, mustAt_le (nmN_le hi)⟩
theorem CtOk.end_ (h : CtOk s R at_ B ⟨i, 0, acc, ns ++ [o], w, fuel + 1⟩) (hi2 : i + 2 ≤ s.length) (p0 : [60, 33, 45, 45].isPrefixOf (s.drop i) = false) (p : [60, 47].isPrefixOf (s.drop i) = true) :
    CtOk s R at_ B ⟨enA s i, if enF s i = 0 then (if (s.drop (i + 2)).take (enK s i) = o then 0 else 4) else enF s i, acc ++ [⟨5, [], []⟩], ns, w', fuel⟩ := by
  obtain ⟨q1, q2, q3, q4⟩ := h.h3 rfl
  have q5 := h.bnd
  have q6 := h.h6
  have hle := (enA_le hi2).2
  have hi : i ≤ s.length := h.h2
  simp only [List.reverse_append, List.reverse_cons, List.reverse_nil, List.nil_append, List.singleton_append, List.cons_append, contT, List.drop_drop, p0, p, if_true, if_false, Bool.false_eq_true, List.length_drop] at q1 q2 q3 q4
  simp only [List.length_append, List.length_cons, List.length_nil] at q6
  have b5 : (acc ++ [(⟨5, [], []⟩ : Ev)]).length + fuel * (s.length + 4) ≤ B := by simp only [List.length_append, List.length_cons, List.length_nil]; omega
  have b6 : ns.length + fuel ≤ B := by omega
  by_cases hk : nameN true (s.drop (i + 2)) = 0
  · have e0 : enK s i = 0 := by rw [enK, nmN, if_pos rfl, hk]
    have e1 : enF1 s i = if i + 2 = s.length then 5 else 4 := by rw [enF1, nmF, if_pos rfl, if_pos hk]
    have e1' : enF1 s i ≠ 0 := by rw [e1]; split <;> decide
    have e2 : enF s i = enF1 s i := by rw [enF, mustF, if_neg e1']
    have e3 : enA s i = i + 2 := by rw [enA, mustAt, if_neg (fun h => e1' h.1), e0]
    simp only [hk, if_true] at q1 q2 q3
    rw [e2, if_neg e1', e3]
    refine ⟨hi2, fun h0 => absurd h0 e1', fun _ => ⟨q1, by simp only []; omega, ?_⟩, b5, b6⟩
    simp only []
    rw [e1, ← q3]
    by_cases hz : i + 2 = s.length
    · rw [if_pos hz, if_pos (by omega)]
    · rw [if_neg hz, if_neg (by omega)]
  simp only [hk, if_false] at q1 q2 q3
  have e0 : enK s i = nameN true (s.drop (i + 2)) := by rw [enK, nmN, if_pos rfl]
  have e1 : enF1 s i = 0 := by rw [enF1, nmF, if_pos rfl, if_neg hk]
  rw [← e0] at q1 q2 q3 hk
  have e4 : i + (2 + enK s i) = i + 2 + enK s i := by omega
  have e5 : i + (2 + enK s i + 1) = i + 2 + enK s i + 1 := by omega
  rw [e4, e5] at q1 q2 q3
  cases hq : [62].isPrefixOf (s.drop (i + 2 + enK s i)) with
  | false =>
    have e2 : enF s i = missF (s.drop (i + 2 + enK s i)) [62] := by rw [enF, e1, mustF, if_pos rfl, if_neg (by rw [hq]; decide), missF]
    have e2' : missF (s.drop (i + 2 + enK s i)) [62] ≠ 0 := by rw [missF]; split <;> decide
    have e3 : enA s i = i + 2 + enK s i := by rw [enA, mustAt, if_neg (by rw [hq]; rintro ⟨_, h⟩; cases h)]
    simp only [hq, if_true] at q1 q2 q3
    rw [e2, if_neg e2', e3]
    exact ⟨by rw [← e3]; exact hle, fun h0 => absurd h0 e2', fun _ => ⟨q1, by simp only []; omega, q3⟩, b5, b6⟩
  | true =>
    have e2 : enF s i = 0 := by rw [enF, e1, mustF, if_pos rfl, if_pos hq]
    have e3 : enA s i = i + 2 + enK s i + 1 := by rw [enA, mustAt, if_pos ⟨e1, hq⟩]; rfl
    rw [e2, if_pos rfl, e3]
    rw [e3] at hle
    by_cases ho : (s.drop (i + 2)).take (enK s i) = o
    · simp only [hq, Bool.true_eq_false, if_false, ho, ne_eq, not_true_eq_false] at q1 q2 q3
      rw [if_pos ho]
      exact ⟨hle, fun _ => ⟨by rw [← q1]; simp, by simp only []; omega, q3, by simp only []; omega⟩, fun h0 => absurd rfl h0, b5, b6⟩
    · simp only [hq, Bool.true_eq_false, if_false, ho, ne_eq, not_false_eq_true, if_true] at q1 q2 q3
      rw [if_neg ho]
      exact ⟨hle, fun h0 => (by cases h0), fun _ => ⟨q1, by simp only []; omega, q3⟩, b5, b6⟩
theorem CtOk.tag (h : CtOk s R at_ B ⟨i, 0, acc, ns ++ [o], w, fuel + 1⟩) (hi2 : i + 1 ≤ s.length) (p0 : [60, 33, 45, 45].isPrefixOf (s.drop i) = false) (p1 : [60, 47].isPrefixOf (s.drop i) = false) (p : [60].isPrefixOf (s.drop i) = true) :
    CtOk s R at_ B ⟨i + 1 + (tgOf s (i + 1) 0).n, (tgOf s (i + 1) 0).f, acc ++ (tgOf s (i + 1) 0).evs, if (tgOf s (i + 1) 0).c = true then ns ++ [o] else ns ++ [o] ++ [(s.drop (i + 1)).take (nmN s (i + 1) 0)], w', fuel⟩ := by
  obtain ⟨q1, q2, q3, q4⟩ := h.h3 rfl
  have q5 := h.bnd
  have q6 := h.h6
  have hi : i ≤ s.length := h.h2
  have hle := tgOf_le (f := 0) hi2
  obtain ⟨r, r1, _, r3⟩ := tgOf_evs s (i + 1) 0 hi2
  have r4 : (tgOf s (i + 1) 0).evs.length ≤ s.length + 4 := by rw [r1, List.length_cons]; omega
  have eT : tagT (s.drop (i + 1)) = tgOf s (i + 1) 0 := by rw [tgOf, if_pos rfl]
  have eN : nameN true (s.drop (i + 1)) = nmN s (i + 1) 0 := by rw [nmN, if_pos rfl]
  simp only [List.reverse_append, List.reverse_cons, List.reverse_nil, List.nil_append, List.singleton_append, List.cons_append, contT, List.drop_drop, p0, p1, p, if_true, if_false, Bool.false_eq_true, eT, eN] at q1 q2 q3 q4
  simp only [List.length_append, List.length_cons, List.length_nil] at q6
  generalize tgOf s (i + 1) 0 = T at *
  have e4 : i + (1 + T.n) = i + 1 + T.n := by omega
  rw [e4] at q1 q2 q3
  refine ⟨hle, fun hf => ?_, fun hf => ?_, by simp only [List.length_append]; omega, ?_⟩
  · simp only [] at hf
    simp only [hf, ne_eq, not_true_eq_false, if_false] at q1 q2 q3
    have e6 : (if T.c = true then ns ++ [o] else ns ++ [o] ++ [(s.drop (i + 1)).take (nmN s (i + 1) 0)]).reverse = if T.c = true then o :: ns.reverse else (s.drop (i + 1)).take (nmN s (i + 1) 0) :: o :: ns.reverse := by
      split <;> simp
    simp only [e6]
    exact ⟨by rw [← q1]; simp, by omega, q3, by omega⟩
  · simp only [] at hf
    simp only [hf, ne_eq, not_false_eq_true, if_true] at q1 q2 q3
    exact ⟨q1, by simp only []; omega, q3⟩
  · simp only []
    split <;> simp only [List.length_append, List.length_cons, List.length_nil] <;> omega
theorem CtOk.text (h : CtOk s R at_ B ⟨i, 0, acc, ns ++ [o], w, fuel + 1⟩) (p0 : [60, 33, 45, 45].isPrefixOf (s.drop i) = false) (p1 : [60, 47].isPrefixOf (s.drop i) = false) (p : [60].isPrefixOf (s.drop i) = false) (hf : (valN 60 0 (s.drop i)).f = 0) :
    CtOk s R at_ B ⟨i + (valN 60 0 (s.drop i)).n, 0, acc ++ [⟨3, [], (valN 60 0 (s.drop i)).out⟩], ns ++ [o], w', fuel⟩ := by
  obtain ⟨q1, q2, q3, q4⟩ := h.h3 rfl
  have q5 := h.bnd
  have q6 := h.h6
  have hi : i ≤ s.length := h.h2
  have hh : (s.drop i).head? ≠ some 60 := fun e => by
    rw [head_prefix, e] at p
    simp at p
  have hpos := valN_pos 60 hf hh hh
  have hle := valN_le 60 (s.drop i) 0
  rw [List.length_drop] at hle
  simp only [List.reverse_append, List.reverse_cons, List.reverse_nil, List.nil_append, List.singleton_append, List.cons_append, contT, List.drop_drop, p0, p1, p, if_true, if_false, Bool.false_eq_true, hf, ne_eq, not_true_eq_false] at q1 q2 q3 q4 q6
  refine ⟨by show i + _ ≤ s.length; omega, fun _ => ?_, fun h0 => absurd rfl h0, ?_, ?_⟩
  · simp only [List.reverse_append, List.reverse_cons, List.reverse_nil, List.nil_append, List.singleton_append, List.cons_append]
    exact ⟨by rw [← q1]; simp, by omega, q3, by omega⟩
  · simp only [List.length_append, List.length_cons, List.length_nil]; omega
  · simp only [List.length_append, List.length_cons, List.length_nil] at q6 ⊢; omega
theorem CtOk.text0 (h : CtOk s R at_ B ⟨i, 0, acc, ns ++ [o], w, fuel + 1⟩) (p0 : [60, 33, 45, 45].isPrefixOf (s.drop i) = false) (p1 : [60, 47].isPrefixOf (s.drop i) = false) (p : [60].isPrefixOf (s.drop i) = false) (hf : (valN 60 0 (s.drop i)).f ≠ 0) :
    CtOk s R at_ B ⟨i + (valN 60 0 (s.drop i)).n, (valN 60 0 (s.drop i)).f, acc, ns ++ [o], w', fuel⟩ := by
  obtain ⟨q1, q2, q3, q4⟩ := h.h3 rfl
  have q5 := h.bnd
  have q6 := h.h6
  have hi : i ≤ s.length := h.h2
  have hle := valN_le 60 (s.drop i) 0
  rw [List.length_drop] at hle
  simp only [List.reverse_append, List.reverse_cons, List.reverse_nil, List.nil_append, List.singleton_append, List.cons_append, contT, List.drop_drop, p0, p1, p, if_true, if_false, Bool.false_eq_true, hf, ne_eq, not_false_eq_true, List.append_nil] at q1 q2 q3 q4 q6
  exact ⟨by show i + _ ≤ s.length; omega, fun h0 => absurd h0 hf, fun _ => ⟨q1, q2, q3⟩, by simp only []; omega, by simp only [List.length_append, List.length_cons, List.length_nil] at q6 ⊢; omega⟩
end
end Go.Proofs.YtjghnaohlfgloaaDoor
