/- The reference reads a tag. No condition. -/
import Derived.Test.YtjghnaohlfgloaaDoorJ39
set_option linter.all false
set_option linter.unusedSimpArgs false
set_option linter.unusedVariables false
namespace Go.Proofs.YtjghnaohlfgloaaDoor
open Go Go.Proofs.YtjghnaohlfgloaaDoor.Ab
variable [Glo]
set_option maxHeartbeats 4000000
set_option maxRecDepth 20000
theorem pfx_len {p : List UInt8} {s : List UInt8} {i : Nat} (h : p.isPrefixOf (s.drop i) = true) : p.length ≤ s.length - i := by
  have := (List.isPrefixOf_iff_prefix.1 h).length_le
  rwa [List.length_drop] at this
theorem arOf_cases (s : List UInt8) (a0 : Nat) :
    (nmF s a0 0 ≠ 0 ∧ (arOf s a0).f4 = nmF s a0 0) ∨
    (nmF s a0 0 = 0 ∧ [61, 34].isPrefixOf (s.drop (a0 + nmN s a0 0)) = false ∧ (arOf s a0).f4 = missF (s.drop (a0 + nmN s a0 0)) [61, 34] ∧ missF (s.drop (a0 + nmN s a0 0)) [61, 34] ≠ 0) ∨
    (nmF s a0 0 = 0 ∧ [61, 34].isPrefixOf (s.drop (a0 + nmN s a0 0)) = true ∧ (valN 34 0 (s.drop (a0 + nmN s a0 0 + 2))).f ≠ 0 ∧ (arOf s a0).f4 = (valN 34 0 (s.drop (a0 + nmN s a0 0 + 2))).f) ∨
    (nmF s a0 0 = 0 ∧ [61, 34].isPrefixOf (s.drop (a0 + nmN s a0 0)) = true ∧ (valN 34 0 (s.drop (a0 + nmN s a0 0 + 2))).f = 0 ∧ s[a0 + nmN s a0 0 + 2 + (valN 34 0 (s.drop (a0 + nmN s a0 0 + 2))).n]? = some 60 ∧ (arOf s a0).f4 = 4) ∨
    (nmF s a0 0 = 0 ∧ [61, 34].isPrefixOf (s.drop (a0 + nmN s a0 0)) = true ∧ (valN 34 0 (s.drop (a0 + nmN s a0 0 + 2))).f = 0 ∧ s[a0 + nmN s a0 0 + 2 + (valN 34 0 (s.drop (a0 + nmN s a0 0 + 2))).n]? = some 34 ∧ (arOf s a0).f4 = 0 ∧ (arOf s a0).a4 = a0 + nmN s a0 0 + 2 + (valN 34 0 (s.drop (a0 + nmN s a0 0 + 2))).n + 1 ∧ arEv s a0 = ⟨2, (s.drop a0).take (nmN s a0 0), (valN 34 0 (s.drop (a0 + nmN s a0 0 + 2))).out⟩) := by
  by_cases h1 : nmF s a0 0 = 0
  rotate_left
  · refine .inl ⟨h1, ?_⟩
    simp only [arOf, mustAt, mustF, vlOf, if_neg h1, h1, false_and, if_false]
  refine .inr ?_
  cases hq : [61, 34].isPrefixOf (s.drop (a0 + nmN s a0 0)) with
  | false =>
    have m2' : missF (s.drop (a0 + nmN s a0 0)) [61, 34] ≠ 0 := by rw [missF]; split <;> decide
    refine .inl ⟨h1, rfl, ?_, m2'⟩
    have m1 : mustAt s (a0 + nmN s a0 0) 0 [61, 34] = a0 + nmN s a0 0 := by rw [mustAt, if_neg (by rw [hq]; rintro ⟨_, h⟩; cases h)]
    have m2 : mustF s (a0 + nmN s a0 0) 0 [61, 34] = missF (s.drop (a0 + nmN s a0 0)) [61, 34] := by rw [mustF, if_pos rfl, if_neg (by rw [hq]; decide), missF]
    simp only [arOf, h1, m1, m2]
    simp only [vlOf, mustAt, mustF, if_neg m2', m2', Nat.add_zero, false_and, if_false]
  | true =>
    refine .inr ?_
    have m1 : mustAt s (a0 + nmN s a0 0) 0 [61, 34] = a0 + nmN s a0 0 + 2 := by rw [mustAt, if_pos ⟨rfl, hq⟩]; rfl
    have m2 : mustF s (a0 + nmN s a0 0) 0 [61, 34] = 0 := by rw [mustF, if_pos rfl, if_pos hq]
    have m3 : vlOf 34 s (a0 + nmN s a0 0 + 2) 0 = valN 34 0 (s.drop (a0 + nmN s a0 0 + 2)) := if_pos rfl
    have hve := valN_end 34 (s.drop (a0 + nmN s a0 0 + 2)) 0
    generalize hw : valN 34 0 (s.drop (a0 + nmN s a0 0 + 2)) = w at *
    by_cases hf : w.f = 0
    · refine .inr ?_
      obtain ⟨c, hc, hc2⟩ := hve hf
      rw [List.getElem?_drop] at hc
      by_cases h34 : c = 34
      · subst h34
        refine .inr ⟨h1, rfl, hf, hc, ?_⟩
        have hp : [34].isPrefixOf (s.drop (a0 + nmN s a0 0 + 2 + w.n)) = true := by rw [drop_of_get hc]; rfl
        simp only [arEv, arOf, h1, m1, m2, m3, hf]
        simp only [mustAt, mustF, hp, true_and, and_self, if_true, List.length_cons, List.length_nil, and_true]
      · obtain rfl : c = 60 := hc2.resolve_left h34
        refine .inl ⟨h1, rfl, hf, hc, ?_⟩
        have hp : [34].isPrefixOf (s.drop (a0 + nmN s a0 0 + 2 + w.n)) = false := by rw [drop_of_get hc]; rfl
        have hp2 : (s.drop (a0 + nmN s a0 0 + 2 + w.n)).isPrefixOf [34] = false := by rw [drop_of_get hc]; rfl
        simp only [arOf, h1, m1, m2, m3, hf]
        simp only [mustAt, mustF, hp, hp2, and_false, if_true, if_false, Bool.false_eq_true]
    · refine .inl ⟨h1, rfl, hf, ?_⟩
      simp only [arOf, h1, m1, m2, m3]
      simp only [mustAt, mustF, if_neg hf, hf, false_and, if_false]
theorem nmF_end {s : List UInt8} {a : Nat} (h : s.length ≤ a) : nmF s a 0 ≠ 0 := by
  rw [nmF, if_pos rfl, List.drop_eq_nil_of_le h, nameN, if_pos rfl]
  split <;> decide
theorem Fz_tu4 {m : Nat} {H : Heap} {a b c d a' b' c' d' : V} (h1 : Fz m H a a') (h2 : Fz m H b b') (h3 : Fz m H c c') (h4 : Fz m H d d') : Fz m H (.tu [a, b, c, d]) (.tu [a', b', c', d']) :=
  .tu _ _ rfl fun j x x' h h' => by
    match j, h, h' with
    | 0, h, h' => cases h; cases h'; exact h1
    | 1, h, h' => cases h; cases h'; exact h2
    | 2, h, h' => cases h; cases h'; exact h3
    | 3, h, h' => cases h; cases h'; exact h4
    | j + 4, h, h' => cases h
theorem obBel_evs (m v : Nat) (l : List Ev) : ObBel m (.row v 97 3 (l.map evR)) := obBel_map (fun x : Ev => evD x) m v 97 3 l
def ks_58 : Nat → List Nat
  | 0 => [0, 1]
  | 1 => [0, 1, 8, 9]
  | 2 => [0, 1, 8, 9, 23]
  | 3 => [4, 5, 6, 7]
  | 4 => [0, 8, 10]
  | 5 => [0, 1, 10]
  | 6 => [0, 1, 10, 11]
  | 7 => [0, 1, 10, 11]
  | 8 => [0, 1, 10, 11, 39]
  | 9 => [1, 10]
  | 10 => [4, 5, 6, 7]
  | 11 => [0, 1, 10, 11, 49]
  | 12 => [4, 5, 6, 7]
  | 13 => [0, 1, 10, 11, 62]
  | 14 => [4, 5, 6, 7]
  | 15 => [0, 1, 10, 75]
  | 16 => [4, 5, 6, 7]
  | 17 => [0, 1, 8, 9, 10]
  | 18 => [0, 1, 8, 9, 10, 84]
  | 19 => [4, 5, 6, 7]
  | 20 => [0, 1, 8, 10, 12]
  | 21 => [0, 1, 8, 10, 12, 94]
  | 22 => [4, 5, 6, 7]
  | 23 => [0, 1, 10, 12, 13, 14, 15]
  | 24 => [0, 1, 10, 12, 13, 14, 15, 108]
  | 25 => [4, 5, 6, 7]
  | 26 => [0, 1, 10, 12, 13, 14, 114]
  | 27 => [4, 5, 6, 7]
  | 28 => [0, 10, 14]
  | 29 => [0, 1, 10]
  | _ => []
def mu_58 : List Nat := [31]
def in_58 : List Nat := [0, 1]
theorem tagFromR_A (s : List UInt8) (at_ : Nat) (hs : s.length ≤ 1000000) (hat : at_ ≤ s.length) (H : Heap) (K : V → Heap → Prop)
    (hk0 : (tgOf s at_ 0).f = 0 → ∀ v : Nat, RetK H K (.tu [.os H.length v, .d (.i .i64 ((at_ + (tgOf s at_ 0).n : Nat) : Int)), .d (.b (tgOf s at_ 0).c), .d (.i .i64 0)]) (H ++ [.row v 97 3 ((tgOf s at_ 0).evs.map evR)]))
    (hk1 : (tgOf s at_ 0).f ≠ 0 → ∀ (n : Int) (G : Heap), RetK H K (.tu [.d (.c (.slice none 0 0)), .d (.i .i64 n), .d (.b false), .d (.i .i64 (tgOf s at_ 0).f)]) (H ++ G)) :
    ACalls Tryd.prog 58 [.d (.s s), .d (.i .i64 at_)] H K := by
  have h0 := TaOk.init (s := s) 0 hat
  have aa0 : ((0 : Int) ≤ (at_ : Int)) = True := eq_true (by omega)
  have aa1 : ((at_ : Int) ≤ ((at_ + nmN s at_ 0 : Nat) : Int)) = True := eq_true (by omega)
  have hle0 : at_ + nmN s at_ 0 ≤ s.length := nmN_le hat
  have aa2 : (((at_ + nmN s at_ 0 : Nat) : Int) ≤ (s.length : Int)) = True := eq_true (by omega)
  have hcut : List.drop at_ (List.take (at_ + nmN s at_ 0) s) = (s.drop at_).take (nmN s at_ 0) := by rw [List.drop_take, Nat.add_sub_cancel_left]
  by_cases hf0 : nmF s at_ 0 = 0
  rotate_left
  · obtain ⟨k1, k2, k3, k4⟩ := h0.h4 hf0
    simp only [] at k1 k2 k3 k4
    have hf0' : (nmF s at_ 0 = 0) = False := eq_false hf0
    rw [← k4] at hk1
    have hk1 := hk1 hf0 at_ []
    rw [List.append_nil] at hk1
    refine ACalls_of Tryd.func58 rfl in_58 (Nat.le_of_ble_eq_true rfl) ?_
    intro F hF
    simp (dsimp := false) only [go_sem, Nat.reduceAdd, Nat.reduceBEq, Nat.reduceEqDiff, Nat.reduceLT, Nat.reduceLeDiff, Nat.reduceMul, Int.reduceToNat, reduceCtorEq, ↓reduceIte, Tryd.ntmps58, Tryd.results58, ks_58, mu_58, ti_hb56, ti_hb57, ti_hb59, ti_hb60, ti_hb112, ti_pl97, ti_sl43, ti_st9, ti_zr97, hf0', not_true_eq_false, not_false_eq_true, and_self, Bool.true_and, Bool.and_true, Bool.and_false, and_false, Int.reduceEq, Int.reduceLT, Int.reduceLE, Nat.zero_add, in_58] at hF
    subst hF
    repeat' (first | with_reducible (first | refine And.intro ?_ ?_ | intro _ | refine AWp_seq ?_ | refine AWp_block ?_ | (refine hKv _ _ (AWp_nop ?_); clear hKv Kv) | (refine hKA ?_; clear hKA hKB KA KB) | (refine hKB ?_; clear hKA hKB KA KB) | refine AWp_skipN ?_ | refine AWp_exitO (by repeat (first | exact Out.hit | apply Out.thenA | apply Out.out rfl)) ?_) | ((first | with_reducible (first | (refine hKv _ _ ?_; clear hKv Kv) | ((first | refine AWp_regC mu_58 ks_58 ?_ | refine AWp_regE mu_58 ks_58 ?_); intro Kv hKv) | refine AWp_retR ?_) | refine nameFrom_A s at_ hs hat _ _ ?_); try simp (dsimp := false) only [go_sem, Nat.reduceAdd, Nat.reduceBEq, Nat.reduceEqDiff, Nat.reduceLT, Nat.reduceLeDiff, Nat.reduceMul, Int.reduceToNat, reduceCtorEq, ↓reduceIte, Tryd.ntmps58, Tryd.results58, ks_58, mu_58, ti_hb56, ti_hb57, ti_hb59, ti_hb60, ti_hb112, ti_pl97, ti_sl43, ti_st9, ti_zr97, hf0', not_true_eq_false, not_false_eq_true, and_self, Bool.true_and, Bool.and_true, Bool.and_false, and_false, Int.reduceEq, Int.reduceLT, Int.reduceLE, Nat.zero_add]) | (refine AWp_condC rfl ?_; intro KA KB hKA hKB; try simp only [onB_true, onB_false, onB_dec, onB_ndec, onB_not, onB_and, onB_or]) | (refine AWp_condA rfl ?_ ?_) | with_reducible (first | refine onB_of ?_ ?_ | rfl) | omega)
    all_goals first
      | omega
      | exact hk1
  rw [hf0] at h0
  have hlm : ∀ l : List Ev, (l.map evR).length = l.length := fun l => List.length_map ..
  refine ACalls_of Tryd.func58 rfl in_58 (Nat.le_of_ble_eq_true rfl) ?_
  intro F hF
  simp (dsimp := false) only [go_sem, Nat.reduceAdd, Nat.reduceBEq, Nat.reduceEqDiff, Nat.reduceLT, Nat.reduceLeDiff, Nat.reduceMul, Int.reduceToNat, reduceCtorEq, ↓reduceIte, Tryd.ntmps58, Tryd.results58, ks_58, mu_58, ti_hb56, ti_hb57, ti_hb59, ti_hb60, ti_hb112, ti_pl97, ti_sl43, ti_st9, ti_zr97, hf0, aa0, aa1, aa2, hcut, evR, not_true_eq_false, not_false_eq_true, and_self, Bool.true_and, Bool.and_true, Bool.and_false, and_false, Int.reduceEq, Int.reduceLT, Int.reduceLE, Nat.zero_add, in_58] at hF
  subst hF
  repeat' (first | with_reducible (first | refine And.intro ?_ ?_ | intro _ | refine AWp_seq ?_ | refine AWp_block ?_ | (refine hKv _ _ (AWp_nop ?_); clear hKv Kv) | (refine hKA ?_; clear hKA hKB KA KB) | (refine hKB ?_; clear hKA hKB KA KB) | refine AWp_skipN ?_ | refine AWp_exitO (by repeat (first | exact Out.hit | apply Out.thenA | apply Out.out rfl)) ?_) | ((first | with_reducible (first | (refine hKv _ _ ?_; clear hKv Kv) | ((first | refine AWp_regC mu_58 ks_58 ?_ | refine AWp_regE mu_58 ks_58 ?_); intro Kv hKv) | refine AWp_retR ?_) | refine nameFrom_A s at_ hs hat _ _ ?_); try simp (dsimp := false) only [go_sem, Nat.reduceAdd, Nat.reduceBEq, Nat.reduceEqDiff, Nat.reduceLT, Nat.reduceLeDiff, Nat.reduceMul, Int.reduceToNat, reduceCtorEq, ↓reduceIte, Tryd.ntmps58, Tryd.results58, ks_58, mu_58, ti_hb56, ti_hb57, ti_hb59, ti_hb60, ti_hb112, ti_pl97, ti_sl43, ti_st9, ti_zr97, hf0, aa0, aa1, aa2, hcut, evR, not_true_eq_false, not_false_eq_true, and_self, Bool.true_and, Bool.and_true, Bool.and_false, and_false, Int.reduceEq, Int.reduceLT, Int.reduceLE, Nat.zero_add]) | (refine AWp_condC rfl ?_; intro KA KB hKA hKB; try simp only [onB_true, onB_false, onB_dec, onB_ndec, onB_not, onB_and, onB_or]) | (refine AWp_condA rfl ?_ ?_) | with_reducible (first | refine onB_of ?_ ?_ | rfl) | omega)
  refine AWp_whileP (fun y : Ta × Nat => TaOk s at_ 0 y.1 ∧ y.1.f = 0) (fun y => [(0, .d (.s s)), (1, .d (.i .i64 y.1.i)), (10, .os H.length y.2)]) (fun y => H ++ [.row y.2 97 3 (y.1.acc.map evR)]) (fun y => y.1.fuel) (_, 0) ⟨h0, rfl⟩ ?_ ?_ ?_ ?_ ?_
  · first | rfl | (simp [evR]; done)
  · simp (dsimp := false) only [go_sem, Nat.reduceAdd, Nat.reduceBEq, Nat.reduceEqDiff, Nat.reduceLT, Nat.reduceLeDiff, Nat.reduceMul, Int.reduceToNat, reduceCtorEq, ↓reduceIte, Tryd.ntmps58, Tryd.results58, ks_58, mu_58, ti_hb56, ti_hb57, ti_hb59, ti_hb60, ti_hb112, ti_pl97, ti_sl43, ti_st9, ti_zr97, hf0, aa0, aa1, aa2, hcut, evR, not_true_eq_false, not_false_eq_true, and_self, Bool.true_and, Bool.and_true, Bool.and_false, and_false, Int.reduceEq, Int.reduceLT, Int.reduceLE, Nat.zero_add]
    first | done | (simp; done) | (simp; omega)
  · intro y _
    simp
  · intro y _
    exact closed_app fun ob hob => by
      rw [List.mem_singleton.1 hob]
      exact obBel_evs _ _ _
  rintro ⟨⟨i, g, acc, fuel⟩, v⟩ ⟨hy, hg⟩
  simp only [] at hg
  subst hg
  have y2 : i ≤ s.length := hy.h2
  have y5 : acc.length + fuel ≤ s.length + 3 := hy.h5
  simp only [] at ⊢
  obtain ⟨fl, rfl⟩ := hy.unf
  have hbl := blankN_le (s.drop i)
  rw [List.length_drop] at hbl
  have step := hy.step
  have close := hy.close
  have open_ := hy.open_
  have slash := hy.slash
  have form := hy.form
  generalize hbd : blankN (s.drop i) = b at *
  have hib : i + b ≤ s.length := by omega
  have ii0 : ((0 : Int) ≤ ((i + b : Nat) : Int)) = True := eq_true (by omega)
  have ii1 : (((i + b : Nat) : Int) ≤ (s.length : Int)) = True := eq_true (by omega)
  cases p1 : [47, 62].isPrefixOf (s.drop (i + b)) with
  | true =>
    obtain ⟨k1, k2, k3, k4⟩ := close p1
    have hk0 := hk0 k4 (v + 1)
    rw [← k1, ← k2, k3] at hk0
    have ec : ((i + b : Nat) : Int) + 2 = ((i + b + 2 : Nat) : Int) := by omega
    repeat' (first | with_reducible (first | refine And.intro ?_ ?_ | intro _ | refine AWp_seq ?_ | refine AWp_block ?_ | (refine hKv _ _ (AWp_nop ?_); clear hKv Kv) | (refine hKA ?_; clear hKA hKB KA KB) | (refine hKB ?_; clear hKA hKB KA KB) | refine AWp_skipN ?_ | refine AWp_exitO (by repeat (first | exact Out.hit | apply Out.thenA | apply Out.out rfl)) ?_) | ((first | with_reducible (first | (refine hKv _ _ ?_; clear hKv Kv) | ((first | refine AWp_regC mu_58 ks_58 ?_ | refine AWp_regE mu_58 ks_58 ?_); intro Kv hKv) | refine AWp_retR ?_) | refine blankFrom_A s i hs y2 _ _ ?_ | refine begins_A s [47, 62] (i + b) hs hib (by decide) _ _ ?_); try simp (dsimp := false) only [go_sem, Nat.reduceAdd, Nat.reduceBEq, Nat.reduceEqDiff, Nat.reduceLT, Nat.reduceLeDiff, Nat.reduceMul, Int.reduceToNat, reduceCtorEq, ↓reduceIte, Tryd.ntmps58, Tryd.results58, ks_58, mu_58, ti_hb56, ti_hb57, ti_hb59, ti_hb60, ti_hb112, ti_pl97, ti_sl43, ti_st9, ti_zr97, hbd, hlm, evR_app, not_true_eq_false, not_false_eq_true, and_self, Bool.true_and, Bool.and_true, Bool.and_false, and_false, Int.reduceEq, Int.reduceLT, Int.reduceLE, Nat.zero_add, p1, ec]) | (refine AWp_condC rfl ?_; intro KA KB hKA hKB; try simp only [onB_true, onB_false, onB_dec, onB_ndec, onB_not, onB_and, onB_or]) | (refine AWp_condA rfl ?_ ?_) | with_reducible (first | refine onB_of ?_ ?_ | rfl) | omega)
    all_goals first
      | omega
      | exact hk0
  | false =>
    cases p2 : [62].isPrefixOf (s.drop (i + b)) with
    | true =>
      obtain ⟨k1, k2, k3, k4⟩ := open_ p1 p2
      have hk0 := hk0 k4 v
      rw [← k1, ← k2, k3] at hk0
      have ec : ((i + b : Nat) : Int) + 1 = ((i + b + 1 : Nat) : Int) := by omega
      repeat' (first | with_reducible (first | refine And.intro ?_ ?_ | intro _ | refine AWp_seq ?_ | refine AWp_block ?_ | (refine hKv _ _ (AWp_nop ?_); clear hKv Kv) | (refine hKA ?_; clear hKA hKB KA KB) | (refine hKB ?_; clear hKA hKB KA KB) | refine AWp_skipN ?_ | refine AWp_exitO (by repeat (first | exact Out.hit | apply Out.thenA | apply Out.out rfl)) ?_) | ((first | with_reducible (first | (refine hKv _ _ ?_; clear hKv Kv) | ((first | refine AWp_regC mu_58 ks_58 ?_ | refine AWp_regE mu_58 ks_58 ?_); intro Kv hKv) | refine AWp_retR ?_) | refine blankFrom_A s i hs y2 _ _ ?_ | refine begins_A s [47, 62] (i + b) hs hib (by decide) _ _ ?_ | refine begins_A s [62] (i + b) hs hib (by decide) _ _ ?_); try simp (dsimp := false) only [go_sem, Nat.reduceAdd, Nat.reduceBEq, Nat.reduceEqDiff, Nat.reduceLT, Nat.reduceLeDiff, Nat.reduceMul, Int.reduceToNat, reduceCtorEq, ↓reduceIte, Tryd.ntmps58, Tryd.results58, ks_58, mu_58, ti_hb56, ti_hb57, ti_hb59, ti_hb60, ti_hb112, ti_pl97, ti_sl43, ti_st9, ti_zr97, hbd, hlm, evR_app, not_true_eq_false, not_false_eq_true, and_self, Bool.true_and, Bool.and_true, Bool.and_false, and_false, Int.reduceEq, Int.reduceLT, Int.reduceLE, Nat.zero_add, p1, p2, ec]) | (refine AWp_condC rfl ?_; intro KA KB hKA hKB; try simp only [onB_true, onB_false, onB_dec, onB_ndec, onB_not, onB_and, onB_or]) | (refine AWp_condA rfl ?_ ?_) | with_reducible (first | refine onB_of ?_ ?_ | rfl) | omega)
      all_goals first
        | omega
        | exact hk0
    | false =>
      by_cases hin : i + b < s.length
      · obtain ⟨c, hc⟩ : ∃ c, s[i + b]? = some c := ⟨s[i + b], List.getElem?_eq_getElem hin⟩
        have hin' : (((i + b : Nat) : Int) < (s.length : Int)) = True := eq_true (by omega)
        have hhead : (s.drop (i + b)).head? = some c := by rw [drop_of_get hc]; rfl
        by_cases c1 : c = 47
        · have n1 : ((c.toNat : Int) = 47) = True := by rw [show (47 : Int) = ((47 : Nat) : Int) from rfl, byte_eq c 47 (by decide)]; exact eq_true c1
          obtain ⟨k1, k2, k3, k4⟩ := slash p1 p2 (by rw [hhead, c1])
          have mf : missF (s.drop (i + b)) [47, 62] ≠ 0 := by rw [missF]; split <;> decide
          have hk1 := hk1 (by rw [k4]; exact mf)
          rw [k4] at hk1
          repeat' (first | with_reducible (first | refine And.intro ?_ ?_ | intro _ | refine AWp_seq ?_ | refine AWp_block ?_ | (refine hKv _ _ (AWp_nop ?_); clear hKv Kv) | (refine hKA ?_; clear hKA hKB KA KB) | (refine hKB ?_; clear hKA hKB KA KB) | refine AWp_skipN ?_ | refine AWp_exitO (by repeat (first | exact Out.hit | apply Out.thenA | apply Out.out rfl)) ?_) | ((first | with_reducible (first | (refine hKv _ _ ?_; clear hKv Kv) | ((first | refine AWp_regC mu_58 ks_58 ?_ | refine AWp_regE mu_58 ks_58 ?_); intro Kv hKv) | refine AWp_retR ?_) | refine blankFrom_A s i hs y2 _ _ ?_ | refine begins_A s [47, 62] (i + b) hs hib (by decide) _ _ ?_ | refine begins_A s [62] (i + b) hs hib (by decide) _ _ ?_ | refine missing_A s [47, 62] (i + b) hs hib (by decide) p1 _ _ ?_); try simp (dsimp := false) only [go_sem, Nat.reduceAdd, Nat.reduceBEq, Nat.reduceEqDiff, Nat.reduceLT, Nat.reduceLeDiff, Nat.reduceMul, Int.reduceToNat, reduceCtorEq, ↓reduceIte, Tryd.ntmps58, Tryd.results58, ks_58, mu_58, ti_hb56, ti_hb57, ti_hb59, ti_hb60, ti_hb112, ti_pl97, ti_sl43, ti_st9, ti_zr97, hbd, hlm, evR_app, not_true_eq_false, not_false_eq_true, and_self, Bool.true_and, Bool.and_true, Bool.and_false, and_false, Int.reduceEq, Int.reduceLT, Int.reduceLE, Nat.zero_add, p1, p2, ii0, hin', hc, n1]) | (refine AWp_condC rfl ?_; intro KA KB hKA hKB; try simp only [onB_true, onB_false, onB_dec, onB_ndec, onB_not, onB_and, onB_or]) | (refine AWp_condA rfl ?_ ?_) | with_reducible (first | refine onB_of ?_ ?_ | rfl) | omega)
          all_goals first
            | omega
            | exact hk1 _ _
        · have n1 : ((c.toNat : Int) = 47) = False := by rw [show (47 : Int) = ((47 : Nat) : Int) from rfl, byte_eq c 47 (by decide)]; exact eq_false c1
          have hh47 : (s.drop (i + b)).head? ≠ some 47 := by rw [hhead]; intro h; exact c1 (Option.some.inj h)
          by_cases hb0 : b = 0
          · have hb0' : (((i + b : Nat) : Int) = (i : Int)) = True := eq_true (by omega)
            obtain ⟨k1, k2, k3, k4⟩ := form p1 p2 hh47 hb0 (by omega)
            have hk1 := hk1 (by rw [k4]; decide)
            rw [k4] at hk1
            repeat' (first | with_reducible (first | refine And.intro ?_ ?_ | intro _ | refine AWp_seq ?_ | refine AWp_block ?_ | (refine hKv _ _ (AWp_nop ?_); clear hKv Kv) | (refine hKA ?_; clear hKA hKB KA KB) | (refine hKB ?_; clear hKA hKB KA KB) | refine AWp_skipN ?_ | refine AWp_exitO (by repeat (first | exact Out.hit | apply Out.thenA | apply Out.out rfl)) ?_) | ((first | with_reducible (first | (refine hKv _ _ ?_; clear hKv Kv) | ((first | refine AWp_regC mu_58 ks_58 ?_ | refine AWp_regE mu_58 ks_58 ?_); intro Kv hKv) | refine AWp_retR ?_) | refine blankFrom_A s i hs y2 _ _ ?_ | refine begins_A s [47, 62] (i + b) hs hib (by decide) _ _ ?_ | refine begins_A s [62] (i + b) hs hib (by decide) _ _ ?_); try simp (dsimp := false) only [go_sem, Nat.reduceAdd, Nat.reduceBEq, Nat.reduceEqDiff, Nat.reduceLT, Nat.reduceLeDiff, Nat.reduceMul, Int.reduceToNat, reduceCtorEq, ↓reduceIte, Tryd.ntmps58, Tryd.results58, ks_58, mu_58, ti_hb56, ti_hb57, ti_hb59, ti_hb60, ti_hb112, ti_pl97, ti_sl43, ti_st9, ti_zr97, hbd, hlm, evR_app, not_true_eq_false, not_false_eq_true, and_self, Bool.true_and, Bool.and_true, Bool.and_false, and_false, Int.reduceEq, Int.reduceLT, Int.reduceLE, Nat.zero_add, p1, p2, ii0, hin', hc, n1, hb0']) | (refine AWp_condC rfl ?_; intro KA KB hKA hKB; try simp only [onB_true, onB_false, onB_dec, onB_ndec, onB_not, onB_and, onB_or]) | (refine AWp_condA rfl ?_ ?_) | with_reducible (first | refine onB_of ?_ ?_ | rfl) | omega)
            all_goals first
              | omega
              | exact hk1 _ _
          have hb0' : (((i + b : Nat) : Int) = (i : Int)) = False := eq_false (by omega)
          have st := step p1 p2 hh47 (fun h => hb0 h.1)
          obtain ⟨m1, m2, m3, m4⟩ := arOf_le (s := s) (a0 := i + b) hib
          have m1 : i + b + nmN s (i + b) 0 ≤ s.length := m1
          have jj1 : (((i + b : Nat) : Int) ≤ ((i + b + nmN s (i + b) 0 : Nat) : Int)) = True := eq_true (by omega)
          have jj2 : (((i + b + nmN s (i + b) 0 : Nat) : Int) ≤ (s.length : Int)) = True := eq_true (by omega)
          have hcut2 : List.drop (i + b) (List.take (i + b + nmN s (i + b) 0) s) = (s.drop (i + b)).take (nmN s (i + b) 0) := by rw [List.drop_take, Nat.add_sub_cancel_left]
          have ec2 : ((i + b + nmN s (i + b) 0 : Nat) : Int) + 2 = ((i + b + nmN s (i + b) 0 + 2 : Nat) : Int) := by omega
          rcases arOf_cases s (i + b) with ⟨g1, g2⟩ | ⟨g1, g2, g3, g4⟩ | ⟨g1, g2, g3, g4⟩ | ⟨g1, g2, g3, g4, g5⟩ | ⟨g1, g2, g3, g4, g5, g6, g7⟩
          · have g1' : (nmF s (i + b) 0 = 0) = False := eq_false g1
            have hT := (st.h4 (by show (arOf s (i + b)).f4 ≠ 0; rw [g2]; exact g1)).2.2.2
            simp only [g2] at hT
            have hk1 := hk1 (by rw [← hT]; exact g1)
            rw [← hT] at hk1
            repeat' (first | with_reducible (first | refine And.intro ?_ ?_ | intro _ | refine AWp_seq ?_ | refine AWp_block ?_ | (refine hKv _ _ (AWp_nop ?_); clear hKv Kv) | (refine hKA ?_; clear hKA hKB KA KB) | (refine hKB ?_; clear hKA hKB KA KB) | refine AWp_skipN ?_ | refine AWp_exitO (by repeat (first | exact Out.hit | apply Out.thenA | apply Out.out rfl)) ?_) | ((first | with_reducible (first | (refine hKv _ _ ?_; clear hKv Kv) | ((first | refine AWp_regC mu_58 ks_58 ?_ | refine AWp_regE mu_58 ks_58 ?_); intro Kv hKv) | refine AWp_retR ?_) | refine blankFrom_A s i hs y2 _ _ ?_ | refine begins_A s [47, 62] (i + b) hs hib (by decide) _ _ ?_ | refine begins_A s [62] (i + b) hs hib (by decide) _ _ ?_ | refine nameFrom_A s (i + b) hs hib _ _ ?_); try simp (dsimp := false) only [go_sem, Nat.reduceAdd, Nat.reduceBEq, Nat.reduceEqDiff, Nat.reduceLT, Nat.reduceLeDiff, Nat.reduceMul, Int.reduceToNat, reduceCtorEq, ↓reduceIte, Tryd.ntmps58, Tryd.results58, ks_58, mu_58, ti_hb56, ti_hb57, ti_hb59, ti_hb60, ti_hb112, ti_pl97, ti_sl43, ti_st9, ti_zr97, hbd, hlm, evR_app, not_true_eq_false, not_false_eq_true, and_self, Bool.true_and, Bool.and_true, Bool.and_false, and_false, Int.reduceEq, Int.reduceLT, Int.reduceLE, Nat.zero_add, p1, p2, ii0, hin', hc, n1, hb0', g1']) | (refine AWp_condC rfl ?_; intro KA KB hKA hKB; try simp only [onB_true, onB_false, onB_dec, onB_ndec, onB_not, onB_and, onB_or]) | (refine AWp_condA rfl ?_ ?_) | with_reducible (first | refine onB_of ?_ ?_ | rfl) | omega)
            all_goals first
              | omega
              | exact hk1 _ _
          ·
            have hT := (st.h4 (by show (arOf s (i + b)).f4 ≠ 0; rw [g3]; exact g4)).2.2.2
            simp only [g3] at hT
            have hk1 := hk1 (by rw [← hT]; exact g4)
            rw [← hT] at hk1
            repeat' (first | with_reducible (first | refine And.intro ?_ ?_ | intro _ | refine AWp_seq ?_ | refine AWp_block ?_ | (refine hKv _ _ (AWp_nop ?_); clear hKv Kv) | (refine hKA ?_; clear hKA hKB KA KB) | (refine hKB ?_; clear hKA hKB KA KB) | refine AWp_skipN ?_ | refine AWp_exitO (by repeat (first | exact Out.hit | apply Out.thenA | apply Out.out rfl)) ?_) | ((first | with_reducible (first | (refine hKv _ _ ?_; clear hKv Kv) | ((first | refine AWp_regC mu_58 ks_58 ?_ | refine AWp_regE mu_58 ks_58 ?_); intro Kv hKv) | refine AWp_retR ?_) | refine blankFrom_A s i hs y2 _ _ ?_ | refine begins_A s [47, 62] (i + b) hs hib (by decide) _ _ ?_ | refine begins_A s [62] (i + b) hs hib (by decide) _ _ ?_ | refine nameFrom_A s (i + b) hs hib _ _ ?_ | refine begins_A s [61, 34] (i + b + nmN s (i + b) 0) hs m1 (by decide) _ _ ?_ | refine missing_A s [61, 34] (i + b + nmN s (i + b) 0) hs m1 (by decide) g2 _ _ ?_); try simp (dsimp := false) only [go_sem, Nat.reduceAdd, Nat.reduceBEq, Nat.reduceEqDiff, Nat.reduceLT, Nat.reduceLeDiff, Nat.reduceMul, Int.reduceToNat, reduceCtorEq, ↓reduceIte, Tryd.ntmps58, Tryd.results58, ks_58, mu_58, ti_hb56, ti_hb57, ti_hb59, ti_hb60, ti_hb112, ti_pl97, ti_sl43, ti_st9, ti_zr97, hbd, hlm, evR_app, not_true_eq_false, not_false_eq_true, and_self, Bool.true_and, Bool.and_true, Bool.and_false, and_false, Int.reduceEq, Int.reduceLT, Int.reduceLE, Nat.zero_add, p1, p2, ii0, hin', hc, n1, hb0', g1, g2, jj1, jj2, hcut2]) | (refine AWp_condC rfl ?_; intro KA KB hKA hKB; try simp only [onB_true, onB_false, onB_dec, onB_ndec, onB_not, onB_and, onB_or]) | (refine AWp_condA rfl ?_ ?_) | with_reducible (first | refine onB_of ?_ ?_ | rfl) | omega)
            all_goals first
              | omega
              | exact hk1 _ _
          ·
            have hq := pfx_len (i := i + b + nmN s (i + b) 0) g2
            simp only [List.length_cons, List.length_nil] at hq
            have hi2 : i + b + nmN s (i + b) 0 + 2 ≤ s.length := by omega
            have hvl := valN_le 34 (s.drop (i + b + nmN s (i + b) 0 + 2)) 0
            rw [List.length_drop] at hvl
            have g3' : ((valN 34 0 (s.drop (i + b + nmN s (i + b) 0 + 2))).f = 0) = False := eq_false g3
            have hT := (st.h4 (by show (arOf s (i + b)).f4 ≠ 0; rw [g4]; exact g3)).2.2.2
            simp only [g4] at hT
            have hk1 := hk1 (by rw [← hT]; exact g3)
            rw [← hT] at hk1
            repeat' (first | with_reducible (first | refine And.intro ?_ ?_ | intro _ | refine AWp_seq ?_ | refine AWp_block ?_ | (refine hKv _ _ (AWp_nop ?_); clear hKv Kv) | (refine hKA ?_; clear hKA hKB KA KB) | (refine hKB ?_; clear hKA hKB KA KB) | refine AWp_skipN ?_ | refine AWp_exitO (by repeat (first | exact Out.hit | apply Out.thenA | apply Out.out rfl)) ?_) | ((first | with_reducible (first | (refine hKv _ _ ?_; clear hKv Kv) | ((first | refine AWp_regC mu_58 ks_58 ?_ | refine AWp_regE mu_58 ks_58 ?_); intro Kv hKv) | refine AWp_retR ?_) | refine blankFrom_A s i hs y2 _ _ ?_ | refine begins_A s [47, 62] (i + b) hs hib (by decide) _ _ ?_ | refine begins_A s [62] (i + b) hs hib (by decide) _ _ ?_ | refine nameFrom_A s (i + b) hs hib _ _ ?_ | refine begins_A s [61, 34] (i + b + nmN s (i + b) 0) hs m1 (by decide) _ _ ?_ | refine plainFrom_A 34 (.inl rfl) 34 rfl s (i + b + nmN s (i + b) 0 + 2) hs hi2 _ _ ?_); try simp (dsimp := false) only [go_sem, Nat.reduceAdd, Nat.reduceBEq, Nat.reduceEqDiff, Nat.reduceLT, Nat.reduceLeDiff, Nat.reduceMul, Int.reduceToNat, reduceCtorEq, ↓reduceIte, Tryd.ntmps58, Tryd.results58, ks_58, mu_58, ti_hb56, ti_hb57, ti_hb59, ti_hb60, ti_hb112, ti_pl97, ti_sl43, ti_st9, ti_zr97, hbd, hlm, evR_app, not_true_eq_false, not_false_eq_true, and_self, Bool.true_and, Bool.and_true, Bool.and_false, and_false, Int.reduceEq, Int.reduceLT, Int.reduceLE, Nat.zero_add, p1, p2, ii0, hin', hc, n1, hb0', g1, g2, g3', ec2, jj1, jj2, hcut2]) | (refine AWp_condC rfl ?_; intro KA KB hKA hKB; try simp only [onB_true, onB_false, onB_dec, onB_ndec, onB_not, onB_and, onB_or]) | (refine AWp_condA rfl ?_ ?_) | with_reducible (first | refine onB_of ?_ ?_ | rfl) | omega)
            all_goals first
              | omega
              | exact hk1 _ _
          ·
            have hq := pfx_len (i := i + b + nmN s (i + b) 0) g2
            simp only [List.length_cons, List.length_nil] at hq
            have hi2 : i + b + nmN s (i + b) 0 + 2 ≤ s.length := by omega
            have hvl := valN_le 34 (s.drop (i + b + nmN s (i + b) 0 + 2)) 0
            rw [List.length_drop] at hvl
            generalize hW : valN 34 0 (s.drop (i + b + nmN s (i + b) 0 + 2)) = W at *
            have hlt := (List.getElem?_eq_some_iff.1 g4).1
            have z0 : ((0 : Int) ≤ ((i + b + nmN s (i + b) 0 + 2 + W.n : Nat) : Int)) = True := eq_true (by omega)
            have z1 : (((i + b + nmN s (i + b) 0 + 2 + W.n : Nat) : Int) < (s.length : Int)) = True := eq_true (by omega)
            have hT := (st.h4 (by show (arOf s (i + b)).f4 ≠ 0; rw [g5]; exact (by decide))).2.2.2
            simp only [g5] at hT
            have hk1 := hk1 (by rw [← hT]; exact (by decide))
            rw [← hT] at hk1
            have z2 : (((60 : UInt8).toNat : Int) = 34) = False := eq_false (by decide)
            repeat' (first | with_reducible (first | refine And.intro ?_ ?_ | intro _ | refine AWp_seq ?_ | refine AWp_block ?_ | (refine hKv _ _ (AWp_nop ?_); clear hKv Kv) | (refine hKA ?_; clear hKA hKB KA KB) | (refine hKB ?_; clear hKA hKB KA KB) | refine AWp_skipN ?_ | refine AWp_exitO (by repeat (first | exact Out.hit | apply Out.thenA | apply Out.out rfl)) ?_) | ((first | with_reducible (first | (refine hKv _ _ ?_; clear hKv Kv) | ((first | refine AWp_regC mu_58 ks_58 ?_ | refine AWp_regE mu_58 ks_58 ?_); intro Kv hKv) | refine AWp_retR ?_) | refine blankFrom_A s i hs y2 _ _ ?_ | refine begins_A s [47, 62] (i + b) hs hib (by decide) _ _ ?_ | refine begins_A s [62] (i + b) hs hib (by decide) _ _ ?_ | refine nameFrom_A s (i + b) hs hib _ _ ?_ | refine begins_A s [61, 34] (i + b + nmN s (i + b) 0) hs m1 (by decide) _ _ ?_ | refine plainFrom_A 34 (.inl rfl) 34 rfl s (i + b + nmN s (i + b) 0 + 2) hs hi2 _ _ ?_); try simp (dsimp := false) only [go_sem, Nat.reduceAdd, Nat.reduceBEq, Nat.reduceEqDiff, Nat.reduceLT, Nat.reduceLeDiff, Nat.reduceMul, Int.reduceToNat, reduceCtorEq, ↓reduceIte, Tryd.ntmps58, Tryd.results58, ks_58, mu_58, ti_hb56, ti_hb57, ti_hb59, ti_hb60, ti_hb112, ti_pl97, ti_sl43, ti_st9, ti_zr97, hbd, hlm, evR_app, not_true_eq_false, not_false_eq_true, and_self, Bool.true_and, Bool.and_true, Bool.and_false, and_false, Int.reduceEq, Int.reduceLT, Int.reduceLE, Nat.zero_add, p1, p2, ii0, hin', hc, n1, hb0', hW, g1, g2, g3, g4, z0, z1, z2, ec2, jj1, jj2, hcut2]) | (refine AWp_condC rfl ?_; intro KA KB hKA hKB; try simp only [onB_true, onB_false, onB_dec, onB_ndec, onB_not, onB_and, onB_or]) | (refine AWp_condA rfl ?_ ?_) | with_reducible (first | refine onB_of ?_ ?_ | rfl) | omega)
            all_goals first
              | omega
              | exact hk1 _ _
          ·
            have hq := pfx_len (i := i + b + nmN s (i + b) 0) g2
            simp only [List.length_cons, List.length_nil] at hq
            have hi2 : i + b + nmN s (i + b) 0 + 2 ≤ s.length := by omega
            have hvl := valN_le 34 (s.drop (i + b + nmN s (i + b) 0 + 2)) 0
            rw [List.length_drop] at hvl
            generalize hW : valN 34 0 (s.drop (i + b + nmN s (i + b) 0 + 2)) = W at *
            have hlt := (List.getElem?_eq_some_iff.1 g4).1
            have z0 : ((0 : Int) ≤ ((i + b + nmN s (i + b) 0 + 2 + W.n : Nat) : Int)) = True := eq_true (by omega)
            have z1 : (((i + b + nmN s (i + b) 0 + 2 + W.n : Nat) : Int) < (s.length : Int)) = True := eq_true (by omega)
            rw [g5, g6, g7] at st
            have z2 : (((34 : UInt8).toNat : Int) = 34) = True := eq_true rfl
            have ec3 : ((i + b + nmN s (i + b) 0 + 2 + W.n : Nat) : Int) + 1 = ((i + b + nmN s (i + b) 0 + 2 + W.n + 1 : Nat) : Int) := by omega
            repeat' (first | with_reducible (first | refine And.intro ?_ ?_ | intro _ | refine AWp_seq ?_ | refine AWp_block ?_ | (refine hKv _ _ (AWp_nop ?_); clear hKv Kv) | (refine hKA ?_; clear hKA hKB KA KB) | (refine hKB ?_; clear hKA hKB KA KB) | refine AWp_skipN ?_ | refine AWp_exitO (by repeat (first | exact Out.hit | apply Out.thenA | apply Out.out rfl)) ?_) | ((first | with_reducible (first | (refine hKv _ _ ?_; clear hKv Kv) | ((first | refine AWp_regC mu_58 ks_58 ?_ | refine AWp_regE mu_58 ks_58 ?_); intro Kv hKv) | refine AWp_retR ?_) | refine blankFrom_A s i hs y2 _ _ ?_ | refine begins_A s [47, 62] (i + b) hs hib (by decide) _ _ ?_ | refine begins_A s [62] (i + b) hs hib (by decide) _ _ ?_ | refine nameFrom_A s (i + b) hs hib _ _ ?_ | refine begins_A s [61, 34] (i + b + nmN s (i + b) 0) hs m1 (by decide) _ _ ?_ | refine plainFrom_A 34 (.inl rfl) 34 rfl s (i + b + nmN s (i + b) 0 + 2) hs hi2 _ _ ?_); try simp (dsimp := false) only [go_sem, Nat.reduceAdd, Nat.reduceBEq, Nat.reduceEqDiff, Nat.reduceLT, Nat.reduceLeDiff, Nat.reduceMul, Int.reduceToNat, reduceCtorEq, ↓reduceIte, Tryd.ntmps58, Tryd.results58, ks_58, mu_58, ti_hb56, ti_hb57, ti_hb59, ti_hb60, ti_hb112, ti_pl97, ti_sl43, ti_st9, ti_zr97, hbd, hlm, evR_app, not_true_eq_false, not_false_eq_true, and_self, Bool.true_and, Bool.and_true, Bool.and_false, and_false, Int.reduceEq, Int.reduceLT, Int.reduceLE, Nat.zero_add, p1, p2, ii0, hin', hc, n1, hb0', hW, g1, g2, g3, g4, z0, z1, z2, ec2, ec3, jj1, jj2, hcut2]) | (refine AWp_condC rfl ?_; intro KA KB hKA hKB; try simp only [onB_true, onB_false, onB_dec, onB_ndec, onB_not, onB_and, onB_or]) | (refine AWp_condA rfl ?_ ?_) | with_reducible (first | refine onB_of ?_ ?_ | rfl) | omega)
            all_goals first
              | omega
              | exact ⟨(⟨i + b + nmN s (i + b) 0 + 2 + W.n + 1, 0, acc ++ [⟨2, (s.drop (i + b)).take (nmN s (i + b) 0), W.out⟩], fl⟩, v + 1), ⟨st, rfl⟩, by show fl < fl + 1; omega, by (repeat' (refine And.intro ?_ ?_)) <;> first | rfl | omega | (simp; done) | (simp; omega)⟩
      · have hin' : (((i + b : Nat) : Int) < (s.length : Int)) = False := eq_false (by omega)
        have hh47 : (s.drop (i + b)).head? ≠ some 47 := by rw [List.drop_eq_nil_of_le (by omega)]; simp
        have g1 := nmF_end (s := s) (a := i + b) (by omega)
        have g1' : (nmF s (i + b) 0 = 0) = False := eq_false g1
        have st := step p1 p2 hh47 (fun h => by omega)
        have g2 : (arOf s (i + b)).f4 = nmF s (i + b) 0 := by
          rcases arOf_cases s (i + b) with ⟨_, g2⟩ | ⟨g0, _⟩ | ⟨g0, _⟩ | ⟨g0, _⟩ | ⟨g0, _⟩
          · exact g2
          all_goals exact absurd g0 g1
        have hT := (st.h4 (by show (arOf s (i + b)).f4 ≠ 0; rw [g2]; exact g1)).2.2.2
        simp only [g2] at hT
        have hk1 := hk1 (by rw [← hT]; exact g1)
        rw [← hT] at hk1
        by_cases hb0 : b = 0
        · have hb0' : (((i + b : Nat) : Int) = (i : Int)) = True := eq_true (by omega)
          repeat' (first | with_reducible (first | refine And.intro ?_ ?_ | intro _ | refine AWp_seq ?_ | refine AWp_block ?_ | (refine hKv _ _ (AWp_nop ?_); clear hKv Kv) | (refine hKA ?_; clear hKA hKB KA KB) | (refine hKB ?_; clear hKA hKB KA KB) | refine AWp_skipN ?_ | refine AWp_exitO (by repeat (first | exact Out.hit | apply Out.thenA | apply Out.out rfl)) ?_) | ((first | with_reducible (first | (refine hKv _ _ ?_; clear hKv Kv) | ((first | refine AWp_regC mu_58 ks_58 ?_ | refine AWp_regE mu_58 ks_58 ?_); intro Kv hKv) | refine AWp_retR ?_) | refine blankFrom_A s i hs y2 _ _ ?_ | refine begins_A s [47, 62] (i + b) hs hib (by decide) _ _ ?_ | refine begins_A s [62] (i + b) hs hib (by decide) _ _ ?_ | refine nameFrom_A s (i + b) hs hib _ _ ?_); try simp (dsimp := false) only [go_sem, Nat.reduceAdd, Nat.reduceBEq, Nat.reduceEqDiff, Nat.reduceLT, Nat.reduceLeDiff, Nat.reduceMul, Int.reduceToNat, reduceCtorEq, ↓reduceIte, Tryd.ntmps58, Tryd.results58, ks_58, mu_58, ti_hb56, ti_hb57, ti_hb59, ti_hb60, ti_hb112, ti_pl97, ti_sl43, ti_st9, ti_zr97, hbd, hlm, evR_app, not_true_eq_false, not_false_eq_true, and_self, Bool.true_and, Bool.and_true, Bool.and_false, and_false, Int.reduceEq, Int.reduceLT, Int.reduceLE, Nat.zero_add, p1, p2, ii0, hin', hb0', g1']) | (refine AWp_condC rfl ?_; intro KA KB hKA hKB; try simp only [onB_true, onB_false, onB_dec, onB_ndec, onB_not, onB_and, onB_or]) | (refine AWp_condA rfl ?_ ?_) | with_reducible (first | refine onB_of ?_ ?_ | rfl) | omega)
          all_goals first
            | omega
            | exact hk1 _ _
        · have hb0' : (((i + b : Nat) : Int) = (i : Int)) = False := eq_false (by omega)
          repeat' (first | with_reducible (first | refine And.intro ?_ ?_ | intro _ | refine AWp_seq ?_ | refine AWp_block ?_ | (refine hKv _ _ (AWp_nop ?_); clear hKv Kv) | (refine hKA ?_; clear hKA hKB KA KB) | (refine hKB ?_; clear hKA hKB KA KB) | refine AWp_skipN ?_ | refine AWp_exitO (by repeat (first | exact Out.hit | apply Out.thenA | apply Out.out rfl)) ?_) | ((first | with_reducible (first | (refine hKv _ _ ?_; clear hKv Kv) | ((first | refine AWp_regC mu_58 ks_58 ?_ | refine AWp_regE mu_58 ks_58 ?_); intro Kv hKv) | refine AWp_retR ?_) | refine blankFrom_A s i hs y2 _ _ ?_ | refine begins_A s [47, 62] (i + b) hs hib (by decide) _ _ ?_ | refine begins_A s [62] (i + b) hs hib (by decide) _ _ ?_ | refine nameFrom_A s (i + b) hs hib _ _ ?_); try simp (dsimp := false) only [go_sem, Nat.reduceAdd, Nat.reduceBEq, Nat.reduceEqDiff, Nat.reduceLT, Nat.reduceLeDiff, Nat.reduceMul, Int.reduceToNat, reduceCtorEq, ↓reduceIte, Tryd.ntmps58, Tryd.results58, ks_58, mu_58, ti_hb56, ti_hb57, ti_hb59, ti_hb60, ti_hb112, ti_pl97, ti_sl43, ti_st9, ti_zr97, hbd, hlm, evR_app, not_true_eq_false, not_false_eq_true, and_self, Bool.true_and, Bool.and_true, Bool.and_false, and_false, Int.reduceEq, Int.reduceLT, Int.reduceLE, Nat.zero_add, p1, p2, ii0, hin', hb0', g1']) | (refine AWp_condC rfl ?_; intro KA KB hKA hKB; try simp only [onB_true, onB_false, onB_dec, onB_ndec, onB_not, onB_and, onB_or]) | (refine AWp_condA rfl ?_ ?_) | with_reducible (first | refine onB_of ?_ ?_ | rfl) | omega)
          all_goals first
            | omega
            | exact hk1 _ _
theorem tagFrom_A (s : List UInt8) (at_ : Nat) (hs : s.length ≤ 1000000) (hat : at_ ≤ s.length) (H : Heap) (K : V → Heap → Prop)
    (hk0 : (tgOf s at_ 0).f = 0 → K (.tu [.d (.sl 3 ((tgOf s at_ 0).evs.map evD)), .d (.i .i64 ((at_ + (tgOf s at_ 0).n : Nat) : Int)), .d (.b (tgOf s at_ 0).c), .d (.i .i64 0)]) H)
    (hk1 : (tgOf s at_ 0).f ≠ 0 → ∀ n : Int, K (.tu [.d (.sl 3 []), .d (.i .i64 n), .d (.b false), .d (.i .i64 (tgOf s at_ 0).f)]) H) :
    ACalls Tryd.prog 58 [.d (.s s), .d (.i .i64 at_)] H K :=
  tagFromR_A s at_ hs hat H K
    (fun h v => dropF (hk0 h) (Fz_tu4 (.os _ _ 97 3 _ _ (Nat.le_refl _) ((get_app0 _ _).trans rfl) (evs_data _)) (.same _) (.same _) (.same _)) (by simp [Bel_tu, Bel_d]))
    (fun h n G => dropF (hk1 h n) (Fz_tu4 (.nil _) (.same _) (.same _) (.same _)) (by simp [Bel_tu, Bel_d]))
theorem tagFromO_A (s : List UInt8) (at_ : Nat) (hs : s.length ≤ 1000000) (hat : at_ ≤ s.length) (H : Heap) (K : V → Heap → Prop)
    (hk0 : (tgOf s at_ 0).f = 0 → ∀ v : Nat, K (.tu [.os H.length v, .d (.i .i64 ((at_ + (tgOf s at_ 0).n : Nat) : Int)), .d (.b (tgOf s at_ 0).c), .d (.i .i64 0)]) (H ++ [.row v 97 3 ((tgOf s at_ 0).evs.map evR)]))
    (hk1 : (tgOf s at_ 0).f ≠ 0 → ∀ n : Int, K (.tu [.d (.sl 3 []), .d (.i .i64 n), .d (.b false), .d (.i .i64 (tgOf s at_ 0).f)]) H) :
    ACalls Tryd.prog 58 [.d (.s s), .d (.i .i64 at_)] H K :=
  tagFromR_A s at_ hs hat H K
    (fun h v => keepO (hk0 h v) (fun ob hob => by
      rw [List.mem_singleton.1 hob]
      exact obBel_evs _ _ _) (by simp [Bel_tu, Bel_d, Bel_os]))
    (fun h n G => dropF (hk1 h n) (Fz_tu4 (.nil _) (.same _) (.same _) (.same _)) (by simp [Bel_tu, Bel_d]))
end Go.Proofs.YtjghnaohlfgloaaDoor
