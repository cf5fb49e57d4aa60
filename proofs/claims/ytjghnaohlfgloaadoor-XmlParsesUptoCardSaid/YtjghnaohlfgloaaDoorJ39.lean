/- The reference reads a value. No condition. -/
import Derived.Test.YtjghnaohlfgloaaDoorJ38
set_option linter.all false
set_option linter.unusedSimpArgs false
set_option linter.unusedVariables false
namespace Go.Proofs.YtjghnaohlfgloaaDoor
open Go Go.Proofs.YtjghnaohlfgloaaDoor.Ab
variable [Glo]
set_option maxHeartbeats 4000000
set_option maxRecDepth 20000
def ks_60 : Nat → List Nat
  | 0 => [0, 1, 2]
  | 1 => [0, 1, 2, 9]
  | 2 => [0, 1, 2, 9, 26]
  | 3 => [6, 7, 8]
  | 4 => [0, 1, 2, 9, 28]
  | 5 => [0, 1, 2, 9]
  | 6 => [0, 1, 2, 9]
  | 7 => [0, 1, 2, 9, 42]
  | 8 => [0, 1, 2, 9]
  | 9 => [0, 1, 2, 9]
  | 10 => [0, 1, 2, 9, 50]
  | 11 => [0, 1, 2, 9]
  | 12 => [0, 1, 2, 9]
  | 13 => [0, 1, 2, 9, 58]
  | 14 => [0, 1, 2, 9]
  | 15 => [0, 1, 2, 9]
  | 16 => [0, 1, 2, 9, 66]
  | 17 => [0, 1, 2, 9]
  | 18 => [0, 1, 2, 9]
  | 19 => [1, 9, 77]
  | 20 => [6, 7, 8]
  | 21 => [6, 7, 8]
  | _ => []
def mu_60 : List Nat := []
def in_60 : List Nat := [0, 1, 2]
theorem plainFrom_A (e : UInt8) (he : e = 34 ∨ e = 60) (n : Int) (hn : n = e.toNat) (s : List UInt8) (at_ : Nat) (hs : s.length ≤ 1000000) (hat : at_ ≤ s.length) (H : Heap) (K : V → Heap → Prop)
    (hk : K (.tu [.d (.s (if (valN e 0 (s.drop at_)).f = 0 then (valN e 0 (s.drop at_)).out else [])), .d (.i .i64 ((at_ + (valN e 0 (s.drop at_)).n : Nat) : Int)), .d (.i .i64 (valN e 0 (s.drop at_)).f)]) H) :
    ACalls Tryd.prog 60 [.d (.s s), .d (.i .i64 at_), .d (.i .u8 n)] H K := by
  have h38 : ¬ ((38 : UInt8) = e ∨ (38 : UInt8) = 60) := by rcases he with rfl | rfl <;> decide
  have hint : ∀ c d : UInt8, ((c.toNat : Int) = (d.toNat : Int)) = (c = d) := fun c d => propext (by rw [← UInt8.toNat_inj]; omega)
  refine ACalls_of Tryd.func60 rfl in_60 (Nat.le_of_ble_eq_true rfl) ?_
  intro F hF
  simp (dsimp := false) only [go_sem, Nat.reduceAdd, Nat.reduceBEq, Nat.reduceEqDiff, Nat.reduceLT, Nat.reduceLeDiff, Nat.reduceMul, Int.reduceToNat, reduceCtorEq, ↓reduceIte, Tryd.ntmps60, Tryd.results60, ks_60, mu_60, ti_hb56, ti_st9, in_60] at hF
  subst hF
  repeat' (first | with_reducible (first | refine And.intro ?_ ?_ | intro _ | refine AWp_seq ?_ | refine AWp_block ?_ | (refine hKv _ _ (AWp_nop ?_); clear hKv Kv) | (refine hKA ?_; clear hKA hKB KA KB) | (refine hKB ?_; clear hKA hKB KA KB) | refine AWp_skipN ?_ | refine AWp_exitO (by repeat (first | exact Out.hit | apply Out.thenA | apply Out.out rfl)) ?_) | (with_reducible (first | (refine hKv _ _ ?_; clear hKv Kv) | ((first | refine AWp_regC mu_60 ks_60 ?_ | refine AWp_regE mu_60 ks_60 ?_); intro Kv hKv) | refine AWp_retR ?_); try simp (dsimp := false) only [go_sem, Nat.reduceAdd, Nat.reduceBEq, Nat.reduceEqDiff, Nat.reduceLT, Nat.reduceLeDiff, Nat.reduceMul, Int.reduceToNat, reduceCtorEq, ↓reduceIte, Tryd.ntmps60, Tryd.results60, ks_60, mu_60, ti_hb56, ti_st9]) | (refine AWp_condC rfl ?_; intro KA KB hKA hKB; try simp only [onB_true, onB_false, onB_dec, onB_ndec, onB_not, onB_and, onB_or]) | (refine AWp_condA rfl ?_ ?_) | with_reducible (first | refine onB_of ?_ ?_ | rfl) | omega)
  refine AWp_while0 (fun y : Nat × List UInt8 => VaOk e s at_ ⟨y.1, 0, true, 0, y.2⟩) (fun y => [(0, .d (.s s)), (1, .d (.i .i64 y.1)), (2, .d (.i .u8 n)), (9, .d (.s y.2))]) (fun y => s.length - y.1) (at_, []) ⟨Nat.le_refl _, hat, fun _ => ⟨rfl, rfl, rfl⟩, fun h => absurd rfl h, .inl rfl⟩ ?_ ?_
  · simp (dsimp := false) only [go_sem, Nat.reduceAdd, Nat.reduceBEq, Nat.reduceEqDiff, Nat.reduceLT, Nat.reduceLeDiff, Nat.reduceMul, Int.reduceToNat, reduceCtorEq, ↓reduceIte, Tryd.ntmps60, Tryd.results60, ks_60, mu_60, ti_hb56, ti_st9]
    first | done | (simp; done)
  rintro ⟨i, acc⟩ hy
  have y1 : at_ ≤ i := hy.h1
  have y2 : i ≤ s.length := hy.h2
  have yl : acc.length ≤ s.length := hy.len
  simp only [] at ⊢
  have ii0 : ((0 : Int) ≤ (i : Int)) = True := eq_true (by omega)
  by_cases hin : i < s.length
  · obtain ⟨c, hc⟩ : ∃ c, s[i]? = some c := ⟨s[i], List.getElem?_eq_getElem hin⟩
    have hin' : ((i : Int) < (s.length : Int)) = True := eq_true (by omega)
    have e3 : ((i : Int) = (s.length : Int)) = False := eq_false (by omega)
    have ii2 : ((i : Int) + 1 ≤ (s.length : Int)) = True := eq_true (by omega)
    have ii3 : ((i : Int) ≤ (i : Int) + 1) = True := eq_true (by omega)
    have e1 : ((i : Int) + 1).toNat = i + 1 := by omega
    have hone : List.drop i (List.take (i + 1) s) = [c] := by
      rw [List.drop_take, Nat.add_sub_cancel_left, drop_of_get hc]; rfl
    have q60 : ((c.toNat : Int) = 60) = (c = 60) := hint c 60
    have q38 : ((c.toNat : Int) = 38) = (c = 38) := hint c 38
    have qe : ((c.toNat : Int) = n) = (c = e) := by rw [hn]; exact hint c e
    by_cases c1 : c = e
    · obtain ⟨k1, k2, k3⟩ := hy.stop hc (.inl c1)
      rw [if_pos k3, k3, ← k1, ← k2] at hk
      have n1 : ((c.toNat : Int) = n) = True := by rw [qe]; exact eq_true c1
      repeat' (first | with_reducible (first | refine And.intro ?_ ?_ | intro _ | refine AWp_seq ?_ | refine AWp_block ?_ | (refine hKv _ _ (AWp_nop ?_); clear hKv Kv) | (refine hKA ?_; clear hKA hKB KA KB) | (refine hKB ?_; clear hKA hKB KA KB) | refine AWp_skipN ?_ | refine AWp_exitO (by repeat (first | exact Out.hit | apply Out.thenA | apply Out.out rfl)) ?_) | (with_reducible (first | (refine hKv _ _ ?_; clear hKv Kv) | ((first | refine AWp_regC mu_60 ks_60 ?_ | refine AWp_regE mu_60 ks_60 ?_); intro Kv hKv) | refine AWp_retR ?_); try simp (dsimp := false) only [go_sem, Nat.reduceAdd, Nat.reduceBEq, Nat.reduceEqDiff, Nat.reduceLT, Nat.reduceLeDiff, Nat.reduceMul, Int.reduceToNat, reduceCtorEq, ↓reduceIte, Tryd.ntmps60, Tryd.results60, ks_60, mu_60, ti_hb56, ti_st9, ii0, hin', hc, n1, e3, not_true_eq_false, not_false_eq_true, and_self, Bool.true_and, Bool.and_true, Bool.and_false, and_false, Int.reduceEq, Int.reduceLT, Int.reduceLE, Nat.zero_add]) | (refine AWp_condC rfl ?_; intro KA KB hKA hKB; try simp only [onB_true, onB_false, onB_dec, onB_ndec, onB_not, onB_and, onB_or]) | (refine AWp_condA rfl ?_ ?_) | with_reducible (first | refine onB_of ?_ ?_ | rfl) | omega)
      all_goals first
        | omega
        | exact keepK hk (by simp [Bel_tu, Bel_d]) rfl
    have n1 : ((c.toNat : Int) = n) = False := by rw [qe]; exact eq_false c1
    by_cases c2 : c = 60
    · obtain ⟨k1, k2, k3⟩ := hy.stop hc (.inr c2)
      rw [if_pos k3, k3, ← k1, ← k2] at hk
      have n2 : ((c.toNat : Int) = 60) = True := by rw [q60]; exact eq_true c2
      repeat' (first | with_reducible (first | refine And.intro ?_ ?_ | intro _ | refine AWp_seq ?_ | refine AWp_block ?_ | (refine hKv _ _ (AWp_nop ?_); clear hKv Kv) | (refine hKA ?_; clear hKA hKB KA KB) | (refine hKB ?_; clear hKA hKB KA KB) | refine AWp_skipN ?_ | refine AWp_exitO (by repeat (first | exact Out.hit | apply Out.thenA | apply Out.out rfl)) ?_) | (with_reducible (first | (refine hKv _ _ ?_; clear hKv Kv) | ((first | refine AWp_regC mu_60 ks_60 ?_ | refine AWp_regE mu_60 ks_60 ?_); intro Kv hKv) | refine AWp_retR ?_); try simp (dsimp := false) only [go_sem, Nat.reduceAdd, Nat.reduceBEq, Nat.reduceEqDiff, Nat.reduceLT, Nat.reduceLeDiff, Nat.reduceMul, Int.reduceToNat, reduceCtorEq, ↓reduceIte, Tryd.ntmps60, Tryd.results60, ks_60, mu_60, ti_hb56, ti_st9, ii0, hin', hc, n1, n2, e3, not_true_eq_false, not_false_eq_true, and_self, Bool.true_and, Bool.and_true, Bool.and_false, and_false, Int.reduceEq, Int.reduceLT, Int.reduceLE, Nat.zero_add]) | (refine AWp_condC rfl ?_; intro KA KB hKA hKB; try simp only [onB_true, onB_false, onB_dec, onB_ndec, onB_not, onB_and, onB_or]) | (refine AWp_condA rfl ?_ ?_) | with_reducible (first | refine onB_of ?_ ?_ | rfl) | omega)
      all_goals first
        | omega
        | exact keepK hk (by simp [Bel_tu, Bel_d]) rfl
    have n2 : ((c.toNat : Int) = 60) = False := by rw [q60]; exact eq_false c2
    by_cases c3 : c = 38
    · subst c3
      have n3 : (((38 : UInt8).toNat : Int) = 38) = True := eq_true rfl
      cases p0 : [38, 97, 109, 112, 59].isPrefixOf (s.drop i) with
      | true =>
        have hL : escL (s.drop i) = some (38, 5) := by rw [escL, if_pos p0]
        have hq' := (escL_len hL).1
        rw [List.length_drop] at hq'
        have ec : (i : Int) + 5 = ((i + 5 : Nat) : Int) := by omega
        repeat' (first | with_reducible (first | refine And.intro ?_ ?_ | intro _ | refine AWp_seq ?_ | refine AWp_block ?_ | (refine hKv _ _ (AWp_nop ?_); clear hKv Kv) | (refine hKA ?_; clear hKA hKB KA KB) | (refine hKB ?_; clear hKA hKB KA KB) | refine AWp_skipN ?_ | refine AWp_exitO (by repeat (first | exact Out.hit | apply Out.thenA | apply Out.out rfl)) ?_) | ((first | with_reducible (first | (refine hKv _ _ ?_; clear hKv Kv) | ((first | refine AWp_regC mu_60 ks_60 ?_ | refine AWp_regE mu_60 ks_60 ?_); intro Kv hKv) | refine AWp_retR ?_) | refine begins_A s [38, 97, 109, 112, 59] i hs y2 (by decide) _ _ ?_ | refine begins_A s [38, 108, 116, 59] i hs y2 (by decide) _ _ ?_ | refine begins_A s [38, 103, 116, 59] i hs y2 (by decide) _ _ ?_ | refine begins_A s [38, 113, 117, 111, 116, 59] i hs y2 (by decide) _ _ ?_); try simp (dsimp := false) only [go_sem, Nat.reduceAdd, Nat.reduceBEq, Nat.reduceEqDiff, Nat.reduceLT, Nat.reduceLeDiff, Nat.reduceMul, Int.reduceToNat, reduceCtorEq, ↓reduceIte, Tryd.ntmps60, Tryd.results60, ks_60, mu_60, ti_hb56, ti_st9, ii0, hin', hc, n1, n2, n3, not_true_eq_false, not_false_eq_true, and_self, Bool.true_and, Bool.and_true, Bool.and_false, and_false, Int.reduceEq, Int.reduceLT, Int.reduceLE, Nat.zero_add, p0, ec]) | (refine AWp_condC rfl ?_; intro KA KB hKA hKB; try simp only [onB_true, onB_false, onB_dec, onB_ndec, onB_not, onB_and, onB_or]) | (refine AWp_condA rfl ?_ ?_) | with_reducible (first | refine onB_of ?_ ?_ | rfl) | omega)
        all_goals first
          | omega
          | exact ⟨(i + 5, acc ++ [38]), hy.esc hc h38 hL, by show s.length - (i + 5) < s.length - i; omega, by (repeat' (refine And.intro ?_ ?_)) <;> first | rfl | omega | (simp; done) | (simp; omega)⟩
      | false =>
        cases p1 : [38, 108, 116, 59].isPrefixOf (s.drop i) with
        | true =>
          have hL : escL (s.drop i) = some (60, 4) := by rw [escL, if_neg (by rw [p0]; decide), if_pos p1]
          have hq' := (escL_len hL).1
          rw [List.length_drop] at hq'
          have ec : (i : Int) + 4 = ((i + 4 : Nat) : Int) := by omega
          repeat' (first | with_reducible (first | refine And.intro ?_ ?_ | intro _ | refine AWp_seq ?_ | refine AWp_block ?_ | (refine hKv _ _ (AWp_nop ?_); clear hKv Kv) | (refine hKA ?_; clear hKA hKB KA KB) | (refine hKB ?_; clear hKA hKB KA KB) | refine AWp_skipN ?_ | refine AWp_exitO (by repeat (first | exact Out.hit | apply Out.thenA | apply Out.out rfl)) ?_) | ((first | with_reducible (first | (refine hKv _ _ ?_; clear hKv Kv) | ((first | refine AWp_regC mu_60 ks_60 ?_ | refine AWp_regE mu_60 ks_60 ?_); intro Kv hKv) | refine AWp_retR ?_) | refine begins_A s [38, 97, 109, 112, 59] i hs y2 (by decide) _ _ ?_ | refine begins_A s [38, 108, 116, 59] i hs y2 (by decide) _ _ ?_ | refine begins_A s [38, 103, 116, 59] i hs y2 (by decide) _ _ ?_ | refine begins_A s [38, 113, 117, 111, 116, 59] i hs y2 (by decide) _ _ ?_); try simp (dsimp := false) only [go_sem, Nat.reduceAdd, Nat.reduceBEq, Nat.reduceEqDiff, Nat.reduceLT, Nat.reduceLeDiff, Nat.reduceMul, Int.reduceToNat, reduceCtorEq, ↓reduceIte, Tryd.ntmps60, Tryd.results60, ks_60, mu_60, ti_hb56, ti_st9, ii0, hin', hc, n1, n2, n3, not_true_eq_false, not_false_eq_true, and_self, Bool.true_and, Bool.and_true, Bool.and_false, and_false, Int.reduceEq, Int.reduceLT, Int.reduceLE, Nat.zero_add, p0, p1, ec]) | (refine AWp_condC rfl ?_; intro KA KB hKA hKB; try simp only [onB_true, onB_false, onB_dec, onB_ndec, onB_not, onB_and, onB_or]) | (refine AWp_condA rfl ?_ ?_) | with_reducible (first | refine onB_of ?_ ?_ | rfl) | omega)
          all_goals first
            | omega
            | exact ⟨(i + 4, acc ++ [60]), hy.esc hc h38 hL, by show s.length - (i + 4) < s.length - i; omega, by (repeat' (refine And.intro ?_ ?_)) <;> first | rfl | omega | (simp; done) | (simp; omega)⟩
        | false =>
          cases p2 : [38, 103, 116, 59].isPrefixOf (s.drop i) with
          | true =>
            have hL : escL (s.drop i) = some (62, 4) := by rw [escL, if_neg (by rw [p0]; decide), if_neg (by rw [p1]; decide), if_pos p2]
            have hq' := (escL_len hL).1
            rw [List.length_drop] at hq'
            have ec : (i : Int) + 4 = ((i + 4 : Nat) : Int) := by omega
            repeat' (first | with_reducible (first | refine And.intro ?_ ?_ | intro _ | refine AWp_seq ?_ | refine AWp_block ?_ | (refine hKv _ _ (AWp_nop ?_); clear hKv Kv) | (refine hKA ?_; clear hKA hKB KA KB) | (refine hKB ?_; clear hKA hKB KA KB) | refine AWp_skipN ?_ | refine AWp_exitO (by repeat (first | exact Out.hit | apply Out.thenA | apply Out.out rfl)) ?_) | ((first | with_reducible (first | (refine hKv _ _ ?_; clear hKv Kv) | ((first | refine AWp_regC mu_60 ks_60 ?_ | refine AWp_regE mu_60 ks_60 ?_); intro Kv hKv) | refine AWp_retR ?_) | refine begins_A s [38, 97, 109, 112, 59] i hs y2 (by decide) _ _ ?_ | refine begins_A s [38, 108, 116, 59] i hs y2 (by decide) _ _ ?_ | refine begins_A s [38, 103, 116, 59] i hs y2 (by decide) _ _ ?_ | refine begins_A s [38, 113, 117, 111, 116, 59] i hs y2 (by decide) _ _ ?_); try simp (dsimp := false) only [go_sem, Nat.reduceAdd, Nat.reduceBEq, Nat.reduceEqDiff, Nat.reduceLT, Nat.reduceLeDiff, Nat.reduceMul, Int.reduceToNat, reduceCtorEq, ↓reduceIte, Tryd.ntmps60, Tryd.results60, ks_60, mu_60, ti_hb56, ti_st9, ii0, hin', hc, n1, n2, n3, not_true_eq_false, not_false_eq_true, and_self, Bool.true_and, Bool.and_true, Bool.and_false, and_false, Int.reduceEq, Int.reduceLT, Int.reduceLE, Nat.zero_add, p0, p1, p2, ec]) | (refine AWp_condC rfl ?_; intro KA KB hKA hKB; try simp only [onB_true, onB_false, onB_dec, onB_ndec, onB_not, onB_and, onB_or]) | (refine AWp_condA rfl ?_ ?_) | with_reducible (first | refine onB_of ?_ ?_ | rfl) | omega)
            all_goals first
              | omega
              | exact ⟨(i + 4, acc ++ [62]), hy.esc hc h38 hL, by show s.length - (i + 4) < s.length - i; omega, by (repeat' (refine And.intro ?_ ?_)) <;> first | rfl | omega | (simp; done) | (simp; omega)⟩
          | false =>
            cases p3 : [38, 113, 117, 111, 116, 59].isPrefixOf (s.drop i) with
            | true =>
              have hL : escL (s.drop i) = some (34, 6) := by rw [escL, if_neg (by rw [p0]; decide), if_neg (by rw [p1]; decide), if_neg (by rw [p2]; decide), if_pos p3]
              have hq' := (escL_len hL).1
              rw [List.length_drop] at hq'
              have ec : (i : Int) + 6 = ((i + 6 : Nat) : Int) := by omega
              repeat' (first | with_reducible (first | refine And.intro ?_ ?_ | intro _ | refine AWp_seq ?_ | refine AWp_block ?_ | (refine hKv _ _ (AWp_nop ?_); clear hKv Kv) | (refine hKA ?_; clear hKA hKB KA KB) | (refine hKB ?_; clear hKA hKB KA KB) | refine AWp_skipN ?_ | refine AWp_exitO (by repeat (first | exact Out.hit | apply Out.thenA | apply Out.out rfl)) ?_) | ((first | with_reducible (first | (refine hKv _ _ ?_; clear hKv Kv) | ((first | refine AWp_regC mu_60 ks_60 ?_ | refine AWp_regE mu_60 ks_60 ?_); intro Kv hKv) | refine AWp_retR ?_) | refine begins_A s [38, 97, 109, 112, 59] i hs y2 (by decide) _ _ ?_ | refine begins_A s [38, 108, 116, 59] i hs y2 (by decide) _ _ ?_ | refine begins_A s [38, 103, 116, 59] i hs y2 (by decide) _ _ ?_ | refine begins_A s [38, 113, 117, 111, 116, 59] i hs y2 (by decide) _ _ ?_); try simp (dsimp := false) only [go_sem, Nat.reduceAdd, Nat.reduceBEq, Nat.reduceEqDiff, Nat.reduceLT, Nat.reduceLeDiff, Nat.reduceMul, Int.reduceToNat, reduceCtorEq, ↓reduceIte, Tryd.ntmps60, Tryd.results60, ks_60, mu_60, ti_hb56, ti_st9, ii0, hin', hc, n1, n2, n3, not_true_eq_false, not_false_eq_true, and_self, Bool.true_and, Bool.and_true, Bool.and_false, and_false, Int.reduceEq, Int.reduceLT, Int.reduceLE, Nat.zero_add, p0, p1, p2, p3, ec]) | (refine AWp_condC rfl ?_; intro KA KB hKA hKB; try simp only [onB_true, onB_false, onB_dec, onB_ndec, onB_not, onB_and, onB_or]) | (refine AWp_condA rfl ?_ ?_) | with_reducible (first | refine onB_of ?_ ?_ | rfl) | omega)
              all_goals first
                | omega
                | exact ⟨(i + 6, acc ++ [34]), hy.esc hc h38 hL, by show s.length - (i + 6) < s.length - i; omega, by (repeat' (refine And.intro ?_ ?_)) <;> first | rfl | omega | (simp; done) | (simp; omega)⟩
            | false =>
              have hL : escL (s.drop i) = none := by rw [escL, if_neg (by rw [p0]; decide), if_neg (by rw [p1]; decide), if_neg (by rw [p2]; decide), if_neg (by rw [p3]; decide)]
              have hb := hy.bad (u' := true) (k' := 0) hc h38 hL
              obtain ⟨k1, k2, k3⟩ := hb.h4 (show (4 : Int) ≠ 0 by decide)
              simp only [] at k1 k2 k3
              rw [← k3, if_neg (by decide), ← k2] at hk
              repeat' (first | with_reducible (first | refine And.intro ?_ ?_ | intro _ | refine AWp_seq ?_ | refine AWp_block ?_ | (refine hKv _ _ (AWp_nop ?_); clear hKv Kv) | (refine hKA ?_; clear hKA hKB KA KB) | (refine hKB ?_; clear hKA hKB KA KB) | refine AWp_skipN ?_ | refine AWp_exitO (by repeat (first | exact Out.hit | apply Out.thenA | apply Out.out rfl)) ?_) | ((first | with_reducible (first | (refine hKv _ _ ?_; clear hKv Kv) | ((first | refine AWp_regC mu_60 ks_60 ?_ | refine AWp_regE mu_60 ks_60 ?_); intro Kv hKv) | refine AWp_retR ?_) | refine begins_A s [38, 97, 109, 112, 59] i hs y2 (by decide) _ _ ?_ | refine begins_A s [38, 108, 116, 59] i hs y2 (by decide) _ _ ?_ | refine begins_A s [38, 103, 116, 59] i hs y2 (by decide) _ _ ?_ | refine begins_A s [38, 113, 117, 111, 116, 59] i hs y2 (by decide) _ _ ?_); try simp (dsimp := false) only [go_sem, Nat.reduceAdd, Nat.reduceBEq, Nat.reduceEqDiff, Nat.reduceLT, Nat.reduceLeDiff, Nat.reduceMul, Int.reduceToNat, reduceCtorEq, ↓reduceIte, Tryd.ntmps60, Tryd.results60, ks_60, mu_60, ti_hb56, ti_st9, ii0, hin', hc, n1, n2, n3, not_true_eq_false, not_false_eq_true, and_self, Bool.true_and, Bool.and_true, Bool.and_false, and_false, Int.reduceEq, Int.reduceLT, Int.reduceLE, Nat.zero_add, p0, p1, p2, p3]) | (refine AWp_condC rfl ?_; intro KA KB hKA hKB; try simp only [onB_true, onB_false, onB_dec, onB_ndec, onB_not, onB_and, onB_or]) | (refine AWp_condA rfl ?_ ?_) | with_reducible (first | refine onB_of ?_ ?_ | rfl) | omega)
              all_goals first
                | omega
                | exact keepK hk (by simp [Bel_tu, Bel_d]) rfl
    · have n3 : ((c.toNat : Int) = 38) = False := by rw [q38]; exact eq_false c3
      have ec : (i : Int) + 1 = ((i + 1 : Nat) : Int) := by omega
      repeat' (first | with_reducible (first | refine And.intro ?_ ?_ | intro _ | refine AWp_seq ?_ | refine AWp_block ?_ | (refine hKv _ _ (AWp_nop ?_); clear hKv Kv) | (refine hKA ?_; clear hKA hKB KA KB) | (refine hKB ?_; clear hKA hKB KA KB) | refine AWp_skipN ?_ | refine AWp_exitO (by repeat (first | exact Out.hit | apply Out.thenA | apply Out.out rfl)) ?_) | (with_reducible (first | (refine hKv _ _ ?_; clear hKv Kv) | ((first | refine AWp_regC mu_60 ks_60 ?_ | refine AWp_regE mu_60 ks_60 ?_); intro Kv hKv) | refine AWp_retR ?_); try simp (dsimp := false) only [go_sem, Nat.reduceAdd, Nat.reduceBEq, Nat.reduceEqDiff, Nat.reduceLT, Nat.reduceLeDiff, Nat.reduceMul, Int.reduceToNat, reduceCtorEq, ↓reduceIte, Tryd.ntmps60, Tryd.results60, ks_60, mu_60, ti_hb56, ti_st9, ii0, hin', hc, n1, n2, n3, e1, ii2, ii3, hone, not_true_eq_false, not_false_eq_true, and_self, Bool.true_and, Bool.and_true, Bool.and_false, and_false, Int.reduceEq, Int.reduceLT, Int.reduceLE, Nat.zero_add]) | (refine AWp_condC rfl ?_; intro KA KB hKA hKB; try simp only [onB_true, onB_false, onB_dec, onB_ndec, onB_not, onB_and, onB_or]) | (refine AWp_condA rfl ?_ ?_) | with_reducible (first | refine onB_of ?_ ?_ | rfl) | omega)
      all_goals first
        | omega
        | exact ⟨(i + 1, acc ++ [c]), hy.plain hc (fun h => h.elim c1 c2) c3, by show s.length - (i + 1) < s.length - i; omega, by (repeat' (refine And.intro ?_ ?_)) <;> first | rfl | omega | (simp; done) | (simp; omega)⟩
  · obtain ⟨k1, k2, k3⟩ := hy.end_ hin
    rw [k3, if_neg (by decide), ← k2] at hk
    have hin' : ((i : Int) < (s.length : Int)) = False := eq_false (by omega)
    have e3 : ((i : Int) = (s.length : Int)) = True := eq_true (by omega)
    repeat' (first | with_reducible (first | refine And.intro ?_ ?_ | intro _ | refine AWp_seq ?_ | refine AWp_block ?_ | (refine hKv _ _ (AWp_nop ?_); clear hKv Kv) | (refine hKA ?_; clear hKA hKB KA KB) | (refine hKB ?_; clear hKA hKB KA KB) | refine AWp_skipN ?_ | refine AWp_exitO (by repeat (first | exact Out.hit | apply Out.thenA | apply Out.out rfl)) ?_) | (with_reducible (first | (refine hKv _ _ ?_; clear hKv Kv) | ((first | refine AWp_regC mu_60 ks_60 ?_ | refine AWp_regE mu_60 ks_60 ?_); intro Kv hKv) | refine AWp_retR ?_); try simp (dsimp := false) only [go_sem, Nat.reduceAdd, Nat.reduceBEq, Nat.reduceEqDiff, Nat.reduceLT, Nat.reduceLeDiff, Nat.reduceMul, Int.reduceToNat, reduceCtorEq, ↓reduceIte, Tryd.ntmps60, Tryd.results60, ks_60, mu_60, ti_hb56, ti_st9, ii0, hin', e3, not_true_eq_false, not_false_eq_true, and_self, Bool.true_and, Bool.and_true, Bool.and_false, and_false, Int.reduceEq, Int.reduceLT, Int.reduceLE, Nat.zero_add]) | (refine AWp_condC rfl ?_; intro KA KB hKA hKB; try simp only [onB_true, onB_false, onB_dec, onB_ndec, onB_not, onB_and, onB_or]) | (refine AWp_condA rfl ?_ ?_) | with_reducible (first | refine onB_of ?_ ?_ | rfl) | omega)
    all_goals first
      | omega
      | exact keepK hk (by simp [Bel_tu, Bel_d]) rfl
end Go.Proofs.YtjghnaohlfgloaaDoor
