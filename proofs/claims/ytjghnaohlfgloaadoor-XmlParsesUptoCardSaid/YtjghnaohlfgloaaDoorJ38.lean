/- The reference's smaller readings: does a text begin so, what is missing, where a name and where blanks end. No condition. -/
import Derived.Test.YtjghnaohlfgloaaDoorJ32
set_option linter.all false
set_option linter.unusedSimpArgs false
set_option linter.unusedVariables false
namespace Go.Proofs.YtjghnaohlfgloaaDoor
open Go Go.Proofs.YtjghnaohlfgloaaDoor.Ab
variable [Glo]
set_option maxHeartbeats 4000000
set_option maxRecDepth 20000
def ks_56 : Nat → List Nat
  | 0 => [0, 1, 2]
  | 1 => [6]
  | _ => []
def mu_56 : List Nat := []
def in_56 : List Nat := [0, 1, 2]
theorem begins_A (s p : List UInt8) (at_ : Nat) (hs : s.length ≤ 1000000) (hat : at_ ≤ s.length) (hp : p.length ≤ 1000000) (H : Heap) (K : V → Heap → Prop) (hk : K (.d (.b (p.isPrefixOf (s.drop at_)))) H) :
    ACalls Tryd.prog 56 [.d (.s s), .d (.i .i64 at_), .d (.s p)] H K := by
  rw [prefix_take, List.length_drop] at hk
  have a0 : ((0 : Int) ≤ (at_ : Int)) = True := eq_true (by omega)
  by_cases h : p.length ≤ s.length - at_
  · have h1 : ((p.length : Int) ≤ (s.length : Int) - (at_ : Int)) = True := eq_true (by omega)
    have h2 : ((at_ : Int) ≤ (at_ : Int) + (p.length : Int)) = True := eq_true (by omega)
    have h3 : ((at_ : Int) + (p.length : Int) ≤ (s.length : Int)) = True := eq_true (by omega)
    have h4 : ((at_ : Int) + (p.length : Int)).toNat = at_ + p.length := by omega
    have h5 : List.drop at_ (List.take (at_ + p.length) s) = (s.drop at_).take p.length := by rw [List.drop_take, Nat.add_sub_cancel_left]
    rw [decide_eq_true h, Bool.true_and] at hk
    refine ACalls_of Tryd.func56 rfl in_56 (Nat.le_of_ble_eq_true rfl) ?_
    intro F hF
    simp (dsimp := false) only [go_sem, Nat.reduceAdd, Nat.reduceBEq, Nat.reduceEqDiff, Nat.reduceLT, Nat.reduceLeDiff, Nat.reduceMul, Int.reduceToNat, reduceCtorEq, ↓reduceIte, Tryd.ntmps56, Tryd.results56, ks_56, mu_56, ti_st9, a0, h1, h2, h3, h4, h5, in_56] at hF
    subst hF
    repeat' (first | with_reducible (first | refine And.intro ?_ ?_ | intro _ | refine AWp_seq ?_ | refine AWp_block ?_ | (refine hKv _ _ (AWp_nop ?_); clear hKv Kv) | (refine hKA ?_; clear hKA hKB KA KB) | (refine hKB ?_; clear hKA hKB KA KB) | refine AWp_skipN ?_ | refine AWp_exitO (by repeat (first | exact Out.hit | apply Out.thenA | apply Out.out rfl)) ?_) | (with_reducible (first | (refine hKv _ _ ?_; clear hKv Kv) | ((first | refine AWp_regC mu_56 ks_56 ?_ | refine AWp_regE mu_56 ks_56 ?_); intro Kv hKv) | refine AWp_retR ?_); try simp (dsimp := false) only [go_sem, Nat.reduceAdd, Nat.reduceBEq, Nat.reduceEqDiff, Nat.reduceLT, Nat.reduceLeDiff, Nat.reduceMul, Int.reduceToNat, reduceCtorEq, ↓reduceIte, Tryd.ntmps56, Tryd.results56, ks_56, mu_56, ti_st9, a0, h1, h2, h3, h4, h5]) | (refine AWp_condC rfl ?_; intro KA KB hKA hKB; try simp only [onB_true, onB_false, onB_dec, onB_ndec, onB_not, onB_and, onB_or]) | (refine AWp_condA rfl ?_ ?_) | with_reducible (first | refine onB_of ?_ ?_ | rfl) | omega)
    all_goals first
      | omega
      | exact keepD hk rfl
  · have h1 : ((p.length : Int) ≤ (s.length : Int) - (at_ : Int)) = False := eq_false (by omega)
    rw [decide_eq_false h, Bool.false_and] at hk
    refine ACalls_of Tryd.func56 rfl in_56 (Nat.le_of_ble_eq_true rfl) ?_
    intro F hF
    simp (dsimp := false) only [go_sem, Nat.reduceAdd, Nat.reduceBEq, Nat.reduceEqDiff, Nat.reduceLT, Nat.reduceLeDiff, Nat.reduceMul, Int.reduceToNat, reduceCtorEq, ↓reduceIte, Tryd.ntmps56, Tryd.results56, ks_56, mu_56, ti_st9, a0, h1, in_56] at hF
    subst hF
    repeat' (first | with_reducible (first | refine And.intro ?_ ?_ | intro _ | refine AWp_seq ?_ | refine AWp_block ?_ | (refine hKv _ _ (AWp_nop ?_); clear hKv Kv) | (refine hKA ?_; clear hKA hKB KA KB) | (refine hKB ?_; clear hKA hKB KA KB) | refine AWp_skipN ?_ | refine AWp_exitO (by repeat (first | exact Out.hit | apply Out.thenA | apply Out.out rfl)) ?_) | (with_reducible (first | (refine hKv _ _ ?_; clear hKv Kv) | ((first | refine AWp_regC mu_56 ks_56 ?_ | refine AWp_regE mu_56 ks_56 ?_); intro Kv hKv) | refine AWp_retR ?_); try simp (dsimp := false) only [go_sem, Nat.reduceAdd, Nat.reduceBEq, Nat.reduceEqDiff, Nat.reduceLT, Nat.reduceLeDiff, Nat.reduceMul, Int.reduceToNat, reduceCtorEq, ↓reduceIte, Tryd.ntmps56, Tryd.results56, ks_56, mu_56, ti_st9, a0, h1]) | (refine AWp_condC rfl ?_; intro KA KB hKA hKB; try simp only [onB_true, onB_false, onB_dec, onB_ndec, onB_not, onB_and, onB_or]) | (refine AWp_condA rfl ?_ ?_) | with_reducible (first | refine onB_of ?_ ?_ | rfl) | omega)
    all_goals first
      | omega
      | exact keepD hk rfl
def ks_57 : Nat → List Nat
  | 0 => [0, 1, 2]
  | 1 => [25]
  | 2 => [6]
  | 3 => [6]
  | _ => []
def mu_57 : List Nat := []
def in_57 : List Nat := [0, 1, 2]
def nd_57 : Nat → Nat
  | 1 => 18
  | _ => 0
theorem missing_A (s p : List UInt8) (at_ : Nat) (hs : s.length ≤ 1000000) (hat : at_ ≤ s.length) (hp : p.length ≤ 1000000) (hn : p.isPrefixOf (s.drop at_) = false) (H : Heap) (K : V → Heap → Prop) (hk : K (.d (.i .i64 (missF (s.drop at_) p))) H) :
    ACalls Tryd.prog 57 [.d (.s s), .d (.i .i64 at_), .d (.s p)] H K := by
  rw [missF, prefix_take, List.length_drop] at hk
  have a0 : ((0 : Int) ≤ (at_ : Int)) = True := eq_true (by omega)
  have a1 : ((at_ : Int) ≤ (s.length : Int)) = True := eq_true (by omega)
  have a2 : ((0 : Int) ≤ (s.length : Int) - (at_ : Int)) = True := eq_true (by omega)
  have a3 : ((s.length : Int) - (at_ : Int)).toNat = s.length - at_ := by omega
  by_cases h : s.length - at_ < p.length
  · have h1 : ((s.length : Int) - (at_ : Int) < (p.length : Int)) = True := eq_true (by omega)
    have h2 : ((s.length : Int) - (at_ : Int) ≤ (p.length : Int)) = True := eq_true (by omega)
    rw [decide_eq_true (show s.length - at_ ≤ p.length by omega), Bool.true_and] at hk
    by_cases he : p.take (s.length - at_) = s.drop at_
    · rw [if_pos (decide_eq_true he)] at hk
      have he' : (p.take (s.length - at_) = s.drop at_) = True := eq_true he
      refine ACalls_of Tryd.func57 rfl in_57 (Nat.le_of_ble_eq_true rfl) ?_
      intro F hF
      simp (dsimp := false) only [go_sem, Nat.reduceAdd, Nat.reduceBEq, Nat.reduceEqDiff, Nat.reduceLT, Nat.reduceLeDiff, Nat.reduceMul, Int.reduceToNat, reduceCtorEq, ↓reduceIte, Tryd.ntmps57, Tryd.results57, ks_57, mu_57, nd_57, ti_st9, a0, a1, a2, a3, h1, h2, he', List.take_length, in_57] at hF
      subst hF
      repeat' (first | with_reducible (first | refine And.intro ?_ ?_ | intro _ | refine AWp_seq ?_ | refine AWp_block ?_ | (refine hKv _ _ (AWp_nop ?_); clear hKv Kv) | (refine hKA ?_; clear hKA hKB KA KB) | (refine hKB ?_; clear hKA hKB KA KB) | refine AWp_skipN ?_ | refine AWp_exitO (by repeat (first | exact Out.hit | apply Out.thenA | apply Out.out rfl)) ?_) | (with_reducible (first | (refine hKv _ _ ?_; clear hKv Kv) | ((first | refine AWp_regC mu_57 ks_57 ?_ | refine AWp_draw nd_57 mu_57 ks_57 ti_mixed (by kernel_rfl) ?_ | refine AWp_regE mu_57 ks_57 ?_ | refine AWp_drawE nd_57 mu_57 ks_57 ti_mixed (by kernel_rfl) ?_); intro Kv hKv) | refine AWp_retR ?_); try simp (dsimp := false) only [go_sem, Nat.reduceAdd, Nat.reduceBEq, Nat.reduceEqDiff, Nat.reduceLT, Nat.reduceLeDiff, Nat.reduceMul, Int.reduceToNat, reduceCtorEq, ↓reduceIte, Tryd.ntmps57, Tryd.results57, ks_57, mu_57, nd_57, ti_st9, a0, a1, a2, a3, h1, h2, he', List.take_length]) | (refine AWp_condC rfl ?_; intro KA KB hKA hKB; try simp only [onB_true, onB_false, onB_dec, onB_ndec, onB_not, onB_and, onB_or]) | (refine AWp_condA rfl ?_ ?_) | with_reducible (first | refine onB_of ?_ ?_ | rfl) | omega)
      all_goals first
        | omega
        | exact keepD hk rfl
    · rw [if_neg (by simpa using he)] at hk
      have he' : (p.take (s.length - at_) = s.drop at_) = False := eq_false he
      refine ACalls_of Tryd.func57 rfl in_57 (Nat.le_of_ble_eq_true rfl) ?_
      intro F hF
      simp (dsimp := false) only [go_sem, Nat.reduceAdd, Nat.reduceBEq, Nat.reduceEqDiff, Nat.reduceLT, Nat.reduceLeDiff, Nat.reduceMul, Int.reduceToNat, reduceCtorEq, ↓reduceIte, Tryd.ntmps57, Tryd.results57, ks_57, mu_57, nd_57, ti_st9, a0, a1, a2, a3, h1, h2, he', List.take_length, in_57] at hF
      subst hF
      repeat' (first | with_reducible (first | refine And.intro ?_ ?_ | intro _ | refine AWp_seq ?_ | refine AWp_block ?_ | (refine hKv _ _ (AWp_nop ?_); clear hKv Kv) | (refine hKA ?_; clear hKA hKB KA KB) | (refine hKB ?_; clear hKA hKB KA KB) | refine AWp_skipN ?_ | refine AWp_exitO (by repeat (first | exact Out.hit | apply Out.thenA | apply Out.out rfl)) ?_) | (with_reducible (first | (refine hKv _ _ ?_; clear hKv Kv) | ((first | refine AWp_regC mu_57 ks_57 ?_ | refine AWp_draw nd_57 mu_57 ks_57 ti_mixed (by kernel_rfl) ?_ | refine AWp_regE mu_57 ks_57 ?_ | refine AWp_drawE nd_57 mu_57 ks_57 ti_mixed (by kernel_rfl) ?_); intro Kv hKv) | refine AWp_retR ?_); try simp (dsimp := false) only [go_sem, Nat.reduceAdd, Nat.reduceBEq, Nat.reduceEqDiff, Nat.reduceLT, Nat.reduceLeDiff, Nat.reduceMul, Int.reduceToNat, reduceCtorEq, ↓reduceIte, Tryd.ntmps57, Tryd.results57, ks_57, mu_57, nd_57, ti_st9, a0, a1, a2, a3, h1, h2, he', List.take_length]) | (refine AWp_condC rfl ?_; intro KA KB hKA hKB; try simp only [onB_true, onB_false, onB_dec, onB_ndec, onB_not, onB_and, onB_or]) | (refine AWp_condA rfl ?_ ?_) | with_reducible (first | refine onB_of ?_ ?_ | rfl) | omega)
      all_goals first
        | omega
        | exact keepD hk rfl
  · have h1 : ((s.length : Int) - (at_ : Int) < (p.length : Int)) = False := eq_false (by omega)
    have hz : ¬ (decide (s.length - at_ ≤ p.length) && decide (p.take (s.length - at_) = s.drop at_)) = true := by
      intro hh
      simp only [Bool.and_eq_true, decide_eq_true_eq] at hh
      obtain ⟨q1, q2⟩ := hh
      have : p = s.drop at_ := by rw [← q2, List.take_of_length_le (by omega)]
      rw [this] at hn
      have hpp : (s.drop at_).isPrefixOf (s.drop at_) = true := List.isPrefixOf_iff_prefix.2 (List.prefix_refl _)
      rw [hpp] at hn
      cases hn
    rw [if_neg hz] at hk
    refine ACalls_of Tryd.func57 rfl in_57 (Nat.le_of_ble_eq_true rfl) ?_
    intro F hF
    simp (dsimp := false) only [go_sem, Nat.reduceAdd, Nat.reduceBEq, Nat.reduceEqDiff, Nat.reduceLT, Nat.reduceLeDiff, Nat.reduceMul, Int.reduceToNat, reduceCtorEq, ↓reduceIte, Tryd.ntmps57, Tryd.results57, ks_57, mu_57, nd_57, ti_st9, a0, a1, a2, a3, h1, List.take_length, in_57] at hF
    subst hF
    repeat' (first | with_reducible (first | refine And.intro ?_ ?_ | intro _ | refine AWp_seq ?_ | refine AWp_block ?_ | (refine hKv _ _ (AWp_nop ?_); clear hKv Kv) | (refine hKA ?_; clear hKA hKB KA KB) | (refine hKB ?_; clear hKA hKB KA KB) | refine AWp_skipN ?_ | refine AWp_exitO (by repeat (first | exact Out.hit | apply Out.thenA | apply Out.out rfl)) ?_) | (with_reducible (first | (refine hKv _ _ ?_; clear hKv Kv) | ((first | refine AWp_regC mu_57 ks_57 ?_ | refine AWp_draw nd_57 mu_57 ks_57 ti_mixed (by kernel_rfl) ?_ | refine AWp_regE mu_57 ks_57 ?_ | refine AWp_drawE nd_57 mu_57 ks_57 ti_mixed (by kernel_rfl) ?_); intro Kv hKv) | refine AWp_retR ?_); try simp (dsimp := false) only [go_sem, Nat.reduceAdd, Nat.reduceBEq, Nat.reduceEqDiff, Nat.reduceLT, Nat.reduceLeDiff, Nat.reduceMul, Int.reduceToNat, reduceCtorEq, ↓reduceIte, Tryd.ntmps57, Tryd.results57, ks_57, mu_57, nd_57, ti_st9, a0, a1, a2, a3, h1, List.take_length]) | (refine AWp_condC rfl ?_; intro KA KB hKA hKB; try simp only [onB_true, onB_false, onB_dec, onB_ndec, onB_not, onB_and, onB_or]) | (refine AWp_condA rfl ?_ ?_) | with_reducible (first | refine onB_of ?_ ?_ | rfl) | omega)
    all_goals first
      | omega
      | exact keepD hk rfl
def ks_112 : Nat → List Nat
  | 0 => [0, 1]
  | 1 => [0, 1, 26]
  | 2 => [0, 1]
  | 3 => [4]
  | _ => []
def mu_112 : List Nat := []
def in_112 : List Nat := [0, 1]
theorem blankFrom_A (s : List UInt8) (at_ : Nat) (hs : s.length ≤ 1000000) (hat : at_ ≤ s.length) (H : Heap) (K : V → Heap → Prop) (hk : K (.d (.i .i64 ((at_ + blankN (s.drop at_) : Nat) : Int))) H) :
    ACalls Tryd.prog 112 [.d (.s s), .d (.i .i64 at_)] H K := by
  refine ACalls_of Tryd.func112 rfl in_112 (Nat.le_of_ble_eq_true rfl) ?_
  intro F hF
  simp (dsimp := false) only [go_sem, Nat.reduceAdd, Nat.reduceBEq, Nat.reduceEqDiff, Nat.reduceLT, Nat.reduceLeDiff, Nat.reduceMul, Int.reduceToNat, reduceCtorEq, ↓reduceIte, Tryd.ntmps112, Tryd.results112, ks_112, mu_112, ti_st9, in_112] at hF
  subst hF
  repeat' (first | with_reducible (first | refine And.intro ?_ ?_ | intro _ | refine AWp_seq ?_ | refine AWp_block ?_ | (refine hKv _ _ (AWp_nop ?_); clear hKv Kv) | (refine hKA ?_; clear hKA hKB KA KB) | (refine hKB ?_; clear hKA hKB KA KB) | refine AWp_skipN ?_ | refine AWp_exitO (by repeat (first | exact Out.hit | apply Out.thenA | apply Out.out rfl)) ?_) | (with_reducible (first | (refine hKv _ _ ?_; clear hKv Kv) | ((first | refine AWp_regC mu_112 ks_112 ?_ | refine AWp_regE mu_112 ks_112 ?_); intro Kv hKv) | refine AWp_retR ?_); try simp (dsimp := false) only [go_sem, Nat.reduceAdd, Nat.reduceBEq, Nat.reduceEqDiff, Nat.reduceLT, Nat.reduceLeDiff, Nat.reduceMul, Int.reduceToNat, reduceCtorEq, ↓reduceIte, Tryd.ntmps112, Tryd.results112, ks_112, mu_112, ti_st9]) | (refine AWp_condC rfl ?_; intro KA KB hKA hKB; try simp only [onB_true, onB_false, onB_dec, onB_ndec, onB_not, onB_and, onB_or]) | (refine AWp_condA rfl ?_ ?_) | with_reducible (first | refine onB_of ?_ ?_ | rfl) | omega)
  refine AWp_while0 (fun i : Nat => at_ ≤ i ∧ i ≤ s.length ∧ i + blankN (s.drop i) = at_ + blankN (s.drop at_)) (fun i => [(0, .d (.s s)), (1, .d (.i .i64 i))]) (fun i => s.length - i) at_ ⟨Nat.le_refl _, hat, rfl⟩ ?_ ?_
  · simp (dsimp := false) only [go_sem, Nat.reduceAdd, Nat.reduceBEq, Nat.reduceEqDiff, Nat.reduceLT, Nat.reduceLeDiff, Nat.reduceMul, Int.reduceToNat, reduceCtorEq, ↓reduceIte, Tryd.ntmps112, Tryd.results112, ks_112, mu_112, ti_st9]
    first | done | (simp; done)
  rintro i ⟨i1, i2, i3⟩
  have ii0 : ((0 : Int) ≤ (i : Int)) = True := eq_true (by omega)
  by_cases hin : i < s.length
  · obtain ⟨c, hc⟩ : ∃ c, s[i]? = some c := ⟨s[i], List.getElem?_eq_getElem hin⟩
    have hin' : ((i : Int) < (s.length : Int)) = True := eq_true (by omega)
    have b32 := byte_eq c 32 (by decide)
    have b10 := byte_eq c 10 (by decide)
    have b9 := byte_eq c 9 (by decide)
    rw [drop_of_get hc, blankN] at i3
    by_cases c1 : c = 32
    · rw [if_pos (by simp [blankB, c1])] at i3
      have n1 : ((c.toNat : Int) = 32) = True := by rw [show (32 : Int) = ((32 : Nat) : Int) from rfl, b32]; exact eq_true c1
      repeat' (first | with_reducible (first | refine And.intro ?_ ?_ | intro _ | refine AWp_seq ?_ | refine AWp_block ?_ | (refine hKv _ _ (AWp_nop ?_); clear hKv Kv) | (refine hKA ?_; clear hKA hKB KA KB) | (refine hKB ?_; clear hKA hKB KA KB) | refine AWp_skipN ?_ | refine AWp_exitO (by repeat (first | exact Out.hit | apply Out.thenA | apply Out.out rfl)) ?_) | (with_reducible (first | (refine hKv _ _ ?_; clear hKv Kv) | ((first | refine AWp_regC mu_112 ks_112 ?_ | refine AWp_regE mu_112 ks_112 ?_); intro Kv hKv) | refine AWp_retR ?_); try simp (dsimp := false) only [go_sem, Nat.reduceAdd, Nat.reduceBEq, Nat.reduceEqDiff, Nat.reduceLT, Nat.reduceLeDiff, Nat.reduceMul, Int.reduceToNat, reduceCtorEq, ↓reduceIte, Tryd.ntmps112, Tryd.results112, ks_112, mu_112, ti_st9, ii0, hin', hc, n1, not_true_eq_false, not_false_eq_true, Int.reduceEq]) | (refine AWp_condC rfl ?_; intro KA KB hKA hKB; try simp only [onB_true, onB_false, onB_dec, onB_ndec, onB_not, onB_and, onB_or]) | (refine AWp_condA rfl ?_ ?_) | with_reducible (first | refine onB_of ?_ ?_ | rfl) | omega)
      all_goals first
        | omega
        | exact ⟨i + 1, ⟨by omega, by omega, by omega⟩, by omega, by (repeat' (refine And.intro ?_ ?_)) <;> first | rfl | omega | (simp; done) | (simp; omega)⟩
    have n1 : ((c.toNat : Int) = 32) = False := by rw [show (32 : Int) = ((32 : Nat) : Int) from rfl, b32]; exact eq_false c1
    by_cases c2 : c = 10
    · rw [if_pos (by simp [blankB, c2])] at i3
      have n2 : ((c.toNat : Int) = 10) = True := by rw [show (10 : Int) = ((10 : Nat) : Int) from rfl, b10]; exact eq_true c2
      repeat' (first | with_reducible (first | refine And.intro ?_ ?_ | intro _ | refine AWp_seq ?_ | refine AWp_block ?_ | (refine hKv _ _ (AWp_nop ?_); clear hKv Kv) | (refine hKA ?_; clear hKA hKB KA KB) | (refine hKB ?_; clear hKA hKB KA KB) | refine AWp_skipN ?_ | refine AWp_exitO (by repeat (first | exact Out.hit | apply Out.thenA | apply Out.out rfl)) ?_) | (with_reducible (first | (refine hKv _ _ ?_; clear hKv Kv) | ((first | refine AWp_regC mu_112 ks_112 ?_ | refine AWp_regE mu_112 ks_112 ?_); intro Kv hKv) | refine AWp_retR ?_); try simp (dsimp := false) only [go_sem, Nat.reduceAdd, Nat.reduceBEq, Nat.reduceEqDiff, Nat.reduceLT, Nat.reduceLeDiff, Nat.reduceMul, Int.reduceToNat, reduceCtorEq, ↓reduceIte, Tryd.ntmps112, Tryd.results112, ks_112, mu_112, ti_st9, ii0, hin', hc, n1, n2, not_true_eq_false, not_false_eq_true, Int.reduceEq]) | (refine AWp_condC rfl ?_; intro KA KB hKA hKB; try simp only [onB_true, onB_false, onB_dec, onB_ndec, onB_not, onB_and, onB_or]) | (refine AWp_condA rfl ?_ ?_) | with_reducible (first | refine onB_of ?_ ?_ | rfl) | omega)
      all_goals first
        | omega
        | exact ⟨i + 1, ⟨by omega, by omega, by omega⟩, by omega, by (repeat' (refine And.intro ?_ ?_)) <;> first | rfl | omega | (simp; done) | (simp; omega)⟩
    have n2 : ((c.toNat : Int) = 10) = False := by rw [show (10 : Int) = ((10 : Nat) : Int) from rfl, b10]; exact eq_false c2
    by_cases c3 : c = 9
    · rw [if_pos (by simp [blankB, c3])] at i3
      have n3 : ((c.toNat : Int) = 9) = True := by rw [show (9 : Int) = ((9 : Nat) : Int) from rfl, b9]; exact eq_true c3
      repeat' (first | with_reducible (first | refine And.intro ?_ ?_ | intro _ | refine AWp_seq ?_ | refine AWp_block ?_ | (refine hKv _ _ (AWp_nop ?_); clear hKv Kv) | (refine hKA ?_; clear hKA hKB KA KB) | (refine hKB ?_; clear hKA hKB KA KB) | refine AWp_skipN ?_ | refine AWp_exitO (by repeat (first | exact Out.hit | apply Out.thenA | apply Out.out rfl)) ?_) | (with_reducible (first | (refine hKv _ _ ?_; clear hKv Kv) | ((first | refine AWp_regC mu_112 ks_112 ?_ | refine AWp_regE mu_112 ks_112 ?_); intro Kv hKv) | refine AWp_retR ?_); try simp (dsimp := false) only [go_sem, Nat.reduceAdd, Nat.reduceBEq, Nat.reduceEqDiff, Nat.reduceLT, Nat.reduceLeDiff, Nat.reduceMul, Int.reduceToNat, reduceCtorEq, ↓reduceIte, Tryd.ntmps112, Tryd.results112, ks_112, mu_112, ti_st9, ii0, hin', hc, n1, n2, n3, not_true_eq_false, not_false_eq_true, Int.reduceEq]) | (refine AWp_condC rfl ?_; intro KA KB hKA hKB; try simp only [onB_true, onB_false, onB_dec, onB_ndec, onB_not, onB_and, onB_or]) | (refine AWp_condA rfl ?_ ?_) | with_reducible (first | refine onB_of ?_ ?_ | rfl) | omega)
      all_goals first
        | omega
        | exact ⟨i + 1, ⟨by omega, by omega, by omega⟩, by omega, by (repeat' (refine And.intro ?_ ?_)) <;> first | rfl | omega | (simp; done) | (simp; omega)⟩
    have n3 : ((c.toNat : Int) = 9) = False := by rw [show (9 : Int) = ((9 : Nat) : Int) from rfl, b9]; exact eq_false c3
    rw [if_neg (by simp [blankB, c1, c2, c3]), Nat.add_zero] at i3
    rw [← i3] at hk
    repeat' (first | with_reducible (first | refine And.intro ?_ ?_ | intro _ | refine AWp_seq ?_ | refine AWp_block ?_ | (refine hKv _ _ (AWp_nop ?_); clear hKv Kv) | (refine hKA ?_; clear hKA hKB KA KB) | (refine hKB ?_; clear hKA hKB KA KB) | refine AWp_skipN ?_ | refine AWp_exitO (by repeat (first | exact Out.hit | apply Out.thenA | apply Out.out rfl)) ?_) | (with_reducible (first | (refine hKv _ _ ?_; clear hKv Kv) | ((first | refine AWp_regC mu_112 ks_112 ?_ | refine AWp_regE mu_112 ks_112 ?_); intro Kv hKv) | refine AWp_retR ?_); try simp (dsimp := false) only [go_sem, Nat.reduceAdd, Nat.reduceBEq, Nat.reduceEqDiff, Nat.reduceLT, Nat.reduceLeDiff, Nat.reduceMul, Int.reduceToNat, reduceCtorEq, ↓reduceIte, Tryd.ntmps112, Tryd.results112, ks_112, mu_112, ti_st9, ii0, hin', hc, n1, n2, n3, not_true_eq_false, not_false_eq_true, Int.reduceEq]) | (refine AWp_condC rfl ?_; intro KA KB hKA hKB; try simp only [onB_true, onB_false, onB_dec, onB_ndec, onB_not, onB_and, onB_or]) | (refine AWp_condA rfl ?_ ?_) | with_reducible (first | refine onB_of ?_ ?_ | rfl) | omega)
    all_goals first
      | omega
      | exact keepD hk rfl
  · have hin' : ((i : Int) < (s.length : Int)) = False := eq_false (by omega)
    have e0 : blankN (s.drop i) = 0 := by rw [List.drop_eq_nil_of_le (by omega)]; rfl
    rw [e0, Nat.add_zero] at i3
    rw [← i3] at hk
    repeat' (first | with_reducible (first | refine And.intro ?_ ?_ | intro _ | refine AWp_seq ?_ | refine AWp_block ?_ | (refine hKv _ _ (AWp_nop ?_); clear hKv Kv) | (refine hKA ?_; clear hKA hKB KA KB) | (refine hKB ?_; clear hKA hKB KA KB) | refine AWp_skipN ?_ | refine AWp_exitO (by repeat (first | exact Out.hit | apply Out.thenA | apply Out.out rfl)) ?_) | (with_reducible (first | (refine hKv _ _ ?_; clear hKv Kv) | ((first | refine AWp_regC mu_112 ks_112 ?_ | refine AWp_regE mu_112 ks_112 ?_); intro Kv hKv) | refine AWp_retR ?_); try simp (dsimp := false) only [go_sem, Nat.reduceAdd, Nat.reduceBEq, Nat.reduceEqDiff, Nat.reduceLT, Nat.reduceLeDiff, Nat.reduceMul, Int.reduceToNat, reduceCtorEq, ↓reduceIte, Tryd.ntmps112, Tryd.results112, ks_112, mu_112, ti_st9, ii0, hin', not_true_eq_false, not_false_eq_true, Int.reduceEq]) | (refine AWp_condC rfl ?_; intro KA KB hKA hKB; try simp only [onB_true, onB_false, onB_dec, onB_ndec, onB_not, onB_and, onB_or]) | (refine AWp_condA rfl ?_ ?_) | with_reducible (first | refine onB_of ?_ ?_ | rfl) | omega)
    all_goals first
      | omega
      | exact keepD hk rfl
def ks_59 : Nat → List Nat
  | 0 => [0, 1]
  | 1 => [0, 1, 6]
  | 2 => [0, 1, 6, 20]
  | 3 => [0, 1, 6]
  | 4 => [0, 1, 6, 25]
  | 5 => [4, 5]
  | 6 => [1, 30]
  | 7 => [4, 5]
  | 8 => [4, 5]
  | _ => []
def mu_59 : List Nat := []
def in_59 : List Nat := [0, 1]
theorem nameFrom_A (s : List UInt8) (at_ : Nat) (hs : s.length ≤ 1000000) (hat : at_ ≤ s.length) (H : Heap) (K : V → Heap → Prop) (hk : K (.tu [.d (.i .i64 ((at_ + nmN s at_ 0 : Nat) : Int)), .d (.i .i64 (nmF s at_ 0))]) H) :
    ACalls Tryd.prog 59 [.d (.s s), .d (.i .i64 at_)] H K := by
  rw [nmN, if_pos rfl, nmF, if_pos rfl] at hk
  refine ACalls_of Tryd.func59 rfl in_59 (Nat.le_of_ble_eq_true rfl) ?_
  intro F hF
  simp (dsimp := false) only [go_sem, Nat.reduceAdd, Nat.reduceBEq, Nat.reduceEqDiff, Nat.reduceLT, Nat.reduceLeDiff, Nat.reduceMul, Int.reduceToNat, reduceCtorEq, ↓reduceIte, Tryd.ntmps59, Tryd.results59, ks_59, mu_59, ti_hb113, ti_st9, in_59] at hF
  subst hF
  repeat' (first | with_reducible (first | refine And.intro ?_ ?_ | intro _ | refine AWp_seq ?_ | refine AWp_block ?_ | (refine hKv _ _ (AWp_nop ?_); clear hKv Kv) | (refine hKA ?_; clear hKA hKB KA KB) | (refine hKB ?_; clear hKA hKB KA KB) | refine AWp_skipN ?_ | refine AWp_exitO (by repeat (first | exact Out.hit | apply Out.thenA | apply Out.out rfl)) ?_) | (with_reducible (first | (refine hKv _ _ ?_; clear hKv Kv) | ((first | refine AWp_regC mu_59 ks_59 ?_ | refine AWp_regE mu_59 ks_59 ?_); intro Kv hKv) | refine AWp_retR ?_); try simp (dsimp := false) only [go_sem, Nat.reduceAdd, Nat.reduceBEq, Nat.reduceEqDiff, Nat.reduceLT, Nat.reduceLeDiff, Nat.reduceMul, Int.reduceToNat, reduceCtorEq, ↓reduceIte, Tryd.ntmps59, Tryd.results59, ks_59, mu_59, ti_hb113, ti_st9]) | (refine AWp_condC rfl ?_; intro KA KB hKA hKB; try simp only [onB_true, onB_false, onB_dec, onB_ndec, onB_not, onB_and, onB_or]) | (refine AWp_condA rfl ?_ ?_) | with_reducible (first | refine onB_of ?_ ?_ | rfl) | omega)
  refine AWp_while0 (fun i : Nat => at_ ≤ i ∧ i ≤ s.length ∧ i + nameN (decide (i = at_)) (s.drop i) = at_ + nameN true (s.drop at_)) (fun i => [(0, .d (.s s)), (1, .d (.i .i64 at_)), (6, .d (.i .i64 i))]) (fun i => s.length - i) at_ ⟨Nat.le_refl _, hat, by rw [decide_eq_true rfl]⟩ ?_ ?_
  · simp (dsimp := false) only [go_sem, Nat.reduceAdd, Nat.reduceBEq, Nat.reduceEqDiff, Nat.reduceLT, Nat.reduceLeDiff, Nat.reduceMul, Int.reduceToNat, reduceCtorEq, ↓reduceIte, Tryd.ntmps59, Tryd.results59, ks_59, mu_59, ti_hb113, ti_st9]
    first | done | (simp; done)
  rintro i ⟨i1, i2, i3⟩
  have ii0 : ((0 : Int) ≤ (i : Int)) = True := eq_true (by omega)
  by_cases hin : i < s.length
  · obtain ⟨c, hc⟩ : ∃ c, s[i]? = some c := ⟨s[i], List.getElem?_eq_getElem hin⟩
    have hin' : ((i : Int) < (s.length : Int)) = True := eq_true (by omega)
    have hd1 : decide (i + 1 = at_) = false := decide_eq_false (by omega)
    have hia : ((i : Int) = (at_ : Int)) = (i = at_) := propext (by omega)
    rw [drop_of_get hc, nameN_cons] at i3
    cases hb : nameB c.toNat (decide (i = at_)) with
    | true =>
      rw [if_pos hb] at i3
      repeat' (first | with_reducible (first | refine And.intro ?_ ?_ | intro _ | refine AWp_seq ?_ | refine AWp_block ?_ | (refine hKv _ _ (AWp_nop ?_); clear hKv Kv) | (refine hKA ?_; clear hKA hKB KA KB) | (refine hKB ?_; clear hKA hKB KA KB) | refine AWp_skipN ?_ | refine AWp_exitO (by repeat (first | exact Out.hit | apply Out.thenA | apply Out.out rfl)) ?_) | ((first | with_reducible (first | (refine hKv _ _ ?_; clear hKv Kv) | ((first | refine AWp_regC mu_59 ks_59 ?_ | refine AWp_regE mu_59 ks_59 ?_); intro Kv hKv) | refine AWp_retR ?_) | refine nameByte_A c.toNat (decide (i = at_)) _ _ ?_); try simp (dsimp := false) only [go_sem, Nat.reduceAdd, Nat.reduceBEq, Nat.reduceEqDiff, Nat.reduceLT, Nat.reduceLeDiff, Nat.reduceMul, Int.reduceToNat, reduceCtorEq, ↓reduceIte, Tryd.ntmps59, Tryd.results59, ks_59, mu_59, ti_hb113, ti_st9, ii0, hin', hc, hia, hb, not_true_eq_false, not_false_eq_true, Int.reduceEq]) | (refine AWp_condC rfl ?_; intro KA KB hKA hKB; try simp only [onB_true, onB_false, onB_dec, onB_ndec, onB_not, onB_and, onB_or]) | (refine AWp_condA rfl ?_ ?_) | with_reducible (first | refine onB_of ?_ ?_ | rfl) | omega)
      all_goals first
        | omega
        | exact ⟨i + 1, ⟨by omega, by omega, by rw [hd1]; omega⟩, by omega, by (repeat' (refine And.intro ?_ ?_)) <;> first | rfl | omega | (simp; done) | (simp; omega)⟩
    | false =>
      rw [if_neg (by rw [hb]; decide), Nat.add_zero] at i3
      rw [← i3] at hk
      by_cases hz : nameN true (s.drop at_) = 0
      · have hii : i = at_ := by omega
        rw [if_pos hz, if_neg (show ¬ at_ = s.length by omega), hii] at hk
        have g1 : ((at_ : Int) < (i : Int)) = False := eq_false (by omega)
        have g2 : ((at_ : Int) = (s.length : Int)) = False := eq_false (by omega)
        repeat' (first | with_reducible (first | refine And.intro ?_ ?_ | intro _ | refine AWp_seq ?_ | refine AWp_block ?_ | (refine hKv _ _ (AWp_nop ?_); clear hKv Kv) | (refine hKA ?_; clear hKA hKB KA KB) | (refine hKB ?_; clear hKA hKB KA KB) | refine AWp_skipN ?_ | refine AWp_exitO (by repeat (first | exact Out.hit | apply Out.thenA | apply Out.out rfl)) ?_) | ((first | with_reducible (first | (refine hKv _ _ ?_; clear hKv Kv) | ((first | refine AWp_regC mu_59 ks_59 ?_ | refine AWp_regE mu_59 ks_59 ?_); intro Kv hKv) | refine AWp_retR ?_) | refine nameByte_A c.toNat (decide (i = at_)) _ _ ?_); try simp (dsimp := false) only [go_sem, Nat.reduceAdd, Nat.reduceBEq, Nat.reduceEqDiff, Nat.reduceLT, Nat.reduceLeDiff, Nat.reduceMul, Int.reduceToNat, reduceCtorEq, ↓reduceIte, Tryd.ntmps59, Tryd.results59, ks_59, mu_59, ti_hb113, ti_st9, ii0, hin', hc, hia, hb, g1, g2, not_true_eq_false, not_false_eq_true, Int.reduceEq]) | (refine AWp_condC rfl ?_; intro KA KB hKA hKB; try simp only [onB_true, onB_false, onB_dec, onB_ndec, onB_not, onB_and, onB_or]) | (refine AWp_condA rfl ?_ ?_) | with_reducible (first | refine onB_of ?_ ?_ | rfl) | omega)
        all_goals first
          | omega
          | exact keepK hk (by simp [Bel_tu, Bel_d]) rfl
      · rw [if_neg hz] at hk
        have g1 : ((at_ : Int) < (i : Int)) = True := eq_true (by omega)
        repeat' (first | with_reducible (first | refine And.intro ?_ ?_ | intro _ | refine AWp_seq ?_ | refine AWp_block ?_ | (refine hKv _ _ (AWp_nop ?_); clear hKv Kv) | (refine hKA ?_; clear hKA hKB KA KB) | (refine hKB ?_; clear hKA hKB KA KB) | refine AWp_skipN ?_ | refine AWp_exitO (by repeat (first | exact Out.hit | apply Out.thenA | apply Out.out rfl)) ?_) | ((first | with_reducible (first | (refine hKv _ _ ?_; clear hKv Kv) | ((first | refine AWp_regC mu_59 ks_59 ?_ | refine AWp_regE mu_59 ks_59 ?_); intro Kv hKv) | refine AWp_retR ?_) | refine nameByte_A c.toNat (decide (i = at_)) _ _ ?_); try simp (dsimp := false) only [go_sem, Nat.reduceAdd, Nat.reduceBEq, Nat.reduceEqDiff, Nat.reduceLT, Nat.reduceLeDiff, Nat.reduceMul, Int.reduceToNat, reduceCtorEq, ↓reduceIte, Tryd.ntmps59, Tryd.results59, ks_59, mu_59, ti_hb113, ti_st9, ii0, hin', hc, hia, hb, g1, not_true_eq_false, not_false_eq_true, Int.reduceEq]) | (refine AWp_condC rfl ?_; intro KA KB hKA hKB; try simp only [onB_true, onB_false, onB_dec, onB_ndec, onB_not, onB_and, onB_or]) | (refine AWp_condA rfl ?_ ?_) | with_reducible (first | refine onB_of ?_ ?_ | rfl) | omega)
        all_goals first
          | omega
          | exact keepK hk (by simp [Bel_tu, Bel_d]) rfl
  · have hin' : ((i : Int) < (s.length : Int)) = False := eq_false (by omega)
    have e0 : nameN (decide (i = at_)) (s.drop i) = 0 := by rw [List.drop_eq_nil_of_le (by omega)]; cases decide (i = at_) <;> rfl
    rw [e0, Nat.add_zero] at i3
    rw [← i3] at hk
    by_cases hz : nameN true (s.drop at_) = 0
    · have hii : i = at_ := by omega
      rw [if_pos hz, if_pos (show at_ = s.length by omega), hii] at hk
      have g1 : ((at_ : Int) < (i : Int)) = False := eq_false (by omega)
      have g2 : ((at_ : Int) = (s.length : Int)) = True := eq_true (by omega)
      repeat' (first | with_reducible (first | refine And.intro ?_ ?_ | intro _ | refine AWp_seq ?_ | refine AWp_block ?_ | (refine hKv _ _ (AWp_nop ?_); clear hKv Kv) | (refine hKA ?_; clear hKA hKB KA KB) | (refine hKB ?_; clear hKA hKB KA KB) | refine AWp_skipN ?_ | refine AWp_exitO (by repeat (first | exact Out.hit | apply Out.thenA | apply Out.out rfl)) ?_) | (with_reducible (first | (refine hKv _ _ ?_; clear hKv Kv) | ((first | refine AWp_regC mu_59 ks_59 ?_ | refine AWp_regE mu_59 ks_59 ?_); intro Kv hKv) | refine AWp_retR ?_); try simp (dsimp := false) only [go_sem, Nat.reduceAdd, Nat.reduceBEq, Nat.reduceEqDiff, Nat.reduceLT, Nat.reduceLeDiff, Nat.reduceMul, Int.reduceToNat, reduceCtorEq, ↓reduceIte, Tryd.ntmps59, Tryd.results59, ks_59, mu_59, ti_hb113, ti_st9, ii0, hin', g1, g2, not_true_eq_false, not_false_eq_true, Int.reduceEq]) | (refine AWp_condC rfl ?_; intro KA KB hKA hKB; try simp only [onB_true, onB_false, onB_dec, onB_ndec, onB_not, onB_and, onB_or]) | (refine AWp_condA rfl ?_ ?_) | with_reducible (first | refine onB_of ?_ ?_ | rfl) | omega)
      all_goals first
        | omega
        | exact keepK hk (by simp [Bel_tu, Bel_d]) rfl
    · rw [if_neg hz] at hk
      have g1 : ((at_ : Int) < (i : Int)) = True := eq_true (by omega)
      repeat' (first | with_reducible (first | refine And.intro ?_ ?_ | intro _ | refine AWp_seq ?_ | refine AWp_block ?_ | (refine hKv _ _ (AWp_nop ?_); clear hKv Kv) | (refine hKA ?_; clear hKA hKB KA KB) | (refine hKB ?_; clear hKA hKB KA KB) | refine AWp_skipN ?_ | refine AWp_exitO (by repeat (first | exact Out.hit | apply Out.thenA | apply Out.out rfl)) ?_) | (with_reducible (first | (refine hKv _ _ ?_; clear hKv Kv) | ((first | refine AWp_regC mu_59 ks_59 ?_ | refine AWp_regE mu_59 ks_59 ?_); intro Kv hKv) | refine AWp_retR ?_); try simp (dsimp := false) only [go_sem, Nat.reduceAdd, Nat.reduceBEq, Nat.reduceEqDiff, Nat.reduceLT, Nat.reduceLeDiff, Nat.reduceMul, Int.reduceToNat, reduceCtorEq, ↓reduceIte, Tryd.ntmps59, Tryd.results59, ks_59, mu_59, ti_hb113, ti_st9, ii0, hin', g1, not_true_eq_false, not_false_eq_true, Int.reduceEq]) | (refine AWp_condC rfl ?_; intro KA KB hKA hKB; try simp only [onB_true, onB_false, onB_dec, onB_ndec, onB_not, onB_and, onB_or]) | (refine AWp_condA rfl ?_ ?_) | with_reducible (first | refine onB_of ?_ ?_ | rfl) | omega)
      all_goals first
        | omega
        | exact keepK hk (by simp [Bel_tu, Bel_d]) rfl
end Go.Proofs.YtjghnaohlfgloaaDoor
