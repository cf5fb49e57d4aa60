/- The parser reads a name. No condition. -/
import Derived.Test.YtjghnaohlfgloaaDoorJ22
set_option linter.all false
set_option linter.unusedSimpArgs false
set_option linter.unusedVariables false
namespace Go.Proofs.YtjghnaohlfgloaaDoor
open Go Go.Proofs.YtjghnaohlfgloaaDoor.Ab
variable [Glo]
set_option maxHeartbeats 4000000
set_option maxRecDepth 20000
def nmN (s : List UInt8) (at_ : Nat) (f : Int) : Nat := if f = 0 then nameN true (s.drop at_) else 0
def nmF (s : List UInt8) (at_ : Nat) (f : Int) : Int := if f = 0 then (if nameN true (s.drop at_) = 0 then (if at_ = s.length then 5 else 4) else 0) else f
theorem nameN_cons (t : Bool) (c : UInt8) (l : List UInt8) : nameN t (c :: l) = if nameB c.toNat t = true then nameN false l + 1 else 0 := rfl
def ks_106 : Nat → List Nat
  | 0 => [0]
  | 1 => [0, 3]
  | 2 => [0, 3, 26]
  | 3 => [0, 3, 4]
  | 4 => [0, 3, 62]
  | 5 => [0, 3]
  | 6 => [0, 5]
  | 7 => [0, 5, 88]
  | 8 => [0, 5, 98]
  | 9 => [5]
  | 10 => [5]
  | 11 => [2]
  | _ => []
def mu_106 : List Nat := []
def in_106 : List Nat := [0]
def nd_106 : Nat → Nat
  | 2 => 16
  | 3 => 9
  | 6 => 10
  | 8 => 9
  | _ => 0
theorem name_A (id : Nat) (s : List UInt8) (at_ : Nat) (f : Int) (o : V) (H : Heap) (K : V → Heap → Prop) (hr : H[id]? = some (prC s at_ o f)) (ho : Bel H.length o) (hs : s.length ≤ 1000000) (hat : at_ ≤ s.length)
    (hk : K (.d (.s ((s.drop at_).take (nmN s at_ f)))) (H.set id (prC s ((at_ + nmN s at_ f : Nat) : Int) o (nmF s at_ f)))) :
    ACalls Tryd.prog 106 [.pt id 0 0 0] H K := by
  have hid := lt_of_get hr
  have hr' := hr
  have hss := set_same hr
  rw [prC] at hr'
  have a0 : ((0 : Int) ≤ (at_ : Int)) = True := eq_true (by omega)
  by_cases hf : f = 0
  · subst hf
    rw [nmN, if_pos rfl, nmF, if_pos rfl] at hk
    refine ACalls_of Tryd.func106 rfl in_106 (Nat.le_of_ble_eq_true rfl) ?_
    intro F hF
    simp (dsimp := false) only [go_sem, Nat.reduceAdd, Nat.reduceBEq, Nat.reduceEqDiff, Nat.reduceLT, Nat.reduceLeDiff, Nat.reduceMul, Int.reduceToNat, reduceCtorEq, ↓reduceIte, Tryd.ntmps106, Tryd.results106, ks_106, mu_106, nd_106, ti_ag3, ti_ag9, ti_ag29, ti_fl86_0, ti_fl86_1, ti_fl86_3, ti_hb105, ti_hb142, ti_st9, ti_sz3, hr', hid, Int.reduceEq, in_106] at hF
    subst hF
    repeat' (first | with_reducible (first | refine And.intro ?_ ?_ | intro _ | refine AWp_seq ?_ | refine AWp_block ?_ | (refine hKv _ _ (AWp_nop ?_); clear hKv Kv) | (refine hKA ?_; clear hKA hKB KA KB) | (refine hKB ?_; clear hKA hKB KA KB) | refine AWp_skipN ?_ | refine AWp_exitO (by repeat (first | exact Out.hit | apply Out.thenA | apply Out.out rfl)) ?_) | (with_reducible (first | (refine hKv _ _ ?_; clear hKv Kv) | ((first | refine AWp_regC mu_106 ks_106 ?_ | refine AWp_draw nd_106 mu_106 ks_106 ti_mixed (by kernel_rfl) ?_ | refine AWp_regE mu_106 ks_106 ?_ | refine AWp_drawE nd_106 mu_106 ks_106 ti_mixed (by kernel_rfl) ?_); intro Kv hKv) | refine AWp_retR ?_); try simp (dsimp := false) only [go_sem, Nat.reduceAdd, Nat.reduceBEq, Nat.reduceEqDiff, Nat.reduceLT, Nat.reduceLeDiff, Nat.reduceMul, Int.reduceToNat, reduceCtorEq, ↓reduceIte, Tryd.ntmps106, Tryd.results106, ks_106, mu_106, nd_106, ti_ag3, ti_ag9, ti_ag29, ti_fl86_0, ti_fl86_1, ti_fl86_3, ti_hb105, ti_hb142, ti_st9, ti_sz3, hr', hid, Int.reduceEq]) | (refine AWp_condC rfl ?_; intro KA KB hKA hKB; try simp only [onB_true, onB_false, onB_dec, onB_ndec, onB_not, onB_and, onB_or]) | (refine AWp_condA rfl ?_ ?_) | with_reducible (first | refine onB_of ?_ ?_ | rfl) | omega)
    refine AWp_whileP (fun i : Nat => at_ ≤ i ∧ i ≤ s.length ∧ i + nameN (decide (i = at_)) (s.drop i) = at_ + nameN true (s.drop at_)) (fun i => [(0, .pt id 0 0 0), (3, .d (.i .i64 at_))]) (fun i => H.set id (prC s (i : Int) o 0)) (fun i => s.length - i) at_ ⟨Nat.le_refl _, hat, by rw [decide_eq_true rfl]⟩ ?_ ?_ ?_ ?_ ?_
    · rw [hss]
    · simp (dsimp := false) only [go_sem, Nat.reduceAdd, Nat.reduceBEq, Nat.reduceEqDiff, Nat.reduceLT, Nat.reduceLeDiff, Nat.reduceMul, Int.reduceToNat, reduceCtorEq, ↓reduceIte, Tryd.ntmps106, Tryd.results106, ks_106, mu_106, nd_106, ti_ag3, ti_ag9, ti_ag29, ti_fl86_0, ti_fl86_1, ti_fl86_3, ti_hb105, ti_hb142, ti_st9, ti_sz3, hr', hid, Int.reduceEq]
      first | done | exact hid | (simp [hid]; done)
    · intro i _
      simp
    · intro i _
      exact closed_set (closed_self H) (prC_bel ho)
    rintro i ⟨i1, i2, i3⟩
    have hg : (H.set id (prC s (i : Int) o 0))[id]? = some (prC s (i : Int) o 0) := get_self hr _
    have hss2 : ∀ X Y, (H.set id X).set id Y = H.set id Y := fun X Y => List.set_set ..
    have hidl : id < (H.set id (prC s (i : Int) o 0)).length := by simpa using hid
    have hg0 := hg
    rw [prC] at hg hidl
    have ho' : Bel (H.set id (prC s (i : Int) o 0)).length o := by simpa using ho
    have ii0 : ((0 : Int) ≤ (i : Int)) = True := eq_true (by omega)
    have ii1 : ((i : Int) ≤ (s.length : Int)) = True := eq_true (by omega)
    have ii2 : ((at_ : Int) ≤ (i : Int)) = True := eq_true (by omega)
    have hcut : List.drop at_ (List.take i s) = (s.drop at_).take (i - at_) := List.drop_take ..
    by_cases hin : i < s.length
    · obtain ⟨c, hc⟩ : ∃ c, s[i]? = some c := ⟨s[i], List.getElem?_eq_getElem hin⟩
      have hin' : ((i : Int) < (s.length : Int)) = True := eq_true (by omega)
      have hd1 : decide (i + 1 = at_) = false := decide_eq_false (by omega)
      rw [drop_of_get hc, nameN_cons] at i3
      have more : nameB c.toNat (decide (i = at_)) = true → ∃ i', (at_ ≤ i' ∧ i' ≤ s.length ∧ i' + nameN (decide (i' = at_)) (s.drop i') = at_ + nameN true (s.drop at_)) ∧ i' = i + 1 := fun hb => by
        rw [if_pos hb] at i3
        exact ⟨i + 1, ⟨by omega, by omega, by rw [hd1]; omega⟩, rfl⟩
      cases hL : letterB c.toNat with
      | true =>
        obtain ⟨i', m1, rfl⟩ := more (by rw [nameB, hL, Bool.true_or])
        repeat' (first | with_reducible (first | refine And.intro ?_ ?_ | intro _ | refine AWp_seq ?_ | refine AWp_block ?_ | (refine hKv _ _ (AWp_nop ?_); clear hKv Kv) | (refine hKA ?_; clear hKA hKB KA KB) | (refine hKB ?_; clear hKA hKB KA KB) | refine AWp_skipN ?_ | refine AWp_exitO (by repeat (first | exact Out.hit | apply Out.thenA | apply Out.out rfl)) ?_) | ((first | with_reducible (first | (refine hKv _ _ ?_; clear hKv Kv) | ((first | refine AWp_regC mu_106 ks_106 ?_ | refine AWp_draw nd_106 mu_106 ks_106 ti_mixed (by kernel_rfl) ?_ | refine AWp_regE mu_106 ks_106 ?_ | refine AWp_drawE nd_106 mu_106 ks_106 ti_mixed (by kernel_rfl) ?_); intro Kv hKv) | refine AWp_retR ?_) | refine letter_A c.toNat _ _ ?_ | refine QCall_of (letter_A c.toNat _ _ (Two_intro _ _)) ?_); try simp (dsimp := false) only [go_sem, Nat.reduceAdd, Nat.reduceBEq, Nat.reduceEqDiff, Nat.reduceLT, Nat.reduceLeDiff, Nat.reduceMul, Int.reduceToNat, reduceCtorEq, ↓reduceIte, Tryd.ntmps106, Tryd.results106, ks_106, mu_106, nd_106, ti_ag3, ti_ag9, ti_ag29, ti_fl86_0, ti_fl86_1, ti_fl86_3, ti_hb105, ti_hb142, ti_st9, ti_sz3, prC, hg, hidl, hss2, ii0, hin', hc, hL, not_true_eq_false, not_false_eq_true, Int.reduceEq]) | (refine AWp_condC rfl ?_; intro KA KB hKA hKB; try simp only [onB_true, onB_false, onB_dec, onB_ndec, onB_not, onB_and, onB_or]) | (refine AWp_condA rfl ?_ ?_) | with_reducible (first | refine onB_of ?_ ?_ | rfl) | omega)
        all_goals first
          | omega
          | exact ⟨i + 1, m1, by omega, rfl, by (repeat' (refine And.intro ?_ ?_)) <;> first | rfl | omega | (simp; done) | (simp; omega)⟩
      | false =>
        by_cases hia : i = at_
        · subst hia
          rw [decide_eq_true rfl, if_neg (by simp [nameB, hL]), Nat.add_zero] at i3
          have e0 : nameN true (s.drop i) = 0 := by omega
          rw [e0, Nat.add_zero, if_pos rfl, if_neg (show ¬ i = s.length by omega), List.take_zero] at hk
          have e1 : ((i : Int) = (s.length : Int)) = False := eq_false (by omega)
          have hcut0 : List.drop i (List.take i s) = [] := by rw [hcut]; simp
          have hi' : ((i : Int) = (i : Int)) = True := eq_true rfl
          repeat' (first | with_reducible (first | refine And.intro ?_ ?_ | intro _ | refine AWp_seq ?_ | refine AWp_block ?_ | (refine hKv _ _ (AWp_nop ?_); clear hKv Kv) | (refine hKA ?_; clear hKA hKB KA KB) | (refine hKB ?_; clear hKA hKB KA KB) | refine AWp_skipN ?_ | refine AWp_exitO (by repeat (first | exact Out.hit | apply Out.thenA | apply Out.out rfl)) ?_) | ((first | with_reducible (first | (refine hKv _ _ ?_; clear hKv Kv) | ((first | refine AWp_regC mu_106 ks_106 ?_ | refine AWp_draw nd_106 mu_106 ks_106 ti_mixed (by kernel_rfl) ?_ | refine AWp_regE mu_106 ks_106 ?_ | refine AWp_drawE nd_106 mu_106 ks_106 ti_mixed (by kernel_rfl) ?_); intro Kv hKv) | refine AWp_retR ?_) | refine letter_A c.toNat _ _ ?_ | refine QCall_of (letter_A c.toNat _ _ (Two_intro _ _)) ?_ | refine stop_A id s i 0 4 o _ _ hg0 ho' ?_ | refine QCall_of (stop_A id s i 0 4 o _ _ hg0 ho' (Two_intro _ _)) ?_); try simp (dsimp := false) only [go_sem, Nat.reduceAdd, Nat.reduceBEq, Nat.reduceEqDiff, Nat.reduceLT, Nat.reduceLeDiff, Nat.reduceMul, Int.reduceToNat, reduceCtorEq, ↓reduceIte, Tryd.ntmps106, Tryd.results106, ks_106, mu_106, nd_106, ti_ag3, ti_ag9, ti_ag29, ti_fl86_0, ti_fl86_1, ti_fl86_3, ti_hb105, ti_hb142, ti_st9, ti_sz3, prC, hg, hidl, hss2, ii0, ii1, ii2, hin', hi', e1, hcut0, hc, hL, not_true_eq_false, not_false_eq_true, Int.reduceEq]) | (refine AWp_condC rfl ?_; intro KA KB hKA hKB; try simp only [onB_true, onB_false, onB_dec, onB_ndec, onB_not, onB_and, onB_or]) | (refine AWp_condA rfl ?_ ?_) | with_reducible (first | refine onB_of ?_ ?_ | rfl) | omega)
          all_goals first
            | omega
            | exact keepS hk (by simp) (closed_set (closed_self H) (prC_bel ho)) (.d _)
        · have hia' : ((i : Int) = (at_ : Int)) = False := eq_false (by omega)
          have hdf : decide (i = at_) = false := decide_eq_false hia
          rw [hdf] at i3 more
          by_cases c1 : (c.toNat : Int) < 48
          · have n1 : ((c.toNat : Int) < 48) = True := eq_true c1
            by_cases c2 : (c.toNat : Int) = 45
            · have n2 : ((c.toNat : Int) = 45) = True := eq_true c2
              obtain ⟨i', m1, rfl⟩ := more (by simp [nameB, c2])
              repeat' (first | with_reducible (first | refine And.intro ?_ ?_ | intro _ | refine AWp_seq ?_ | refine AWp_block ?_ | (refine hKv _ _ (AWp_nop ?_); clear hKv Kv) | (refine hKA ?_; clear hKA hKB KA KB) | (refine hKB ?_; clear hKA hKB KA KB) | refine AWp_skipN ?_ | refine AWp_exitO (by repeat (first | exact Out.hit | apply Out.thenA | apply Out.out rfl)) ?_) | ((first | with_reducible (first | (refine hKv _ _ ?_; clear hKv Kv) | ((first | refine AWp_regC mu_106 ks_106 ?_ | refine AWp_draw nd_106 mu_106 ks_106 ti_mixed (by kernel_rfl) ?_ | refine AWp_regE mu_106 ks_106 ?_ | refine AWp_drawE nd_106 mu_106 ks_106 ti_mixed (by kernel_rfl) ?_); intro Kv hKv) | refine AWp_retR ?_) | refine letter_A c.toNat _ _ ?_ | refine QCall_of (letter_A c.toNat _ _ (Two_intro _ _)) ?_); try simp (dsimp := false) only [go_sem, Nat.reduceAdd, Nat.reduceBEq, Nat.reduceEqDiff, Nat.reduceLT, Nat.reduceLeDiff, Nat.reduceMul, Int.reduceToNat, reduceCtorEq, ↓reduceIte, Tryd.ntmps106, Tryd.results106, ks_106, mu_106, nd_106, ti_ag3, ti_ag9, ti_ag29, ti_fl86_0, ti_fl86_1, ti_fl86_3, ti_hb105, ti_hb142, ti_st9, ti_sz3, prC, hg, hidl, hss2, ii0, hin', hia', n1, n2, hc, hL, not_true_eq_false, not_false_eq_true, Int.reduceEq]) | (refine AWp_condC rfl ?_; intro KA KB hKA hKB; try simp only [onB_true, onB_false, onB_dec, onB_ndec, onB_not, onB_and, onB_or]) | (refine AWp_condA rfl ?_ ?_) | with_reducible (first | refine onB_of ?_ ?_ | rfl) | omega)
              all_goals first
                | omega
                | exact ⟨i + 1, m1, by omega, rfl, by (repeat' (refine And.intro ?_ ?_)) <;> first | rfl | omega | (simp; done) | (simp; omega)⟩
            · have n2 : ((c.toNat : Int) = 45) = False := eq_false c2
              by_cases c3 : (c.toNat : Int) = 46
              · have n3 : ((c.toNat : Int) = 46) = True := eq_true c3
                obtain ⟨i', m1, rfl⟩ := more (by simp [nameB, c3])
                repeat' (first | with_reducible (first | refine And.intro ?_ ?_ | intro _ | refine AWp_seq ?_ | refine AWp_block ?_ | (refine hKv _ _ (AWp_nop ?_); clear hKv Kv) | (refine hKA ?_; clear hKA hKB KA KB) | (refine hKB ?_; clear hKA hKB KA KB) | refine AWp_skipN ?_ | refine AWp_exitO (by repeat (first | exact Out.hit | apply Out.thenA | apply Out.out rfl)) ?_) | ((first | with_reducible (first | (refine hKv _ _ ?_; clear hKv Kv) | ((first | refine AWp_regC mu_106 ks_106 ?_ | refine AWp_draw nd_106 mu_106 ks_106 ti_mixed (by kernel_rfl) ?_ | refine AWp_regE mu_106 ks_106 ?_ | refine AWp_drawE nd_106 mu_106 ks_106 ti_mixed (by kernel_rfl) ?_); intro Kv hKv) | refine AWp_retR ?_) | refine letter_A c.toNat _ _ ?_ | refine QCall_of (letter_A c.toNat _ _ (Two_intro _ _)) ?_); try simp (dsimp := false) only [go_sem, Nat.reduceAdd, Nat.reduceBEq, Nat.reduceEqDiff, Nat.reduceLT, Nat.reduceLeDiff, Nat.reduceMul, Int.reduceToNat, reduceCtorEq, ↓reduceIte, Tryd.ntmps106, Tryd.results106, ks_106, mu_106, nd_106, ti_ag3, ti_ag9, ti_ag29, ti_fl86_0, ti_fl86_1, ti_fl86_3, ti_hb105, ti_hb142, ti_st9, ti_sz3, prC, hg, hidl, hss2, ii0, hin', hia', n1, n2, n3, hc, hL, not_true_eq_false, not_false_eq_true, Int.reduceEq]) | (refine AWp_condC rfl ?_; intro KA KB hKA hKB; try simp only [onB_true, onB_false, onB_dec, onB_ndec, onB_not, onB_and, onB_or]) | (refine AWp_condA rfl ?_ ?_) | with_reducible (first | refine onB_of ?_ ?_ | rfl) | omega)
                all_goals first
                  | omega
                  | exact ⟨i + 1, m1, by omega, rfl, by (repeat' (refine And.intro ?_ ?_)) <;> first | rfl | omega | (simp; done) | (simp; omega)⟩
              · have n3 : ((c.toNat : Int) = 46) = False := eq_false c3
                rw [if_neg (by simp [nameB, hL]; omega), Nat.add_zero] at i3
                rw [← i3, if_neg (show ¬ nameN true (s.drop at_) = 0 by omega)] at hk
                have hcne : (List.drop at_ (List.take i s) = []) = False := eq_false fun h => by
                  have := congrArg List.length h
                  simp at this
                  omega
                have e2 : nameN true (s.drop at_) = i - at_ := by omega
                rw [e2, ← hcut] at hk
                repeat' (first | with_reducible (first | refine And.intro ?_ ?_ | intro _ | refine AWp_seq ?_ | refine AWp_block ?_ | (refine hKv _ _ (AWp_nop ?_); clear hKv Kv) | (refine hKA ?_; clear hKA hKB KA KB) | (refine hKB ?_; clear hKA hKB KA KB) | refine AWp_skipN ?_ | refine AWp_exitO (by repeat (first | exact Out.hit | apply Out.thenA | apply Out.out rfl)) ?_) | ((first | with_reducible (first | (refine hKv _ _ ?_; clear hKv Kv) | ((first | refine AWp_regC mu_106 ks_106 ?_ | refine AWp_draw nd_106 mu_106 ks_106 ti_mixed (by kernel_rfl) ?_ | refine AWp_regE mu_106 ks_106 ?_ | refine AWp_drawE nd_106 mu_106 ks_106 ti_mixed (by kernel_rfl) ?_); intro Kv hKv) | refine AWp_retR ?_) | refine letter_A c.toNat _ _ ?_ | refine QCall_of (letter_A c.toNat _ _ (Two_intro _ _)) ?_); try simp (dsimp := false) only [go_sem, Nat.reduceAdd, Nat.reduceBEq, Nat.reduceEqDiff, Nat.reduceLT, Nat.reduceLeDiff, Nat.reduceMul, Int.reduceToNat, reduceCtorEq, ↓reduceIte, Tryd.ntmps106, Tryd.results106, ks_106, mu_106, nd_106, ti_ag3, ti_ag9, ti_ag29, ti_fl86_0, ti_fl86_1, ti_fl86_3, ti_hb105, ti_hb142, ti_st9, ti_sz3, prC, hg, hidl, hss2, ii0, ii1, ii2, hin', hia', n1, n2, n3, hcne, hc, hL, not_true_eq_false, not_false_eq_true, Int.reduceEq]) | (refine AWp_condC rfl ?_; intro KA KB hKA hKB; try simp only [onB_true, onB_false, onB_dec, onB_ndec, onB_not, onB_and, onB_or]) | (refine AWp_condA rfl ?_ ?_) | with_reducible (first | refine onB_of ?_ ?_ | rfl) | omega)
                all_goals first
                  | omega
                  | exact keepS hk (by simp) (closed_set (closed_self H) (prC_bel ho)) (.d _)
          · have n1 : ((c.toNat : Int) < 48) = False := eq_false c1
            by_cases c4 : (57 : Int) < (c.toNat : Int)
            · have n4 : ((57 : Int) < (c.toNat : Int)) = True := eq_true c4
              have n2 : ((c.toNat : Int) = 45) = False := eq_false (by omega)
              have n3 : ((c.toNat : Int) = 46) = False := eq_false (by omega)
              rw [if_neg (by simp [nameB, hL]; omega), Nat.add_zero] at i3
              rw [← i3, if_neg (show ¬ nameN true (s.drop at_) = 0 by omega)] at hk
              have hcne : (List.drop at_ (List.take i s) = []) = False := eq_false fun h => by
                have := congrArg List.length h
                simp at this
                omega
              have e2 : nameN true (s.drop at_) = i - at_ := by omega
              rw [e2, ← hcut] at hk
              repeat' (first | with_reducible (first | refine And.intro ?_ ?_ | intro _ | refine AWp_seq ?_ | refine AWp_block ?_ | (refine hKv _ _ (AWp_nop ?_); clear hKv Kv) | (refine hKA ?_; clear hKA hKB KA KB) | (refine hKB ?_; clear hKA hKB KA KB) | refine AWp_skipN ?_ | refine AWp_exitO (by repeat (first | exact Out.hit | apply Out.thenA | apply Out.out rfl)) ?_) | ((first | with_reducible (first | (refine hKv _ _ ?_; clear hKv Kv) | ((first | refine AWp_regC mu_106 ks_106 ?_ | refine AWp_draw nd_106 mu_106 ks_106 ti_mixed (by kernel_rfl) ?_ | refine AWp_regE mu_106 ks_106 ?_ | refine AWp_drawE nd_106 mu_106 ks_106 ti_mixed (by kernel_rfl) ?_); intro Kv hKv) | refine AWp_retR ?_) | refine letter_A c.toNat _ _ ?_ | refine QCall_of (letter_A c.toNat _ _ (Two_intro _ _)) ?_); try simp (dsimp := false) only [go_sem, Nat.reduceAdd, Nat.reduceBEq, Nat.reduceEqDiff, Nat.reduceLT, Nat.reduceLeDiff, Nat.reduceMul, Int.reduceToNat, reduceCtorEq, ↓reduceIte, Tryd.ntmps106, Tryd.results106, ks_106, mu_106, nd_106, ti_ag3, ti_ag9, ti_ag29, ti_fl86_0, ti_fl86_1, ti_fl86_3, ti_hb105, ti_hb142, ti_st9, ti_sz3, prC, hg, hidl, hss2, ii0, ii1, ii2, hin', hia', n1, n2, n3, n4, hcne, hc, hL, not_true_eq_false, not_false_eq_true, Int.reduceEq]) | (refine AWp_condC rfl ?_; intro KA KB hKA hKB; try simp only [onB_true, onB_false, onB_dec, onB_ndec, onB_not, onB_and, onB_or]) | (refine AWp_condA rfl ?_ ?_) | with_reducible (first | refine onB_of ?_ ?_ | rfl) | omega)
              all_goals first
                | omega
                | exact keepS hk (by simp) (closed_set (closed_self H) (prC_bel ho)) (.d _)
            · have n4 : ((57 : Int) < (c.toNat : Int)) = False := eq_false c4
              obtain ⟨i', m1, rfl⟩ := more (by simp [nameB]; omega)
              repeat' (first | with_reducible (first | refine And.intro ?_ ?_ | intro _ | refine AWp_seq ?_ | refine AWp_block ?_ | (refine hKv _ _ (AWp_nop ?_); clear hKv Kv) | (refine hKA ?_; clear hKA hKB KA KB) | (refine hKB ?_; clear hKA hKB KA KB) | refine AWp_skipN ?_ | refine AWp_exitO (by repeat (first | exact Out.hit | apply Out.thenA | apply Out.out rfl)) ?_) | ((first | with_reducible (first | (refine hKv _ _ ?_; clear hKv Kv) | ((first | refine AWp_regC mu_106 ks_106 ?_ | refine AWp_draw nd_106 mu_106 ks_106 ti_mixed (by kernel_rfl) ?_ | refine AWp_regE mu_106 ks_106 ?_ | refine AWp_drawE nd_106 mu_106 ks_106 ti_mixed (by kernel_rfl) ?_); intro Kv hKv) | refine AWp_retR ?_) | refine letter_A c.toNat _ _ ?_ | refine QCall_of (letter_A c.toNat _ _ (Two_intro _ _)) ?_); try simp (dsimp := false) only [go_sem, Nat.reduceAdd, Nat.reduceBEq, Nat.reduceEqDiff, Nat.reduceLT, Nat.reduceLeDiff, Nat.reduceMul, Int.reduceToNat, reduceCtorEq, ↓reduceIte, Tryd.ntmps106, Tryd.results106, ks_106, mu_106, nd_106, ti_ag3, ti_ag9, ti_ag29, ti_fl86_0, ti_fl86_1, ti_fl86_3, ti_hb105, ti_hb142, ti_st9, ti_sz3, prC, hg, hidl, hss2, ii0, hin', hia', n1, n4, hc, hL, not_true_eq_false, not_false_eq_true, Int.reduceEq]) | (refine AWp_condC rfl ?_; intro KA KB hKA hKB; try simp only [onB_true, onB_false, onB_dec, onB_ndec, onB_not, onB_and, onB_or]) | (refine AWp_condA rfl ?_ ?_) | with_reducible (first | refine onB_of ?_ ?_ | rfl) | omega)
              all_goals first
                | omega
                | exact ⟨i + 1, m1, by omega, rfl, by (repeat' (refine And.intro ?_ ?_)) <;> first | rfl | omega | (simp; done) | (simp; omega)⟩
    · have hin' : ((i : Int) < (s.length : Int)) = False := eq_false (by omega)
      have hil : i = s.length := by omega
      have e0 : nameN (decide (i = at_)) (s.drop i) = 0 := by rw [List.drop_eq_nil_of_le (by omega)]; cases decide (i = at_) <;> rfl
      rw [e0, Nat.add_zero] at i3
      have e3 : ((i : Int) = (s.length : Int)) = True := eq_true (by omega)
      by_cases hz : nameN true (s.drop at_) = 0
      · rw [hz, Nat.add_zero] at i3
        subst i3
        rw [hz, Nat.add_zero, if_pos rfl, if_pos hil, List.take_zero] at hk
        have hcut0 : List.drop i (List.take i s) = [] := by rw [hcut]; simp
        repeat' (first | with_reducible (first | refine And.intro ?_ ?_ | intro _ | refine AWp_seq ?_ | refine AWp_block ?_ | (refine hKv _ _ (AWp_nop ?_); clear hKv Kv) | (refine hKA ?_; clear hKA hKB KA KB) | (refine hKB ?_; clear hKA hKB KA KB) | refine AWp_skipN ?_ | refine AWp_exitO (by repeat (first | exact Out.hit | apply Out.thenA | apply Out.out rfl)) ?_) | ((first | with_reducible (first | (refine hKv _ _ ?_; clear hKv Kv) | ((first | refine AWp_regC mu_106 ks_106 ?_ | refine AWp_draw nd_106 mu_106 ks_106 ti_mixed (by kernel_rfl) ?_ | refine AWp_regE mu_106 ks_106 ?_ | refine AWp_drawE nd_106 mu_106 ks_106 ti_mixed (by kernel_rfl) ?_); intro Kv hKv) | refine AWp_retR ?_) | refine stop_A id s i 0 5 o _ _ hg0 ho' ?_ | refine QCall_of (stop_A id s i 0 5 o _ _ hg0 ho' (Two_intro _ _)) ?_); try simp (dsimp := false) only [go_sem, Nat.reduceAdd, Nat.reduceBEq, Nat.reduceEqDiff, Nat.reduceLT, Nat.reduceLeDiff, Nat.reduceMul, Int.reduceToNat, reduceCtorEq, ↓reduceIte, Tryd.ntmps106, Tryd.results106, ks_106, mu_106, nd_106, ti_ag3, ti_ag9, ti_ag29, ti_fl86_0, ti_fl86_1, ti_fl86_3, ti_hb105, ti_hb142, ti_st9, ti_sz3, prC, hg, hidl, hss2, ii0, ii1, ii2, hin', e3, hcut0, not_true_eq_false, not_false_eq_true, Int.reduceEq]) | (refine AWp_condC rfl ?_; intro KA KB hKA hKB; try simp only [onB_true, onB_false, onB_dec, onB_ndec, onB_not, onB_and, onB_or]) | (refine AWp_condA rfl ?_ ?_) | with_reducible (first | refine onB_of ?_ ?_ | rfl) | omega)
        all_goals first
          | omega
          | exact keepS hk (by simp) (closed_set (closed_self H) (prC_bel ho)) (.d _)
      · rw [← i3, if_neg hz] at hk
        have hcne : (List.drop at_ (List.take i s) = []) = False := eq_false fun h => by
          have := congrArg List.length h
          simp at this
          omega
        have e2 : nameN true (s.drop at_) = i - at_ := by omega
        rw [e2, ← hcut] at hk
        repeat' (first | with_reducible (first | refine And.intro ?_ ?_ | intro _ | refine AWp_seq ?_ | refine AWp_block ?_ | (refine hKv _ _ (AWp_nop ?_); clear hKv Kv) | (refine hKA ?_; clear hKA hKB KA KB) | (refine hKB ?_; clear hKA hKB KA KB) | refine AWp_skipN ?_ | refine AWp_exitO (by repeat (first | exact Out.hit | apply Out.thenA | apply Out.out rfl)) ?_) | (with_reducible (first | (refine hKv _ _ ?_; clear hKv Kv) | ((first | refine AWp_regC mu_106 ks_106 ?_ | refine AWp_draw nd_106 mu_106 ks_106 ti_mixed (by kernel_rfl) ?_ | refine AWp_regE mu_106 ks_106 ?_ | refine AWp_drawE nd_106 mu_106 ks_106 ti_mixed (by kernel_rfl) ?_); intro Kv hKv) | refine AWp_retR ?_); try simp (dsimp := false) only [go_sem, Nat.reduceAdd, Nat.reduceBEq, Nat.reduceEqDiff, Nat.reduceLT, Nat.reduceLeDiff, Nat.reduceMul, Int.reduceToNat, reduceCtorEq, ↓reduceIte, Tryd.ntmps106, Tryd.results106, ks_106, mu_106, nd_106, ti_ag3, ti_ag9, ti_ag29, ti_fl86_0, ti_fl86_1, ti_fl86_3, ti_hb105, ti_hb142, ti_st9, ti_sz3, prC, hg, hidl, hss2, ii0, ii1, ii2, hin', hcne, not_true_eq_false, not_false_eq_true, Int.reduceEq]) | (refine AWp_condC rfl ?_; intro KA KB hKA hKB; try simp only [onB_true, onB_false, onB_dec, onB_ndec, onB_not, onB_and, onB_or]) | (refine AWp_condA rfl ?_ ?_) | with_reducible (first | refine onB_of ?_ ?_ | rfl) | omega)
        all_goals first
          | omega
          | exact keepS hk (by simp) (closed_set (closed_self H) (prC_bel ho)) (.d _)
  · have h1 : (f = 0) = False := eq_false hf
    rw [nmN, if_neg hf, nmF, if_neg hf, Nat.add_zero, hss, List.take_zero] at hk
    have a1 : ((at_ : Int) ≤ (s.length : Int)) = True := eq_true (by omega)
    have a2 : ((at_ : Int) ≤ (at_ : Int)) = True := eq_true (by omega)
    have hcut0 : List.drop at_ (List.take at_ s) = [] := by rw [List.drop_take]; simp
    refine ACalls_of Tryd.func106 rfl in_106 (Nat.le_of_ble_eq_true rfl) ?_
    intro F hF
    simp (dsimp := false) only [go_sem, Nat.reduceAdd, Nat.reduceBEq, Nat.reduceEqDiff, Nat.reduceLT, Nat.reduceLeDiff, Nat.reduceMul, Int.reduceToNat, reduceCtorEq, ↓reduceIte, Tryd.ntmps106, Tryd.results106, ks_106, mu_106, nd_106, ti_ag3, ti_ag9, ti_ag29, ti_fl86_0, ti_fl86_1, ti_fl86_3, ti_hb105, ti_hb142, ti_st9, ti_sz3, hr', hid, in_106] at hF
    subst hF
    repeat' (first | with_reducible (first | refine And.intro ?_ ?_ | intro _ | refine AWp_seq ?_ | refine AWp_block ?_ | (refine hKv _ _ (AWp_nop ?_); clear hKv Kv) | (refine hKA ?_; clear hKA hKB KA KB) | (refine hKB ?_; clear hKA hKB KA KB) | refine AWp_skipN ?_ | refine AWp_exitO (by repeat (first | exact Out.hit | apply Out.thenA | apply Out.out rfl)) ?_) | (with_reducible (first | (refine hKv _ _ ?_; clear hKv Kv) | ((first | refine AWp_regC mu_106 ks_106 ?_ | refine AWp_draw nd_106 mu_106 ks_106 ti_mixed (by kernel_rfl) ?_ | refine AWp_regE mu_106 ks_106 ?_ | refine AWp_drawE nd_106 mu_106 ks_106 ti_mixed (by kernel_rfl) ?_); intro Kv hKv) | refine AWp_retR ?_); try simp (dsimp := false) only [go_sem, Nat.reduceAdd, Nat.reduceBEq, Nat.reduceEqDiff, Nat.reduceLT, Nat.reduceLeDiff, Nat.reduceMul, Int.reduceToNat, reduceCtorEq, ↓reduceIte, Tryd.ntmps106, Tryd.results106, ks_106, mu_106, nd_106, ti_ag3, ti_ag9, ti_ag29, ti_fl86_0, ti_fl86_1, ti_fl86_3, ti_hb105, ti_hb142, ti_st9, ti_sz3, hr', hid]) | (refine AWp_condC rfl ?_; intro KA KB hKA hKB; try simp only [onB_true, onB_false, onB_dec, onB_ndec, onB_not, onB_and, onB_or]) | (refine AWp_condA rfl ?_ ?_) | with_reducible (first | refine onB_of ?_ ?_ | rfl) | omega)
    refine AWp_while0 (fun _ : Unit => True) (fun _ => [(0, .pt id 0 0 0), (3, .d (.i .i64 at_))]) (fun _ => 0) () trivial ?_ ?_
    · simp (dsimp := false) only [go_sem, Nat.reduceAdd, Nat.reduceBEq, Nat.reduceEqDiff, Nat.reduceLT, Nat.reduceLeDiff, Nat.reduceMul, Int.reduceToNat, reduceCtorEq, ↓reduceIte, Tryd.ntmps106, Tryd.results106, ks_106, mu_106, nd_106, ti_ag3, ti_ag9, ti_ag29, ti_fl86_0, ti_fl86_1, ti_fl86_3, ti_hb105, ti_hb142, ti_st9, ti_sz3, hr', hid]
      first | done | exact hid | (simp [hid]; done)
    rintro ⟨⟩ _
    repeat' (first | with_reducible (first | refine And.intro ?_ ?_ | intro _ | refine AWp_seq ?_ | refine AWp_block ?_ | (refine hKv _ _ (AWp_nop ?_); clear hKv Kv) | (refine hKA ?_; clear hKA hKB KA KB) | (refine hKB ?_; clear hKA hKB KA KB) | refine AWp_skipN ?_ | refine AWp_exitO (by repeat (first | exact Out.hit | apply Out.thenA | apply Out.out rfl)) ?_) | (with_reducible (first | (refine hKv _ _ ?_; clear hKv Kv) | ((first | refine AWp_regC mu_106 ks_106 ?_ | refine AWp_draw nd_106 mu_106 ks_106 ti_mixed (by kernel_rfl) ?_ | refine AWp_regE mu_106 ks_106 ?_ | refine AWp_drawE nd_106 mu_106 ks_106 ti_mixed (by kernel_rfl) ?_); intro Kv hKv) | refine AWp_retR ?_); try simp (dsimp := false) only [go_sem, Nat.reduceAdd, Nat.reduceBEq, Nat.reduceEqDiff, Nat.reduceLT, Nat.reduceLeDiff, Nat.reduceMul, Int.reduceToNat, reduceCtorEq, ↓reduceIte, Tryd.ntmps106, Tryd.results106, ks_106, mu_106, nd_106, ti_ag3, ti_ag9, ti_ag29, ti_fl86_0, ti_fl86_1, ti_fl86_3, ti_hb105, ti_hb142, ti_st9, ti_sz3, hr', hid, h1, a0, a1, a2, hcut0, not_true_eq_false, not_false_eq_true]) | (refine AWp_condC rfl ?_; intro KA KB hKA hKB; try simp only [onB_true, onB_false, onB_dec, onB_ndec, onB_not, onB_and, onB_or]) | (refine AWp_condA rfl ?_ ?_) | with_reducible (first | refine onB_of ?_ ?_ | rfl) | omega)
    all_goals first
      | omega
      | exact keepS hk (Nat.le_refl _) (closed_self H) (.d _)
end Go.Proofs.YtjghnaohlfgloaaDoor
