/- Comparing lists of items: what the program and the reference find. No condition. -/
import Derived.Test.YtpgdflhcmijaiaaDoorQ20
import Derived.Test.YtpgdflhcmijaiaaDoorQ21
set_option linter.all false
set_option linter.unusedSimpArgs false
set_option linter.unusedVariables false
namespace Go.Proofs.YtpgdflhcmijaiaaDoor
open Go Go.Proofs.YtpgdflhcmijaiaaDoor.Ab
variable [Glo]
set_option maxHeartbeats 4000000
set_option maxRecDepth 20000
def cmpIt (x y : It) : Int := relCompare x.k x.n x.s y.k y.n y.s
def ordI : List It → List It → Int
  | [], [] => 0
  | [], _ :: _ => -1
  | _ :: _, [] => 1
  | x :: a, y :: b => if cmpIt x y = 0 then ordI a b else cmpIt x y
def lsI : List It → List It → Bool
  | x :: a, y :: b => if x = y then lsI a b else lessItem x.k x.n x.s y.k y.n y.s
  | _, _ => false
def ks_63 : Nat → List Nat
  | 0 => [0, 1, 2]
  | 1 => [0, 1, 2, 11, 12, 13]
  | 2 => [0, 1, 2, 11, 12, 13, 14]
  | 3 => [0, 1, 2, 7, 8, 11, 12, 13]
  | 4 => [0, 1, 2, 7, 8, 11, 12, 13, 21]
  | 5 => [6]
  | 6 => [0, 1, 2, 8, 9, 11, 12, 13]
  | 7 => [0, 1, 2, 10, 11, 12, 13]
  | 8 => [0, 1, 2, 10, 11, 12, 13, 31]
  | 9 => [6]
  | 10 => [0, 1, 2, 11, 12, 13]
  | 11 => [38]
  | 12 => [6]
  | 13 => [6]
  | _ => []
def mu_63 : List Nat := []
def in_63 : List Nat := [0, 1, 2]
def ro_63 : Nat → List Nat
  | 3 => [8]
  | 6 => [9]
  | _ => []
theorem compareFunc_A (l1 l2 : List It) (h1 : l1.length ≤ 1048576) (h2 : l2.length ≤ 1048576) (H : Heap) (K : V → Heap → Prop) (hk : K (.d (.i .i64 (ordI l1 l2))) H) :
    ACalls Tryd.prog 63 [.d (.sl 3 (l1.map itD)), .d (.sl 3 (l2.map itD)), .fn 64 []] H K := by
  have hbC : hasBody Tryd.prog 64 = true := by first | rfl | kernel_rfl
  refine ACalls_of Tryd.func63 rfl in_63 (Nat.le_of_ble_eq_true rfl) ?_
  intro F hF
  simp (dsimp := false) only [go_sem, Nat.reduceAdd, Nat.reduceBEq, Nat.reduceEqDiff, Nat.reduceLT, Nat.reduceLeDiff, Nat.reduceMul, Int.reduceToNat, reduceCtorEq, ↓reduceIte, Tryd.ntmps63, Tryd.results63, ks_63, mu_63, ro_63, ti_ag49, ti_sb44, ti_sl44, ti_sz49, ti_zr49, itemCells, itD, itV, in_63] at hF
  subst hF
  repeat' (first | with_reducible (first | refine And.intro ?_ ?_ | intro _ | refine AWp_seq ?_ | refine AWp_block ?_ | (refine hKv _ _ (AWp_nop ?_); clear hKv Kv) | (refine hKA ?_; clear hKA hKB KA KB) | (refine hKB ?_; clear hKA hKB KA KB) | refine AWp_skipN ?_ | refine AWp_exitO (by repeat (first | exact Out.hit | apply Out.thenA | apply Out.out rfl)) ?_) | (with_reducible (first | (refine hKv _ _ ?_; clear hKv Kv) | ((first | refine AWp_regro mu_63 ks_63 ro_63 ?_ | refine AWp_regC mu_63 ks_63 ?_ | refine AWp_regE mu_63 ks_63 ?_); intro Kv hKv) | refine AWp_retR ?_); try simp (dsimp := false) only [go_sem, Nat.reduceAdd, Nat.reduceBEq, Nat.reduceEqDiff, Nat.reduceLT, Nat.reduceLeDiff, Nat.reduceMul, Int.reduceToNat, reduceCtorEq, ↓reduceIte, Tryd.ntmps63, Tryd.results63, ks_63, mu_63, ro_63, ti_ag49, ti_sb44, ti_sl44, ti_sz49, ti_zr49, itemCells, itD, itV]) | (refine AWp_condC rfl ?_; intro KA KB hKA hKB; try simp only [onB_true, onB_false, onB_dec, onB_ndec, onB_not, onB_and, onB_or]) | (refine AWp_condA rfl ?_ ?_) | with_reducible (first | refine onB_of ?_ ?_ | rfl) | omega)
  refine AWp_while0 (fun i : Nat => i ≤ l1.length ∧ ordI (l1.drop i) (l2.drop i) = ordI l1 l2) (fun i => [(0, .d (.sl 3 (l1.map itD))), (1, .d (.sl 3 (l2.map itD))), (2, .fn 64 []), (11, .d (.sl 3 (l1.map itD))), (12, .d (.i .i64 l1.length)), (13, .d (.i .i64 i))]) (fun i => l1.length - i) 0 ⟨Nat.zero_le _, rfl⟩ ?_ ?_
  · simp (dsimp := false) only [go_sem, Nat.reduceAdd, Nat.reduceBEq, Nat.reduceEqDiff, Nat.reduceLT, Nat.reduceLeDiff, Nat.reduceMul, Int.reduceToNat, reduceCtorEq, ↓reduceIte, Tryd.ntmps63, Tryd.results63, ks_63, mu_63, ro_63, ti_ag49, ti_sb44, ti_sl44, ti_sz49, ti_zr49, itemCells, itD, itV]
    first | done | (simp; done)
  rintro i ⟨i1, i2⟩
  have ii0 : ((0 : Int) ≤ (i : Int)) = True := eq_true (by omega)
  by_cases hin : i < l1.length
  · obtain ⟨x, hx⟩ : ∃ x, l1[i]? = some x := ⟨l1[i], List.getElem?_eq_getElem hin⟩
    have hin' : ((i : Int) < (l1.length : Int)) = True := eq_true (by omega)
    have ec : (i : Int) + 1 = ((i + 1 : Nat) : Int) := by omega
    by_cases hin2 : i < l2.length
    · obtain ⟨y, hy⟩ : ∃ y, l2[i]? = some y := ⟨l2[i], List.getElem?_eq_getElem hin2⟩
      have hge : ((l2.length : Int) ≤ (i : Int)) = False := eq_false (by omega)
      have hlt2 : ((i : Int) < (l2.length : Int)) = True := eq_true (by omega)
      rw [drop_of_get hx, drop_of_get hy, ordI] at i2
      by_cases hz : cmpIt x y = 0
      · rw [if_pos hz] at i2
        have hz' : relCompare x.k x.n x.s y.k y.n y.s = 0 := hz
        repeat' (first | with_reducible (first | refine And.intro ?_ ?_ | intro _ | refine AWp_seq ?_ | refine AWp_block ?_ | (refine hKv _ _ (AWp_nop ?_); clear hKv Kv) | (refine hKA ?_; clear hKA hKB KA KB) | (refine hKB ?_; clear hKA hKB KA KB) | refine AWp_skipN ?_ | refine AWp_exitO (by repeat (first | exact Out.hit | apply Out.thenA | apply Out.out rfl)) ?_) | ((first | with_reducible (first | (refine hKv _ _ ?_; clear hKv Kv) | ((first | refine AWp_regro mu_63 ks_63 ro_63 ?_ | refine AWp_regC mu_63 ks_63 ?_ | refine AWp_regE mu_63 ks_63 ?_); intro Kv hKv) | refine AWp_retR ?_) | refine relCompare_A x.k x.n x.s y.k y.n y.s _ _ ?_); try simp (dsimp := false) only [go_sem, Nat.reduceAdd, Nat.reduceBEq, Nat.reduceEqDiff, Nat.reduceLT, Nat.reduceLeDiff, Nat.reduceMul, Int.reduceToNat, reduceCtorEq, ↓reduceIte, Tryd.ntmps63, Tryd.results63, ks_63, mu_63, ro_63, ti_ag49, ti_sb44, ti_sl44, ti_sz49, ti_zr49, itemCells, itD, itV, ii0, hin', hge, hlt2, hx, hy, hz', hbC, ec, Int.reduceEq, not_true_eq_false]) | (refine AWp_condC rfl ?_; intro KA KB hKA hKB; try simp only [onB_true, onB_false, onB_dec, onB_ndec, onB_not, onB_and, onB_or]) | (refine AWp_condA rfl ?_ ?_) | with_reducible (first | refine onB_of ?_ ?_ | rfl) | omega)
        all_goals first
          | omega
          | exact ⟨i + 1, ⟨by omega, i2⟩, by omega, by (repeat' (refine And.intro ?_ ?_)) <;> first | rfl | omega | (simp; done) | (simp; omega)⟩
      · rw [if_neg hz] at i2
        rw [← i2] at hk
        have hz' : (relCompare x.k x.n x.s y.k y.n y.s = 0) = False := eq_false hz
        repeat' (first | with_reducible (first | refine And.intro ?_ ?_ | intro _ | refine AWp_seq ?_ | refine AWp_block ?_ | (refine hKv _ _ (AWp_nop ?_); clear hKv Kv) | (refine hKA ?_; clear hKA hKB KA KB) | (refine hKB ?_; clear hKA hKB KA KB) | refine AWp_skipN ?_ | refine AWp_exitO (by repeat (first | exact Out.hit | apply Out.thenA | apply Out.out rfl)) ?_) | ((first | with_reducible (first | (refine hKv _ _ ?_; clear hKv Kv) | ((first | refine AWp_regro mu_63 ks_63 ro_63 ?_ | refine AWp_regC mu_63 ks_63 ?_ | refine AWp_regE mu_63 ks_63 ?_); intro Kv hKv) | refine AWp_retR ?_) | refine relCompare_A x.k x.n x.s y.k y.n y.s _ _ ?_); try simp (dsimp := false) only [go_sem, Nat.reduceAdd, Nat.reduceBEq, Nat.reduceEqDiff, Nat.reduceLT, Nat.reduceLeDiff, Nat.reduceMul, Int.reduceToNat, reduceCtorEq, ↓reduceIte, Tryd.ntmps63, Tryd.results63, ks_63, mu_63, ro_63, ti_ag49, ti_sb44, ti_sl44, ti_sz49, ti_zr49, itemCells, itD, itV, ii0, hin', hge, hlt2, hx, hy, hz', hbC, ec, Int.reduceEq, not_false_eq_true]) | (refine AWp_condC rfl ?_; intro KA KB hKA hKB; try simp only [onB_true, onB_false, onB_dec, onB_ndec, onB_not, onB_and, onB_or]) | (refine AWp_condA rfl ?_ ?_) | with_reducible (first | refine onB_of ?_ ?_ | rfl) | omega)
        all_goals first
          | omega
          | exact keepD hk rfl
    · have hge : ((l2.length : Int) ≤ (i : Int)) = True := eq_true (by omega)
      rw [drop_of_get hx, List.drop_eq_nil_of_le (show l2.length ≤ i by omega), ordI] at i2
      rw [← i2] at hk
      repeat' (first | with_reducible (first | refine And.intro ?_ ?_ | intro _ | refine AWp_seq ?_ | refine AWp_block ?_ | (refine hKv _ _ (AWp_nop ?_); clear hKv Kv) | (refine hKA ?_; clear hKA hKB KA KB) | (refine hKB ?_; clear hKA hKB KA KB) | refine AWp_skipN ?_ | refine AWp_exitO (by repeat (first | exact Out.hit | apply Out.thenA | apply Out.out rfl)) ?_) | (with_reducible (first | (refine hKv _ _ ?_; clear hKv Kv) | ((first | refine AWp_regro mu_63 ks_63 ro_63 ?_ | refine AWp_regC mu_63 ks_63 ?_ | refine AWp_regE mu_63 ks_63 ?_); intro Kv hKv) | refine AWp_retR ?_); try simp (dsimp := false) only [go_sem, Nat.reduceAdd, Nat.reduceBEq, Nat.reduceEqDiff, Nat.reduceLT, Nat.reduceLeDiff, Nat.reduceMul, Int.reduceToNat, reduceCtorEq, ↓reduceIte, Tryd.ntmps63, Tryd.results63, ks_63, mu_63, ro_63, ti_ag49, ti_sb44, ti_sl44, ti_sz49, ti_zr49, itemCells, itD, itV, ii0, hin', hge, hx, ec]) | (refine AWp_condC rfl ?_; intro KA KB hKA hKB; try simp only [onB_true, onB_false, onB_dec, onB_ndec, onB_not, onB_and, onB_or]) | (refine AWp_condA rfl ?_ ?_) | with_reducible (first | refine onB_of ?_ ?_ | rfl) | omega)
      all_goals first
        | omega
        | exact keepD hk rfl
  · have hin' : ((i : Int) < (l1.length : Int)) = False := eq_false (by omega)
    rw [List.drop_eq_nil_of_le (show l1.length ≤ i by omega)] at i2
    by_cases hlt : l1.length < l2.length
    · have hlt' : ((l1.length : Int) < (l2.length : Int)) = True := eq_true (by omega)
      obtain ⟨y, hy⟩ : ∃ y, l2[i]? = some y := ⟨l2[i], List.getElem?_eq_getElem (by omega)⟩
      rw [drop_of_get hy, ordI] at i2
      rw [← i2] at hk
      repeat' (first | with_reducible (first | refine And.intro ?_ ?_ | intro _ | refine AWp_seq ?_ | refine AWp_block ?_ | (refine hKv _ _ (AWp_nop ?_); clear hKv Kv) | (refine hKA ?_; clear hKA hKB KA KB) | (refine hKB ?_; clear hKA hKB KA KB) | refine AWp_skipN ?_ | refine AWp_exitO (by repeat (first | exact Out.hit | apply Out.thenA | apply Out.out rfl)) ?_) | (with_reducible (first | (refine hKv _ _ ?_; clear hKv Kv) | ((first | refine AWp_regro mu_63 ks_63 ro_63 ?_ | refine AWp_regC mu_63 ks_63 ?_ | refine AWp_regE mu_63 ks_63 ?_); intro Kv hKv) | refine AWp_retR ?_); try simp (dsimp := false) only [go_sem, Nat.reduceAdd, Nat.reduceBEq, Nat.reduceEqDiff, Nat.reduceLT, Nat.reduceLeDiff, Nat.reduceMul, Int.reduceToNat, reduceCtorEq, ↓reduceIte, Tryd.ntmps63, Tryd.results63, ks_63, mu_63, ro_63, ti_ag49, ti_sb44, ti_sl44, ti_sz49, ti_zr49, itemCells, itD, itV, hin', hlt']) | (refine AWp_condC rfl ?_; intro KA KB hKA hKB; try simp only [onB_true, onB_false, onB_dec, onB_ndec, onB_not, onB_and, onB_or]) | (refine AWp_condA rfl ?_ ?_) | with_reducible (first | refine onB_of ?_ ?_ | rfl) | omega)
      all_goals first
        | omega
        | exact keepD hk rfl
    · have hlt' : ((l1.length : Int) < (l2.length : Int)) = False := eq_false (by omega)
      rw [List.drop_eq_nil_of_le (show l2.length ≤ i by omega), ordI] at i2
      rw [← i2] at hk
      repeat' (first | with_reducible (first | refine And.intro ?_ ?_ | intro _ | refine AWp_seq ?_ | refine AWp_block ?_ | (refine hKv _ _ (AWp_nop ?_); clear hKv Kv) | (refine hKA ?_; clear hKA hKB KA KB) | (refine hKB ?_; clear hKA hKB KA KB) | refine AWp_skipN ?_ | refine AWp_exitO (by repeat (first | exact Out.hit | apply Out.thenA | apply Out.out rfl)) ?_) | (with_reducible (first | (refine hKv _ _ ?_; clear hKv Kv) | ((first | refine AWp_regro mu_63 ks_63 ro_63 ?_ | refine AWp_regC mu_63 ks_63 ?_ | refine AWp_regE mu_63 ks_63 ?_); intro Kv hKv) | refine AWp_retR ?_); try simp (dsimp := false) only [go_sem, Nat.reduceAdd, Nat.reduceBEq, Nat.reduceEqDiff, Nat.reduceLT, Nat.reduceLeDiff, Nat.reduceMul, Int.reduceToNat, reduceCtorEq, ↓reduceIte, Tryd.ntmps63, Tryd.results63, ks_63, mu_63, ro_63, ti_ag49, ti_sb44, ti_sl44, ti_sz49, ti_zr49, itemCells, itD, itV, hin', hlt']) | (refine AWp_condC rfl ?_; intro KA KB hKA hKB; try simp only [onB_true, onB_false, onB_dec, onB_ndec, onB_not, onB_and, onB_or]) | (refine AWp_condA rfl ?_ ?_) | with_reducible (first | refine onB_of ?_ ?_ | rfl) | omega)
      all_goals first
        | omega
        | exact keepD hk rfl
def ks_22 : Nat → List Nat
  | 0 => [0, 1]
  | 1 => [4]
  | _ => []
def mu_22 : List Nat := []
def in_22 : List Nat := [0, 1]
theorem order_A (l1 l2 : List It) (h1 : l1.length ≤ 1048576) (h2 : l2.length ≤ 1048576) (H : Heap) (K : V → Heap → Prop) (hk : K (.d (.i .i64 (ordI l1 l2))) H) :
    ACalls Tryd.prog 22 [.d (.sl 3 (l1.map itD)), .d (.sl 3 (l2.map itD))] H K := by
  refine ACalls_of Tryd.func22 rfl in_22 (Nat.le_of_ble_eq_true rfl) ?_
  intro F hF
  simp (dsimp := false) only [go_sem, Nat.reduceAdd, Nat.reduceBEq, Nat.reduceEqDiff, Nat.reduceLT, Nat.reduceLeDiff, Nat.reduceMul, Int.reduceToNat, reduceCtorEq, ↓reduceIte, Tryd.ntmps22, Tryd.results22, ks_22, mu_22, ti_hb63, ti_hb64, itD, itV, in_22] at hF
  subst hF
  repeat' (first | with_reducible (first | refine And.intro ?_ ?_ | intro _ | refine AWp_seq ?_ | refine AWp_block ?_ | (refine hKv _ _ (AWp_nop ?_); clear hKv Kv) | (refine hKA ?_; clear hKA hKB KA KB) | (refine hKB ?_; clear hKA hKB KA KB) | refine AWp_skipN ?_ | refine AWp_exitO (by repeat (first | exact Out.hit | apply Out.thenA | apply Out.out rfl)) ?_) | ((first | with_reducible (first | (refine hKv _ _ ?_; clear hKv Kv) | ((first | refine AWp_regC mu_22 ks_22 ?_ | refine AWp_regE mu_22 ks_22 ?_); intro Kv hKv) | refine AWp_retR ?_) | refine compareFunc_A l1 l2 h1 h2 _ _ ?_); try simp (dsimp := false) only [go_sem, Nat.reduceAdd, Nat.reduceBEq, Nat.reduceEqDiff, Nat.reduceLT, Nat.reduceLeDiff, Nat.reduceMul, Int.reduceToNat, reduceCtorEq, ↓reduceIte, Tryd.ntmps22, Tryd.results22, ks_22, mu_22, ti_hb63, ti_hb64, itD, itV]) | (refine AWp_condC rfl ?_; intro KA KB hKA hKB; try simp only [onB_true, onB_false, onB_dec, onB_ndec, onB_not, onB_and, onB_or]) | (refine AWp_condA rfl ?_ ?_) | with_reducible (first | refine onB_of ?_ ?_ | rfl) | omega)
  all_goals first
    | omega
    | exact keepD hk rfl
def ks_28 : Nat → List Nat
  | 0 => [0, 1]
  | 1 => [0, 1, 5]
  | 2 => [0, 1, 5, 9]
  | 3 => [0, 1, 5]
  | 4 => [0, 1, 5, 20]
  | 5 => [4]
  | 6 => [4]
  | _ => []
def mu_28 : List Nat := []
def in_28 : List Nat := [0, 1]
def nd_28 : Nat → Nat
  | 4 => 8
  | 5 => 9
  | _ => 0
theorem lessItems_A (l1 l2 : List It) (h1 : l1.length ≤ 1048576) (h2 : l1.length = l2.length) (H : Heap) (K : V → Heap → Prop) (hk : K (.d (.b (lsI l1 l2))) H) :
    ACalls Tryd.prog 28 [.d (.sl 3 (l1.map itD)), .d (.sl 3 (l2.map itD))] H K := by
  refine ACalls_of Tryd.func28 rfl in_28 (Nat.le_of_ble_eq_true rfl) ?_
  intro F hF
  simp (dsimp := false) only [go_sem, Nat.reduceAdd, Nat.reduceBEq, Nat.reduceEqDiff, Nat.reduceLT, Nat.reduceLeDiff, Nat.reduceMul, Int.reduceToNat, reduceCtorEq, ↓reduceIte, Tryd.ntmps28, Tryd.results28, ks_28, mu_28, nd_28, ti_ag49, ti_fe49, ti_hb67, ti_sb44, ti_sl44, ti_sz49, itD, itV, in_28] at hF
  subst hF
  repeat' (first | with_reducible (first | refine And.intro ?_ ?_ | intro _ | refine AWp_seq ?_ | refine AWp_block ?_ | (refine hKv _ _ (AWp_nop ?_); clear hKv Kv) | (refine hKA ?_; clear hKA hKB KA KB) | (refine hKB ?_; clear hKA hKB KA KB) | refine AWp_skipN ?_ | refine AWp_exitO (by repeat (first | exact Out.hit | apply Out.thenA | apply Out.out rfl)) ?_) | (with_reducible (first | (refine hKv _ _ ?_; clear hKv Kv) | ((first | refine AWp_regC mu_28 ks_28 ?_ | refine AWp_draw nd_28 mu_28 ks_28 ti_mixed (by kernel_rfl) ?_ | refine AWp_regE mu_28 ks_28 ?_ | refine AWp_drawE nd_28 mu_28 ks_28 ti_mixed (by kernel_rfl) ?_); intro Kv hKv) | refine AWp_retR ?_); try simp (dsimp := false) only [go_sem, Nat.reduceAdd, Nat.reduceBEq, Nat.reduceEqDiff, Nat.reduceLT, Nat.reduceLeDiff, Nat.reduceMul, Int.reduceToNat, reduceCtorEq, ↓reduceIte, Tryd.ntmps28, Tryd.results28, ks_28, mu_28, nd_28, ti_ag49, ti_fe49, ti_hb67, ti_sb44, ti_sl44, ti_sz49, itD, itV]) | (refine AWp_condC rfl ?_; intro KA KB hKA hKB; try simp only [onB_true, onB_false, onB_dec, onB_ndec, onB_not, onB_and, onB_or]) | (refine AWp_condA rfl ?_ ?_) | with_reducible (first | refine onB_of ?_ ?_ | rfl) | omega)
  refine AWp_while0 (fun i : Nat => i ≤ l1.length ∧ lsI (l1.drop i) (l2.drop i) = lsI l1 l2) (fun i => [(0, .d (.sl 3 (l1.map itD))), (1, .d (.sl 3 (l2.map itD))), (5, .d (.i .i64 i))]) (fun i => l1.length - i) 0 ⟨Nat.zero_le _, rfl⟩ ?_ ?_
  · simp (dsimp := false) only [go_sem, Nat.reduceAdd, Nat.reduceBEq, Nat.reduceEqDiff, Nat.reduceLT, Nat.reduceLeDiff, Nat.reduceMul, Int.reduceToNat, reduceCtorEq, ↓reduceIte, Tryd.ntmps28, Tryd.results28, ks_28, mu_28, nd_28, ti_ag49, ti_fe49, ti_hb67, ti_sb44, ti_sl44, ti_sz49, itD, itV]
    first | done | (simp; done)
  rintro i ⟨i1, i2⟩
  have ii0 : ((0 : Int) ≤ (i : Int)) = True := eq_true (by omega)
  by_cases hin : i < l1.length
  · obtain ⟨x, hx⟩ : ∃ x, l1[i]? = some x := ⟨l1[i], List.getElem?_eq_getElem hin⟩
    obtain ⟨y, hy⟩ : ∃ y, l2[i]? = some y := ⟨l2[i], List.getElem?_eq_getElem (by omega)⟩
    have hin' : ((i : Int) < (l1.length : Int)) = True := eq_true (by omega)
    have hin2 : ((i : Int) < (l2.length : Int)) = True := eq_true (by omega)
    have ec : (i : Int) + 1 = ((i + 1 : Nat) : Int) := by omega
    rw [drop_of_get hx, drop_of_get hy, lsI] at i2
    by_cases hz : x = y
    · rw [if_pos hz] at i2
      subst hz
      repeat' (first | with_reducible (first | refine And.intro ?_ ?_ | intro _ | refine AWp_seq ?_ | refine AWp_block ?_ | (refine hKv _ _ (AWp_nop ?_); clear hKv Kv) | (refine hKA ?_; clear hKA hKB KA KB) | (refine hKB ?_; clear hKA hKB KA KB) | refine AWp_skipN ?_ | refine AWp_exitO (by repeat (first | exact Out.hit | apply Out.thenA | apply Out.out rfl)) ?_) | (with_reducible (first | (refine hKv _ _ ?_; clear hKv Kv) | ((first | refine AWp_regC mu_28 ks_28 ?_ | refine AWp_draw nd_28 mu_28 ks_28 ti_mixed (by kernel_rfl) ?_ | refine AWp_regE mu_28 ks_28 ?_ | refine AWp_drawE nd_28 mu_28 ks_28 ti_mixed (by kernel_rfl) ?_); intro Kv hKv) | refine AWp_retR ?_); try simp (dsimp := false) only [go_sem, Nat.reduceAdd, Nat.reduceBEq, Nat.reduceEqDiff, Nat.reduceLT, Nat.reduceLeDiff, Nat.reduceMul, Int.reduceToNat, reduceCtorEq, ↓reduceIte, Tryd.ntmps28, Tryd.results28, ks_28, mu_28, nd_28, ti_ag49, ti_fe49, ti_hb67, ti_sb44, ti_sl44, ti_sz49, itemCells, itD, itV, ii0, hin', hin2, hx, hy, ec, not_true_eq_false, Bool.and_self, and_self]) | (refine AWp_condC rfl ?_; intro KA KB hKA hKB; try simp only [onB_true, onB_false, onB_dec, onB_ndec, onB_not, onB_and, onB_or]) | (refine AWp_condA rfl ?_ ?_) | with_reducible (first | refine onB_of ?_ ?_ | rfl) | omega)
      all_goals first
        | omega
        | exact ⟨i + 1, ⟨by omega, i2⟩, by omega, by (repeat' (refine And.intro ?_ ?_)) <;> first | rfl | omega | (simp; done) | (simp; omega)⟩
    · rw [if_neg hz] at i2
      rw [← i2] at hk
      repeat' (first | with_reducible (first | refine And.intro ?_ ?_ | intro _ | refine AWp_seq ?_ | refine AWp_block ?_ | (refine hKv _ _ (AWp_nop ?_); clear hKv Kv) | (refine hKA ?_; clear hKA hKB KA KB) | (refine hKB ?_; clear hKA hKB KA KB) | refine AWp_skipN ?_ | refine AWp_exitO (by repeat (first | exact Out.hit | apply Out.thenA | apply Out.out rfl)) ?_) | ((first | with_reducible (first | (refine hKv _ _ ?_; clear hKv Kv) | ((first | refine AWp_regC mu_28 ks_28 ?_ | refine AWp_draw nd_28 mu_28 ks_28 ti_mixed (by kernel_rfl) ?_ | refine AWp_regE mu_28 ks_28 ?_ | refine AWp_drawE nd_28 mu_28 ks_28 ti_mixed (by kernel_rfl) ?_); intro Kv hKv) | refine AWp_retR ?_) | refine lessItem_A x.k x.n x.s y.k y.n y.s _ _ ?_ | refine QCall_of (lessItem_A x.k x.n x.s y.k y.n y.s _ _ (Two_intro _ _)) ?_); try simp (dsimp := false) only [go_sem, Nat.reduceAdd, Nat.reduceBEq, Nat.reduceEqDiff, Nat.reduceLT, Nat.reduceLeDiff, Nat.reduceMul, Int.reduceToNat, reduceCtorEq, ↓reduceIte, Tryd.ntmps28, Tryd.results28, ks_28, mu_28, nd_28, ti_ag49, ti_fe49, ti_hb67, ti_sb44, ti_sl44, ti_sz49, itemCells, itD, itV, ii0, hin', hin2, hx, hy, ec]) | (refine AWp_condC rfl ?_; intro KA KB hKA hKB; try simp only [onB_true, onB_false, onB_dec, onB_ndec, onB_not, onB_and, onB_or]) | (refine AWp_condA rfl ?_ ?_) | with_reducible (first | refine onB_of ?_ ?_ | rfl) | omega)
      all_goals first
        | omega
        | exact keepD hk rfl
        | (exfalso; apply hz; cases x; cases y; simp_all; done)
  · have hin' : ((i : Int) < (l1.length : Int)) = False := eq_false (by omega)
    rw [List.drop_eq_nil_of_le (show l1.length ≤ i by omega)] at i2
    have e0 : lsI [] (l2.drop i) = false := by cases l2.drop i <;> rfl
    rw [e0] at i2
    rw [← i2] at hk
    repeat' (first | with_reducible (first | refine And.intro ?_ ?_ | intro _ | refine AWp_seq ?_ | refine AWp_block ?_ | (refine hKv _ _ (AWp_nop ?_); clear hKv Kv) | (refine hKA ?_; clear hKA hKB KA KB) | (refine hKB ?_; clear hKA hKB KA KB) | refine AWp_skipN ?_ | refine AWp_exitO (by repeat (first | exact Out.hit | apply Out.thenA | apply Out.out rfl)) ?_) | (with_reducible (first | (refine hKv _ _ ?_; clear hKv Kv) | ((first | refine AWp_regC mu_28 ks_28 ?_ | refine AWp_draw nd_28 mu_28 ks_28 ti_mixed (by kernel_rfl) ?_ | refine AWp_regE mu_28 ks_28 ?_ | refine AWp_drawE nd_28 mu_28 ks_28 ti_mixed (by kernel_rfl) ?_); intro Kv hKv) | refine AWp_retR ?_); try simp (dsimp := false) only [go_sem, Nat.reduceAdd, Nat.reduceBEq, Nat.reduceEqDiff, Nat.reduceLT, Nat.reduceLeDiff, Nat.reduceMul, Int.reduceToNat, reduceCtorEq, ↓reduceIte, Tryd.ntmps28, Tryd.results28, ks_28, mu_28, nd_28, ti_ag49, ti_fe49, ti_hb67, ti_sb44, ti_sl44, ti_sz49, itemCells, itD, itV, hin']) | (refine AWp_condC rfl ?_; intro KA KB hKA hKB; try simp only [onB_true, onB_false, onB_dec, onB_ndec, onB_not, onB_and, onB_or]) | (refine AWp_condA rfl ?_ ?_) | with_reducible (first | refine onB_of ?_ ?_ | rfl) | omega)
    all_goals first
      | omega
      | exact keepD hk rfl
end Go.Proofs.YtpgdflhcmijaiaaDoor
