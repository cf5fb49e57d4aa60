/- Steps from nodes: the reference: axes that lead down, up, behind and ahead. No condition. -/
import Derived.Test.YtpgdflhcmijaiaaDoorZ24
set_option linter.all false
set_option linter.unusedSimpArgs false
set_option linter.unusedVariables false
namespace Go.Proofs.YtpgdflhcmijaiaaDoor
open Go Go.Proofs.YtpgdflhcmijaiaaDoor.Ab
variable [Glo]
set_option maxHeartbeats 4000000
set_option maxRecDepth 20000
def ks_79 : Nat → List Nat
  | 0 => [0, 1, 2, 3]
  | 1 => [0, 1, 2, 3, 9]
  | 2 => [0, 1, 3, 9, 16]
  | 3 => [0, 1, 3, 9, 16, 17]
  | 4 => [8]
  | 5 => [0, 1, 3, 9, 16, 30]
  | 6 => [8]
  | 7 => [0, 1, 3, 9, 16, 40]
  | 8 => [8]
  | 9 => [0, 1, 3, 9, 16, 55]
  | 10 => [8]
  | 11 => [0, 1, 3, 9, 16, 60]
  | 12 => [8]
  | 13 => [0, 1, 3, 9, 16, 69]
  | 14 => [8]
  | 15 => [0, 1, 3, 9, 16, 75]
  | 16 => [8]
  | 17 => [0, 1, 3, 9, 16, 86]
  | 18 => [8]
  | 19 => [0, 1, 3, 9, 16, 110]
  | 20 => [8]
  | 21 => [0, 1, 3, 9, 16, 134]
  | 22 => [8]
  | 23 => [0, 1, 3, 9, 172]
  | 24 => [8]
  | 25 => [8]
  | _ => []
def mu_79 : List Nat := []
def in_79 : List Nat := [0, 1, 2, 3]
def nd_79 : Nat → Nat
  | 22 => 36
  | 24 => 36
  | _ => 0
theorem onAxis1_A (l : List Nd) (hg : Good l l.length) (hN : l.length ≤ 100000) (c j : Nat) (hc : c < l.length) (hj : j < l.length) (H : Heap) (K : V → Heap → Prop) (hk : K (.d (.b (onAx l c 1 j))) H) : ACalls Tryd.prog 79 [.d (.sl 6 (l.map ndD)), .d (.i .i64 c), .d (.i .i64 1), .d (.i .i64 j)] H K := by
  obtain ⟨x, hx⟩ : ∃ x, l[c]? = some x := ⟨l[c], List.getElem?_eq_getElem hc⟩
  obtain ⟨y, hy⟩ : ∃ y, l[j]? = some y := ⟨l[j], List.getElem?_eq_getElem hj⟩
  have hgx := gd_of_get hx
  have hgy := gd_of_get hy
  have hex := en_int hg hc
  have hey := en_int hg hj
  have hlx := en_lt hg hc
  have hly := en_lt hg hj
  rw [hgx] at hex
  rw [hgy] at hey
  have bx := good_bd hg c hc
  have bY := good_bd hg j hj
  rw [hgx] at bx
  rw [hgy] at bY
  have c0 : ((0 : Int) ≤ (c : Int)) = True := eq_true (by omega)
  have c1 : ((c : Int) < (l.length : Int)) = True := eq_true (by omega)
  have j0 : ((0 : Int) ≤ (j : Int)) = True := eq_true (by omega)
  have j1 : ((j : Int) < (l.length : Int)) = True := eq_true (by omega)
  have e1 : ((j : Int) = (c : Int)) = (j = c) := by rw [eq_iff_iff]; omega
  have e2 : ((c : Int) < (j : Int)) = (c < j) := by rw [eq_iff_iff]; omega
  have e3 : ((j : Int) < (c : Int)) = (j < c) := by rw [eq_iff_iff]; omega
  have e4 : ((c : Int) + x.sz < (j : Int)) = (en l c < j) := by rw [eq_iff_iff]; omega
  have e5 : ((j : Int) + y.sz < (c : Int)) = (en l j < c) := by rw [eq_iff_iff]; omega
  have e6 : ∀ a b : Nat, ((a : Int) = (b : Int)) = (a = b) := fun a b => by rw [eq_iff_iff]; omega
  have w1 := fun H K hk => isWithin_A l hg hN j c hj hc H K hk
  have w2 := fun H K hk => isWithin_A l hg hN c j hc hj H K hk
  have w3 := fun H K hk => rootOf_A l hg hN j hj H K hk
  have w4 := fun H K hk => rootOf_A l hg hN c hc H K hk
  rw [onAx] at hk
  simp only [hgx, hgy, Int.reduceEq, if_true, if_false] at hk
  refine ACalls_of Tryd.func79 rfl in_79 (Nat.le_of_ble_eq_true rfl) ?_
  intro F hF
  simp (dsimp := false) only [go_sem, Nat.reduceAdd, Nat.reduceBEq, Nat.reduceEqDiff, Nat.reduceLT, Nat.reduceLeDiff, Nat.reduceMul, Int.reduceToNat, reduceCtorEq, ↓reduceIte, Tryd.ntmps79, Tryd.results79, ks_79, mu_79, nd_79, ti_ag3, ti_fl101_0, ti_fl101_3, ti_fl101_5, ti_hb106, ti_hb107, ti_sl34, ndD, ndV, hx, hy, c0, c1, j0, j1, e1, e2, e3, e4, e5, e6, Int.reduceEq, in_79] at hF
  subst hF
  repeat' (first | with_reducible (first | refine And.intro ?_ ?_ | intro _ | refine AWp_seq ?_ | refine AWp_block ?_ | (refine hKv _ _ (AWp_nop ?_); clear hKv Kv) | (refine hKA ?_; clear hKA hKB KA KB) | (refine hKB ?_; clear hKA hKB KA KB) | refine AWp_skipN ?_ | refine AWp_exitO (by repeat (first | exact Out.hit | apply Out.thenA | apply Out.out rfl)) ?_) | ((first | with_reducible (first | (refine hKv _ _ ?_; clear hKv Kv) | ((first | refine AWp_regC mu_79 ks_79 ?_ | refine AWp_draw nd_79 mu_79 ks_79 ti_mixed (by kernel_rfl) ?_ | refine AWp_regE mu_79 ks_79 ?_ | refine AWp_drawE nd_79 mu_79 ks_79 ti_mixed (by kernel_rfl) ?_); intro Kv hKv) | refine AWp_retR ?_) | refine w1 _ _ ?_ | refine QCall_of (w1 _ _ (Two_intro _ _)) ?_ | refine w2 _ _ ?_ | refine QCall_of (w2 _ _ (Two_intro _ _)) ?_ | refine w3 _ _ ?_ | refine QCall_of (w3 _ _ (Two_intro _ _)) ?_ | refine w4 _ _ ?_ | refine QCall_of (w4 _ _ (Two_intro _ _)) ?_); try simp (dsimp := false) only [go_sem, Nat.reduceAdd, Nat.reduceBEq, Nat.reduceEqDiff, Nat.reduceLT, Nat.reduceLeDiff, Nat.reduceMul, Int.reduceToNat, reduceCtorEq, ↓reduceIte, Tryd.ntmps79, Tryd.results79, ks_79, mu_79, nd_79, ti_ag3, ti_fl101_0, ti_fl101_3, ti_fl101_5, ti_hb106, ti_hb107, ti_sl34, ndD, ndV, hx, hy, c0, c1, j0, j1, e1, e2, e3, e4, e5, e6, Int.reduceEq]) | (refine AWp_condC rfl ?_; intro KA KB hKA hKB; try simp only [onB_true, onB_false, onB_dec, onB_ndec, onB_not, onB_and, onB_or]) | (refine AWp_condA rfl ?_ ?_) | with_reducible (first | refine onB_of ?_ ?_ | rfl) | omega)
  all_goals first
    | omega
    | exact keepD hk rfl
    | (refine keepD hk ?_; simp [*]; done)
    | (refine keepD hk ?_; simp_all; done)
theorem onAxis2_A (l : List Nd) (hg : Good l l.length) (hN : l.length ≤ 100000) (c j : Nat) (hc : c < l.length) (hj : j < l.length) (H : Heap) (K : V → Heap → Prop) (hk : K (.d (.b (onAx l c 2 j))) H) : ACalls Tryd.prog 79 [.d (.sl 6 (l.map ndD)), .d (.i .i64 c), .d (.i .i64 2), .d (.i .i64 j)] H K := by
  obtain ⟨x, hx⟩ : ∃ x, l[c]? = some x := ⟨l[c], List.getElem?_eq_getElem hc⟩
  obtain ⟨y, hy⟩ : ∃ y, l[j]? = some y := ⟨l[j], List.getElem?_eq_getElem hj⟩
  have hgx := gd_of_get hx
  have hgy := gd_of_get hy
  have hex := en_int hg hc
  have hey := en_int hg hj
  have hlx := en_lt hg hc
  have hly := en_lt hg hj
  rw [hgx] at hex
  rw [hgy] at hey
  have bx := good_bd hg c hc
  have bY := good_bd hg j hj
  rw [hgx] at bx
  rw [hgy] at bY
  have c0 : ((0 : Int) ≤ (c : Int)) = True := eq_true (by omega)
  have c1 : ((c : Int) < (l.length : Int)) = True := eq_true (by omega)
  have j0 : ((0 : Int) ≤ (j : Int)) = True := eq_true (by omega)
  have j1 : ((j : Int) < (l.length : Int)) = True := eq_true (by omega)
  have e1 : ((j : Int) = (c : Int)) = (j = c) := by rw [eq_iff_iff]; omega
  have e2 : ((c : Int) < (j : Int)) = (c < j) := by rw [eq_iff_iff]; omega
  have e3 : ((j : Int) < (c : Int)) = (j < c) := by rw [eq_iff_iff]; omega
  have e4 : ((c : Int) + x.sz < (j : Int)) = (en l c < j) := by rw [eq_iff_iff]; omega
  have e5 : ((j : Int) + y.sz < (c : Int)) = (en l j < c) := by rw [eq_iff_iff]; omega
  have e6 : ∀ a b : Nat, ((a : Int) = (b : Int)) = (a = b) := fun a b => by rw [eq_iff_iff]; omega
  have w1 := fun H K hk => isWithin_A l hg hN j c hj hc H K hk
  have w2 := fun H K hk => isWithin_A l hg hN c j hc hj H K hk
  have w3 := fun H K hk => rootOf_A l hg hN j hj H K hk
  have w4 := fun H K hk => rootOf_A l hg hN c hc H K hk
  rw [onAx] at hk
  simp only [hgx, hgy, Int.reduceEq, if_true, if_false] at hk
  refine ACalls_of Tryd.func79 rfl in_79 (Nat.le_of_ble_eq_true rfl) ?_
  intro F hF
  simp (dsimp := false) only [go_sem, Nat.reduceAdd, Nat.reduceBEq, Nat.reduceEqDiff, Nat.reduceLT, Nat.reduceLeDiff, Nat.reduceMul, Int.reduceToNat, reduceCtorEq, ↓reduceIte, Tryd.ntmps79, Tryd.results79, ks_79, mu_79, nd_79, ti_ag3, ti_fl101_0, ti_fl101_3, ti_fl101_5, ti_hb106, ti_hb107, ti_sl34, ndD, ndV, hx, hy, c0, c1, j0, j1, e1, e2, e3, e4, e5, e6, Int.reduceEq, in_79] at hF
  subst hF
  repeat' (first | with_reducible (first | refine And.intro ?_ ?_ | intro _ | refine AWp_seq ?_ | refine AWp_block ?_ | (refine hKv _ _ (AWp_nop ?_); clear hKv Kv) | (refine hKA ?_; clear hKA hKB KA KB) | (refine hKB ?_; clear hKA hKB KA KB) | refine AWp_skipN ?_ | refine AWp_exitO (by repeat (first | exact Out.hit | apply Out.thenA | apply Out.out rfl)) ?_) | ((first | with_reducible (first | (refine hKv _ _ ?_; clear hKv Kv) | ((first | refine AWp_regC mu_79 ks_79 ?_ | refine AWp_draw nd_79 mu_79 ks_79 ti_mixed (by kernel_rfl) ?_ | refine AWp_regE mu_79 ks_79 ?_ | refine AWp_drawE nd_79 mu_79 ks_79 ti_mixed (by kernel_rfl) ?_); intro Kv hKv) | refine AWp_retR ?_) | refine w1 _ _ ?_ | refine QCall_of (w1 _ _ (Two_intro _ _)) ?_ | refine w2 _ _ ?_ | refine QCall_of (w2 _ _ (Two_intro _ _)) ?_ | refine w3 _ _ ?_ | refine QCall_of (w3 _ _ (Two_intro _ _)) ?_ | refine w4 _ _ ?_ | refine QCall_of (w4 _ _ (Two_intro _ _)) ?_); try simp (dsimp := false) only [go_sem, Nat.reduceAdd, Nat.reduceBEq, Nat.reduceEqDiff, Nat.reduceLT, Nat.reduceLeDiff, Nat.reduceMul, Int.reduceToNat, reduceCtorEq, ↓reduceIte, Tryd.ntmps79, Tryd.results79, ks_79, mu_79, nd_79, ti_ag3, ti_fl101_0, ti_fl101_3, ti_fl101_5, ti_hb106, ti_hb107, ti_sl34, ndD, ndV, hx, hy, c0, c1, j0, j1, e1, e2, e3, e4, e5, e6, Int.reduceEq]) | (refine AWp_condC rfl ?_; intro KA KB hKA hKB; try simp only [onB_true, onB_false, onB_dec, onB_ndec, onB_not, onB_and, onB_or]) | (refine AWp_condA rfl ?_ ?_) | with_reducible (first | refine onB_of ?_ ?_ | rfl) | omega)
  all_goals first
    | omega
    | exact keepD hk rfl
    | (refine keepD hk ?_; simp [*]; done)
    | (refine keepD hk ?_; simp_all; done)
theorem onAxis3_A (l : List Nd) (hg : Good l l.length) (hN : l.length ≤ 100000) (c j : Nat) (hc : c < l.length) (hj : j < l.length) (H : Heap) (K : V → Heap → Prop) (hk : K (.d (.b (onAx l c 3 j))) H) : ACalls Tryd.prog 79 [.d (.sl 6 (l.map ndD)), .d (.i .i64 c), .d (.i .i64 3), .d (.i .i64 j)] H K := by
  obtain ⟨x, hx⟩ : ∃ x, l[c]? = some x := ⟨l[c], List.getElem?_eq_getElem hc⟩
  obtain ⟨y, hy⟩ : ∃ y, l[j]? = some y := ⟨l[j], List.getElem?_eq_getElem hj⟩
  have hgx := gd_of_get hx
  have hgy := gd_of_get hy
  have hex := en_int hg hc
  have hey := en_int hg hj
  have hlx := en_lt hg hc
  have hly := en_lt hg hj
  rw [hgx] at hex
  rw [hgy] at hey
  have bx := good_bd hg c hc
  have bY := good_bd hg j hj
  rw [hgx] at bx
  rw [hgy] at bY
  have c0 : ((0 : Int) ≤ (c : Int)) = True := eq_true (by omega)
  have c1 : ((c : Int) < (l.length : Int)) = True := eq_true (by omega)
  have j0 : ((0 : Int) ≤ (j : Int)) = True := eq_true (by omega)
  have j1 : ((j : Int) < (l.length : Int)) = True := eq_true (by omega)
  have e1 : ((j : Int) = (c : Int)) = (j = c) := by rw [eq_iff_iff]; omega
  have e2 : ((c : Int) < (j : Int)) = (c < j) := by rw [eq_iff_iff]; omega
  have e3 : ((j : Int) < (c : Int)) = (j < c) := by rw [eq_iff_iff]; omega
  have e4 : ((c : Int) + x.sz < (j : Int)) = (en l c < j) := by rw [eq_iff_iff]; omega
  have e5 : ((j : Int) + y.sz < (c : Int)) = (en l j < c) := by rw [eq_iff_iff]; omega
  have e6 : ∀ a b : Nat, ((a : Int) = (b : Int)) = (a = b) := fun a b => by rw [eq_iff_iff]; omega
  have w1 := fun H K hk => isWithin_A l hg hN j c hj hc H K hk
  have w2 := fun H K hk => isWithin_A l hg hN c j hc hj H K hk
  have w3 := fun H K hk => rootOf_A l hg hN j hj H K hk
  have w4 := fun H K hk => rootOf_A l hg hN c hc H K hk
  rw [onAx] at hk
  simp only [hgx, hgy, Int.reduceEq, if_true, if_false] at hk
  refine ACalls_of Tryd.func79 rfl in_79 (Nat.le_of_ble_eq_true rfl) ?_
  intro F hF
  simp (dsimp := false) only [go_sem, Nat.reduceAdd, Nat.reduceBEq, Nat.reduceEqDiff, Nat.reduceLT, Nat.reduceLeDiff, Nat.reduceMul, Int.reduceToNat, reduceCtorEq, ↓reduceIte, Tryd.ntmps79, Tryd.results79, ks_79, mu_79, nd_79, ti_ag3, ti_fl101_0, ti_fl101_3, ti_fl101_5, ti_hb106, ti_hb107, ti_sl34, ndD, ndV, hx, hy, c0, c1, j0, j1, e1, e2, e3, e4, e5, e6, Int.reduceEq, in_79] at hF
  subst hF
  repeat' (first | with_reducible (first | refine And.intro ?_ ?_ | intro _ | refine AWp_seq ?_ | refine AWp_block ?_ | (refine hKv _ _ (AWp_nop ?_); clear hKv Kv) | (refine hKA ?_; clear hKA hKB KA KB) | (refine hKB ?_; clear hKA hKB KA KB) | refine AWp_skipN ?_ | refine AWp_exitO (by repeat (first | exact Out.hit | apply Out.thenA | apply Out.out rfl)) ?_) | ((first | with_reducible (first | (refine hKv _ _ ?_; clear hKv Kv) | ((first | refine AWp_regC mu_79 ks_79 ?_ | refine AWp_draw nd_79 mu_79 ks_79 ti_mixed (by kernel_rfl) ?_ | refine AWp_regE mu_79 ks_79 ?_ | refine AWp_drawE nd_79 mu_79 ks_79 ti_mixed (by kernel_rfl) ?_); intro Kv hKv) | refine AWp_retR ?_) | refine w1 _ _ ?_ | refine QCall_of (w1 _ _ (Two_intro _ _)) ?_ | refine w2 _ _ ?_ | refine QCall_of (w2 _ _ (Two_intro _ _)) ?_ | refine w3 _ _ ?_ | refine QCall_of (w3 _ _ (Two_intro _ _)) ?_ | refine w4 _ _ ?_ | refine QCall_of (w4 _ _ (Two_intro _ _)) ?_); try simp (dsimp := false) only [go_sem, Nat.reduceAdd, Nat.reduceBEq, Nat.reduceEqDiff, Nat.reduceLT, Nat.reduceLeDiff, Nat.reduceMul, Int.reduceToNat, reduceCtorEq, ↓reduceIte, Tryd.ntmps79, Tryd.results79, ks_79, mu_79, nd_79, ti_ag3, ti_fl101_0, ti_fl101_3, ti_fl101_5, ti_hb106, ti_hb107, ti_sl34, ndD, ndV, hx, hy, c0, c1, j0, j1, e1, e2, e3, e4, e5, e6, Int.reduceEq]) | (refine AWp_condC rfl ?_; intro KA KB hKA hKB; try simp only [onB_true, onB_false, onB_dec, onB_ndec, onB_not, onB_and, onB_or]) | (refine AWp_condA rfl ?_ ?_) | with_reducible (first | refine onB_of ?_ ?_ | rfl) | omega)
  all_goals first
    | omega
    | exact keepD hk rfl
    | (refine keepD hk ?_; simp [*]; done)
    | (refine keepD hk ?_; simp_all; done)
theorem onAxis4_A (l : List Nd) (hg : Good l l.length) (hN : l.length ≤ 100000) (c j : Nat) (hc : c < l.length) (hj : j < l.length) (H : Heap) (K : V → Heap → Prop) (hk : K (.d (.b (onAx l c 4 j))) H) : ACalls Tryd.prog 79 [.d (.sl 6 (l.map ndD)), .d (.i .i64 c), .d (.i .i64 4), .d (.i .i64 j)] H K := by
  obtain ⟨x, hx⟩ : ∃ x, l[c]? = some x := ⟨l[c], List.getElem?_eq_getElem hc⟩
  obtain ⟨y, hy⟩ : ∃ y, l[j]? = some y := ⟨l[j], List.getElem?_eq_getElem hj⟩
  have hgx := gd_of_get hx
  have hgy := gd_of_get hy
  have hex := en_int hg hc
  have hey := en_int hg hj
  have hlx := en_lt hg hc
  have hly := en_lt hg hj
  rw [hgx] at hex
  rw [hgy] at hey
  have bx := good_bd hg c hc
  have bY := good_bd hg j hj
  rw [hgx] at bx
  rw [hgy] at bY
  have c0 : ((0 : Int) ≤ (c : Int)) = True := eq_true (by omega)
  have c1 : ((c : Int) < (l.length : Int)) = True := eq_true (by omega)
  have j0 : ((0 : Int) ≤ (j : Int)) = True := eq_true (by omega)
  have j1 : ((j : Int) < (l.length : Int)) = True := eq_true (by omega)
  have e1 : ((j : Int) = (c : Int)) = (j = c) := by rw [eq_iff_iff]; omega
  have e2 : ((c : Int) < (j : Int)) = (c < j) := by rw [eq_iff_iff]; omega
  have e3 : ((j : Int) < (c : Int)) = (j < c) := by rw [eq_iff_iff]; omega
  have e4 : ((c : Int) + x.sz < (j : Int)) = (en l c < j) := by rw [eq_iff_iff]; omega
  have e5 : ((j : Int) + y.sz < (c : Int)) = (en l j < c) := by rw [eq_iff_iff]; omega
  have e6 : ∀ a b : Nat, ((a : Int) = (b : Int)) = (a = b) := fun a b => by rw [eq_iff_iff]; omega
  have w1 := fun H K hk => isWithin_A l hg hN j c hj hc H K hk
  have w2 := fun H K hk => isWithin_A l hg hN c j hc hj H K hk
  have w3 := fun H K hk => rootOf_A l hg hN j hj H K hk
  have w4 := fun H K hk => rootOf_A l hg hN c hc H K hk
  rw [onAx] at hk
  simp only [hgx, hgy, Int.reduceEq, if_true, if_false] at hk
  refine ACalls_of Tryd.func79 rfl in_79 (Nat.le_of_ble_eq_true rfl) ?_
  intro F hF
  simp (dsimp := false) only [go_sem, Nat.reduceAdd, Nat.reduceBEq, Nat.reduceEqDiff, Nat.reduceLT, Nat.reduceLeDiff, Nat.reduceMul, Int.reduceToNat, reduceCtorEq, ↓reduceIte, Tryd.ntmps79, Tryd.results79, ks_79, mu_79, nd_79, ti_ag3, ti_fl101_0, ti_fl101_3, ti_fl101_5, ti_hb106, ti_hb107, ti_sl34, ndD, ndV, hx, hy, c0, c1, j0, j1, e1, e2, e3, e4, e5, e6, Int.reduceEq, in_79] at hF
  subst hF
  repeat' (first | with_reducible (first | refine And.intro ?_ ?_ | intro _ | refine AWp_seq ?_ | refine AWp_block ?_ | (refine hKv _ _ (AWp_nop ?_); clear hKv Kv) | (refine hKA ?_; clear hKA hKB KA KB) | (refine hKB ?_; clear hKA hKB KA KB) | refine AWp_skipN ?_ | refine AWp_exitO (by repeat (first | exact Out.hit | apply Out.thenA | apply Out.out rfl)) ?_) | ((first | with_reducible (first | (refine hKv _ _ ?_; clear hKv Kv) | ((first | refine AWp_regC mu_79 ks_79 ?_ | refine AWp_draw nd_79 mu_79 ks_79 ti_mixed (by kernel_rfl) ?_ | refine AWp_regE mu_79 ks_79 ?_ | refine AWp_drawE nd_79 mu_79 ks_79 ti_mixed (by kernel_rfl) ?_); intro Kv hKv) | refine AWp_retR ?_) | refine w1 _ _ ?_ | refine QCall_of (w1 _ _ (Two_intro _ _)) ?_ | refine w2 _ _ ?_ | refine QCall_of (w2 _ _ (Two_intro _ _)) ?_ | refine w3 _ _ ?_ | refine QCall_of (w3 _ _ (Two_intro _ _)) ?_ | refine w4 _ _ ?_ | refine QCall_of (w4 _ _ (Two_intro _ _)) ?_); try simp (dsimp := false) only [go_sem, Nat.reduceAdd, Nat.reduceBEq, Nat.reduceEqDiff, Nat.reduceLT, Nat.reduceLeDiff, Nat.reduceMul, Int.reduceToNat, reduceCtorEq, ↓reduceIte, Tryd.ntmps79, Tryd.results79, ks_79, mu_79, nd_79, ti_ag3, ti_fl101_0, ti_fl101_3, ti_fl101_5, ti_hb106, ti_hb107, ti_sl34, ndD, ndV, hx, hy, c0, c1, j0, j1, e1, e2, e3, e4, e5, e6, Int.reduceEq]) | (refine AWp_condC rfl ?_; intro KA KB hKA hKB; try simp only [onB_true, onB_false, onB_dec, onB_ndec, onB_not, onB_and, onB_or]) | (refine AWp_condA rfl ?_ ?_) | with_reducible (first | refine onB_of ?_ ?_ | rfl) | omega)
  all_goals first
    | omega
    | exact keepD hk rfl
    | (refine keepD hk ?_; simp [*]; done)
    | (refine keepD hk ?_; simp_all; done)
theorem onAxis5_A (l : List Nd) (hg : Good l l.length) (hN : l.length ≤ 100000) (c j : Nat) (hc : c < l.length) (hj : j < l.length) (H : Heap) (K : V → Heap → Prop) (hk : K (.d (.b (onAx l c 5 j))) H) : ACalls Tryd.prog 79 [.d (.sl 6 (l.map ndD)), .d (.i .i64 c), .d (.i .i64 5), .d (.i .i64 j)] H K := by
  obtain ⟨x, hx⟩ : ∃ x, l[c]? = some x := ⟨l[c], List.getElem?_eq_getElem hc⟩
  obtain ⟨y, hy⟩ : ∃ y, l[j]? = some y := ⟨l[j], List.getElem?_eq_getElem hj⟩
  have hgx := gd_of_get hx
  have hgy := gd_of_get hy
  have hex := en_int hg hc
  have hey := en_int hg hj
  have hlx := en_lt hg hc
  have hly := en_lt hg hj
  rw [hgx] at hex
  rw [hgy] at hey
  have bx := good_bd hg c hc
  have bY := good_bd hg j hj
  rw [hgx] at bx
  rw [hgy] at bY
  have c0 : ((0 : Int) ≤ (c : Int)) = True := eq_true (by omega)
  have c1 : ((c : Int) < (l.length : Int)) = True := eq_true (by omega)
  have j0 : ((0 : Int) ≤ (j : Int)) = True := eq_true (by omega)
  have j1 : ((j : Int) < (l.length : Int)) = True := eq_true (by omega)
  have e1 : ((j : Int) = (c : Int)) = (j = c) := by rw [eq_iff_iff]; omega
  have e2 : ((c : Int) < (j : Int)) = (c < j) := by rw [eq_iff_iff]; omega
  have e3 : ((j : Int) < (c : Int)) = (j < c) := by rw [eq_iff_iff]; omega
  have e4 : ((c : Int) + x.sz < (j : Int)) = (en l c < j) := by rw [eq_iff_iff]; omega
  have e5 : ((j : Int) + y.sz < (c : Int)) = (en l j < c) := by rw [eq_iff_iff]; omega
  have e6 : ∀ a b : Nat, ((a : Int) = (b : Int)) = (a = b) := fun a b => by rw [eq_iff_iff]; omega
  have w1 := fun H K hk => isWithin_A l hg hN j c hj hc H K hk
  have w2 := fun H K hk => isWithin_A l hg hN c j hc hj H K hk
  have w3 := fun H K hk => rootOf_A l hg hN j hj H K hk
  have w4 := fun H K hk => rootOf_A l hg hN c hc H K hk
  rw [onAx] at hk
  simp only [hgx, hgy, Int.reduceEq, if_true, if_false] at hk
  refine ACalls_of Tryd.func79 rfl in_79 (Nat.le_of_ble_eq_true rfl) ?_
  intro F hF
  simp (dsimp := false) only [go_sem, Nat.reduceAdd, Nat.reduceBEq, Nat.reduceEqDiff, Nat.reduceLT, Nat.reduceLeDiff, Nat.reduceMul, Int.reduceToNat, reduceCtorEq, ↓reduceIte, Tryd.ntmps79, Tryd.results79, ks_79, mu_79, nd_79, ti_ag3, ti_fl101_0, ti_fl101_3, ti_fl101_5, ti_hb106, ti_hb107, ti_sl34, ndD, ndV, hx, hy, c0, c1, j0, j1, e1, e2, e3, e4, e5, e6, Int.reduceEq, in_79] at hF
  subst hF
  repeat' (first | with_reducible (first | refine And.intro ?_ ?_ | intro _ | refine AWp_seq ?_ | refine AWp_block ?_ | (refine hKv _ _ (AWp_nop ?_); clear hKv Kv) | (refine hKA ?_; clear hKA hKB KA KB) | (refine hKB ?_; clear hKA hKB KA KB) | refine AWp_skipN ?_ | refine AWp_exitO (by repeat (first | exact Out.hit | apply Out.thenA | apply Out.out rfl)) ?_) | ((first | with_reducible (first | (refine hKv _ _ ?_; clear hKv Kv) | ((first | refine AWp_regC mu_79 ks_79 ?_ | refine AWp_draw nd_79 mu_79 ks_79 ti_mixed (by kernel_rfl) ?_ | refine AWp_regE mu_79 ks_79 ?_ | refine AWp_drawE nd_79 mu_79 ks_79 ti_mixed (by kernel_rfl) ?_); intro Kv hKv) | refine AWp_retR ?_) | refine w1 _ _ ?_ | refine QCall_of (w1 _ _ (Two_intro _ _)) ?_ | refine w2 _ _ ?_ | refine QCall_of (w2 _ _ (Two_intro _ _)) ?_ | refine w3 _ _ ?_ | refine QCall_of (w3 _ _ (Two_intro _ _)) ?_ | refine w4 _ _ ?_ | refine QCall_of (w4 _ _ (Two_intro _ _)) ?_); try simp (dsimp := false) only [go_sem, Nat.reduceAdd, Nat.reduceBEq, Nat.reduceEqDiff, Nat.reduceLT, Nat.reduceLeDiff, Nat.reduceMul, Int.reduceToNat, reduceCtorEq, ↓reduceIte, Tryd.ntmps79, Tryd.results79, ks_79, mu_79, nd_79, ti_ag3, ti_fl101_0, ti_fl101_3, ti_fl101_5, ti_hb106, ti_hb107, ti_sl34, ndD, ndV, hx, hy, c0, c1, j0, j1, e1, e2, e3, e4, e5, e6, Int.reduceEq]) | (refine AWp_condC rfl ?_; intro KA KB hKA hKB; try simp only [onB_true, onB_false, onB_dec, onB_ndec, onB_not, onB_and, onB_or]) | (refine AWp_condA rfl ?_ ?_) | with_reducible (first | refine onB_of ?_ ?_ | rfl) | omega)
  all_goals first
    | omega
    | exact keepD hk rfl
    | (refine keepD hk ?_; simp [*]; done)
    | (refine keepD hk ?_; simp_all; done)
theorem onAxis6_A (l : List Nd) (hg : Good l l.length) (hN : l.length ≤ 100000) (c j : Nat) (hc : c < l.length) (hj : j < l.length) (H : Heap) (K : V → Heap → Prop) (hk : K (.d (.b (onAx l c 6 j))) H) : ACalls Tryd.prog 79 [.d (.sl 6 (l.map ndD)), .d (.i .i64 c), .d (.i .i64 6), .d (.i .i64 j)] H K := by
  obtain ⟨x, hx⟩ : ∃ x, l[c]? = some x := ⟨l[c], List.getElem?_eq_getElem hc⟩
  obtain ⟨y, hy⟩ : ∃ y, l[j]? = some y := ⟨l[j], List.getElem?_eq_getElem hj⟩
  have hgx := gd_of_get hx
  have hgy := gd_of_get hy
  have hex := en_int hg hc
  have hey := en_int hg hj
  have hlx := en_lt hg hc
  have hly := en_lt hg hj
  rw [hgx] at hex
  rw [hgy] at hey
  have bx := good_bd hg c hc
  have bY := good_bd hg j hj
  rw [hgx] at bx
  rw [hgy] at bY
  have c0 : ((0 : Int) ≤ (c : Int)) = True := eq_true (by omega)
  have c1 : ((c : Int) < (l.length : Int)) = True := eq_true (by omega)
  have j0 : ((0 : Int) ≤ (j : Int)) = True := eq_true (by omega)
  have j1 : ((j : Int) < (l.length : Int)) = True := eq_true (by omega)
  have e1 : ((j : Int) = (c : Int)) = (j = c) := by rw [eq_iff_iff]; omega
  have e2 : ((c : Int) < (j : Int)) = (c < j) := by rw [eq_iff_iff]; omega
  have e3 : ((j : Int) < (c : Int)) = (j < c) := by rw [eq_iff_iff]; omega
  have e4 : ((c : Int) + x.sz < (j : Int)) = (en l c < j) := by rw [eq_iff_iff]; omega
  have e5 : ((j : Int) + y.sz < (c : Int)) = (en l j < c) := by rw [eq_iff_iff]; omega
  have e6 : ∀ a b : Nat, ((a : Int) = (b : Int)) = (a = b) := fun a b => by rw [eq_iff_iff]; omega
  have w1 := fun H K hk => isWithin_A l hg hN j c hj hc H K hk
  have w2 := fun H K hk => isWithin_A l hg hN c j hc hj H K hk
  have w3 := fun H K hk => rootOf_A l hg hN j hj H K hk
  have w4 := fun H K hk => rootOf_A l hg hN c hc H K hk
  rw [onAx] at hk
  simp only [hgx, hgy, Int.reduceEq, if_true, if_false] at hk
  refine ACalls_of Tryd.func79 rfl in_79 (Nat.le_of_ble_eq_true rfl) ?_
  intro F hF
  simp (dsimp := false) only [go_sem, Nat.reduceAdd, Nat.reduceBEq, Nat.reduceEqDiff, Nat.reduceLT, Nat.reduceLeDiff, Nat.reduceMul, Int.reduceToNat, reduceCtorEq, ↓reduceIte, Tryd.ntmps79, Tryd.results79, ks_79, mu_79, nd_79, ti_ag3, ti_fl101_0, ti_fl101_3, ti_fl101_5, ti_hb106, ti_hb107, ti_sl34, ndD, ndV, hx, hy, c0, c1, j0, j1, e1, e2, e3, e4, e5, e6, Int.reduceEq, in_79] at hF
  subst hF
  repeat' (first | with_reducible (first | refine And.intro ?_ ?_ | intro _ | refine AWp_seq ?_ | refine AWp_block ?_ | (refine hKv _ _ (AWp_nop ?_); clear hKv Kv) | (refine hKA ?_; clear hKA hKB KA KB) | (refine hKB ?_; clear hKA hKB KA KB) | refine AWp_skipN ?_ | refine AWp_exitO (by repeat (first | exact Out.hit | apply Out.thenA | apply Out.out rfl)) ?_) | ((first | with_reducible (first | (refine hKv _ _ ?_; clear hKv Kv) | ((first | refine AWp_regC mu_79 ks_79 ?_ | refine AWp_draw nd_79 mu_79 ks_79 ti_mixed (by kernel_rfl) ?_ | refine AWp_regE mu_79 ks_79 ?_ | refine AWp_drawE nd_79 mu_79 ks_79 ti_mixed (by kernel_rfl) ?_); intro Kv hKv) | refine AWp_retR ?_) | refine w1 _ _ ?_ | refine QCall_of (w1 _ _ (Two_intro _ _)) ?_ | refine w2 _ _ ?_ | refine QCall_of (w2 _ _ (Two_intro _ _)) ?_ | refine w3 _ _ ?_ | refine QCall_of (w3 _ _ (Two_intro _ _)) ?_ | refine w4 _ _ ?_ | refine QCall_of (w4 _ _ (Two_intro _ _)) ?_); try simp (dsimp := false) only [go_sem, Nat.reduceAdd, Nat.reduceBEq, Nat.reduceEqDiff, Nat.reduceLT, Nat.reduceLeDiff, Nat.reduceMul, Int.reduceToNat, reduceCtorEq, ↓reduceIte, Tryd.ntmps79, Tryd.results79, ks_79, mu_79, nd_79, ti_ag3, ti_fl101_0, ti_fl101_3, ti_fl101_5, ti_hb106, ti_hb107, ti_sl34, ndD, ndV, hx, hy, c0, c1, j0, j1, e1, e2, e3, e4, e5, e6, Int.reduceEq]) | (refine AWp_condC rfl ?_; intro KA KB hKA hKB; try simp only [onB_true, onB_false, onB_dec, onB_ndec, onB_not, onB_and, onB_or]) | (refine AWp_condA rfl ?_ ?_) | with_reducible (first | refine onB_of ?_ ?_ | rfl) | omega)
  all_goals first
    | omega
    | exact keepD hk rfl
    | (refine keepD hk ?_; simp [*]; done)
    | (refine keepD hk ?_; simp_all; done)
theorem onAxis7_A (l : List Nd) (hg : Good l l.length) (hN : l.length ≤ 100000) (c j : Nat) (hc : c < l.length) (hj : j < l.length) (H : Heap) (K : V → Heap → Prop) (hk : K (.d (.b (onAx l c 7 j))) H) : ACalls Tryd.prog 79 [.d (.sl 6 (l.map ndD)), .d (.i .i64 c), .d (.i .i64 7), .d (.i .i64 j)] H K := by
  obtain ⟨x, hx⟩ : ∃ x, l[c]? = some x := ⟨l[c], List.getElem?_eq_getElem hc⟩
  obtain ⟨y, hy⟩ : ∃ y, l[j]? = some y := ⟨l[j], List.getElem?_eq_getElem hj⟩
  have hgx := gd_of_get hx
  have hgy := gd_of_get hy
  have hex := en_int hg hc
  have hey := en_int hg hj
  have hlx := en_lt hg hc
  have hly := en_lt hg hj
  rw [hgx] at hex
  rw [hgy] at hey
  have bx := good_bd hg c hc
  have bY := good_bd hg j hj
  rw [hgx] at bx
  rw [hgy] at bY
  have c0 : ((0 : Int) ≤ (c : Int)) = True := eq_true (by omega)
  have c1 : ((c : Int) < (l.length : Int)) = True := eq_true (by omega)
  have j0 : ((0 : Int) ≤ (j : Int)) = True := eq_true (by omega)
  have j1 : ((j : Int) < (l.length : Int)) = True := eq_true (by omega)
  have e1 : ((j : Int) = (c : Int)) = (j = c) := by rw [eq_iff_iff]; omega
  have e2 : ((c : Int) < (j : Int)) = (c < j) := by rw [eq_iff_iff]; omega
  have e3 : ((j : Int) < (c : Int)) = (j < c) := by rw [eq_iff_iff]; omega
  have e4 : ((c : Int) + x.sz < (j : Int)) = (en l c < j) := by rw [eq_iff_iff]; omega
  have e5 : ((j : Int) + y.sz < (c : Int)) = (en l j < c) := by rw [eq_iff_iff]; omega
  have e6 : ∀ a b : Nat, ((a : Int) = (b : Int)) = (a = b) := fun a b => by rw [eq_iff_iff]; omega
  have w1 := fun H K hk => isWithin_A l hg hN j c hj hc H K hk
  have w2 := fun H K hk => isWithin_A l hg hN c j hc hj H K hk
  have w3 := fun H K hk => rootOf_A l hg hN j hj H K hk
  have w4 := fun H K hk => rootOf_A l hg hN c hc H K hk
  rw [onAx] at hk
  simp only [hgx, hgy, Int.reduceEq, if_true, if_false] at hk
  refine ACalls_of Tryd.func79 rfl in_79 (Nat.le_of_ble_eq_true rfl) ?_
  intro F hF
  simp (dsimp := false) only [go_sem, Nat.reduceAdd, Nat.reduceBEq, Nat.reduceEqDiff, Nat.reduceLT, Nat.reduceLeDiff, Nat.reduceMul, Int.reduceToNat, reduceCtorEq, ↓reduceIte, Tryd.ntmps79, Tryd.results79, ks_79, mu_79, nd_79, ti_ag3, ti_fl101_0, ti_fl101_3, ti_fl101_5, ti_hb106, ti_hb107, ti_sl34, ndD, ndV, hx, hy, c0, c1, j0, j1, e1, e2, e3, e4, e5, e6, Int.reduceEq, in_79] at hF
  subst hF
  repeat' (first | with_reducible (first | refine And.intro ?_ ?_ | intro _ | refine AWp_seq ?_ | refine AWp_block ?_ | (refine hKv _ _ (AWp_nop ?_); clear hKv Kv) | (refine hKA ?_; clear hKA hKB KA KB) | (refine hKB ?_; clear hKA hKB KA KB) | refine AWp_skipN ?_ | refine AWp_exitO (by repeat (first | exact Out.hit | apply Out.thenA | apply Out.out rfl)) ?_) | ((first | with_reducible (first | (refine hKv _ _ ?_; clear hKv Kv) | ((first | refine AWp_regC mu_79 ks_79 ?_ | refine AWp_draw nd_79 mu_79 ks_79 ti_mixed (by kernel_rfl) ?_ | refine AWp_regE mu_79 ks_79 ?_ | refine AWp_drawE nd_79 mu_79 ks_79 ti_mixed (by kernel_rfl) ?_); intro Kv hKv) | refine AWp_retR ?_) | refine w1 _ _ ?_ | refine QCall_of (w1 _ _ (Two_intro _ _)) ?_ | refine w2 _ _ ?_ | refine QCall_of (w2 _ _ (Two_intro _ _)) ?_ | refine w3 _ _ ?_ | refine QCall_of (w3 _ _ (Two_intro _ _)) ?_ | refine w4 _ _ ?_ | refine QCall_of (w4 _ _ (Two_intro _ _)) ?_); try simp (dsimp := false) only [go_sem, Nat.reduceAdd, Nat.reduceBEq, Nat.reduceEqDiff, Nat.reduceLT, Nat.reduceLeDiff, Nat.reduceMul, Int.reduceToNat, reduceCtorEq, ↓reduceIte, Tryd.ntmps79, Tryd.results79, ks_79, mu_79, nd_79, ti_ag3, ti_fl101_0, ti_fl101_3, ti_fl101_5, ti_hb106, ti_hb107, ti_sl34, ndD, ndV, hx, hy, c0, c1, j0, j1, e1, e2, e3, e4, e5, e6, Int.reduceEq]) | (refine AWp_condC rfl ?_; intro KA KB hKA hKB; try simp only [onB_true, onB_false, onB_dec, onB_ndec, onB_not, onB_and, onB_or]) | (refine AWp_condA rfl ?_ ?_) | with_reducible (first | refine onB_of ?_ ?_ | rfl) | omega)
  all_goals first
    | omega
    | exact keepD hk rfl
    | (refine keepD hk ?_; simp [*]; done)
    | (refine keepD hk ?_; simp_all; done)
theorem onAxis8_A (l : List Nd) (hg : Good l l.length) (hN : l.length ≤ 100000) (c j : Nat) (hc : c < l.length) (hj : j < l.length) (H : Heap) (K : V → Heap → Prop) (hk : K (.d (.b (onAx l c 8 j))) H) : ACalls Tryd.prog 79 [.d (.sl 6 (l.map ndD)), .d (.i .i64 c), .d (.i .i64 8), .d (.i .i64 j)] H K := by
  obtain ⟨x, hx⟩ : ∃ x, l[c]? = some x := ⟨l[c], List.getElem?_eq_getElem hc⟩
  obtain ⟨y, hy⟩ : ∃ y, l[j]? = some y := ⟨l[j], List.getElem?_eq_getElem hj⟩
  have hgx := gd_of_get hx
  have hgy := gd_of_get hy
  have hex := en_int hg hc
  have hey := en_int hg hj
  have hlx := en_lt hg hc
  have hly := en_lt hg hj
  rw [hgx] at hex
  rw [hgy] at hey
  have bx := good_bd hg c hc
  have bY := good_bd hg j hj
  rw [hgx] at bx
  rw [hgy] at bY
  have c0 : ((0 : Int) ≤ (c : Int)) = True := eq_true (by omega)
  have c1 : ((c : Int) < (l.length : Int)) = True := eq_true (by omega)
  have j0 : ((0 : Int) ≤ (j : Int)) = True := eq_true (by omega)
  have j1 : ((j : Int) < (l.length : Int)) = True := eq_true (by omega)
  have e1 : ((j : Int) = (c : Int)) = (j = c) := by rw [eq_iff_iff]; omega
  have e2 : ((c : Int) < (j : Int)) = (c < j) := by rw [eq_iff_iff]; omega
  have e3 : ((j : Int) < (c : Int)) = (j < c) := by rw [eq_iff_iff]; omega
  have e4 : ((c : Int) + x.sz < (j : Int)) = (en l c < j) := by rw [eq_iff_iff]; omega
  have e5 : ((j : Int) + y.sz < (c : Int)) = (en l j < c) := by rw [eq_iff_iff]; omega
  have e6 : ∀ a b : Nat, ((a : Int) = (b : Int)) = (a = b) := fun a b => by rw [eq_iff_iff]; omega
  have w1 := fun H K hk => isWithin_A l hg hN j c hj hc H K hk
  have w2 := fun H K hk => isWithin_A l hg hN c j hc hj H K hk
  have w3 := fun H K hk => rootOf_A l hg hN j hj H K hk
  have w4 := fun H K hk => rootOf_A l hg hN c hc H K hk
  rw [onAx] at hk
  simp only [hgx, hgy, Int.reduceEq, if_true, if_false] at hk
  refine ACalls_of Tryd.func79 rfl in_79 (Nat.le_of_ble_eq_true rfl) ?_
  intro F hF
  simp (dsimp := false) only [go_sem, Nat.reduceAdd, Nat.reduceBEq, Nat.reduceEqDiff, Nat.reduceLT, Nat.reduceLeDiff, Nat.reduceMul, Int.reduceToNat, reduceCtorEq, ↓reduceIte, Tryd.ntmps79, Tryd.results79, ks_79, mu_79, nd_79, ti_ag3, ti_fl101_0, ti_fl101_3, ti_fl101_5, ti_hb106, ti_hb107, ti_sl34, ndD, ndV, hx, hy, c0, c1, j0, j1, e1, e2, e3, e4, e5, e6, Int.reduceEq, in_79] at hF
  subst hF
  repeat' (first | with_reducible (first | refine And.intro ?_ ?_ | intro _ | refine AWp_seq ?_ | refine AWp_block ?_ | (refine hKv _ _ (AWp_nop ?_); clear hKv Kv) | (refine hKA ?_; clear hKA hKB KA KB) | (refine hKB ?_; clear hKA hKB KA KB) | refine AWp_skipN ?_ | refine AWp_exitO (by repeat (first | exact Out.hit | apply Out.thenA | apply Out.out rfl)) ?_) | ((first | with_reducible (first | (refine hKv _ _ ?_; clear hKv Kv) | ((first | refine AWp_regC mu_79 ks_79 ?_ | refine AWp_draw nd_79 mu_79 ks_79 ti_mixed (by kernel_rfl) ?_ | refine AWp_regE mu_79 ks_79 ?_ | refine AWp_drawE nd_79 mu_79 ks_79 ti_mixed (by kernel_rfl) ?_); intro Kv hKv) | refine AWp_retR ?_) | refine w1 _ _ ?_ | refine QCall_of (w1 _ _ (Two_intro _ _)) ?_ | refine w2 _ _ ?_ | refine QCall_of (w2 _ _ (Two_intro _ _)) ?_ | refine w3 _ _ ?_ | refine QCall_of (w3 _ _ (Two_intro _ _)) ?_ | refine w4 _ _ ?_ | refine QCall_of (w4 _ _ (Two_intro _ _)) ?_); try simp (dsimp := false) only [go_sem, Nat.reduceAdd, Nat.reduceBEq, Nat.reduceEqDiff, Nat.reduceLT, Nat.reduceLeDiff, Nat.reduceMul, Int.reduceToNat, reduceCtorEq, ↓reduceIte, Tryd.ntmps79, Tryd.results79, ks_79, mu_79, nd_79, ti_ag3, ti_fl101_0, ti_fl101_3, ti_fl101_5, ti_hb106, ti_hb107, ti_sl34, ndD, ndV, hx, hy, c0, c1, j0, j1, e1, e2, e3, e4, e5, e6, Int.reduceEq]) | (refine AWp_condC rfl ?_; intro KA KB hKA hKB; try simp only [onB_true, onB_false, onB_dec, onB_ndec, onB_not, onB_and, onB_or]) | (refine AWp_condA rfl ?_ ?_) | with_reducible (first | refine onB_of ?_ ?_ | rfl) | omega)
  all_goals first
    | omega
    | exact keepD hk rfl
    | (refine keepD hk ?_; simp [*]; done)
    | (refine keepD hk ?_; simp_all; done)
theorem onAxis9_A (l : List Nd) (hg : Good l l.length) (hN : l.length ≤ 100000) (c j : Nat) (hc : c < l.length) (hj : j < l.length) (H : Heap) (K : V → Heap → Prop) (hk : K (.d (.b (onAx l c 9 j))) H) : ACalls Tryd.prog 79 [.d (.sl 6 (l.map ndD)), .d (.i .i64 c), .d (.i .i64 9), .d (.i .i64 j)] H K := by
  obtain ⟨x, hx⟩ : ∃ x, l[c]? = some x := ⟨l[c], List.getElem?_eq_getElem hc⟩
  obtain ⟨y, hy⟩ : ∃ y, l[j]? = some y := ⟨l[j], List.getElem?_eq_getElem hj⟩
  have hgx := gd_of_get hx
  have hgy := gd_of_get hy
  have hex := en_int hg hc
  have hey := en_int hg hj
  have hlx := en_lt hg hc
  have hly := en_lt hg hj
  rw [hgx] at hex
  rw [hgy] at hey
  have bx := good_bd hg c hc
  have bY := good_bd hg j hj
  rw [hgx] at bx
  rw [hgy] at bY
  have c0 : ((0 : Int) ≤ (c : Int)) = True := eq_true (by omega)
  have c1 : ((c : Int) < (l.length : Int)) = True := eq_true (by omega)
  have j0 : ((0 : Int) ≤ (j : Int)) = True := eq_true (by omega)
  have j1 : ((j : Int) < (l.length : Int)) = True := eq_true (by omega)
  have e1 : ((j : Int) = (c : Int)) = (j = c) := by rw [eq_iff_iff]; omega
  have e2 : ((c : Int) < (j : Int)) = (c < j) := by rw [eq_iff_iff]; omega
  have e3 : ((j : Int) < (c : Int)) = (j < c) := by rw [eq_iff_iff]; omega
  have e4 : ((c : Int) + x.sz < (j : Int)) = (en l c < j) := by rw [eq_iff_iff]; omega
  have e5 : ((j : Int) + y.sz < (c : Int)) = (en l j < c) := by rw [eq_iff_iff]; omega
  have e6 : ∀ a b : Nat, ((a : Int) = (b : Int)) = (a = b) := fun a b => by rw [eq_iff_iff]; omega
  have w1 := fun H K hk => isWithin_A l hg hN j c hj hc H K hk
  have w2 := fun H K hk => isWithin_A l hg hN c j hc hj H K hk
  have w3 := fun H K hk => rootOf_A l hg hN j hj H K hk
  have w4 := fun H K hk => rootOf_A l hg hN c hc H K hk
  rw [onAx] at hk
  simp only [hgx, hgy, Int.reduceEq, if_true, if_false] at hk
  refine ACalls_of Tryd.func79 rfl in_79 (Nat.le_of_ble_eq_true rfl) ?_
  intro F hF
  simp (dsimp := false) only [go_sem, Nat.reduceAdd, Nat.reduceBEq, Nat.reduceEqDiff, Nat.reduceLT, Nat.reduceLeDiff, Nat.reduceMul, Int.reduceToNat, reduceCtorEq, ↓reduceIte, Tryd.ntmps79, Tryd.results79, ks_79, mu_79, nd_79, ti_ag3, ti_fl101_0, ti_fl101_3, ti_fl101_5, ti_hb106, ti_hb107, ti_sl34, ndD, ndV, hx, hy, c0, c1, j0, j1, e1, e2, e3, e4, e5, e6, Int.reduceEq, in_79] at hF
  subst hF
  repeat' (first | with_reducible (first | refine And.intro ?_ ?_ | intro _ | refine AWp_seq ?_ | refine AWp_block ?_ | (refine hKv _ _ (AWp_nop ?_); clear hKv Kv) | (refine hKA ?_; clear hKA hKB KA KB) | (refine hKB ?_; clear hKA hKB KA KB) | refine AWp_skipN ?_ | refine AWp_exitO (by repeat (first | exact Out.hit | apply Out.thenA | apply Out.out rfl)) ?_) | ((first | with_reducible (first | (refine hKv _ _ ?_; clear hKv Kv) | ((first | refine AWp_regC mu_79 ks_79 ?_ | refine AWp_draw nd_79 mu_79 ks_79 ti_mixed (by kernel_rfl) ?_ | refine AWp_regE mu_79 ks_79 ?_ | refine AWp_drawE nd_79 mu_79 ks_79 ti_mixed (by kernel_rfl) ?_); intro Kv hKv) | refine AWp_retR ?_) | refine w1 _ _ ?_ | refine QCall_of (w1 _ _ (Two_intro _ _)) ?_ | refine w2 _ _ ?_ | refine QCall_of (w2 _ _ (Two_intro _ _)) ?_ | refine w3 _ _ ?_ | refine QCall_of (w3 _ _ (Two_intro _ _)) ?_ | refine w4 _ _ ?_ | refine QCall_of (w4 _ _ (Two_intro _ _)) ?_); try simp (dsimp := false) only [go_sem, Nat.reduceAdd, Nat.reduceBEq, Nat.reduceEqDiff, Nat.reduceLT, Nat.reduceLeDiff, Nat.reduceMul, Int.reduceToNat, reduceCtorEq, ↓reduceIte, Tryd.ntmps79, Tryd.results79, ks_79, mu_79, nd_79, ti_ag3, ti_fl101_0, ti_fl101_3, ti_fl101_5, ti_hb106, ti_hb107, ti_sl34, ndD, ndV, hx, hy, c0, c1, j0, j1, e1, e2, e3, e4, e5, e6, Int.reduceEq]) | (refine AWp_condC rfl ?_; intro KA KB hKA hKB; try simp only [onB_true, onB_false, onB_dec, onB_ndec, onB_not, onB_and, onB_or]) | (refine AWp_condA rfl ?_ ?_) | with_reducible (first | refine onB_of ?_ ?_ | rfl) | omega)
  all_goals first
    | omega
    | exact keepD hk rfl
    | (refine keepD hk ?_; simp [*]; done)
    | (refine keepD hk ?_; simp_all; done)
end Go.Proofs.YtpgdflhcmijaiaaDoor
