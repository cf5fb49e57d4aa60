/- Steps from nodes: the reference: siblings and attributes. No condition. -/
import Derived.Test.YtpgdflhcmijaiaaDoorZ44
import Derived.Test.YtpgdflhcmijaiaaDoorZ25
import Derived.Test.YtpgdflhcmijaiaaDoorZ30
set_option linter.all false
set_option linter.unusedSimpArgs false
set_option linter.unusedVariables false
namespace Go.Proofs.YtpgdflhcmijaiaaDoor
open Go Go.Proofs.YtpgdflhcmijaiaaDoor.Ab
variable [Glo]
set_option maxHeartbeats 4000000
set_option maxRecDepth 20000
theorem onAxis10_A (l : List Nd) (hg : Good l l.length) (hN : l.length ≤ 100000) (c j : Nat) (hc : c < l.length) (hj : j < l.length) (H : Heap) (K : V → Heap → Prop) (hk : K (.d (.b (onAx l c 10 j))) H) : ACalls Tryd.prog 79 [.d (.sl 6 (l.map ndD)), .d (.i .i64 c), .d (.i .i64 10), .d (.i .i64 j)] H K := by
  obtain ⟨x, hx⟩ : ∃ x, l[c]? = some x := ⟨l[c], List.getElem?_eq_getElem hc⟩
  obtain ⟨y, hy⟩ : ∃ y, l[j]? = some y := ⟨l[j], List.getElem?_eq_getElem hj⟩
  have hgx := gd_of_get hx
  have hgy := gd_of_get hy
  have hex := en_int hg hc
  have hey := en_int hg hj
  have hlx := en_lt hg hc
  have hly := en_lt hg hj
  rw [hgx] at hex
  rw [hgy] at hey
  have bx := good_bd hg c hc
  have bY := good_bd hg j hj
  rw [hgx] at bx
  rw [hgy] at bY
  have c0 : ((0 : Int) ≤ (c : Int)) = True := eq_true (by omega)
  have c1 : ((c : Int) < (l.length : Int)) = True := eq_true (by omega)
  have j0 : ((0 : Int) ≤ (j : Int)) = True := eq_true (by omega)
  have j1 : ((j : Int) < (l.length : Int)) = True := eq_true (by omega)
  have e1 : ((j : Int) = (c : Int)) = (j = c) := by rw [eq_iff_iff]; omega
  have e2 : ((c : Int) < (j : Int)) = (c < j) := by rw [eq_iff_iff]; omega
  have e3 : ((j : Int) < (c : Int)) = (j < c) := by rw [eq_iff_iff]; omega
  have e4 : ((c : Int) + x.sz < (j : Int)) = (en l c < j) := by rw [eq_iff_iff]; omega
  have e5 : ((j : Int) + y.sz < (c : Int)) = (en l j < c) := by rw [eq_iff_iff]; omega
  have e6 : ∀ a b : Nat, ((a : Int) = (b : Int)) = (a = b) := fun a b => by rw [eq_iff_iff]; omega
  have w1 := fun H K hk => isWithin_A l hg hN j c hj hc H K hk
  have w2 := fun H K hk => isWithin_A l hg hN c j hc hj H K hk
  have w3 := fun H K hk => rootOf_A l hg hN j hj H K hk
  have w4 := fun H K hk => rootOf_A l hg hN c hc H K hk
  rw [onAx] at hk
  simp only [hgx, hgy, Int.reduceEq, if_true, if_false] at hk
  refine ACalls_of Tryd.func79 rfl in_79 (Nat.le_of_ble_eq_true rfl) ?_
  intro F hF
  simp (dsimp := false) only [go_sem, Nat.reduceAdd, Nat.reduceBEq, Nat.reduceEqDiff, Nat.reduceLT, Nat.reduceLeDiff, Nat.reduceMul, Int.reduceToNat, reduceCtorEq, ↓reduceIte, Tryd.ntmps79, Tryd.results79, ks_79, mu_79, nd_79, ti_ag3, ti_fl101_0, ti_fl101_3, ti_fl101_5, ti_hb106, ti_hb107, ti_sl34, ndD, ndV, hx, hy, c0, c1, j0, j1, e1, e2, e3, e4, e5, e6, Int.reduceEq, in_79] at hF
  subst hF
  repeat' (first | with_reducible (first | refine And.intro ?_ ?_ | intro _ | refine AWp_seq ?_ | refine AWp_block ?_ | (refine hKv _ _ (AWp_nop ?_); clear hKv Kv) | (refine hKA ?_; clear hKA hKB KA KB) | (refine hKB ?_; clear hKA hKB KA KB) | refine AWp_skipN ?_ | refine AWp_exitO (by repeat (first | exact Out.hit | apply Out.thenA | apply Out.out rfl)) ?_) | ((first | with_reducible (first | (refine hKv _ _ ?_; clear hKv Kv) | ((first | refine AWp_regC mu_79 ks_79 ?_ | refine AWp_draw nd_79 mu_79 ks_79 ti_mixed (by kernel_rfl) ?_ | refine AWp_regE mu_79 ks_79 ?_ | refine AWp_drawE nd_79 mu_79 ks_79 ti_mixed (by kernel_rfl) ?_); intro Kv hKv) | refine AWp_retR ?_) | refine w1 _ _ ?_ | refine QCall_of (w1 _ _ (Two_intro _ _)) ?_ | refine w2 _ _ ?_ | refine QCall_of (w2 _ _ (Two_intro _ _)) ?_ | refine w3 _ _ ?_ | refine QCall_of (w3 _ _ (Two_intro _ _)) ?_ | refine w4 _ _ ?_ | refine QCall_of (w4 _ _ (Two_intro _ _)) ?_); try simp (dsimp := false) only [go_sem, Nat.reduceAdd, Nat.reduceBEq, Nat.reduceEqDiff, Nat.reduceLT, Nat.reduceLeDiff, Nat.reduceMul, Int.reduceToNat, reduceCtorEq, ↓reduceIte, Tryd.ntmps79, Tryd.results79, ks_79, mu_79, nd_79, ti_ag3, ti_fl101_0, ti_fl101_3, ti_fl101_5, ti_hb106, ti_hb107, ti_sl34, ndD, ndV, hx, hy, c0, c1, j0, j1, e1, e2, e3, e4, e5, e6, Int.reduceEq]) | (refine AWp_condC rfl ?_; intro KA KB hKA hKB; try simp only [onB_true, onB_false, onB_dec, onB_ndec, onB_not, onB_and, onB_or]) | (refine AWp_condA rfl ?_ ?_) | with_reducible (first | refine onB_of ?_ ?_ | rfl) | omega)
  all_goals first
    | omega
    | exact keepD hk rfl
    | (refine keepD hk ?_; simp [*]; done)
    | (refine keepD hk ?_; simp_all; done)
theorem onAxis11_A (l : List Nd) (hg : Good l l.length) (hN : l.length ≤ 100000) (c j : Nat) (hc : c < l.length) (hj : j < l.length) (H : Heap) (K : V → Heap → Prop) (hk : K (.d (.b (onAx l c 11 j))) H) : ACalls Tryd.prog 79 [.d (.sl 6 (l.map ndD)), .d (.i .i64 c), .d (.i .i64 11), .d (.i .i64 j)] H K := by
  obtain ⟨x, hx⟩ : ∃ x, l[c]? = some x := ⟨l[c], List.getElem?_eq_getElem hc⟩
  obtain ⟨y, hy⟩ : ∃ y, l[j]? = some y := ⟨l[j], List.getElem?_eq_getElem hj⟩
  have hgx := gd_of_get hx
  have hgy := gd_of_get hy
  have hex := en_int hg hc
  have hey := en_int hg hj
  have hlx := en_lt hg hc
  have hly := en_lt hg hj
  rw [hgx] at hex
  rw [hgy] at hey
  have bx := good_bd hg c hc
  have bY := good_bd hg j hj
  rw [hgx] at bx
  rw [hgy] at bY
  have c0 : ((0 : Int) ≤ (c : Int)) = True := eq_true (by omega)
  have c1 : ((c : Int) < (l.length : Int)) = True := eq_true (by omega)
  have j0 : ((0 : Int) ≤ (j : Int)) = True := eq_true (by omega)
  have j1 : ((j : Int) < (l.length : Int)) = True := eq_true (by omega)
  have e1 : ((j : Int) = (c : Int)) = (j = c) := by rw [eq_iff_iff]; omega
  have e2 : ((c : Int) < (j : Int)) = (c < j) := by rw [eq_iff_iff]; omega
  have e3 : ((j : Int) < (c : Int)) = (j < c) := by rw [eq_iff_iff]; omega
  have e4 : ((c : Int) + x.sz < (j : Int)) = (en l c < j) := by rw [eq_iff_iff]; omega
  have e5 : ((j : Int) + y.sz < (c : Int)) = (en l j < c) := by rw [eq_iff_iff]; omega
  have e6 : ∀ a b : Nat, ((a : Int) = (b : Int)) = (a = b) := fun a b => by rw [eq_iff_iff]; omega
  have w1 := fun H K hk => isWithin_A l hg hN j c hj hc H K hk
  have w2 := fun H K hk => isWithin_A l hg hN c j hc hj H K hk
  have w3 := fun H K hk => rootOf_A l hg hN j hj H K hk
  have w4 := fun H K hk => rootOf_A l hg hN c hc H K hk
  rw [onAx] at hk
  simp only [hgx, hgy, Int.reduceEq, if_true, if_false] at hk
  refine ACalls_of Tryd.func79 rfl in_79 (Nat.le_of_ble_eq_true rfl) ?_
  intro F hF
  simp (dsimp := false) only [go_sem, Nat.reduceAdd, Nat.reduceBEq, Nat.reduceEqDiff, Nat.reduceLT, Nat.reduceLeDiff, Nat.reduceMul, Int.reduceToNat, reduceCtorEq, ↓reduceIte, Tryd.ntmps79, Tryd.results79, ks_79, mu_79, nd_79, ti_ag3, ti_fl101_0, ti_fl101_3, ti_fl101_5, ti_hb106, ti_hb107, ti_sl34, ndD, ndV, hx, hy, c0, c1, j0, j1, e1, e2, e3, e4, e5, e6, Int.reduceEq, in_79] at hF
  subst hF
  repeat' (first | with_reducible (first | refine And.intro ?_ ?_ | intro _ | refine AWp_seq ?_ | refine AWp_block ?_ | (refine hKv _ _ (AWp_nop ?_); clear hKv Kv) | (refine hKA ?_; clear hKA hKB KA KB) | (refine hKB ?_; clear hKA hKB KA KB) | refine AWp_skipN ?_ | refine AWp_exitO (by repeat (first | exact Out.hit | apply Out.thenA | apply Out.out rfl)) ?_) | ((first | with_reducible (first | (refine hKv _ _ ?_; clear hKv Kv) | ((first | refine AWp_regC mu_79 ks_79 ?_ | refine AWp_draw nd_79 mu_79 ks_79 ti_mixed (by kernel_rfl) ?_ | refine AWp_regE mu_79 ks_79 ?_ | refine AWp_drawE nd_79 mu_79 ks_79 ti_mixed (by kernel_rfl) ?_); intro Kv hKv) | refine AWp_retR ?_) | refine w1 _ _ ?_ | refine QCall_of (w1 _ _ (Two_intro _ _)) ?_ | refine w2 _ _ ?_ | refine QCall_of (w2 _ _ (Two_intro _ _)) ?_ | refine w3 _ _ ?_ | refine QCall_of (w3 _ _ (Two_intro _ _)) ?_ | refine w4 _ _ ?_ | refine QCall_of (w4 _ _ (Two_intro _ _)) ?_); try simp (dsimp := false) only [go_sem, Nat.reduceAdd, Nat.reduceBEq, Nat.reduceEqDiff, Nat.reduceLT, Nat.reduceLeDiff, Nat.reduceMul, Int.reduceToNat, reduceCtorEq, ↓reduceIte, Tryd.ntmps79, Tryd.results79, ks_79, mu_79, nd_79, ti_ag3, ti_fl101_0, ti_fl101_3, ti_fl101_5, ti_hb106, ti_hb107, ti_sl34, ndD, ndV, hx, hy, c0, c1, j0, j1, e1, e2, e3, e4, e5, e6, Int.reduceEq]) | (refine AWp_condC rfl ?_; intro KA KB hKA hKB; try simp only [onB_true, onB_false, onB_dec, onB_ndec, onB_not, onB_and, onB_or]) | (refine AWp_condA rfl ?_ ?_) | with_reducible (first | refine onB_of ?_ ?_ | rfl) | omega)
  all_goals first
    | omega
    | exact keepD hk rfl
    | (refine keepD hk ?_; simp [*]; done)
    | (refine keepD hk ?_; simp_all; done)
theorem onAxis12_A (l : List Nd) (hg : Good l l.length) (hN : l.length ≤ 100000) (c j : Nat) (hc : c < l.length) (hj : j < l.length) (H : Heap) (K : V → Heap → Prop) (hk : K (.d (.b (onAx l c 12 j))) H) : ACalls Tryd.prog 79 [.d (.sl 6 (l.map ndD)), .d (.i .i64 c), .d (.i .i64 12), .d (.i .i64 j)] H K := by
  obtain ⟨x, hx⟩ : ∃ x, l[c]? = some x := ⟨l[c], List.getElem?_eq_getElem hc⟩
  obtain ⟨y, hy⟩ : ∃ y, l[j]? = some y := ⟨l[j], List.getElem?_eq_getElem hj⟩
  have hgx := gd_of_get hx
  have hgy := gd_of_get hy
  have hex := en_int hg hc
  have hey := en_int hg hj
  have hlx := en_lt hg hc
  have hly := en_lt hg hj
  rw [hgx] at hex
  rw [hgy] at hey
  have bx := good_bd hg c hc
  have bY := good_bd hg j hj
  rw [hgx] at bx
  rw [hgy] at bY
  have c0 : ((0 : Int) ≤ (c : Int)) = True := eq_true (by omega)
  have c1 : ((c : Int) < (l.length : Int)) = True := eq_true (by omega)
  have j0 : ((0 : Int) ≤ (j : Int)) = True := eq_true (by omega)
  have j1 : ((j : Int) < (l.length : Int)) = True := eq_true (by omega)
  have e1 : ((j : Int) = (c : Int)) = (j = c) := by rw [eq_iff_iff]; omega
  have e2 : ((c : Int) < (j : Int)) = (c < j) := by rw [eq_iff_iff]; omega
  have e3 : ((j : Int) < (c : Int)) = (j < c) := by rw [eq_iff_iff]; omega
  have e4 : ((c : Int) + x.sz < (j : Int)) = (en l c < j) := by rw [eq_iff_iff]; omega
  have e5 : ((j : Int) + y.sz < (c : Int)) = (en l j < c) := by rw [eq_iff_iff]; omega
  have e6 : ∀ a b : Nat, ((a : Int) = (b : Int)) = (a = b) := fun a b => by rw [eq_iff_iff]; omega
  have w1 := fun H K hk => isWithin_A l hg hN j c hj hc H K hk
  have w2 := fun H K hk => isWithin_A l hg hN c j hc hj H K hk
  have w3 := fun H K hk => rootOf_A l hg hN j hj H K hk
  have w4 := fun H K hk => rootOf_A l hg hN c hc H K hk
  rw [onAx] at hk
  simp only [hgx, hgy, Int.reduceEq, if_true, if_false] at hk
  refine ACalls_of Tryd.func79 rfl in_79 (Nat.le_of_ble_eq_true rfl) ?_
  intro F hF
  simp (dsimp := false) only [go_sem, Nat.reduceAdd, Nat.reduceBEq, Nat.reduceEqDiff, Nat.reduceLT, Nat.reduceLeDiff, Nat.reduceMul, Int.reduceToNat, reduceCtorEq, ↓reduceIte, Tryd.ntmps79, Tryd.results79, ks_79, mu_79, nd_79, ti_ag3, ti_fl101_0, ti_fl101_3, ti_fl101_5, ti_hb106, ti_hb107, ti_sl34, ndD, ndV, hx, hy, c0, c1, j0, j1, e1, e2, e3, e4, e5, e6, Int.reduceEq, in_79] at hF
  subst hF
  repeat' (first | with_reducible (first | refine And.intro ?_ ?_ | intro _ | refine AWp_seq ?_ | refine AWp_block ?_ | (refine hKv _ _ (AWp_nop ?_); clear hKv Kv) | (refine hKA ?_; clear hKA hKB KA KB) | (refine hKB ?_; clear hKA hKB KA KB) | refine AWp_skipN ?_ | refine AWp_exitO (by repeat (first | exact Out.hit | apply Out.thenA | apply Out.out rfl)) ?_) | ((first | with_reducible (first | (refine hKv _ _ ?_; clear hKv Kv) | ((first | refine AWp_regC mu_79 ks_79 ?_ | refine AWp_draw nd_79 mu_79 ks_79 ti_mixed (by kernel_rfl) ?_ | refine AWp_regE mu_79 ks_79 ?_ | refine AWp_drawE nd_79 mu_79 ks_79 ti_mixed (by kernel_rfl) ?_); intro Kv hKv) | refine AWp_retR ?_) | refine w1 _ _ ?_ | refine QCall_of (w1 _ _ (Two_intro _ _)) ?_ | refine w2 _ _ ?_ | refine QCall_of (w2 _ _ (Two_intro _ _)) ?_ | refine w3 _ _ ?_ | refine QCall_of (w3 _ _ (Two_intro _ _)) ?_ | refine w4 _ _ ?_ | refine QCall_of (w4 _ _ (Two_intro _ _)) ?_); try simp (dsimp := false) only [go_sem, Nat.reduceAdd, Nat.reduceBEq, Nat.reduceEqDiff, Nat.reduceLT, Nat.reduceLeDiff, Nat.reduceMul, Int.reduceToNat, reduceCtorEq, ↓reduceIte, Tryd.ntmps79, Tryd.results79, ks_79, mu_79, nd_79, ti_ag3, ti_fl101_0, ti_fl101_3, ti_fl101_5, ti_hb106, ti_hb107, ti_sl34, ndD, ndV, hx, hy, c0, c1, j0, j1, e1, e2, e3, e4, e5, e6, Int.reduceEq]) | (refine AWp_condC rfl ?_; intro KA KB hKA hKB; try simp only [onB_true, onB_false, onB_dec, onB_ndec, onB_not, onB_and, onB_or]) | (refine AWp_condA rfl ?_ ?_) | with_reducible (first | refine onB_of ?_ ?_ | rfl) | omega)
  all_goals first
    | omega
    | exact keepD hk rfl
    | (refine keepD hk ?_; simp [*]; done)
    | (refine keepD hk ?_; simp_all; done)
end Go.Proofs.YtpgdflhcmijaiaaDoor
namespace Go.Proofs.YtpgdflhcmijaiaaDoor
open Go Go.Proofs.YtpgdflhcmijaiaaDoor.Ab
variable [Glo]
set_option maxHeartbeats 4000000
set_option maxRecDepth 20000
theorem onAxis_A (l : List Nd) (hg : Good l l.length) (hN : l.length ≤ 100000) (c j : Nat) (hc : c < l.length) (hj : j < l.length) (axis : Int) (ha : 1 ≤ axis ∧ axis ≤ 12) (H : Heap) (K : V → Heap → Prop) (hk : K (.d (.b (onAx l c axis j))) H) : ACalls Tryd.prog 79 [.d (.sl 6 (l.map ndD)), .d (.i .i64 c), .d (.i .i64 axis), .d (.i .i64 j)] H K := by
  have hax : axis = 1 ∨ axis = 2 ∨ axis = 3 ∨ axis = 4 ∨ axis = 5 ∨ axis = 6 ∨ axis = 7 ∨ axis = 8 ∨ axis = 9 ∨ axis = 10 ∨ axis = 11 ∨ axis = 12 := by omega
  rcases hax with rfl | rfl | rfl | rfl | rfl | rfl | rfl | rfl | rfl | rfl | rfl | rfl
  · exact onAxis1_A l hg hN c j hc hj H K hk
  · exact onAxis2_A l hg hN c j hc hj H K hk
  · exact onAxis3_A l hg hN c j hc hj H K hk
  · exact onAxis4_A l hg hN c j hc hj H K hk
  · exact onAxis5_A l hg hN c j hc hj H K hk
  · exact onAxis6_A l hg hN c j hc hj H K hk
  · exact onAxis7_A l hg hN c j hc hj H K hk
  · exact onAxis8_A l hg hN c j hc hj H K hk
  · exact onAxis9_A l hg hN c j hc hj H K hk
  · exact onAxis10_A l hg hN c j hc hj H K hk
  · exact onAxis11_A l hg hN c j hc hj H K hk
  · exact onAxis12_A l hg hN c j hc hj H K hk
def ks_56 : Nat → List Nat
  | 0 => [0, 1, 2, 7]
  | 1 => [0, 1, 2, 7, 9]
  | 2 => [0, 1, 2, 7, 9, 10]
  | 3 => [0, 1, 2, 7, 9, 10, 16]
  | 4 => [0, 1, 2, 7, 9, 10]
  | 5 => [0, 1, 2, 7, 9, 10, 11]
  | 6 => [0, 1, 2, 7, 9, 10, 11, 12]
  | 7 => [0, 1, 2, 7, 9, 10, 11, 12, 26]
  | 8 => [0, 1, 2, 7, 9, 10, 11, 12]
  | 9 => [0, 1, 2, 7, 9, 10, 11, 12]
  | 10 => [0, 1, 2, 7, 9, 10, 46]
  | 11 => [0, 1, 2, 7, 9, 10]
  | 12 => [8]
  | _ => []
def mu_56 : List Nat := [9]
def in_56 : List Nat := [0, 1, 2, 3]
def nd_56 : Nat → Nat
  | 10 => 9
  | _ => 0
theorem walkedAt_A (l : List Nd) (hg : Good l l.length) (hN : l.length ≤ 100000) (t : Ts) (axis : Int) (ha : 1 ≤ axis ∧ axis ≤ 12) (zs : List Int) (hzl : zs.length ≤ 1048576) (hz : ∀ z, z ∈ zs → 0 ≤ z ∧ z < l.length) (H : Heap) (K : V → Heap → Prop) (hk : K (.d (.sl 1 ((walked l (zs.map Int.toNat) axis t).map natR))) H) : ACalls Tryd.prog 56 [.d (.sl 6 (l.map ndD)), .d (.sl 1 (zs.map zR)), .d (.i .i64 axis), tsV t] H K := by
  unfold walked at hk
  generalize hcs : zs.map Int.toNat = cs at hk
  have hcl : cs.length = zs.length := by rw [← hcs, List.length_map]
  have hget : ∀ (k : Nat) z, zs[k]? = some z → ∃ c : Nat, z = c ∧ c < l.length ∧ cs[k]? = some c := fun k z h => by
    have := hz z (List.mem_of_getElem? h)
    exact ⟨z.toNat, by omega, by omega, by rw [← hcs, List.getElem?_map, h]; rfl⟩
  have hb : ∀ (L : List Nat), Closed H (H ++ [.row L.length 3 1 (L.map natC)]) := fun L => closed_app fun ob hob => by
    rw [List.mem_singleton.1 hob]; exact outO_bel _ L
  refine ACalls_of Tryd.func56 rfl in_56 (Nat.le_of_ble_eq_true rfl) ?_
  intro F hF
  simp (dsimp := false) only [go_sem, Nat.reduceAdd, Nat.reduceBEq, Nat.reduceEqDiff, Nat.reduceLT, Nat.reduceLeDiff, Nat.reduceMul, Int.reduceToNat, reduceCtorEq, ↓reduceIte, Tryd.ntmps56, Tryd.results56, ks_56, mu_56, nd_56, ti_ag3, ti_ag37, ti_ag101, ti_hb79, ti_hb80, ti_sb34, ti_sb35, ti_sl34, ti_sl35, ti_sz37, ti_sz101, ndD, ndV, tsV, tsD, in_56] at hF
  subst hF
  repeat' (first | with_reducible (first | refine And.intro ?_ ?_ | intro _ | refine AWp_seq ?_ | refine AWp_block ?_ | (refine hKv _ _ (AWp_nop ?_); clear hKv Kv) | (refine hKA ?_; clear hKA hKB KA KB) | (refine hKB ?_; clear hKA hKB KA KB) | refine AWp_skipN ?_ | refine AWp_exitO (by repeat (first | exact Out.hit | apply Out.thenA | apply Out.out rfl)) ?_) | (with_reducible (first | (refine hKv _ _ ?_; clear hKv Kv) | ((first | refine AWp_regC mu_56 ks_56 ?_ | refine AWp_draw nd_56 mu_56 ks_56 ti_mixed (by kernel_rfl) ?_ | refine AWp_regE mu_56 ks_56 ?_ | refine AWp_drawE nd_56 mu_56 ks_56 ti_mixed (by kernel_rfl) ?_); intro Kv hKv) | refine AWp_retR ?_); try simp (dsimp := false) only [go_sem, Nat.reduceAdd, Nat.reduceBEq, Nat.reduceEqDiff, Nat.reduceLT, Nat.reduceLeDiff, Nat.reduceMul, Int.reduceToNat, reduceCtorEq, ↓reduceIte, Tryd.ntmps56, Tryd.results56, ks_56, mu_56, nd_56, ti_ag3, ti_ag37, ti_ag101, ti_hb79, ti_hb80, ti_sb34, ti_sb35, ti_sl34, ti_sl35, ti_sz37, ti_sz101, ndD, ndV, tsV, tsD]) | (refine AWp_condC rfl ?_; intro KA KB hKA hKB; try simp only [onB_true, onB_false, onB_dec, onB_ndec, onB_not, onB_and, onB_or]) | (refine AWp_condA rfl ?_ ?_) | with_reducible (first | refine onB_of ?_ ?_ | rfl) | omega)
  refine AWp_whileP (fun i : Nat => i ≤ l.length) (fun i => [(0, .d (.sl 6 (l.map ndD))), (1, .d (.sl 1 (zs.map zR))), (2, .d (.i .i64 axis)), (7, .rp [.i .i64 t.k, .s t.nm]), (9, .os H.length (colF (refQ l cs axis t) i).length), (10, .d (.i .i64 i))]) (fun i => H ++ [.row (colF (refQ l cs axis t) i).length 3 1 ((colF (refQ l cs axis t) i).map natC)]) (fun i => l.length - i) 0 (Nat.zero_le _) ?_ ?_ ?_ ?_ ?_
  · first | rfl
  · simp (dsimp := false) only [go_sem, Nat.reduceAdd, Nat.reduceBEq, Nat.reduceEqDiff, Nat.reduceLT, Nat.reduceLeDiff, Nat.reduceMul, Int.reduceToNat, reduceCtorEq, ↓reduceIte, Tryd.ntmps56, Tryd.results56, ks_56, mu_56, nd_56, ti_ag3, ti_ag37, ti_ag101, ti_hb79, ti_hb80, ti_sb34, ti_sb35, ti_sl34, ti_sl35, ti_sz37, ti_sz101, ndD, ndV, tsV, tsD]
    first | done | (simp [colF]; done)
  · intro i _
    simp
  · intro i _
    exact hb _
  rintro i hi
  by_cases hiN : i < l.length
  · obtain ⟨y, hy⟩ : ∃ y, l[i]? = some y := ⟨l[i], List.getElem?_eq_getElem hiN⟩
    have hgy := gd_of_get hy
    have i1 : ((i : Int) < (l.length : Int)) = True := eq_true (by omega)
    have i0 : ((0 : Int) ≤ (i : Int)) = True := eq_true (by omega)
    have ei : (i : Int) + 1 = ((i + 1 : Nat) : Int) := by omega
    have hcfl := colF_len (refQ l cs axis t) i
    have hcs1 := colF_succ (refQ l cs axis t) i
    repeat' (first | with_reducible (first | refine And.intro ?_ ?_ | intro _ | refine AWp_seq ?_ | refine AWp_block ?_ | (refine hKv _ _ (AWp_nop ?_); clear hKv Kv) | (refine hKA ?_; clear hKA hKB KA KB) | (refine hKB ?_; clear hKA hKB KA KB) | refine AWp_skipN ?_ | refine AWp_exitO (by repeat (first | exact Out.hit | apply Out.thenA | apply Out.out rfl)) ?_) | (with_reducible (first | (refine hKv _ _ ?_; clear hKv Kv) | ((first | refine AWp_regC mu_56 ks_56 ?_ | refine AWp_draw nd_56 mu_56 ks_56 ti_mixed (by kernel_rfl) ?_ | refine AWp_regE mu_56 ks_56 ?_ | refine AWp_drawE nd_56 mu_56 ks_56 ti_mixed (by kernel_rfl) ?_); intro Kv hKv) | refine AWp_retR ?_); try simp (dsimp := false) only [go_sem, Nat.reduceAdd, Nat.reduceBEq, Nat.reduceEqDiff, Nat.reduceLT, Nat.reduceLeDiff, Nat.reduceMul, Int.reduceToNat, reduceCtorEq, ↓reduceIte, Tryd.ntmps56, Tryd.results56, ks_56, mu_56, nd_56, ti_ag3, ti_ag37, ti_ag101, ti_hb79, ti_hb80, ti_sb34, ti_sb35, ti_sl34, ti_sl35, ti_sz37, ti_sz101, ndD, ndV, tsV, tsD, i1, i0]) | (refine AWp_condC rfl ?_; intro KA KB hKA hKB; try simp only [onB_true, onB_false, onB_dec, onB_ndec, onB_not, onB_and, onB_or]) | (refine AWp_condA rfl ?_ ?_) | with_reducible (first | refine onB_of ?_ ?_ | rfl) | omega)
    refine AWp_whileP (fun k : Nat => k ≤ zs.length) (fun k => [(0, .d (.sl 6 (l.map ndD))), (1, .d (.sl 1 (zs.map zR))), (2, .d (.i .i64 axis)), (7, .rp [.i .i64 t.k, .s t.nm]), (9, .os H.length (colF (refQ l cs axis t) i).length), (10, .d (.i .i64 i)), (11, .d (.b ((cs.take k).any fun c => onAx l c axis i))), (12, .d (.i .i64 k))]) (fun k => H ++ [.row (colF (refQ l cs axis t) i).length 3 1 ((colF (refQ l cs axis t) i).map natC)]) (fun k => zs.length - k) 0 (Nat.zero_le _) rfl ?_ ?_ ?_ ?_
    · simp (dsimp := false) only [go_sem, Nat.reduceAdd, Nat.reduceBEq, Nat.reduceEqDiff, Nat.reduceLT, Nat.reduceLeDiff, Nat.reduceMul, Int.reduceToNat, reduceCtorEq, ↓reduceIte, Tryd.ntmps56, Tryd.results56, ks_56, mu_56, nd_56, ti_ag3, ti_ag37, ti_ag101, ti_hb79, ti_hb80, ti_sb34, ti_sb35, ti_sl34, ti_sl35, ti_sz37, ti_sz101, ndD, ndV, tsV, tsD, i1, i0]
      first | done | (simp; done)
    · intro k _
      simp
    · intro k _
      exact hb _
    rintro k hk2
    cases hth : (cs.take k).any (fun c => onAx l c axis i) with
    | true =>
      have hall : cs.any (fun c => onAx l c axis i) = true := by
        obtain ⟨c, h1, h2⟩ := List.any_eq_true.1 hth
        exact List.any_eq_true.2 ⟨c, List.mem_of_mem_take h1, h2⟩
      have hq : refQ l cs axis t i = meetsB y axis t := by rw [refQ, hall, Bool.true_and, hgy]
      have hm := fun H K hk => testMeets_A y axis t H K hk
      cases hmt : meetsB y axis t with
      | true =>
        rw [hq, hmt, if_pos rfl] at hcs1
        have hoa := outO_app (colF (refQ l cs axis t) i) i
        rw [← hcs1, outO] at hoa
        by_cases hkz : k < zs.length
        · have k1 : ((k : Int) < (zs.length : Int)) = True := eq_true (by omega)
          repeat' (first | with_reducible (first | refine And.intro ?_ ?_ | intro _ | refine AWp_seq ?_ | refine AWp_block ?_ | (refine hKv _ _ (AWp_nop ?_); clear hKv Kv) | (refine hKA ?_; clear hKA hKB KA KB) | (refine hKB ?_; clear hKA hKB KA KB) | refine AWp_skipN ?_ | refine AWp_exitO (by repeat (first | exact Out.hit | apply Out.thenA | apply Out.out rfl)) ?_) | ((first | with_reducible (first | (refine hKv _ _ ?_; clear hKv Kv) | ((first | refine AWp_regC mu_56 ks_56 ?_ | refine AWp_draw nd_56 mu_56 ks_56 ti_mixed (by kernel_rfl) ?_ | refine AWp_regE mu_56 ks_56 ?_ | refine AWp_drawE nd_56 mu_56 ks_56 ti_mixed (by kernel_rfl) ?_); intro Kv hKv) | refine AWp_retR ?_) | refine hm _ _ ?_ | refine QCall_of (hm _ _ (Two_intro _ _)) ?_); try simp (dsimp := false) only [go_sem, Nat.reduceAdd, Nat.reduceBEq, Nat.reduceEqDiff, Nat.reduceLT, Nat.reduceLeDiff, Nat.reduceMul, Int.reduceToNat, reduceCtorEq, ↓reduceIte, Tryd.ntmps56, Tryd.results56, ks_56, mu_56, nd_56, ti_ag3, ti_ag37, ti_ag101, ti_hb79, ti_hb80, ti_sb34, ti_sb35, ti_sl34, ti_sl35, ti_sz37, ti_sz101, ndD, ndV, tsV, tsD, hth, k1, hy, i0, i1, ei, hmt, not_true_eq_false, not_false_eq_true]) | (refine AWp_condC rfl ?_; intro KA KB hKA hKB; try simp only [onB_true, onB_false, onB_dec, onB_ndec, onB_not, onB_and, onB_or]) | (refine AWp_condA rfl ?_ ?_) | with_reducible (first | refine onB_of ?_ ?_ | rfl) | omega)
          all_goals first
            | omega
            | exact hb _
            | exact ⟨i + 1, by omega, by omega, by rw [← hoa], by (repeat' (refine And.intro ?_ ?_)) <;> first | rfl | omega | (rw [hcs1, List.length_append]; rfl) | (simp; done) | (simp; omega)⟩
        · have k1 : ((k : Int) < (zs.length : Int)) = False := eq_false (by omega)
          repeat' (first | with_reducible (first | refine And.intro ?_ ?_ | intro _ | refine AWp_seq ?_ | refine AWp_block ?_ | (refine hKv _ _ (AWp_nop ?_); clear hKv Kv) | (refine hKA ?_; clear hKA hKB KA KB) | (refine hKB ?_; clear hKA hKB KA KB) | refine AWp_skipN ?_ | refine AWp_exitO (by repeat (first | exact Out.hit | apply Out.thenA | apply Out.out rfl)) ?_) | ((first | with_reducible (first | (refine hKv _ _ ?_; clear hKv Kv) | ((first | refine AWp_regC mu_56 ks_56 ?_ | refine AWp_draw nd_56 mu_56 ks_56 ti_mixed (by kernel_rfl) ?_ | refine AWp_regE mu_56 ks_56 ?_ | refine AWp_drawE nd_56 mu_56 ks_56 ti_mixed (by kernel_rfl) ?_); intro Kv hKv) | refine AWp_retR ?_) | refine hm _ _ ?_ | refine QCall_of (hm _ _ (Two_intro _ _)) ?_); try simp (dsimp := false) only [go_sem, Nat.reduceAdd, Nat.reduceBEq, Nat.reduceEqDiff, Nat.reduceLT, Nat.reduceLeDiff, Nat.reduceMul, Int.reduceToNat, reduceCtorEq, ↓reduceIte, Tryd.ntmps56, Tryd.results56, ks_56, mu_56, nd_56, ti_ag3, ti_ag37, ti_ag101, ti_hb79, ti_hb80, ti_sb34, ti_sb35, ti_sl34, ti_sl35, ti_sz37, ti_sz101, ndD, ndV, tsV, tsD, hth, k1, hy, i0, i1, ei, hmt, not_true_eq_false, not_false_eq_true]) | (refine AWp_condC rfl ?_; intro KA KB hKA hKB; try simp only [onB_true, onB_false, onB_dec, onB_ndec, onB_not, onB_and, onB_or]) | (refine AWp_condA rfl ?_ ?_) | with_reducible (first | refine onB_of ?_ ?_ | rfl) | omega)
          all_goals first
            | omega
            | exact hb _
            | exact ⟨i + 1, by omega, by omega, by rw [← hoa], by (repeat' (refine And.intro ?_ ?_)) <;> first | rfl | omega | (rw [hcs1, List.length_append]; rfl) | (simp; done) | (simp; omega)⟩
      | false =>
        rw [hq, hmt, if_neg (by decide), List.append_nil] at hcs1
        by_cases hkz : k < zs.length
        · have k1 : ((k : Int) < (zs.length : Int)) = True := eq_true (by omega)
          repeat' (first | with_reducible (first | refine And.intro ?_ ?_ | intro _ | refine AWp_seq ?_ | refine AWp_block ?_ | (refine hKv _ _ (AWp_nop ?_); clear hKv Kv) | (refine hKA ?_; clear hKA hKB KA KB) | (refine hKB ?_; clear hKA hKB KA KB) | refine AWp_skipN ?_ | refine AWp_exitO (by repeat (first | exact Out.hit | apply Out.thenA | apply Out.out rfl)) ?_) | ((first | with_reducible (first | (refine hKv _ _ ?_; clear hKv Kv) | ((first | refine AWp_regC mu_56 ks_56 ?_ | refine AWp_draw nd_56 mu_56 ks_56 ti_mixed (by kernel_rfl) ?_ | refine AWp_regE mu_56 ks_56 ?_ | refine AWp_drawE nd_56 mu_56 ks_56 ti_mixed (by kernel_rfl) ?_); intro Kv hKv) | refine AWp_retR ?_) | refine hm _ _ ?_ | refine QCall_of (hm _ _ (Two_intro _ _)) ?_); try simp (dsimp := false) only [go_sem, Nat.reduceAdd, Nat.reduceBEq, Nat.reduceEqDiff, Nat.reduceLT, Nat.reduceLeDiff, Nat.reduceMul, Int.reduceToNat, reduceCtorEq, ↓reduceIte, Tryd.ntmps56, Tryd.results56, ks_56, mu_56, nd_56, ti_ag3, ti_ag37, ti_ag101, ti_hb79, ti_hb80, ti_sb34, ti_sb35, ti_sl34, ti_sl35, ti_sz37, ti_sz101, ndD, ndV, tsV, tsD, hth, k1, hy, i0, i1, ei, hmt, not_true_eq_false, not_false_eq_true]) | (refine AWp_condC rfl ?_; intro KA KB hKA hKB; try simp only [onB_true, onB_false, onB_dec, onB_ndec, onB_not, onB_and, onB_or]) | (refine AWp_condA rfl ?_ ?_) | with_reducible (first | refine onB_of ?_ ?_ | rfl) | omega)
          all_goals first
            | omega
            | exact hb _
            | exact ⟨i + 1, by omega, by omega, by rw [hcs1], by (repeat' (refine And.intro ?_ ?_)) <;> first | rfl | omega | (rw [hcs1]; done) | (rw [hcs1]; rfl) | (simp; done) | (simp; omega)⟩
        · have k1 : ((k : Int) < (zs.length : Int)) = False := eq_false (by omega)
          repeat' (first | with_reducible (first | refine And.intro ?_ ?_ | intro _ | refine AWp_seq ?_ | refine AWp_block ?_ | (refine hKv _ _ (AWp_nop ?_); clear hKv Kv) | (refine hKA ?_; clear hKA hKB KA KB) | (refine hKB ?_; clear hKA hKB KA KB) | refine AWp_skipN ?_ | refine AWp_exitO (by repeat (first | exact Out.hit | apply Out.thenA | apply Out.out rfl)) ?_) | ((first | with_reducible (first | (refine hKv _ _ ?_; clear hKv Kv) | ((first | refine AWp_regC mu_56 ks_56 ?_ | refine AWp_draw nd_56 mu_56 ks_56 ti_mixed (by kernel_rfl) ?_ | refine AWp_regE mu_56 ks_56 ?_ | refine AWp_drawE nd_56 mu_56 ks_56 ti_mixed (by kernel_rfl) ?_); intro Kv hKv) | refine AWp_retR ?_) | refine hm _ _ ?_ | refine QCall_of (hm _ _ (Two_intro _ _)) ?_); try simp (dsimp := false) only [go_sem, Nat.reduceAdd, Nat.reduceBEq, Nat.reduceEqDiff, Nat.reduceLT, Nat.reduceLeDiff, Nat.reduceMul, Int.reduceToNat, reduceCtorEq, ↓reduceIte, Tryd.ntmps56, Tryd.results56, ks_56, mu_56, nd_56, ti_ag3, ti_ag37, ti_ag101, ti_hb79, ti_hb80, ti_sb34, ti_sb35, ti_sl34, ti_sl35, ti_sz37, ti_sz101, ndD, ndV, tsV, tsD, hth, k1, hy, i0, i1, ei, hmt, not_true_eq_false, not_false_eq_true]) | (refine AWp_condC rfl ?_; intro KA KB hKA hKB; try simp only [onB_true, onB_false, onB_dec, onB_ndec, onB_not, onB_and, onB_or]) | (refine AWp_condA rfl ?_ ?_) | with_reducible (first | refine onB_of ?_ ?_ | rfl) | omega)
          all_goals first
            | omega
            | exact hb _
            | exact ⟨i + 1, by omega, by omega, by rw [hcs1], by (repeat' (refine And.intro ?_ ?_)) <;> first | rfl | omega | (rw [hcs1]; done) | (rw [hcs1]; rfl) | (simp; done) | (simp; omega)⟩
    | false =>
      by_cases hkz : k < zs.length
      · obtain ⟨z, hzk⟩ : ∃ z, zs[k]? = some z := ⟨zs[k], List.getElem?_eq_getElem hkz⟩
        obtain ⟨c, rfl, hcl2, hck⟩ := hget k z hzk
        have k1 : ((k : Int) < (zs.length : Int)) = True := eq_true (by omega)
        have k0 : ((0 : Int) ≤ (k : Int)) = True := eq_true (by omega)
        have ek : (k : Int) + 1 = ((k + 1 : Nat) : Int) := by omega
        have hon := fun H K hk => onAxis_A l hg hN c i hcl2 hiN axis ha H K hk
        have hnx : (cs.take (k + 1)).any (fun c => onAx l c axis i) = onAx l c axis i := by rw [take_of_get hck, List.any_append, hth]; simp
        repeat' (first | with_reducible (first | refine And.intro ?_ ?_ | intro _ | refine AWp_seq ?_ | refine AWp_block ?_ | (refine hKv _ _ (AWp_nop ?_); clear hKv Kv) | (refine hKA ?_; clear hKA hKB KA KB) | (refine hKB ?_; clear hKA hKB KA KB) | refine AWp_skipN ?_ | refine AWp_exitO (by repeat (first | exact Out.hit | apply Out.thenA | apply Out.out rfl)) ?_) | ((first | with_reducible (first | (refine hKv _ _ ?_; clear hKv Kv) | ((first | refine AWp_regC mu_56 ks_56 ?_ | refine AWp_draw nd_56 mu_56 ks_56 ti_mixed (by kernel_rfl) ?_ | refine AWp_regE mu_56 ks_56 ?_ | refine AWp_drawE nd_56 mu_56 ks_56 ti_mixed (by kernel_rfl) ?_); intro Kv hKv) | refine AWp_retR ?_) | refine hon _ _ ?_ | refine QCall_of (hon _ _ (Two_intro _ _)) ?_); try simp (dsimp := false) only [go_sem, Nat.reduceAdd, Nat.reduceBEq, Nat.reduceEqDiff, Nat.reduceLT, Nat.reduceLeDiff, Nat.reduceMul, Int.reduceToNat, reduceCtorEq, ↓reduceIte, Tryd.ntmps56, Tryd.results56, ks_56, mu_56, nd_56, ti_ag3, ti_ag37, ti_ag101, ti_hb79, ti_hb80, ti_sb34, ti_sb35, ti_sl34, ti_sl35, ti_sz37, ti_sz101, ndD, ndV, tsV, tsD, zR, hth, k0, k1, ek, hzk, not_true_eq_false, not_false_eq_true]) | (refine AWp_condC rfl ?_; intro KA KB hKA hKB; try simp only [onB_true, onB_false, onB_dec, onB_ndec, onB_not, onB_and, onB_or]) | (refine AWp_condA rfl ?_ ?_) | with_reducible (first | refine onB_of ?_ ?_ | rfl) | omega)
        all_goals first
          | omega
          | exact hb _
          | exact ⟨k + 1, by omega, by omega, rfl, by (repeat' (refine And.intro ?_ ?_)) <;> first | rfl | omega | (rw [hnx]; done) | (rw [hnx]; rfl) | (simp; done) | (simp; omega)⟩
          | exact ⟨k + 1, by omega, by omega, by (repeat' (refine And.intro ?_ ?_)) <;> first | rfl | omega | (rw [hnx]; done) | (rw [hnx]; rfl) | (simp; done) | (simp; omega)⟩
      · have k1 : ((k : Int) < (zs.length : Int)) = False := eq_false (by omega)
        have hall : cs.any (fun c => onAx l c axis i) = false := by rw [List.take_of_length_le (by omega)] at hth; exact hth
        have hq : refQ l cs axis t i = false := by rw [refQ, hall, Bool.false_and]
        rw [hq, if_neg (by decide), List.append_nil] at hcs1
        repeat' (first | with_reducible (first | refine And.intro ?_ ?_ | intro _ | refine AWp_seq ?_ | refine AWp_block ?_ | (refine hKv _ _ (AWp_nop ?_); clear hKv Kv) | (refine hKA ?_; clear hKA hKB KA KB) | (refine hKB ?_; clear hKA hKB KA KB) | refine AWp_skipN ?_ | refine AWp_exitO (by repeat (first | exact Out.hit | apply Out.thenA | apply Out.out rfl)) ?_) | (with_reducible (first | (refine hKv _ _ ?_; clear hKv Kv) | ((first | refine AWp_regC mu_56 ks_56 ?_ | refine AWp_draw nd_56 mu_56 ks_56 ti_mixed (by kernel_rfl) ?_ | refine AWp_regE mu_56 ks_56 ?_ | refine AWp_drawE nd_56 mu_56 ks_56 ti_mixed (by kernel_rfl) ?_); intro Kv hKv) | refine AWp_retR ?_); try simp (dsimp := false) only [go_sem, Nat.reduceAdd, Nat.reduceBEq, Nat.reduceEqDiff, Nat.reduceLT, Nat.reduceLeDiff, Nat.reduceMul, Int.reduceToNat, reduceCtorEq, ↓reduceIte, Tryd.ntmps56, Tryd.results56, ks_56, mu_56, nd_56, ti_ag3, ti_ag37, ti_ag101, ti_hb79, ti_hb80, ti_sb34, ti_sb35, ti_sl34, ti_sl35, ti_sz37, ti_sz101, ndD, ndV, tsV, tsD, hth, k1, hy, i0, i1, ei, not_true_eq_false, not_false_eq_true]) | (refine AWp_condC rfl ?_; intro KA KB hKA hKB; try simp only [onB_true, onB_false, onB_dec, onB_ndec, onB_not, onB_and, onB_or]) | (refine AWp_condA rfl ?_ ?_) | with_reducible (first | refine onB_of ?_ ?_ | rfl) | omega)
        all_goals first
          | omega
          | exact hb _
          | exact ⟨i + 1, by omega, by omega, by rw [hcs1], by (repeat' (refine And.intro ?_ ?_)) <;> first | rfl | omega | (rw [hcs1]; done) | (rw [hcs1]; rfl) | (simp; done) | (simp; omega)⟩
  obtain rfl : i = l.length := by omega
  have i1 : ((l.length : Int) < (l.length : Int)) = False := eq_false (by omega)
  repeat' (first | with_reducible (first | refine And.intro ?_ ?_ | intro _ | refine AWp_seq ?_ | refine AWp_block ?_ | (refine hKv _ _ (AWp_nop ?_); clear hKv Kv) | (refine hKA ?_; clear hKA hKB KA KB) | (refine hKB ?_; clear hKA hKB KA KB) | refine AWp_skipN ?_ | refine AWp_exitO (by repeat (first | exact Out.hit | apply Out.thenA | apply Out.out rfl)) ?_) | (with_reducible (first | (refine hKv _ _ ?_; clear hKv Kv) | ((first | refine AWp_regC mu_56 ks_56 ?_ | refine AWp_draw nd_56 mu_56 ks_56 ti_mixed (by kernel_rfl) ?_ | refine AWp_regE mu_56 ks_56 ?_ | refine AWp_drawE nd_56 mu_56 ks_56 ti_mixed (by kernel_rfl) ?_); intro Kv hKv) | refine AWp_retR ?_); try simp (dsimp := false) only [go_sem, Nat.reduceAdd, Nat.reduceBEq, Nat.reduceEqDiff, Nat.reduceLT, Nat.reduceLeDiff, Nat.reduceMul, Int.reduceToNat, reduceCtorEq, ↓reduceIte, Tryd.ntmps56, Tryd.results56, ks_56, mu_56, nd_56, ti_ag3, ti_ag37, ti_ag101, ti_hb79, ti_hb80, ti_sb34, ti_sb35, ti_sl34, ti_sl35, ti_sz37, ti_sz101, ndD, ndV, tsV, tsD, i1]) | (refine AWp_condC rfl ?_; intro KA KB hKA hKB; try simp only [onB_true, onB_false, onB_dec, onB_ndec, onB_not, onB_and, onB_or]) | (refine AWp_condA rfl ?_ ?_) | with_reducible (first | refine onB_of ?_ ?_ | rfl) | omega)
  all_goals first
    | omega
    | exact dropF hk (.os _ _ _ _ _ _ (by omega) (get_app0 _ _) (natC_data _)) (by simp [Bel_d])
end Go.Proofs.YtpgdflhcmijaiaaDoor
