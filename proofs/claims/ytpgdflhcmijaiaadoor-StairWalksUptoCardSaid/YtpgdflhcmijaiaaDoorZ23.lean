/- Steps from nodes: tests, roots, and taking a node. No condition. -/
import Derived.Test.YtpgdflhcmijaiaaDoorZ19
import Derived.Test.YtpgdflhcmijaiaaDoorZ21
import Derived.Test.YtpgdflhcmijaiaaDoorZ22
import Derived.Test.YtpgdflhcmijaiaaDoorZ18
set_option linter.all false
set_option linter.unusedSimpArgs false
set_option linter.unusedVariables false
namespace Go.Proofs.YtpgdflhcmijaiaaDoor
open Go Go.Proofs.YtpgdflhcmijaiaaDoor.Ab
variable [Glo]
set_option maxHeartbeats 4000000
set_option maxRecDepth 20000
structure Ts where
  k : Int
  nm : List UInt8
def tsV (t : Ts) : V := .ag [.d (.i .i64 t.k), .d (.s t.nm)]
def tsD (t : Ts) : List D := [.i .i64 t.k, .s t.nm]
def kindOf (axis : Int) : Int := if axis = 12 then 2 else 1
def meetsB (n : Nd) (axis : Int) (t : Ts) : Bool :=
  if t.k = 1 then true else if t.k = 2 then decide (n.k = 3) else if t.k = 3 then decide (n.k = 4) else if t.k = 4 then decide (n.k = kindOf axis) && decide (n.nm = t.nm) else decide (n.k = kindOf axis)
def takeB (n : Nd) (axis : Int) (t : Ts) (self : Bool) : Bool := (decide (n.k ≠ 2) || self || decide (axis = 12)) && meetsB n axis t
def ks_76 : Nat → List Nat
  | 0 => [1, 3, 5]
  | 1 => [1, 3, 5, 7]
  | 2 => [3, 5, 7, 9]
  | 3 => [3, 5, 7]
  | 4 => [3, 5, 7, 11]
  | 5 => [3, 5, 7, 11, 12]
  | 6 => [6]
  | 7 => [3, 5, 7, 11, 14]
  | 8 => [6]
  | 9 => [3, 5, 7, 11, 19]
  | 10 => [6]
  | 11 => [3, 5, 7, 24]
  | 12 => [6]
  | 13 => [6]
  | _ => []
def mu_76 : List Nat := []
def in_76 : List Nat := [0, 1, 2]
theorem meets_A (n : Nd) (axis : Int) (t : Ts) (H : Heap) (K : V → Heap → Prop) (hk : K (.d (.b (meetsB n axis t))) H) : ACalls Tryd.prog 76 [ndV n, .d (.i .i64 axis), tsV t] H K := by
  unfold meetsB kindOf at hk
  by_cases ha : axis = 12
  · have ha' : (axis = 12) = True := eq_true ha
    rw [if_pos ha] at hk
    subst ha
    refine ACalls_of Tryd.func76 rfl in_76 (Nat.le_of_ble_eq_true rfl) ?_
    intro F hF
    simp (dsimp := false) only [go_sem, Nat.reduceAdd, Nat.reduceBEq, Nat.reduceEqDiff, Nat.reduceLT, Nat.reduceLeDiff, Nat.reduceMul, Int.reduceToNat, reduceCtorEq, ↓reduceIte, Tryd.ntmps76, Tryd.results76, ks_76, mu_76, ti_ag3, ti_ag9, ti_fl37_0, ti_fl37_1, ti_fl101_0, ti_fl101_1, ndD, ndV, tsV, tsD, in_76] at hF
    subst hF
    repeat' (first | with_reducible (first | refine And.intro ?_ ?_ | intro _ | refine AWp_seq ?_ | refine AWp_block ?_ | (refine hKv _ _ (AWp_nop ?_); clear hKv Kv) | (refine hKA ?_; clear hKA hKB KA KB) | (refine hKB ?_; clear hKA hKB KA KB) | refine AWp_skipN ?_ | refine AWp_exitO (by repeat (first | exact Out.hit | apply Out.thenA | apply Out.out rfl)) ?_) | (with_reducible (first | (refine hKv _ _ ?_; clear hKv Kv) | ((first | refine AWp_regC mu_76 ks_76 ?_ | refine AWp_regE mu_76 ks_76 ?_); intro Kv hKv) | refine AWp_retR ?_); try simp (dsimp := false) only [go_sem, Nat.reduceAdd, Nat.reduceBEq, Nat.reduceEqDiff, Nat.reduceLT, Nat.reduceLeDiff, Nat.reduceMul, Int.reduceToNat, reduceCtorEq, ↓reduceIte, Tryd.ntmps76, Tryd.results76, ks_76, mu_76, ti_ag3, ti_ag9, ti_fl37_0, ti_fl37_1, ti_fl101_0, ti_fl101_1, ndD, ndV, tsV, tsD]) | (refine AWp_condC rfl ?_; intro KA KB hKA hKB; try simp only [onB_true, onB_false, onB_dec, onB_ndec, onB_not, onB_and, onB_or]) | (refine AWp_condA rfl ?_ ?_) | with_reducible (first | refine onB_of ?_ ?_ | rfl) | omega)
    all_goals first
      | omega
      | (simp only [*, if_true, if_false, if_pos, if_neg, not_false_eq_true, Int.reduceEq] at hk; first | exact keepD hk rfl | (refine keepD ?_ rfl; simpa using hk))
  · have ha' : (axis = 12) = False := eq_false ha
    rw [if_neg ha] at hk
    refine ACalls_of Tryd.func76 rfl in_76 (Nat.le_of_ble_eq_true rfl) ?_
    intro F hF
    simp (dsimp := false) only [go_sem, Nat.reduceAdd, Nat.reduceBEq, Nat.reduceEqDiff, Nat.reduceLT, Nat.reduceLeDiff, Nat.reduceMul, Int.reduceToNat, reduceCtorEq, ↓reduceIte, Tryd.ntmps76, Tryd.results76, ks_76, mu_76, ti_ag3, ti_ag9, ti_fl37_0, ti_fl37_1, ti_fl101_0, ti_fl101_1, ndD, ndV, tsV, tsD, ha', in_76] at hF
    subst hF
    repeat' (first | with_reducible (first | refine And.intro ?_ ?_ | intro _ | refine AWp_seq ?_ | refine AWp_block ?_ | (refine hKv _ _ (AWp_nop ?_); clear hKv Kv) | (refine hKA ?_; clear hKA hKB KA KB) | (refine hKB ?_; clear hKA hKB KA KB) | refine AWp_skipN ?_ | refine AWp_exitO (by repeat (first | exact Out.hit | apply Out.thenA | apply Out.out rfl)) ?_) | (with_reducible (first | (refine hKv _ _ ?_; clear hKv Kv) | ((first | refine AWp_regC mu_76 ks_76 ?_ | refine AWp_regE mu_76 ks_76 ?_); intro Kv hKv) | refine AWp_retR ?_); try simp (dsimp := false) only [go_sem, Nat.reduceAdd, Nat.reduceBEq, Nat.reduceEqDiff, Nat.reduceLT, Nat.reduceLeDiff, Nat.reduceMul, Int.reduceToNat, reduceCtorEq, ↓reduceIte, Tryd.ntmps76, Tryd.results76, ks_76, mu_76, ti_ag3, ti_ag9, ti_fl37_0, ti_fl37_1, ti_fl101_0, ti_fl101_1, ndD, ndV, tsV, tsD, ha']) | (refine AWp_condC rfl ?_; intro KA KB hKA hKB; try simp only [onB_true, onB_false, onB_dec, onB_ndec, onB_not, onB_and, onB_or]) | (refine AWp_condA rfl ?_ ?_) | with_reducible (first | refine onB_of ?_ ?_ | rfl) | omega)
    all_goals first
      | omega
      | (simp only [*, if_true, if_false, if_pos, if_neg, not_false_eq_true, Int.reduceEq] at hk; first | exact keepD hk rfl | (refine keepD ?_ rfl; simpa using hk))
def ks_80 : Nat → List Nat
  | 0 => [1, 3, 5]
  | 1 => [1, 3, 5, 7]
  | 2 => [3, 5, 7, 12]
  | 3 => [3, 5, 7]
  | 4 => [3, 5, 7, 17]
  | 5 => [3, 5, 7, 17, 18]
  | 6 => [6]
  | 7 => [3, 5, 7, 17, 20]
  | 8 => [6]
  | 9 => [3, 5, 7, 17, 25]
  | 10 => [6]
  | 11 => [3, 5, 7, 30]
  | 12 => [6]
  | 13 => [6]
  | _ => []
def mu_80 : List Nat := []
def in_80 : List Nat := [0, 1, 2]
theorem testMeets_A (n : Nd) (axis : Int) (t : Ts) (H : Heap) (K : V → Heap → Prop) (hk : K (.d (.b (meetsB n axis t))) H) : ACalls Tryd.prog 80 [ndV n, .d (.i .i64 axis), tsV t] H K := by
  unfold meetsB kindOf at hk
  by_cases ha : axis = 12
  · have ha' : (axis = 12) = True := eq_true ha
    rw [if_pos ha] at hk
    subst ha
    refine ACalls_of Tryd.func80 rfl in_80 (Nat.le_of_ble_eq_true rfl) ?_
    intro F hF
    simp (dsimp := false) only [go_sem, Nat.reduceAdd, Nat.reduceBEq, Nat.reduceEqDiff, Nat.reduceLT, Nat.reduceLeDiff, Nat.reduceMul, Int.reduceToNat, reduceCtorEq, ↓reduceIte, Tryd.ntmps80, Tryd.results80, ks_80, mu_80, ti_ag3, ti_ag9, ti_fl37_0, ti_fl37_1, ti_fl101_0, ti_fl101_1, ndD, ndV, tsV, tsD, in_80] at hF
    subst hF
    repeat' (first | with_reducible (first | refine And.intro ?_ ?_ | intro _ | refine AWp_seq ?_ | refine AWp_block ?_ | (refine hKv _ _ (AWp_nop ?_); clear hKv Kv) | (refine hKA ?_; clear hKA hKB KA KB) | (refine hKB ?_; clear hKA hKB KA KB) | refine AWp_skipN ?_ | refine AWp_exitO (by repeat (first | exact Out.hit | apply Out.thenA | apply Out.out rfl)) ?_) | (with_reducible (first | (refine hKv _ _ ?_; clear hKv Kv) | ((first | refine AWp_regC mu_80 ks_80 ?_ | refine AWp_regE mu_80 ks_80 ?_); intro Kv hKv) | refine AWp_retR ?_); try simp (dsimp := false) only [go_sem, Nat.reduceAdd, Nat.reduceBEq, Nat.reduceEqDiff, Nat.reduceLT, Nat.reduceLeDiff, Nat.reduceMul, Int.reduceToNat, reduceCtorEq, ↓reduceIte, Tryd.ntmps80, Tryd.results80, ks_80, mu_80, ti_ag3, ti_ag9, ti_fl37_0, ti_fl37_1, ti_fl101_0, ti_fl101_1, ndD, ndV, tsV, tsD]) | (refine AWp_condC rfl ?_; intro KA KB hKA hKB; try simp only [onB_true, onB_false, onB_dec, onB_ndec, onB_not, onB_and, onB_or]) | (refine AWp_condA rfl ?_ ?_) | with_reducible (first | refine onB_of ?_ ?_ | rfl) | omega)
    all_goals first
      | omega
      | (simp only [*, if_true, if_false, if_pos, if_neg, not_false_eq_true, Int.reduceEq] at hk; first | exact keepD hk rfl | (refine keepD ?_ rfl; simpa using hk))
      | (refine keepD ?_ rfl; simp_all; done)
  · have ha' : (axis = 12) = False := eq_false ha
    rw [if_neg ha] at hk
    refine ACalls_of Tryd.func80 rfl in_80 (Nat.le_of_ble_eq_true rfl) ?_
    intro F hF
    simp (dsimp := false) only [go_sem, Nat.reduceAdd, Nat.reduceBEq, Nat.reduceEqDiff, Nat.reduceLT, Nat.reduceLeDiff, Nat.reduceMul, Int.reduceToNat, reduceCtorEq, ↓reduceIte, Tryd.ntmps80, Tryd.results80, ks_80, mu_80, ti_ag3, ti_ag9, ti_fl37_0, ti_fl37_1, ti_fl101_0, ti_fl101_1, ndD, ndV, tsV, tsD, ha', in_80] at hF
    subst hF
    repeat' (first | with_reducible (first | refine And.intro ?_ ?_ | intro _ | refine AWp_seq ?_ | refine AWp_block ?_ | (refine hKv _ _ (AWp_nop ?_); clear hKv Kv) | (refine hKA ?_; clear hKA hKB KA KB) | (refine hKB ?_; clear hKA hKB KA KB) | refine AWp_skipN ?_ | refine AWp_exitO (by repeat (first | exact Out.hit | apply Out.thenA | apply Out.out rfl)) ?_) | (with_reducible (first | (refine hKv _ _ ?_; clear hKv Kv) | ((first | refine AWp_regC mu_80 ks_80 ?_ | refine AWp_regE mu_80 ks_80 ?_); intro Kv hKv) | refine AWp_retR ?_); try simp (dsimp := false) only [go_sem, Nat.reduceAdd, Nat.reduceBEq, Nat.reduceEqDiff, Nat.reduceLT, Nat.reduceLeDiff, Nat.reduceMul, Int.reduceToNat, reduceCtorEq, ↓reduceIte, Tryd.ntmps80, Tryd.results80, ks_80, mu_80, ti_ag3, ti_ag9, ti_fl37_0, ti_fl37_1, ti_fl101_0, ti_fl101_1, ndD, ndV, tsV, tsD, ha']) | (refine AWp_condC rfl ?_; intro KA KB hKA hKB; try simp only [onB_true, onB_false, onB_dec, onB_ndec, onB_not, onB_and, onB_or]) | (refine AWp_condA rfl ?_ ?_) | with_reducible (first | refine onB_of ?_ ?_ | rfl) | omega)
    all_goals first
      | omega
      | (simp only [*, if_true, if_false, if_pos, if_neg, not_false_eq_true, Int.reduceEq] at hk; first | exact keepD hk rfl | (refine keepD ?_ rfl; simpa using hk))
      | (refine keepD ?_ rfl; simp_all; done)
def wtB (l : List Nd) (i n : Nat) : Bool := decide (n < i) && decide (i ≤ en l n)
def ks_106 : Nat → List Nat
  | 0 => [0, 1, 2]
  | 1 => [6]
  | _ => []
def mu_106 : List Nat := []
def in_106 : List Nat := [0, 1, 2]
theorem isWithin_A (l : List Nd) (hg : Good l l.length) (hN : l.length ≤ 100000) (i n : Nat) (hi : i < l.length) (hn : n < l.length) (H : Heap) (K : V → Heap → Prop) (hk : K (.d (.b (wtB l i n))) H) : ACalls Tryd.prog 106 [.d (.sl 6 (l.map ndD)), .d (.i .i64 i), .d (.i .i64 n)] H K := by
  obtain ⟨x, hx⟩ : ∃ x, l[n]? = some x := ⟨l[n], List.getElem?_eq_getElem hn⟩
  have b := good_bd hg n hn
  have hen := en_int hg hn
  rw [gd_of_get hx] at b hen
  have n0 : ((0 : Int) ≤ (n : Int)) = True := eq_true (by omega)
  have n1 : ((n : Int) < (l.length : Int)) = True := eq_true (by omega)
  have hc := en_lt hg hn
  unfold wtB at hk
  by_cases h1 : n < i
  · have h1' : ((n : Int) < (i : Int)) = True := eq_true (by omega)
    have h2 : decide ((i : Int) ≤ (n : Int) + x.sz) = decide (i ≤ en l n) := by rw [decide_eq_decide]; omega
    rw [decide_eq_true h1, Bool.true_and] at hk
    refine ACalls_of Tryd.func106 rfl in_106 (Nat.le_of_ble_eq_true rfl) ?_
    intro F hF
    simp (dsimp := false) only [go_sem, Nat.reduceAdd, Nat.reduceBEq, Nat.reduceEqDiff, Nat.reduceLT, Nat.reduceLeDiff, Nat.reduceMul, Int.reduceToNat, reduceCtorEq, ↓reduceIte, Tryd.ntmps106, Tryd.results106, ks_106, mu_106, ti_ag3, ti_fl101_3, ti_sl34, ndD, ndV, hx, n0, n1, h1', h2, not_true_eq_false, not_false_eq_true, in_106] at hF
    subst hF
    repeat' (first | with_reducible (first | refine And.intro ?_ ?_ | intro _ | refine AWp_seq ?_ | refine AWp_block ?_ | (refine hKv _ _ (AWp_nop ?_); clear hKv Kv) | (refine hKA ?_; clear hKA hKB KA KB) | (refine hKB ?_; clear hKA hKB KA KB) | refine AWp_skipN ?_ | refine AWp_exitO (by repeat (first | exact Out.hit | apply Out.thenA | apply Out.out rfl)) ?_) | (with_reducible (first | (refine hKv _ _ ?_; clear hKv Kv) | ((first | refine AWp_regC mu_106 ks_106 ?_ | refine AWp_regE mu_106 ks_106 ?_); intro Kv hKv) | refine AWp_retR ?_); try simp (dsimp := false) only [go_sem, Nat.reduceAdd, Nat.reduceBEq, Nat.reduceEqDiff, Nat.reduceLT, Nat.reduceLeDiff, Nat.reduceMul, Int.reduceToNat, reduceCtorEq, ↓reduceIte, Tryd.ntmps106, Tryd.results106, ks_106, mu_106, ti_ag3, ti_fl101_3, ti_sl34, ndD, ndV, hx, n0, n1, h1', h2, not_true_eq_false, not_false_eq_true]) | (refine AWp_condC rfl ?_; intro KA KB hKA hKB; try simp only [onB_true, onB_false, onB_dec, onB_ndec, onB_not, onB_and, onB_or]) | (refine AWp_condA rfl ?_ ?_) | with_reducible (first | refine onB_of ?_ ?_ | rfl) | omega)
    all_goals first
      | omega
      | exact keepD hk rfl
  · have h1' : ((n : Int) < (i : Int)) = False := eq_false (by omega)
    rw [decide_eq_false h1, Bool.false_and] at hk
    refine ACalls_of Tryd.func106 rfl in_106 (Nat.le_of_ble_eq_true rfl) ?_
    intro F hF
    simp (dsimp := false) only [go_sem, Nat.reduceAdd, Nat.reduceBEq, Nat.reduceEqDiff, Nat.reduceLT, Nat.reduceLeDiff, Nat.reduceMul, Int.reduceToNat, reduceCtorEq, ↓reduceIte, Tryd.ntmps106, Tryd.results106, ks_106, mu_106, ti_ag3, ti_fl101_3, ti_sl34, ndD, ndV, hx, n0, n1, h1', not_true_eq_false, not_false_eq_true, in_106] at hF
    subst hF
    repeat' (first | with_reducible (first | refine And.intro ?_ ?_ | intro _ | refine AWp_seq ?_ | refine AWp_block ?_ | (refine hKv _ _ (AWp_nop ?_); clear hKv Kv) | (refine hKA ?_; clear hKA hKB KA KB) | (refine hKB ?_; clear hKA hKB KA KB) | refine AWp_skipN ?_ | refine AWp_exitO (by repeat (first | exact Out.hit | apply Out.thenA | apply Out.out rfl)) ?_) | (with_reducible (first | (refine hKv _ _ ?_; clear hKv Kv) | ((first | refine AWp_regC mu_106 ks_106 ?_ | refine AWp_regE mu_106 ks_106 ?_); intro Kv hKv) | refine AWp_retR ?_); try simp (dsimp := false) only [go_sem, Nat.reduceAdd, Nat.reduceBEq, Nat.reduceEqDiff, Nat.reduceLT, Nat.reduceLeDiff, Nat.reduceMul, Int.reduceToNat, reduceCtorEq, ↓reduceIte, Tryd.ntmps106, Tryd.results106, ks_106, mu_106, ti_ag3, ti_fl101_3, ti_sl34, ndD, ndV, hx, n0, n1, h1', not_true_eq_false, not_false_eq_true]) | (refine AWp_condC rfl ?_; intro KA KB hKA hKB; try simp only [onB_true, onB_false, onB_dec, onB_ndec, onB_not, onB_and, onB_or]) | (refine AWp_condA rfl ?_ ?_) | with_reducible (first | refine onB_of ?_ ?_ | rfl) | omega)
    all_goals first
      | omega
      | exact keepD hk rfl
def ks_107 : Nat → List Nat
  | 0 => [0, 1]
  | 1 => [0, 1, 10]
  | 2 => [0, 1]
  | 3 => [4]
  | _ => []
def mu_107 : List Nat := []
def in_107 : List Nat := [0, 1]
theorem rootOf_A (l : List Nd) (hg : Good l l.length) (hN : l.length ≤ 100000) (n : Nat) (hn : n < l.length) (H : Heap) (K : V → Heap → Prop) (hk : K (.d (.i .i64 (rt l n))) H) : ACalls Tryd.prog 107 [.d (.sl 6 (l.map ndD)), .d (.i .i64 n)] H K := by
  refine ACalls_of Tryd.func107 rfl in_107 (Nat.le_of_ble_eq_true rfl) ?_
  intro F hF
  simp (dsimp := false) only [go_sem, Nat.reduceAdd, Nat.reduceBEq, Nat.reduceEqDiff, Nat.reduceLT, Nat.reduceLeDiff, Nat.reduceMul, Int.reduceToNat, reduceCtorEq, ↓reduceIte, Tryd.ntmps107, Tryd.results107, ks_107, mu_107, ti_ag3, ti_fl101_5, ti_sl34, ndD, ndV, in_107] at hF
  subst hF
  repeat' (first | with_reducible (first | refine And.intro ?_ ?_ | intro _ | refine AWp_seq ?_ | refine AWp_block ?_ | (refine hKv _ _ (AWp_nop ?_); clear hKv Kv) | (refine hKA ?_; clear hKA hKB KA KB) | (refine hKB ?_; clear hKA hKB KA KB) | refine AWp_skipN ?_ | refine AWp_exitO (by repeat (first | exact Out.hit | apply Out.thenA | apply Out.out rfl)) ?_) | (with_reducible (first | (refine hKv _ _ ?_; clear hKv Kv) | ((first | refine AWp_regC mu_107 ks_107 ?_ | refine AWp_regE mu_107 ks_107 ?_); intro Kv hKv) | refine AWp_retR ?_); try simp (dsimp := false) only [go_sem, Nat.reduceAdd, Nat.reduceBEq, Nat.reduceEqDiff, Nat.reduceLT, Nat.reduceLeDiff, Nat.reduceMul, Int.reduceToNat, reduceCtorEq, ↓reduceIte, Tryd.ntmps107, Tryd.results107, ks_107, mu_107, ti_ag3, ti_fl101_5, ti_sl34, ndD, ndV]) | (refine AWp_condC rfl ?_; intro KA KB hKA hKB; try simp only [onB_true, onB_false, onB_dec, onB_ndec, onB_not, onB_and, onB_or]) | (refine AWp_condA rfl ?_ ?_) | with_reducible (first | refine onB_of ?_ ?_ | rfl) | omega)
  refine AWp_while0 (fun m : Nat => m < l.length ∧ rt l m = rt l n) (fun m => [(0, .d (.sl 6 (l.map ndD))), (1, .d (.i .i64 m))]) (fun m => m) n ⟨hn, rfl⟩ ?_ ?_
  · simp (dsimp := false) only [go_sem, Nat.reduceAdd, Nat.reduceBEq, Nat.reduceEqDiff, Nat.reduceLT, Nat.reduceLeDiff, Nat.reduceMul, Int.reduceToNat, reduceCtorEq, ↓reduceIte, Tryd.ntmps107, Tryd.results107, ks_107, mu_107, ti_ag3, ti_fl101_5, ti_sl34, ndD, ndV]
    first | done | (simp; done)
  rintro m ⟨hm, hr⟩
  obtain ⟨x, hx⟩ : ∃ x, l[m]? = some x := ⟨l[m], List.getElem?_eq_getElem hm⟩
  have b := good_bd hg m hm
  have hup := fun h => rt_up hg hm h
  have htop := fun h => rt_top (l := l) (n := m) h
  rw [gd_of_get hx] at b hup htop
  have n0 : ((0 : Int) ≤ (m : Int)) = True := eq_true (by omega)
  have n1 : ((m : Int) < (l.length : Int)) = True := eq_true (by omega)
  by_cases hu : 0 ≤ x.up
  · obtain ⟨u, hux⟩ : ∃ u : Nat, x.up = u := ⟨x.up.toNat, by omega⟩
    have hup := hup hu
    rw [hux, Int.toNat_natCast] at hup
    have hu' : ((0 : Int) ≤ (u : Int)) = True := eq_true (by omega)
    repeat' (first | with_reducible (first | refine And.intro ?_ ?_ | intro _ | refine AWp_seq ?_ | refine AWp_block ?_ | (refine hKv _ _ (AWp_nop ?_); clear hKv Kv) | (refine hKA ?_; clear hKA hKB KA KB) | (refine hKB ?_; clear hKA hKB KA KB) | refine AWp_skipN ?_ | refine AWp_exitO (by repeat (first | exact Out.hit | apply Out.thenA | apply Out.out rfl)) ?_) | (with_reducible (first | (refine hKv _ _ ?_; clear hKv Kv) | ((first | refine AWp_regC mu_107 ks_107 ?_ | refine AWp_regE mu_107 ks_107 ?_); intro Kv hKv) | refine AWp_retR ?_); try simp (dsimp := false) only [go_sem, Nat.reduceAdd, Nat.reduceBEq, Nat.reduceEqDiff, Nat.reduceLT, Nat.reduceLeDiff, Nat.reduceMul, Int.reduceToNat, reduceCtorEq, ↓reduceIte, Tryd.ntmps107, Tryd.results107, ks_107, mu_107, ti_ag3, ti_fl101_5, ti_sl34, ndD, ndV, hx, n0, n1, hux, hu']) | (refine AWp_condC rfl ?_; intro KA KB hKA hKB; try simp only [onB_true, onB_false, onB_dec, onB_ndec, onB_not, onB_and, onB_or]) | (refine AWp_condA rfl ?_ ?_) | with_reducible (first | refine onB_of ?_ ?_ | rfl) | omega)
    all_goals first
      | omega
      | exact ⟨u, ⟨by omega, by omega⟩, by omega, by (repeat' (refine And.intro ?_ ?_)) <;> first | rfl | omega | (simp; done) | (simp; omega)⟩
  · have hu' : ((0 : Int) ≤ x.up) = False := eq_false hu
    have htop := htop (by omega)
    have e : rt l n = m := by omega
    rw [e] at hk
    repeat' (first | with_reducible (first | refine And.intro ?_ ?_ | intro _ | refine AWp_seq ?_ | refine AWp_block ?_ | (refine hKv _ _ (AWp_nop ?_); clear hKv Kv) | (refine hKA ?_; clear hKA hKB KA KB) | (refine hKB ?_; clear hKA hKB KA KB) | refine AWp_skipN ?_ | refine AWp_exitO (by repeat (first | exact Out.hit | apply Out.thenA | apply Out.out rfl)) ?_) | (with_reducible (first | (refine hKv _ _ ?_; clear hKv Kv) | ((first | refine AWp_regC mu_107 ks_107 ?_ | refine AWp_regE mu_107 ks_107 ?_); intro Kv hKv) | refine AWp_retR ?_); try simp (dsimp := false) only [go_sem, Nat.reduceAdd, Nat.reduceBEq, Nat.reduceEqDiff, Nat.reduceLT, Nat.reduceLeDiff, Nat.reduceMul, Int.reduceToNat, reduceCtorEq, ↓reduceIte, Tryd.ntmps107, Tryd.results107, ks_107, mu_107, ti_ag3, ti_fl101_5, ti_sl34, ndD, ndV, hx, n0, n1, hu']) | (refine AWp_condC rfl ?_; intro KA KB hKA hKB; try simp only [onB_true, onB_false, onB_dec, onB_ndec, onB_not, onB_and, onB_or]) | (refine AWp_condA rfl ?_ ?_) | with_reducible (first | refine onB_of ?_ ?_ | rfl) | omega)
    all_goals first
      | omega
      | exact keepD hk rfl
end Go.Proofs.YtpgdflhcmijaiaaDoor
namespace Go.Proofs.YtpgdflhcmijaiaaDoor
open Go Go.Proofs.YtpgdflhcmijaiaaDoor.Ab
variable [Glo]
set_option maxHeartbeats 4000000
set_option maxRecDepth 20000
def wkO (l : List Nd) (axis : Int) (t : Ts) (out : V) : Ob := .row 0 73 5 [[.d (.sl 6 (l.map ndD)), .d (.i .i64 axis), .d (.i .i64 t.k), .d (.s t.nm), out]]
def natC (i : Nat) : List V := [V.d (.i .i64 (i : Int))]
def outO (L : List Nat) : Ob := .row L.length 3 1 (L.map natC)
structure Wk (H : Heap) (idw ido : Nat) (l : List Nd) (axis : Int) (t : Ts) (L : List Nat) : Prop where
  ne : idw ≠ ido
  w : H[idw]? = some (wkO l axis t (.os ido L.length))
  o : H[ido]? = some (outO L)
def wst (H : Heap) (idw ido : Nat) (l : List Nd) (axis : Int) (t : Ts) (L : List Nat) : Heap := (H.set ido (outO L)).set idw (wkO l axis t (.os ido L.length))
theorem outO_bel (m : Nat) (L : List Nat) : ObBel m (outO L) := by
  intro row hr v hv
  obtain ⟨i, _, rfl⟩ := List.mem_map.1 hr
  rw [List.mem_singleton.1 hv]
  exact .d _
theorem wkO_bel {m : Nat} (l : List Nd) (axis : Int) (t : Ts) {ido v : Nat} (h : ido < m) : ObBel m (wkO l axis t (.os ido v)) := by
  intro row hr v hv
  rw [List.mem_singleton.1 hr] at hv
  simp only [List.mem_cons, List.not_mem_nil, or_false] at hv
  rcases hv with rfl | rfl | rfl | rfl | rfl
  · exact .d _
  · exact .d _
  · exact .d _
  · exact .d _
  · exact .os _ _ h
section
variable {H : Heap} {idw ido : Nat} {l : List Nd} {axis : Int} {t : Ts} {L : List Nat}
theorem Wk.hw (h : Wk H idw ido l axis t L) : idw < H.length := (List.getElem?_eq_some_iff.1 h.w).1
theorem Wk.ho (h : Wk H idw ido l axis t L) : ido < H.length := (List.getElem?_eq_some_iff.1 h.o).1
theorem Wk.len (h : Wk H idw ido l axis t L) (L' : List Nat) : (wst H idw ido l axis t L').length = H.length := by simp [wst]
theorem Wk.next (h : Wk H idw ido l axis t L) (L' : List Nat) : Wk (wst H idw ido l axis t L') idw ido l axis t L' := by
  have h1 := h.hw
  have h2 := h.ho
  refine ⟨h.ne, ?_, ?_⟩
  · rw [wst, List.getElem?_set, if_pos rfl, if_pos (by simpa using h1)]
  · rw [wst, List.getElem?_set, if_neg h.ne, List.getElem?_set, if_pos rfl, if_pos h2]
theorem Wk.self (h : Wk H idw ido l axis t L) : wst H idw ido l axis t L = H := by
  rw [wst, set_same h.o, set_same h.w]
theorem Wk.wst2 (h : Wk H idw ido l axis t L) (L1 L2 : List Nat) : wst (wst H idw ido l axis t L1) idw ido l axis t L2 = wst H idw ido l axis t L2 := by
  unfold wst
  rw [List.set_comm (l := H.set ido (outO L1)) _ _ h.ne, List.set_set, List.set_set]
theorem Wk.closed (h : Wk H idw ido l axis t L) (L' : List Nat) : Closed H (wst H idw ido l axis t L') := by
  have h1 := h.ho
  exact closed_set (closed_set (closed_self H) (outO_bel _ _)) (wkO_bel _ _ _ (by simpa using h1))
theorem Wk.app (h : Wk H idw ido l axis t L) (G : List Ob) : Wk (H ++ G) idw ido l axis t L :=
  ⟨h.ne, by rw [List.getElem?_append_left h.hw]; exact h.w, by rw [List.getElem?_append_left h.ho]; exact h.o⟩
theorem Wk.wst_app (h : Wk H idw ido l axis t L) (L' : List Nat) (G : List Ob) : wst (H ++ G) idw ido l axis t L' = wst H idw ido l axis t L' ++ G := by
  have h1 := h.hw
  have h2 := h.ho
  unfold wst
  rw [List.set_append_left _ _ h2, List.set_append_left _ _ (by simpa using h1)]
end
def ks_77 : Nat → List Nat
  | 0 => [0, 1]
  | 1 => [0, 1, 13]
  | 2 => [0, 1]
  | 3 => [4]
  | _ => []
def mu_77 : List Nat := []
def in_77 : List Nat := [0, 1]
theorem root_A (l : List Nd) (hg : Good l l.length) (hN : l.length ≤ 100000) (axis : Int) (t : Ts) (idw ido : Nat) (L : List Nat) (n : Nat) (hn : n < l.length) (H : Heap) (K : V → Heap → Prop) (hW : Wk H idw ido l axis t L) (hk : K (.d (.i .i64 (rt l n))) H) : ACalls Tryd.prog 77 [.pt idw 0 0 0, .d (.i .i64 n)] H K := by
  have hw := hW.w
  have hwl := hW.hw
  rw [wkO] at hw
  refine ACalls_of Tryd.func77 rfl in_77 (Nat.le_of_ble_eq_true rfl) ?_
  intro F hF
  simp (dsimp := false) only [go_sem, Nat.reduceAdd, Nat.reduceBEq, Nat.reduceEqDiff, Nat.reduceLT, Nat.reduceLeDiff, Nat.reduceMul, Int.reduceToNat, reduceCtorEq, ↓reduceIte, Tryd.ntmps77, Tryd.results77, ks_77, mu_77, ti_ag3, ti_ag34, ti_fl73_0, ti_fl101_5, ti_sl34, ndD, ndV, hw, hwl, in_77] at hF
  subst hF
  repeat' (first | with_reducible (first | refine And.intro ?_ ?_ | intro _ | refine AWp_seq ?_ | refine AWp_block ?_ | (refine hKv _ _ (AWp_nop ?_); clear hKv Kv) | (refine hKA ?_; clear hKA hKB KA KB) | (refine hKB ?_; clear hKA hKB KA KB) | refine AWp_skipN ?_ | refine AWp_exitO (by repeat (first | exact Out.hit | apply Out.thenA | apply Out.out rfl)) ?_) | (with_reducible (first | (refine hKv _ _ ?_; clear hKv Kv) | ((first | refine AWp_regC mu_77 ks_77 ?_ | refine AWp_regE mu_77 ks_77 ?_); intro Kv hKv) | refine AWp_retR ?_); try simp (dsimp := false) only [go_sem, Nat.reduceAdd, Nat.reduceBEq, Nat.reduceEqDiff, Nat.reduceLT, Nat.reduceLeDiff, Nat.reduceMul, Int.reduceToNat, reduceCtorEq, ↓reduceIte, Tryd.ntmps77, Tryd.results77, ks_77, mu_77, ti_ag3, ti_ag34, ti_fl73_0, ti_fl101_5, ti_sl34, ndD, ndV, hw, hwl]) | (refine AWp_condC rfl ?_; intro KA KB hKA hKB; try simp only [onB_true, onB_false, onB_dec, onB_ndec, onB_not, onB_and, onB_or]) | (refine AWp_condA rfl ?_ ?_) | with_reducible (first | refine onB_of ?_ ?_ | rfl) | omega)
  refine AWp_while0 (fun m : Nat => m < l.length ∧ rt l m = rt l n) (fun m => [(0, .pt idw 0 0 0), (1, .d (.i .i64 m))]) (fun m => m) n ⟨hn, rfl⟩ ?_ ?_
  · simp (dsimp := false) only [go_sem, Nat.reduceAdd, Nat.reduceBEq, Nat.reduceEqDiff, Nat.reduceLT, Nat.reduceLeDiff, Nat.reduceMul, Int.reduceToNat, reduceCtorEq, ↓reduceIte, Tryd.ntmps77, Tryd.results77, ks_77, mu_77, ti_ag3, ti_ag34, ti_fl73_0, ti_fl101_5, ti_sl34, ndD, ndV, hw, hwl]
    first | done | (simp; done) | (simp [hwl]; done)
  rintro m ⟨hm, hr⟩
  obtain ⟨x, hx⟩ : ∃ x, l[m]? = some x := ⟨l[m], List.getElem?_eq_getElem hm⟩
  have b := good_bd hg m hm
  have hup := fun h => rt_up hg hm h
  have htop := fun h => rt_top (l := l) (n := m) h
  rw [gd_of_get hx] at b hup htop
  have n0 : ((0 : Int) ≤ (m : Int)) = True := eq_true (by omega)
  have n1 : ((m : Int) < (l.length : Int)) = True := eq_true (by omega)
  by_cases hu : 0 ≤ x.up
  · obtain ⟨u, hux⟩ : ∃ u : Nat, x.up = u := ⟨x.up.toNat, by omega⟩
    have hup := hup hu
    rw [hux, Int.toNat_natCast] at hup
    have hu' : ((0 : Int) ≤ (u : Int)) = True := eq_true (by omega)
    repeat' (first | with_reducible (first | refine And.intro ?_ ?_ | intro _ | refine AWp_seq ?_ | refine AWp_block ?_ | (refine hKv _ _ (AWp_nop ?_); clear hKv Kv) | (refine hKA ?_; clear hKA hKB KA KB) | (refine hKB ?_; clear hKA hKB KA KB) | refine AWp_skipN ?_ | refine AWp_exitO (by repeat (first | exact Out.hit | apply Out.thenA | apply Out.out rfl)) ?_) | (with_reducible (first | (refine hKv _ _ ?_; clear hKv Kv) | ((first | refine AWp_regC mu_77 ks_77 ?_ | refine AWp_regE mu_77 ks_77 ?_); intro Kv hKv) | refine AWp_retR ?_); try simp (dsimp := false) only [go_sem, Nat.reduceAdd, Nat.reduceBEq, Nat.reduceEqDiff, Nat.reduceLT, Nat.reduceLeDiff, Nat.reduceMul, Int.reduceToNat, reduceCtorEq, ↓reduceIte, Tryd.ntmps77, Tryd.results77, ks_77, mu_77, ti_ag3, ti_ag34, ti_fl73_0, ti_fl101_5, ti_sl34, ndD, ndV, hw, hwl, hx, n0, n1, hux, hu']) | (refine AWp_condC rfl ?_; intro KA KB hKA hKB; try simp only [onB_true, onB_false, onB_dec, onB_ndec, onB_not, onB_and, onB_or]) | (refine AWp_condA rfl ?_ ?_) | with_reducible (first | refine onB_of ?_ ?_ | rfl) | omega)
    all_goals first
      | omega
      | exact ⟨u, ⟨by omega, by omega⟩, by omega, by (repeat' (refine And.intro ?_ ?_)) <;> first | rfl | omega | (simp; done) | (simp; omega)⟩
  · have hu' : ((0 : Int) ≤ x.up) = False := eq_false hu
    have htop := htop (by omega)
    have e : rt l n = m := by omega
    rw [e] at hk
    repeat' (first | with_reducible (first | refine And.intro ?_ ?_ | intro _ | refine AWp_seq ?_ | refine AWp_block ?_ | (refine hKv _ _ (AWp_nop ?_); clear hKv Kv) | (refine hKA ?_; clear hKA hKB KA KB) | (refine hKB ?_; clear hKA hKB KA KB) | refine AWp_skipN ?_ | refine AWp_exitO (by repeat (first | exact Out.hit | apply Out.thenA | apply Out.out rfl)) ?_) | (with_reducible (first | (refine hKv _ _ ?_; clear hKv Kv) | ((first | refine AWp_regC mu_77 ks_77 ?_ | refine AWp_regE mu_77 ks_77 ?_); intro Kv hKv) | refine AWp_retR ?_); try simp (dsimp := false) only [go_sem, Nat.reduceAdd, Nat.reduceBEq, Nat.reduceEqDiff, Nat.reduceLT, Nat.reduceLeDiff, Nat.reduceMul, Int.reduceToNat, reduceCtorEq, ↓reduceIte, Tryd.ntmps77, Tryd.results77, ks_77, mu_77, ti_ag3, ti_ag34, ti_fl73_0, ti_fl101_5, ti_sl34, ndD, ndV, hw, hwl, hx, n0, n1, hu']) | (refine AWp_condC rfl ?_; intro KA KB hKA hKB; try simp only [onB_true, onB_false, onB_dec, onB_ndec, onB_not, onB_and, onB_or]) | (refine AWp_condA rfl ?_ ?_) | with_reducible (first | refine onB_of ?_ ?_ | rfl) | omega)
    all_goals first
      | omega
      | exact keepD hk rfl
end Go.Proofs.YtpgdflhcmijaiaaDoor
