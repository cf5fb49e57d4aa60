/- The core: the small functions of its check and of the reference's, walked. No condition but that the tables of package unicode/utf8 are there. -/
import Derived.Test.YtppalmoicjogaaaDoorC20
import Derived.Test.YtppalmoicjogaaaDoorC18
import Derived.Test.YtppalmoicjogaaaDoorC23
import Derived.Test.YtppalmoicjogaaaDoorC19
set_option linter.all false
set_option linter.unusedSimpArgs false
set_option linter.unusedVariables false
namespace Go.Proofs.YtppalmoicjogaaaDoor
open Go Go.Proofs.YtppalmoicjogaaaDoor.Ab
variable [Glo] [U8]
set_option maxHeartbeats 4000000
set_option maxRecDepth 20000
def coreMany (k : Int) : Int := if k = 1 ∨ k = 2 ∨ k = 11 then 0 else if k = 9 ∨ k = 10 then 1 else if k = 4 ∨ k = 5 then 2 else if k = 6 ∨ k = 7 then 3 else -1
def varB (s : List UInt8) : Bool := decide (1 ≤ s.length ∧ s.length ≤ 20)
def stepB (ax tk : Int) : Bool := decide (1 ≤ ax ∧ ax ≤ 12 ∧ 1 ≤ tk ∧ tk ≤ 5)
def madeQ (n : Int) (s : List UInt8) : Int := if n = 1 ∨ n = 2 then nameFault s else if n = 3 then 0 else 3
def bindQ (nm at_ : List UInt8) (isLet : Bool) : Int := if varB nm = false then 10 else if isLet = true ∨ at_ = [] then 0 else if varB at_ = false then 10 else if at_ = nm then 7 else 0
def ks_45 : Nat → List Nat
  | 0 => [0]
  | 1 => [3]
  | 2 => [3, 4]
  | 3 => [3, 4]
  | 4 => [3, 4]
  | 5 => [2]
  | 6 => [3, 8]
  | 7 => [3, 8]
  | 8 => [2]
  | 9 => [3, 11]
  | 10 => [3, 11]
  | 11 => [2]
  | 12 => [3, 14]
  | 13 => [14]
  | 14 => [2]
  | 15 => [2]
  | _ => []
def mu_45 : List Nat := []
def in_45 : List Nat := [0]
theorem many_A (k : Int) (H : Heap) (K : V → Heap → Prop) (hk : K (.d (.i .i64 (coreMany k))) H) : ACalls Tryd.prog 45 [.d (.i .i64 k)] H K := by
  refine ACalls_of Tryd.func45 rfl in_45 (Nat.le_of_ble_eq_true rfl) ?_
  intro F hF
  simp (dsimp := false) only [go_sem, Nat.reduceAdd, Nat.reduceBEq, Nat.reduceEqDiff, Nat.reduceLT, Nat.reduceLeDiff, Nat.reduceMul, Int.reduceToNat, reduceCtorEq, ↓reduceIte, Tryd.ntmps45, Tryd.results45, ks_45, mu_45, in_45] at hF
  subst hF
  repeat' (first | with_reducible (first | refine And.intro ?_ ?_ | intro _ | refine AWp_seq ?_ | refine AWp_block ?_ | (refine hKv _ _ (AWp_nop ?_); clear hKv Kv) | (refine hKA ?_; clear hKA hKB KA KB) | (refine hKB ?_; clear hKA hKB KA KB) | refine AWp_skipN ?_ | refine AWp_exitO (by repeat (first | exact Out.hit | apply Out.thenA | apply Out.out rfl)) ?_) | (with_reducible (first | (refine hKv _ _ ?_; clear hKv Kv) | ((first | refine AWp_regC mu_45 ks_45 ?_ | refine AWp_regE mu_45 ks_45 ?_); intro Kv hKv) | refine AWp_retR ?_); try simp (dsimp := false) only [go_sem, Nat.reduceAdd, Nat.reduceBEq, Nat.reduceEqDiff, Nat.reduceLT, Nat.reduceLeDiff, Nat.reduceMul, Int.reduceToNat, reduceCtorEq, ↓reduceIte, Tryd.ntmps45, Tryd.results45, ks_45, mu_45]) | (refine AWp_condC rfl ?_; intro KA KB hKA hKB; try simp only [onB_true, onB_false, onB_dec, onB_ndec, onB_not, onB_and, onB_or]) | (refine AWp_condA rfl ?_ ?_) | with_reducible (first | refine onB_of ?_ ?_ | rfl) | omega)
  all_goals first
    | exact keepD hk (by simp [coreMany, *])
def ks_47 : Nat → List Nat
  | 0 => [0]
  | 1 => [3]
  | 2 => [3, 4]
  | 3 => [3, 4]
  | 4 => [3, 4]
  | 5 => [2]
  | 6 => [3, 8]
  | 7 => [3, 8]
  | 8 => [2]
  | 9 => [3, 11]
  | 10 => [3, 11]
  | 11 => [2]
  | 12 => [3, 14]
  | 13 => [14]
  | 14 => [2]
  | 15 => [2]
  | _ => []
def mu_47 : List Nat := []
def in_47 : List Nat := [0]
theorem argCount_A (k : Int) (H : Heap) (K : V → Heap → Prop) (hk : K (.d (.i .i64 (coreMany k))) H) : ACalls Tryd.prog 47 [.d (.i .i64 k)] H K := by
  refine ACalls_of Tryd.func47 rfl in_47 (Nat.le_of_ble_eq_true rfl) ?_
  intro F hF
  simp (dsimp := false) only [go_sem, Nat.reduceAdd, Nat.reduceBEq, Nat.reduceEqDiff, Nat.reduceLT, Nat.reduceLeDiff, Nat.reduceMul, Int.reduceToNat, reduceCtorEq, ↓reduceIte, Tryd.ntmps47, Tryd.results47, ks_47, mu_47, in_47] at hF
  subst hF
  repeat' (first | with_reducible (first | refine And.intro ?_ ?_ | intro _ | refine AWp_seq ?_ | refine AWp_block ?_ | (refine hKv _ _ (AWp_nop ?_); clear hKv Kv) | (refine hKA ?_; clear hKA hKB KA KB) | (refine hKB ?_; clear hKA hKB KA KB) | refine AWp_skipN ?_ | refine AWp_exitO (by repeat (first | exact Out.hit | apply Out.thenA | apply Out.out rfl)) ?_) | (with_reducible (first | (refine hKv _ _ ?_; clear hKv Kv) | ((first | refine AWp_regC mu_47 ks_47 ?_ | refine AWp_regE mu_47 ks_47 ?_); intro Kv hKv) | refine AWp_retR ?_); try simp (dsimp := false) only [go_sem, Nat.reduceAdd, Nat.reduceBEq, Nat.reduceEqDiff, Nat.reduceLT, Nat.reduceLeDiff, Nat.reduceMul, Int.reduceToNat, reduceCtorEq, ↓reduceIte, Tryd.ntmps47, Tryd.results47, ks_47, mu_47]) | (refine AWp_condC rfl ?_; intro KA KB hKA hKB; try simp only [onB_true, onB_false, onB_dec, onB_ndec, onB_not, onB_and, onB_or]) | (refine AWp_condA rfl ?_ ?_) | with_reducible (first | refine onB_of ?_ ?_ | rfl) | omega)
  all_goals first
    | exact keepD hk (by simp [coreMany, *])
def ks_85 : Nat → List Nat
  | 0 => [0]
  | 1 => [2]
  | _ => []
def mu_85 : List Nat := []
def in_85 : List Nat := [0]
theorem name_A (s : List UInt8) (hs : s.length ≤ 9223372036854775807) (H : Heap) (K : V → Heap → Prop) (hk : K (.d (.b (varB s))) H) : ACalls Tryd.prog 85 [.d (.s s)] H K := by
  by_cases h : s = []
  · have h0 : (s = []) = True := eq_true h
    refine ACalls_of Tryd.func85 rfl in_85 (Nat.le_of_ble_eq_true rfl) ?_
    intro F hF
    simp (dsimp := false) only [go_sem, Nat.reduceAdd, Nat.reduceBEq, Nat.reduceEqDiff, Nat.reduceLT, Nat.reduceLeDiff, Nat.reduceMul, Int.reduceToNat, reduceCtorEq, ↓reduceIte, Tryd.ntmps85, Tryd.results85, ks_85, mu_85, ti_st9, h0, in_85] at hF
    subst hF
    repeat' (first | with_reducible (first | refine And.intro ?_ ?_ | intro _ | refine AWp_seq ?_ | refine AWp_block ?_ | (refine hKv _ _ (AWp_nop ?_); clear hKv Kv) | (refine hKA ?_; clear hKA hKB KA KB) | (refine hKB ?_; clear hKA hKB KA KB) | refine AWp_skipN ?_ | refine AWp_exitO (by repeat (first | exact Out.hit | apply Out.thenA | apply Out.out rfl)) ?_) | (with_reducible (first | (refine hKv _ _ ?_; clear hKv Kv) | ((first | refine AWp_regC mu_85 ks_85 ?_ | refine AWp_regE mu_85 ks_85 ?_); intro Kv hKv) | refine AWp_retR ?_); try simp (dsimp := false) only [go_sem, Nat.reduceAdd, Nat.reduceBEq, Nat.reduceEqDiff, Nat.reduceLT, Nat.reduceLeDiff, Nat.reduceMul, Int.reduceToNat, reduceCtorEq, ↓reduceIte, Tryd.ntmps85, Tryd.results85, ks_85, mu_85, ti_st9, h0]) | (refine AWp_condC rfl ?_; intro KA KB hKA hKB; try simp only [onB_true, onB_false, onB_dec, onB_ndec, onB_not, onB_and, onB_or]) | (refine AWp_condA rfl ?_ ?_) | with_reducible (first | refine onB_of ?_ ?_ | rfl) | omega)
    all_goals first
      | exact keepD hk (by subst h; rfl)
  · have h0 : (s = []) = False := eq_false h
    have hp : 1 ≤ s.length := by cases s with | nil => exact absurd rfl h | cons x l => simp
    by_cases h2 : s.length ≤ 20
    · have h3 : ((s.length : Int) ≤ 20) = True := eq_true (by omega)
      refine ACalls_of Tryd.func85 rfl in_85 (Nat.le_of_ble_eq_true rfl) ?_
      intro F hF
      simp (dsimp := false) only [go_sem, Nat.reduceAdd, Nat.reduceBEq, Nat.reduceEqDiff, Nat.reduceLT, Nat.reduceLeDiff, Nat.reduceMul, Int.reduceToNat, reduceCtorEq, ↓reduceIte, Tryd.ntmps85, Tryd.results85, ks_85, mu_85, ti_st9, h0, h3, in_85] at hF
      subst hF
      repeat' (first | with_reducible (first | refine And.intro ?_ ?_ | intro _ | refine AWp_seq ?_ | refine AWp_block ?_ | (refine hKv _ _ (AWp_nop ?_); clear hKv Kv) | (refine hKA ?_; clear hKA hKB KA KB) | (refine hKB ?_; clear hKA hKB KA KB) | refine AWp_skipN ?_ | refine AWp_exitO (by repeat (first | exact Out.hit | apply Out.thenA | apply Out.out rfl)) ?_) | (with_reducible (first | (refine hKv _ _ ?_; clear hKv Kv) | ((first | refine AWp_regC mu_85 ks_85 ?_ | refine AWp_regE mu_85 ks_85 ?_); intro Kv hKv) | refine AWp_retR ?_); try simp (dsimp := false) only [go_sem, Nat.reduceAdd, Nat.reduceBEq, Nat.reduceEqDiff, Nat.reduceLT, Nat.reduceLeDiff, Nat.reduceMul, Int.reduceToNat, reduceCtorEq, ↓reduceIte, Tryd.ntmps85, Tryd.results85, ks_85, mu_85, ti_st9, h0, h3]) | (refine AWp_condC rfl ?_; intro KA KB hKA hKB; try simp only [onB_true, onB_false, onB_dec, onB_ndec, onB_not, onB_and, onB_or]) | (refine AWp_condA rfl ?_ ?_) | with_reducible (first | refine onB_of ?_ ?_ | rfl) | omega)
      all_goals first
        | exact keepD hk (by rw [varB, decide_eq_true ⟨hp, h2⟩])
    · have h3 : ((s.length : Int) ≤ 20) = False := eq_false (by omega)
      refine ACalls_of Tryd.func85 rfl in_85 (Nat.le_of_ble_eq_true rfl) ?_
      intro F hF
      simp (dsimp := false) only [go_sem, Nat.reduceAdd, Nat.reduceBEq, Nat.reduceEqDiff, Nat.reduceLT, Nat.reduceLeDiff, Nat.reduceMul, Int.reduceToNat, reduceCtorEq, ↓reduceIte, Tryd.ntmps85, Tryd.results85, ks_85, mu_85, ti_st9, h0, h3, in_85] at hF
      subst hF
      repeat' (first | with_reducible (first | refine And.intro ?_ ?_ | intro _ | refine AWp_seq ?_ | refine AWp_block ?_ | (refine hKv _ _ (AWp_nop ?_); clear hKv Kv) | (refine hKA ?_; clear hKA hKB KA KB) | (refine hKB ?_; clear hKA hKB KA KB) | refine AWp_skipN ?_ | refine AWp_exitO (by repeat (first | exact Out.hit | apply Out.thenA | apply Out.out rfl)) ?_) | (with_reducible (first | (refine hKv _ _ ?_; clear hKv Kv) | ((first | refine AWp_regC mu_85 ks_85 ?_ | refine AWp_regE mu_85 ks_85 ?_); intro Kv hKv) | refine AWp_retR ?_); try simp (dsimp := false) only [go_sem, Nat.reduceAdd, Nat.reduceBEq, Nat.reduceEqDiff, Nat.reduceLT, Nat.reduceLeDiff, Nat.reduceMul, Int.reduceToNat, reduceCtorEq, ↓reduceIte, Tryd.ntmps85, Tryd.results85, ks_85, mu_85, ti_st9, h0, h3]) | (refine AWp_condC rfl ?_; intro KA KB hKA hKB; try simp only [onB_true, onB_false, onB_dec, onB_ndec, onB_not, onB_and, onB_or]) | (refine AWp_condA rfl ?_ ?_) | with_reducible (first | refine onB_of ?_ ?_ | rfl) | omega)
      all_goals first
        | exact keepD hk (by rw [varB, decide_eq_false (fun h => h2 h.2)])
def ks_88 : Nat → List Nat
  | 0 => [0]
  | 1 => [2]
  | _ => []
def mu_88 : List Nat := []
def in_88 : List Nat := [0]
theorem varMay_A (s : List UInt8) (hs : s.length ≤ 9223372036854775807) (H : Heap) (K : V → Heap → Prop) (hk : K (.d (.b (varB s))) H) : ACalls Tryd.prog 88 [.d (.s s)] H K := by
  refine ACalls_of Tryd.func88 rfl in_88 (Nat.le_of_ble_eq_true rfl) ?_
  intro F hF
  simp (dsimp := false) only [go_sem, Nat.reduceAdd, Nat.reduceBEq, Nat.reduceEqDiff, Nat.reduceLT, Nat.reduceLeDiff, Nat.reduceMul, Int.reduceToNat, reduceCtorEq, ↓reduceIte, Tryd.ntmps88, Tryd.results88, ks_88, mu_88, ti_hb17, ti_st9, in_88] at hF
  subst hF
  repeat' (first | with_reducible (first | refine And.intro ?_ ?_ | intro _ | refine AWp_seq ?_ | refine AWp_block ?_ | (refine hKv _ _ (AWp_nop ?_); clear hKv Kv) | (refine hKA ?_; clear hKA hKB KA KB) | (refine hKB ?_; clear hKA hKB KA KB) | refine AWp_skipN ?_ | refine AWp_exitO (by repeat (first | exact Out.hit | apply Out.thenA | apply Out.out rfl)) ?_) | ((first | with_reducible (first | (refine hKv _ _ ?_; clear hKv Kv) | ((first | refine AWp_regC mu_88 ks_88 ?_ | refine AWp_regE mu_88 ks_88 ?_); intro Kv hKv) | refine AWp_retR ?_) | refine in_A _ _ _ _ _ ?_); try simp (dsimp := false) only [go_sem, Nat.reduceAdd, Nat.reduceBEq, Nat.reduceEqDiff, Nat.reduceLT, Nat.reduceLeDiff, Nat.reduceMul, Int.reduceToNat, reduceCtorEq, ↓reduceIte, Tryd.ntmps88, Tryd.results88, ks_88, mu_88, ti_hb17, ti_st9]) | (refine AWp_condC rfl ?_; intro KA KB hKA hKB; try simp only [onB_true, onB_false, onB_dec, onB_ndec, onB_not, onB_and, onB_or]) | (refine AWp_condA rfl ?_ ?_) | with_reducible (first | refine onB_of ?_ ?_ | rfl) | omega)
  all_goals first
    | exact keepD hk (by unfold varB; congr 2; simp only [decide_eq_decide]; omega)
    | exact keepD hk (by unfold varB; congr 3; simp only [eq_iff_iff]; omega)
def tsV (tk : Int) (tn : List UInt8) : V := .ag [.d (.i .i64 tk), .d (.s tn)]
def ks_86 : Nat → List Nat
  | 0 => [0, 3]
  | 1 => [20]
  | 2 => [4]
  | 3 => [4]
  | _ => []
def mu_86 : List Nat := []
def in_86 : List Nat := [0, 1]
theorem step_A (ax tk : Int) (tn : List UInt8) (H : Heap) (K : V → Heap → Prop) (hk : K (.d (.i .i64 (if stepB ax tk = true then 0 else 3))) H) : ACalls Tryd.prog 86 [.d (.i .i64 ax), tsV tk tn] H K := by
  refine ACalls_of Tryd.func86 rfl in_86 (Nat.le_of_ble_eq_true rfl) ?_
  intro F hF
  simp (dsimp := false) only [go_sem, Nat.reduceAdd, Nat.reduceBEq, Nat.reduceEqDiff, Nat.reduceLT, Nat.reduceLeDiff, Nat.reduceMul, Int.reduceToNat, reduceCtorEq, ↓reduceIte, Tryd.ntmps86, Tryd.results86, ks_86, mu_86, ti_ag3, ti_fl33_0, tsV, in_86] at hF
  subst hF
  repeat' (first | with_reducible (first | refine And.intro ?_ ?_ | intro _ | refine AWp_seq ?_ | refine AWp_block ?_ | (refine hKv _ _ (AWp_nop ?_); clear hKv Kv) | (refine hKA ?_; clear hKA hKB KA KB) | (refine hKB ?_; clear hKA hKB KA KB) | refine AWp_skipN ?_ | refine AWp_exitO (by repeat (first | exact Out.hit | apply Out.thenA | apply Out.out rfl)) ?_) | (with_reducible (first | (refine hKv _ _ ?_; clear hKv Kv) | ((first | refine AWp_regC mu_86 ks_86 ?_ | refine AWp_regE mu_86 ks_86 ?_); intro Kv hKv) | refine AWp_retR ?_); try simp (dsimp := false) only [go_sem, Nat.reduceAdd, Nat.reduceBEq, Nat.reduceEqDiff, Nat.reduceLT, Nat.reduceLeDiff, Nat.reduceMul, Int.reduceToNat, reduceCtorEq, ↓reduceIte, Tryd.ntmps86, Tryd.results86, ks_86, mu_86, ti_ag3, ti_fl33_0, tsV]) | (refine AWp_condC rfl ?_; intro KA KB hKA hKB; try simp only [onB_true, onB_false, onB_dec, onB_ndec, onB_not, onB_and, onB_or]) | (refine AWp_condA rfl ?_ ?_) | with_reducible (first | refine onB_of ?_ ?_ | rfl) | omega)
  all_goals first
    | exact keepD hk (by rw [stepB]; first | rw [decide_eq_true (by omega)]; rfl | rw [decide_eq_false (by omega)]; rfl)
def ks_43 : Nat → List Nat
  | 0 => [0, 3]
  | 1 => [4]
  | _ => []
def mu_43 : List Nat := []
def in_43 : List Nat := [0, 1]
theorem stepMay_A (ax tk : Int) (tn : List UInt8) (H : Heap) (K : V → Heap → Prop) (hk : K (.d (.b (stepB ax tk))) H) : ACalls Tryd.prog 43 [.d (.i .i64 ax), tsV tk tn] H K := by
  refine ACalls_of Tryd.func43 rfl in_43 (Nat.le_of_ble_eq_true rfl) ?_
  intro F hF
  simp (dsimp := false) only [go_sem, Nat.reduceAdd, Nat.reduceBEq, Nat.reduceEqDiff, Nat.reduceLT, Nat.reduceLeDiff, Nat.reduceMul, Int.reduceToNat, reduceCtorEq, ↓reduceIte, Tryd.ntmps43, Tryd.results43, ks_43, mu_43, ti_ag3, ti_fl33_0, ti_hb17, tsV, in_43] at hF
  subst hF
  repeat' (first | with_reducible (first | refine And.intro ?_ ?_ | intro _ | refine AWp_seq ?_ | refine AWp_block ?_ | (refine hKv _ _ (AWp_nop ?_); clear hKv Kv) | (refine hKA ?_; clear hKA hKB KA KB) | (refine hKB ?_; clear hKA hKB KA KB) | refine AWp_skipN ?_ | refine AWp_exitO (by repeat (first | exact Out.hit | apply Out.thenA | apply Out.out rfl)) ?_) | ((first | with_reducible (first | (refine hKv _ _ ?_; clear hKv Kv) | ((first | refine AWp_regC mu_43 ks_43 ?_ | refine AWp_regE mu_43 ks_43 ?_); intro Kv hKv) | refine AWp_retR ?_) | refine in_A _ _ _ _ _ ?_); try simp (dsimp := false) only [go_sem, Nat.reduceAdd, Nat.reduceBEq, Nat.reduceEqDiff, Nat.reduceLT, Nat.reduceLeDiff, Nat.reduceMul, Int.reduceToNat, reduceCtorEq, ↓reduceIte, Tryd.ntmps43, Tryd.results43, ks_43, mu_43, ti_ag3, ti_fl33_0, ti_hb17, tsV]) | (refine AWp_condC rfl ?_; intro KA KB hKA hKB; try simp only [onB_true, onB_false, onB_dec, onB_ndec, onB_not, onB_and, onB_or]) | (refine AWp_condA rfl ?_ ?_) | with_reducible (first | refine onB_of ?_ ?_ | rfl) | omega)
  all_goals first
    | exact keepD hk (by rw [stepB]; first | rw [decide_eq_true (by omega)]; rfl | rw [decide_eq_false (by omega)]; rfl)
    | exact keepD hk (by rw [stepB]; rename_i h; rw [decide_eq_false (fun h' => h ⟨h'.1, h'.2.1⟩)])
    | exact keepD hk (by rw [stepB]; rename_i h; simp only [h.1, h.2, true_and, Bool.decide_and])
    | exact keepD hk (by rw [stepB]; symm; rw [decide_eq_false_iff_not]; intro h; simp_all)
def ks_61 : Nat → List Nat
  | 0 => [0, 1]
  | 1 => [0, 1, 14]
  | 2 => [4]
  | 3 => [1, 16]
  | 4 => [4]
  | 5 => [4]
  | _ => []
def mu_61 : List Nat := []
def in_61 : List Nat := [0, 1]
theorem made_A (n : Int) (s : List UInt8) (hs : s.length ≤ 9223372036854775807) (H : Heap) (K : V → Heap → Prop) (hk : K (.d (.i .i64 (madeQ n s))) H) : ACalls Tryd.prog 61 [.d (.i .i64 n), .d (.s s)] H K := by
  refine ACalls_of Tryd.func61 rfl in_61 (Nat.le_of_ble_eq_true rfl) ?_
  intro F hF
  simp (dsimp := false) only [go_sem, Nat.reduceAdd, Nat.reduceBEq, Nat.reduceEqDiff, Nat.reduceLT, Nat.reduceLeDiff, Nat.reduceMul, Int.reduceToNat, reduceCtorEq, ↓reduceIte, Tryd.ntmps61, Tryd.results61, ks_61, mu_61, ti_hb35, in_61] at hF
  subst hF
  repeat' (first | with_reducible (first | refine And.intro ?_ ?_ | intro _ | refine AWp_seq ?_ | refine AWp_block ?_ | (refine hKv _ _ (AWp_nop ?_); clear hKv Kv) | (refine hKA ?_; clear hKA hKB KA KB) | (refine hKB ?_; clear hKA hKB KA KB) | refine AWp_skipN ?_ | refine AWp_exitO (by repeat (first | exact Out.hit | apply Out.thenA | apply Out.out rfl)) ?_) | ((first | with_reducible (first | (refine hKv _ _ ?_; clear hKv Kv) | ((first | refine AWp_regC mu_61 ks_61 ?_ | refine AWp_regE mu_61 ks_61 ?_); intro Kv hKv) | refine AWp_retR ?_) | refine checkName_A _ hs _ _ ?_); try simp (dsimp := false) only [go_sem, Nat.reduceAdd, Nat.reduceBEq, Nat.reduceEqDiff, Nat.reduceLT, Nat.reduceLeDiff, Nat.reduceMul, Int.reduceToNat, reduceCtorEq, ↓reduceIte, Tryd.ntmps61, Tryd.results61, ks_61, mu_61, ti_hb35]) | (refine AWp_condC rfl ?_; intro KA KB hKA hKB; try simp only [onB_true, onB_false, onB_dec, onB_ndec, onB_not, onB_and, onB_or]) | (refine AWp_condA rfl ?_ ?_) | with_reducible (first | refine onB_of ?_ ?_ | rfl) | omega)
  all_goals first
    | exact keepD hk (by simp_all [madeQ])
    | exact keepD hk (by unfold madeQ; repeat' split; all_goals first | rfl | omega)
def ks_44 : Nat → List Nat
  | 0 => [0, 1]
  | 1 => [1, 5]
  | 2 => [1, 5, 6]
  | 3 => [1, 5, 6]
  | 4 => [4]
  | 5 => [11]
  | 6 => [4]
  | 7 => [4]
  | _ => []
def mu_44 : List Nat := []
def in_44 : List Nat := [0, 1]
theorem makeFault_A (n : Int) (s : List UInt8) (hs : s.length ≤ 9223372036854775807) (H : Heap) (K : V → Heap → Prop) (hk : K (.d (.i .i64 (madeQ n s))) H) : ACalls Tryd.prog 44 [.d (.i .i64 n), .d (.s s)] H K := by
  refine ACalls_of Tryd.func44 rfl in_44 (Nat.le_of_ble_eq_true rfl) ?_
  intro F hF
  simp (dsimp := false) only [go_sem, Nat.reduceAdd, Nat.reduceBEq, Nat.reduceEqDiff, Nat.reduceLT, Nat.reduceLeDiff, Nat.reduceMul, Int.reduceToNat, reduceCtorEq, ↓reduceIte, Tryd.ntmps44, Tryd.results44, ks_44, mu_44, ti_hb84, in_44] at hF
  subst hF
  repeat' (first | with_reducible (first | refine And.intro ?_ ?_ | intro _ | refine AWp_seq ?_ | refine AWp_block ?_ | (refine hKv _ _ (AWp_nop ?_); clear hKv Kv) | (refine hKA ?_; clear hKA hKB KA KB) | (refine hKB ?_; clear hKA hKB KA KB) | refine AWp_skipN ?_ | refine AWp_exitO (by repeat (first | exact Out.hit | apply Out.thenA | apply Out.out rfl)) ?_) | ((first | with_reducible (first | (refine hKv _ _ ?_; clear hKv Kv) | ((first | refine AWp_regC mu_44 ks_44 ?_ | refine AWp_regE mu_44 ks_44 ?_); intro Kv hKv) | refine AWp_retR ?_) | refine nameFault_A _ hs _ _ ?_); try simp (dsimp := false) only [go_sem, Nat.reduceAdd, Nat.reduceBEq, Nat.reduceEqDiff, Nat.reduceLT, Nat.reduceLeDiff, Nat.reduceMul, Int.reduceToNat, reduceCtorEq, ↓reduceIte, Tryd.ntmps44, Tryd.results44, ks_44, mu_44, ti_hb84]) | (refine AWp_condC rfl ?_; intro KA KB hKA hKB; try simp only [onB_true, onB_false, onB_dec, onB_ndec, onB_not, onB_and, onB_or]) | (refine AWp_condA rfl ?_ ?_) | with_reducible (first | refine onB_of ?_ ?_ | rfl) | omega)
  all_goals first
    | exact keepD hk (by simp_all [madeQ])
    | exact keepD hk (by unfold madeQ; repeat' split; all_goals first | rfl | omega)
def ks_49 : Nat → List Nat
  | 0 => [0, 1, 2]
  | 1 => [0, 1, 2, 9]
  | 2 => [6]
  | 3 => [0, 1, 14]
  | 4 => [6]
  | 5 => [0, 1, 17]
  | 6 => [6]
  | 7 => [20]
  | 8 => [6]
  | 9 => [6]
  | _ => []
def mu_49 : List Nat := []
def in_49 : List Nat := [0, 1, 2]
theorem bindFault_A (nm at_ : List UInt8) (isLet : Bool) (hn : nm.length ≤ 9223372036854775807) (ha : at_.length ≤ 9223372036854775807) (H : Heap) (K : V → Heap → Prop) (hk : K (.d (.i .i64 (bindQ nm at_ isLet))) H) : ACalls Tryd.prog 49 [.d (.s nm), .d (.s at_), .d (.b isLet)] H K := by
  unfold bindQ at hk
  cases hv : varB nm with
  | false =>
    rw [hv] at hk
    have e := fun H K hk => varMay_A nm hn H K hk
    rw [hv] at e
    refine ACalls_of Tryd.func49 rfl in_49 (Nat.le_of_ble_eq_true rfl) ?_
    intro F hF
    simp (dsimp := false) only [go_sem, Nat.reduceAdd, Nat.reduceBEq, Nat.reduceEqDiff, Nat.reduceLT, Nat.reduceLeDiff, Nat.reduceMul, Int.reduceToNat, reduceCtorEq, ↓reduceIte, Tryd.ntmps49, Tryd.results49, ks_49, mu_49, ti_hb88, in_49] at hF
    subst hF
    repeat' (first | with_reducible (first | refine And.intro ?_ ?_ | intro _ | refine AWp_seq ?_ | refine AWp_block ?_ | (refine hKv _ _ (AWp_nop ?_); clear hKv Kv) | (refine hKA ?_; clear hKA hKB KA KB) | (refine hKB ?_; clear hKA hKB KA KB) | refine AWp_skipN ?_ | refine AWp_exitO (by repeat (first | exact Out.hit | apply Out.thenA | apply Out.out rfl)) ?_) | ((first | with_reducible (first | (refine hKv _ _ ?_; clear hKv Kv) | ((first | refine AWp_regC mu_49 ks_49 ?_ | refine AWp_regE mu_49 ks_49 ?_); intro Kv hKv) | refine AWp_retR ?_) | refine e _ _ ?_); try simp (dsimp := false) only [go_sem, Nat.reduceAdd, Nat.reduceBEq, Nat.reduceEqDiff, Nat.reduceLT, Nat.reduceLeDiff, Nat.reduceMul, Int.reduceToNat, reduceCtorEq, ↓reduceIte, Tryd.ntmps49, Tryd.results49, ks_49, mu_49, ti_hb88]) | (refine AWp_condC rfl ?_; intro KA KB hKA hKB; try simp only [onB_true, onB_false, onB_dec, onB_ndec, onB_not, onB_and, onB_or]) | (refine AWp_condA rfl ?_ ?_) | with_reducible (first | refine onB_of ?_ ?_ | rfl) | omega)
    all_goals first
      | exact keepD hk rfl
  | true =>
    rw [hv] at hk
    have e := fun H K hk => varMay_A nm hn H K hk
    rw [hv] at e
    cases hL : isLet with
    | true =>
      subst hL
      refine ACalls_of Tryd.func49 rfl in_49 (Nat.le_of_ble_eq_true rfl) ?_
      intro F hF
      simp (dsimp := false) only [go_sem, Nat.reduceAdd, Nat.reduceBEq, Nat.reduceEqDiff, Nat.reduceLT, Nat.reduceLeDiff, Nat.reduceMul, Int.reduceToNat, reduceCtorEq, ↓reduceIte, Tryd.ntmps49, Tryd.results49, ks_49, mu_49, ti_hb88, in_49] at hF
      subst hF
      repeat' (first | with_reducible (first | refine And.intro ?_ ?_ | intro _ | refine AWp_seq ?_ | refine AWp_block ?_ | (refine hKv _ _ (AWp_nop ?_); clear hKv Kv) | (refine hKA ?_; clear hKA hKB KA KB) | (refine hKB ?_; clear hKA hKB KA KB) | refine AWp_skipN ?_ | refine AWp_exitO (by repeat (first | exact Out.hit | apply Out.thenA | apply Out.out rfl)) ?_) | ((first | with_reducible (first | (refine hKv _ _ ?_; clear hKv Kv) | ((first | refine AWp_regC mu_49 ks_49 ?_ | refine AWp_regE mu_49 ks_49 ?_); intro Kv hKv) | refine AWp_retR ?_) | refine e _ _ ?_); try simp (dsimp := false) only [go_sem, Nat.reduceAdd, Nat.reduceBEq, Nat.reduceEqDiff, Nat.reduceLT, Nat.reduceLeDiff, Nat.reduceMul, Int.reduceToNat, reduceCtorEq, ↓reduceIte, Tryd.ntmps49, Tryd.results49, ks_49, mu_49, ti_hb88]) | (refine AWp_condC rfl ?_; intro KA KB hKA hKB; try simp only [onB_true, onB_false, onB_dec, onB_ndec, onB_not, onB_and, onB_or]) | (refine AWp_condA rfl ?_ ?_) | with_reducible (first | refine onB_of ?_ ?_ | rfl) | omega)
      all_goals first
        | exact keepD hk rfl
        | exact keepD hk (by simp)
    | false =>
      subst hL
      by_cases h0 : at_ = []
      · have h1 : (at_ = []) = True := eq_true h0
        refine ACalls_of Tryd.func49 rfl in_49 (Nat.le_of_ble_eq_true rfl) ?_
        intro F hF
        simp (dsimp := false) only [go_sem, Nat.reduceAdd, Nat.reduceBEq, Nat.reduceEqDiff, Nat.reduceLT, Nat.reduceLeDiff, Nat.reduceMul, Int.reduceToNat, reduceCtorEq, ↓reduceIte, Tryd.ntmps49, Tryd.results49, ks_49, mu_49, ti_hb88, h1, in_49] at hF
        subst hF
        repeat' (first | with_reducible (first | refine And.intro ?_ ?_ | intro _ | refine AWp_seq ?_ | refine AWp_block ?_ | (refine hKv _ _ (AWp_nop ?_); clear hKv Kv) | (refine hKA ?_; clear hKA hKB KA KB) | (refine hKB ?_; clear hKA hKB KA KB) | refine AWp_skipN ?_ | refine AWp_exitO (by repeat (first | exact Out.hit | apply Out.thenA | apply Out.out rfl)) ?_) | ((first | with_reducible (first | (refine hKv _ _ ?_; clear hKv Kv) | ((first | refine AWp_regC mu_49 ks_49 ?_ | refine AWp_regE mu_49 ks_49 ?_); intro Kv hKv) | refine AWp_retR ?_) | refine e _ _ ?_); try simp (dsimp := false) only [go_sem, Nat.reduceAdd, Nat.reduceBEq, Nat.reduceEqDiff, Nat.reduceLT, Nat.reduceLeDiff, Nat.reduceMul, Int.reduceToNat, reduceCtorEq, ↓reduceIte, Tryd.ntmps49, Tryd.results49, ks_49, mu_49, ti_hb88, h1]) | (refine AWp_condC rfl ?_; intro KA KB hKA hKB; try simp only [onB_true, onB_false, onB_dec, onB_ndec, onB_not, onB_and, onB_or]) | (refine AWp_condA rfl ?_ ?_) | with_reducible (first | refine onB_of ?_ ?_ | rfl) | omega)
        all_goals first
          | exact keepD hk (by simp [h0])
      · have h1 : (at_ = []) = False := eq_false h0
        have e2 := fun H K hk => varMay_A at_ ha H K hk
        cases hw : varB at_ with
        | false =>
          rw [hw] at e2 hk
          refine ACalls_of Tryd.func49 rfl in_49 (Nat.le_of_ble_eq_true rfl) ?_
          intro F hF
          simp (dsimp := false) only [go_sem, Nat.reduceAdd, Nat.reduceBEq, Nat.reduceEqDiff, Nat.reduceLT, Nat.reduceLeDiff, Nat.reduceMul, Int.reduceToNat, reduceCtorEq, ↓reduceIte, Tryd.ntmps49, Tryd.results49, ks_49, mu_49, ti_hb88, h1, in_49] at hF
          subst hF
          repeat' (first | with_reducible (first | refine And.intro ?_ ?_ | intro _ | refine AWp_seq ?_ | refine AWp_block ?_ | (refine hKv _ _ (AWp_nop ?_); clear hKv Kv) | (refine hKA ?_; clear hKA hKB KA KB) | (refine hKB ?_; clear hKA hKB KA KB) | refine AWp_skipN ?_ | refine AWp_exitO (by repeat (first | exact Out.hit | apply Out.thenA | apply Out.out rfl)) ?_) | ((first | with_reducible (first | (refine hKv _ _ ?_; clear hKv Kv) | ((first | refine AWp_regC mu_49 ks_49 ?_ | refine AWp_regE mu_49 ks_49 ?_); intro Kv hKv) | refine AWp_retR ?_) | refine e _ _ ?_ | refine e2 _ _ ?_); try simp (dsimp := false) only [go_sem, Nat.reduceAdd, Nat.reduceBEq, Nat.reduceEqDiff, Nat.reduceLT, Nat.reduceLeDiff, Nat.reduceMul, Int.reduceToNat, reduceCtorEq, ↓reduceIte, Tryd.ntmps49, Tryd.results49, ks_49, mu_49, ti_hb88, h1]) | (refine AWp_condC rfl ?_; intro KA KB hKA hKB; try simp only [onB_true, onB_false, onB_dec, onB_ndec, onB_not, onB_and, onB_or]) | (refine AWp_condA rfl ?_ ?_) | with_reducible (first | refine onB_of ?_ ?_ | rfl) | omega)
          all_goals first
            | exact keepD hk (by simp [h0])
        | true =>
          rw [hw] at e2 hk
          refine ACalls_of Tryd.func49 rfl in_49 (Nat.le_of_ble_eq_true rfl) ?_
          intro F hF
          simp (dsimp := false) only [go_sem, Nat.reduceAdd, Nat.reduceBEq, Nat.reduceEqDiff, Nat.reduceLT, Nat.reduceLeDiff, Nat.reduceMul, Int.reduceToNat, reduceCtorEq, ↓reduceIte, Tryd.ntmps49, Tryd.results49, ks_49, mu_49, ti_hb88, h1, in_49] at hF
          subst hF
          repeat' (first | with_reducible (first | refine And.intro ?_ ?_ | intro _ | refine AWp_seq ?_ | refine AWp_block ?_ | (refine hKv _ _ (AWp_nop ?_); clear hKv Kv) | (refine hKA ?_; clear hKA hKB KA KB) | (refine hKB ?_; clear hKA hKB KA KB) | refine AWp_skipN ?_ | refine AWp_exitO (by repeat (first | exact Out.hit | apply Out.thenA | apply Out.out rfl)) ?_) | ((first | with_reducible (first | (refine hKv _ _ ?_; clear hKv Kv) | ((first | refine AWp_regC mu_49 ks_49 ?_ | refine AWp_regE mu_49 ks_49 ?_); intro Kv hKv) | refine AWp_retR ?_) | refine e _ _ ?_ | refine e2 _ _ ?_); try simp (dsimp := false) only [go_sem, Nat.reduceAdd, Nat.reduceBEq, Nat.reduceEqDiff, Nat.reduceLT, Nat.reduceLeDiff, Nat.reduceMul, Int.reduceToNat, reduceCtorEq, ↓reduceIte, Tryd.ntmps49, Tryd.results49, ks_49, mu_49, ti_hb88, h1]) | (refine AWp_condC rfl ?_; intro KA KB hKA hKB; try simp only [onB_true, onB_false, onB_dec, onB_ndec, onB_not, onB_and, onB_or]) | (refine AWp_condA rfl ?_ ?_) | with_reducible (first | refine onB_of ?_ ?_ | rfl) | omega)
          all_goals first
            | exact keepD hk (by simp only [Bool.true_eq_false, Bool.false_eq_true, if_false, false_or, h0]; first | rw [if_pos (by assumption)] | rw [if_neg (by assumption)])
def ks_50 : Nat → List Nat
  | 0 => [0]
  | 1 => [3]
  | 2 => [3, 4]
  | 3 => [3, 4]
  | 4 => [3, 4]
  | 5 => [3, 4]
  | 6 => [3, 4]
  | 7 => [3, 4]
  | 8 => [3, 4]
  | 9 => [3, 4]
  | 10 => [3, 4]
  | 11 => [3, 4]
  | 12 => [3, 4]
  | 13 => [3, 4]
  | 14 => [3, 4]
  | 15 => [3, 4]
  | 16 => [3, 4]
  | 17 => [3, 4]
  | 18 => [3, 4]
  | 19 => [2]
  | 20 => [3, 22]
  | 21 => [3, 22]
  | 22 => [3, 22]
  | 23 => [3, 22]
  | 24 => [3, 22]
  | 25 => [3, 22]
  | 26 => [3, 22]
  | 27 => [3, 22]
  | 28 => [3, 22]
  | 29 => [3, 22]
  | 30 => [3, 22]
  | 31 => [3, 22]
  | 32 => [3, 22]
  | 33 => [3, 22]
  | 34 => [3, 22]
  | 35 => [3, 22]
  | 36 => [3, 22]
  | 37 => [3, 22]
  | 38 => [3, 22]
  | 39 => [3, 22]
  | 40 => [3, 22]
  | 41 => [3, 22]
  | 42 => [3, 22]
  | 43 => [3, 22]
  | 44 => [2]
  | 45 => [47]
  | 46 => [2]
  | 47 => [2]
  | _ => []
def mu_50 : List Nat := []
def in_50 : List Nat := [0]
theorem argsOf_A (s : List UInt8) (H : Heap) (K : V → Heap → Prop) (hk : K (.d (.i .i64 (argsQ s))) H) : ACalls Tryd.prog 50 [.d (.s s)] H K := by
  refine ACalls_of Tryd.func50 rfl in_50 (Nat.le_of_ble_eq_true rfl) ?_
  intro F hF
  simp (dsimp := false) only [go_sem, Nat.reduceAdd, Nat.reduceBEq, Nat.reduceEqDiff, Nat.reduceLT, Nat.reduceLeDiff, Nat.reduceMul, Int.reduceToNat, reduceCtorEq, ↓reduceIte, Tryd.ntmps50, Tryd.results50, ks_50, mu_50, in_50] at hF
  subst hF
  repeat' (first | (refine hKA ?_; clear hKA hKB KA KB; rename_i hq; simp only [hq, decide_true]) | (refine hKB ?_; clear hKA hKB KA KB; rename_i hq; simp only [hq, decide_false]) | with_reducible (first | refine And.intro ?_ ?_ | intro _ | refine AWp_seq ?_ | refine AWp_block ?_ | (refine hKv _ _ (AWp_nop ?_); clear hKv Kv) | (refine hKA ?_; clear hKA hKB KA KB) | (refine hKB ?_; clear hKA hKB KA KB) | refine AWp_skipN ?_ | refine AWp_exitO (by repeat (first | exact Out.hit | apply Out.thenA | apply Out.out rfl)) ?_) | (with_reducible (first | (refine hKv _ _ ?_; clear hKv Kv) | ((first | refine AWp_regC mu_50 ks_50 ?_ | refine AWp_regE mu_50 ks_50 ?_); intro Kv hKv) | refine AWp_retR ?_); try simp (dsimp := false) only [go_sem, Nat.reduceAdd, Nat.reduceBEq, Nat.reduceEqDiff, Nat.reduceLT, Nat.reduceLeDiff, Nat.reduceMul, Int.reduceToNat, reduceCtorEq, ↓reduceIte, Tryd.ntmps50, Tryd.results50, ks_50, mu_50]) | (refine AWp_condC rfl ?_; intro KA KB hKA hKB; try simp only [onB_true, onB_false, onB_dec, onB_ndec, onB_not, onB_and, onB_or]) | (refine AWp_condA rfl ?_ ?_) | with_reducible (first | refine onB_of ?_ ?_ | rfl) | omega)
  all_goals first
    | exact keepD hk (by rename_i hq; rw [hq]; rfl)
    | exact keepD hk (by rw [argsQ_eq]; simp [coreOnes, coreTwos, coreThrees, *])
end Go.Proofs.YtppalmoicjogaaaDoor
