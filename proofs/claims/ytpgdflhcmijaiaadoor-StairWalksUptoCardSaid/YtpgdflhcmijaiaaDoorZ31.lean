/- Steps from nodes: what is refused. No condition but that the tables of package unicode/utf8 are there. -/
import Derived.Test.YtpgdflhcmijaiaaDoorZ25
import Derived.Test.YtpgdflhcmijaiaaDoorZ26
import Derived.Test.YtpgdflhcmijaiaaDoorZ30
import Derived.Test.YtpgdflhcmijaiaaDoorZ28
import Derived.Test.YtpgdflhcmijaiaaDoorZ29
set_option linter.all false
set_option linter.unusedSimpArgs false
set_option linter.unusedVariables false
namespace Go.Proofs.YtpgdflhcmijaiaaDoor
open Go Go.Proofs.YtpgdflhcmijaiaaDoor.Ab
variable [Glo] [U8]
set_option maxHeartbeats 4000000
set_option maxRecDepth 20000
def walkF (l : List Nd) (zs : List Int) (axis : Int) (t : Ts) : Int :=
  if nodesFault l = 0 then (if (1 ≤ axis ∧ axis ≤ 12) ∧ (1 ≤ t.k ∧ t.k ≤ 5) then (if zs.any (badB l) = true then 6 else 0) else 3) else nodesFault l
def walkR (l : List Nd) (zs : List Int) (axis : Int) (t : Ts) : List Nat := if walkF l zs axis t = 0 then walked l (zs.map Int.toNat) axis t else []
theorem good_zs {l : List Nd} {zs : List Int} (h : zs.any (badB l) = false) : ∀ z, z ∈ zs → 0 ≤ z ∧ z < l.length := fun z hz => by
  have := List.any_eq_false.1 h z hz
  simp only [badB, Bool.or_eq_true, decide_eq_true_eq, not_or] at this
  omega
theorem walked_sortU {l : List Nd} {zs : List Int} (h : ∀ z, z ∈ zs → 0 ≤ z) (axis : Int) (t : Ts) : walked l (zs.map Int.toNat) axis t = walked l (sortU zs) axis t := walked_ext fun c => by
  rw [sortU_mem h, List.mem_map]
  constructor
  · rintro ⟨z, hz, rfl⟩
    rw [Int.toNat_of_nonneg (h z hz)]; exact hz
  · intro hc
    exact ⟨_, hc, Int.toNat_natCast c⟩
def ks_13 : Nat → List Nat
  | 0 => [1, 2, 4, 7]
  | 1 => [1, 2, 4, 7, 10]
  | 2 => [1, 2, 4, 7, 10, 19]
  | 3 => [8, 9]
  | 4 => [1, 2, 4, 7, 36]
  | 5 => [8, 9]
  | 6 => [1, 2, 4, 7, 39]
  | 7 => [8, 9]
  | 8 => [1, 2, 4, 7]
  | 9 => [1, 2, 4, 7]
  | 10 => [1, 2, 4, 7]
  | 11 => [1, 2, 11]
  | 12 => [1, 2, 11, 51]
  | 13 => [11]
  | 14 => [1, 2, 11, 51, 55]
  | 15 => [11]
  | 16 => [1, 2, 11, 51, 60]
  | 17 => [11]
  | 18 => [1, 2, 11, 51, 65]
  | 19 => [11, 67, 68, 69]
  | 20 => [11, 67, 68, 69, 70]
  | 21 => [11, 13, 67, 68, 69]
  | 22 => [11, 67, 68, 69]
  | 23 => [11, 67, 68, 69]
  | 24 => [1, 2, 11, 51, 77]
  | 25 => [1, 2, 11, 51, 77]
  | 26 => [11]
  | 27 => [1, 2, 11, 51, 85]
  | 28 => [1, 2, 11, 85]
  | 29 => [2, 11, 90, 91, 92]
  | 30 => [2, 11, 90, 91, 92, 93]
  | 31 => [2, 11, 15, 90, 91, 92]
  | 32 => [2, 11, 15, 90, 91, 92, 97]
  | 33 => [2, 11, 90, 91, 92]
  | 34 => [2, 11, 90, 91, 92]
  | 35 => [2, 11, 90, 91, 92]
  | 36 => [8, 9]
  | _ => []
def mu_13 : List Nat := [50]
def in_13 : List Nat := [0, 1, 2, 3]
def gv_13 : Nat → List Bool
  | 10 => [false, true]
  | _ => []
theorem walkBad_A (l : List Nd) (hlen : l.length ≤ 1048576) (hS : Short l) (t : Ts) (axis : Int) (zs : List Int) (hzl : zs.length ≤ 1048576) (hbad : walkF l zs axis t ≠ 0) (H : Heap) (K : V → Heap → Prop) (hk : K (.tu [.d (.sl 1 []), .d (.i .i64 (walkF l zs axis t))]) H) : ACalls Tryd.prog 13 [.d (.sl 6 (l.map ndD)), .d (.sl 1 (zs.map zR)), .d (.i .i64 axis), tsV t] H K := by
  unfold walkF at hk hbad
  by_cases hnf : nodesFault l = 0
  · rw [if_pos hnf] at hk hbad
    have hnf' : (nodesFault l = 0) = True := eq_true hnf
    by_cases ha : (1 ≤ axis ∧ axis ≤ 12) ∧ (1 ≤ t.k ∧ t.k ≤ 5)
    · rw [if_pos ha] at hk hbad
      have h6 : zs.any (badB l) = true := Classical.byContradiction fun h => by rw [if_neg h] at hbad; exact hbad rfl
      rw [if_pos h6] at hk
      have a1 : (axis < 1) = False := eq_false (by omega)
      have a2 : (12 < axis) = False := eq_false (by omega)
      have a3 : (t.k < 1) = False := eq_false (by omega)
      have a4 : (5 < t.k) = False := eq_false (by omega)
      refine ACalls_of Tryd.func13 rfl in_13 (Nat.le_of_ble_eq_true rfl) ?_
      intro F hF
      simp (dsimp := false) only [go_sem, Nat.reduceAdd, Nat.reduceBEq, Nat.reduceEqDiff, Nat.reduceLT, Nat.reduceLeDiff, Nat.reduceMul, Int.reduceToNat, reduceCtorEq, ↓reduceIte, Tryd.ntmps13, Tryd.results13, ks_13, mu_13, gv_13, ti_ag3, ti_ag34, ti_ag35, ti_ag37, ti_fl37_0, ti_fl73_3, ti_hb40, ti_hb41, ti_hb42, ti_hb43, ti_hb44, ti_hb45, ti_hb46, ti_hb47, ti_hb48, ti_hb49, ti_hb50, ti_hb51, ti_hb52, ti_hb53, ti_pl73, ti_sb35, ti_sb76, ti_sl35, ti_sl76, ti_sz37, ti_zr73, ndD, ndV, tsV, hnf', hnf, a1, a2, a3, a4, h6, not_true_eq_false, not_false_eq_true, Bool.and_true, Bool.true_and, Bool.false_and, Bool.and_false, Bool.false_or, Bool.or_false, Bool.true_beq, Bool.false_beq, Int.reduceEq, Int.reduceLT, Int.reduceLE, in_13] at hF
      subst hF
      repeat' (first | with_reducible (first | refine And.intro ?_ ?_ | intro _ | refine AWp_seq ?_ | refine AWp_block ?_ | (refine hKv _ _ (AWp_nop ?_); clear hKv Kv) | (refine hKA ?_; clear hKA hKB KA KB) | (refine hKB ?_; clear hKA hKB KA KB) | refine AWp_skipN ?_ | refine AWp_exitO (by repeat (first | exact Out.hit | apply Out.thenA | apply Out.out rfl)) ?_) | ((first | with_reducible (first | (refine hKv _ _ ?_; clear hKv Kv) | ((first | refine AWp_regG gv_13 mu_13 ks_13 (by decide) ?_ | refine AWp_regC mu_13 ks_13 ?_ | refine AWp_regE mu_13 ks_13 ?_); intro Kv hKv) | refine AWp_retR ?_) | refine storeCheck_A l (by omega) hS _ _ ?_ | refine hasBad_A l zs (by omega) _ _ ?_); try simp (dsimp := false) only [go_sem, Nat.reduceAdd, Nat.reduceBEq, Nat.reduceEqDiff, Nat.reduceLT, Nat.reduceLeDiff, Nat.reduceMul, Int.reduceToNat, reduceCtorEq, ↓reduceIte, Tryd.ntmps13, Tryd.results13, ks_13, mu_13, gv_13, ti_ag3, ti_ag34, ti_ag35, ti_ag37, ti_fl37_0, ti_fl73_3, ti_hb40, ti_hb41, ti_hb42, ti_hb43, ti_hb44, ti_hb45, ti_hb46, ti_hb47, ti_hb48, ti_hb49, ti_hb50, ti_hb51, ti_hb52, ti_hb53, ti_pl73, ti_sb35, ti_sb76, ti_sl35, ti_sl76, ti_sz37, ti_zr73, ndD, ndV, tsV, hnf', hnf, a1, a2, a3, a4, h6, not_true_eq_false, not_false_eq_true, Bool.and_true, Bool.true_and, Bool.false_and, Bool.and_false, Bool.false_or, Bool.or_false, Bool.true_beq, Bool.false_beq, Int.reduceEq, Int.reduceLT, Int.reduceLE]) | (refine AWp_condC rfl ?_; intro KA KB hKA hKB; try simp only [onB_true, onB_false, onB_dec, onB_ndec, onB_not, onB_and, onB_or]) | (refine AWp_condA rfl ?_ ?_) | with_reducible (first | refine onB_of ?_ ?_ | rfl) | omega)
      all_goals first
        | omega
        | exact keepFz hk (Fz_tu2 (.nil _) (.same _)) (by simp [Bel_tu, Bel_d])
    · rw [if_neg ha] at hk
      by_cases a1 : axis < 1
      · have a1' : (axis < 1) = True := eq_true a1
        refine ACalls_of Tryd.func13 rfl in_13 (Nat.le_of_ble_eq_true rfl) ?_
        intro F hF
        simp (dsimp := false) only [go_sem, Nat.reduceAdd, Nat.reduceBEq, Nat.reduceEqDiff, Nat.reduceLT, Nat.reduceLeDiff, Nat.reduceMul, Int.reduceToNat, reduceCtorEq, ↓reduceIte, Tryd.ntmps13, Tryd.results13, ks_13, mu_13, gv_13, ti_ag3, ti_ag34, ti_ag35, ti_ag37, ti_fl37_0, ti_fl73_3, ti_hb40, ti_hb41, ti_hb42, ti_hb43, ti_hb44, ti_hb45, ti_hb46, ti_hb47, ti_hb48, ti_hb49, ti_hb50, ti_hb51, ti_hb52, ti_hb53, ti_pl73, ti_sb35, ti_sb76, ti_sl35, ti_sl76, ti_sz37, ti_zr73, ndD, ndV, tsV, hnf', hnf, a1', not_true_eq_false, not_false_eq_true, Bool.and_true, Bool.true_and, Bool.false_and, Bool.and_false, Bool.false_or, Bool.or_false, Bool.true_beq, Bool.false_beq, Int.reduceEq, Int.reduceLT, Int.reduceLE, in_13] at hF
        subst hF
        repeat' (first | with_reducible (first | refine And.intro ?_ ?_ | intro _ | refine AWp_seq ?_ | refine AWp_block ?_ | (refine hKv _ _ (AWp_nop ?_); clear hKv Kv) | (refine hKA ?_; clear hKA hKB KA KB) | (refine hKB ?_; clear hKA hKB KA KB) | refine AWp_skipN ?_ | refine AWp_exitO (by repeat (first | exact Out.hit | apply Out.thenA | apply Out.out rfl)) ?_) | ((first | with_reducible (first | (refine hKv _ _ ?_; clear hKv Kv) | ((first | refine AWp_regG gv_13 mu_13 ks_13 (by decide) ?_ | refine AWp_regC mu_13 ks_13 ?_ | refine AWp_regE mu_13 ks_13 ?_); intro Kv hKv) | refine AWp_retR ?_) | refine storeCheck_A l (by omega) hS _ _ ?_); try simp (dsimp := false) only [go_sem, Nat.reduceAdd, Nat.reduceBEq, Nat.reduceEqDiff, Nat.reduceLT, Nat.reduceLeDiff, Nat.reduceMul, Int.reduceToNat, reduceCtorEq, ↓reduceIte, Tryd.ntmps13, Tryd.results13, ks_13, mu_13, gv_13, ti_ag3, ti_ag34, ti_ag35, ti_ag37, ti_fl37_0, ti_fl73_3, ti_hb40, ti_hb41, ti_hb42, ti_hb43, ti_hb44, ti_hb45, ti_hb46, ti_hb47, ti_hb48, ti_hb49, ti_hb50, ti_hb51, ti_hb52, ti_hb53, ti_pl73, ti_sb35, ti_sb76, ti_sl35, ti_sl76, ti_sz37, ti_zr73, ndD, ndV, tsV, hnf', hnf, a1', not_true_eq_false, not_false_eq_true, Bool.and_true, Bool.true_and, Bool.false_and, Bool.and_false, Bool.false_or, Bool.or_false, Bool.true_beq, Bool.false_beq, Int.reduceEq, Int.reduceLT, Int.reduceLE]) | (refine AWp_condC rfl ?_; intro KA KB hKA hKB; try simp only [onB_true, onB_false, onB_dec, onB_ndec, onB_not, onB_and, onB_or]) | (refine AWp_condA rfl ?_ ?_) | with_reducible (first | refine onB_of ?_ ?_ | rfl) | omega)
        all_goals first
          | omega
          | exact keepFz hk (Fz_tu2 (.nil _) (.same _)) (by simp [Bel_tu, Bel_d])
      by_cases a2 : 12 < axis
      · have a1' : (axis < 1) = False := eq_false a1
        have a2' : (12 < axis) = True := eq_true a2
        refine ACalls_of Tryd.func13 rfl in_13 (Nat.le_of_ble_eq_true rfl) ?_
        intro F hF
        simp (dsimp := false) only [go_sem, Nat.reduceAdd, Nat.reduceBEq, Nat.reduceEqDiff, Nat.reduceLT, Nat.reduceLeDiff, Nat.reduceMul, Int.reduceToNat, reduceCtorEq, ↓reduceIte, Tryd.ntmps13, Tryd.results13, ks_13, mu_13, gv_13, ti_ag3, ti_ag34, ti_ag35, ti_ag37, ti_fl37_0, ti_fl73_3, ti_hb40, ti_hb41, ti_hb42, ti_hb43, ti_hb44, ti_hb45, ti_hb46, ti_hb47, ti_hb48, ti_hb49, ti_hb50, ti_hb51, ti_hb52, ti_hb53, ti_pl73, ti_sb35, ti_sb76, ti_sl35, ti_sl76, ti_sz37, ti_zr73, ndD, ndV, tsV, hnf', hnf, a1', a2', not_true_eq_false, not_false_eq_true, Bool.and_true, Bool.true_and, Bool.false_and, Bool.and_false, Bool.false_or, Bool.or_false, Bool.true_beq, Bool.false_beq, Int.reduceEq, Int.reduceLT, Int.reduceLE, in_13] at hF
        subst hF
        repeat' (first | with_reducible (first | refine And.intro ?_ ?_ | intro _ | refine AWp_seq ?_ | refine AWp_block ?_ | (refine hKv _ _ (AWp_nop ?_); clear hKv Kv) | (refine hKA ?_; clear hKA hKB KA KB) | (refine hKB ?_; clear hKA hKB KA KB) | refine AWp_skipN ?_ | refine AWp_exitO (by repeat (first | exact Out.hit | apply Out.thenA | apply Out.out rfl)) ?_) | ((first | with_reducible (first | (refine hKv _ _ ?_; clear hKv Kv) | ((first | refine AWp_regG gv_13 mu_13 ks_13 (by decide) ?_ | refine AWp_regC mu_13 ks_13 ?_ | refine AWp_regE mu_13 ks_13 ?_); intro Kv hKv) | refine AWp_retR ?_) | refine storeCheck_A l (by omega) hS _ _ ?_); try simp (dsimp := false) only [go_sem, Nat.reduceAdd, Nat.reduceBEq, Nat.reduceEqDiff, Nat.reduceLT, Nat.reduceLeDiff, Nat.reduceMul, Int.reduceToNat, reduceCtorEq, ↓reduceIte, Tryd.ntmps13, Tryd.results13, ks_13, mu_13, gv_13, ti_ag3, ti_ag34, ti_ag35, ti_ag37, ti_fl37_0, ti_fl73_3, ti_hb40, ti_hb41, ti_hb42, ti_hb43, ti_hb44, ti_hb45, ti_hb46, ti_hb47, ti_hb48, ti_hb49, ti_hb50, ti_hb51, ti_hb52, ti_hb53, ti_pl73, ti_sb35, ti_sb76, ti_sl35, ti_sl76, ti_sz37, ti_zr73, ndD, ndV, tsV, hnf', hnf, a1', a2', not_true_eq_false, not_false_eq_true, Bool.and_true, Bool.true_and, Bool.false_and, Bool.and_false, Bool.false_or, Bool.or_false, Bool.true_beq, Bool.false_beq, Int.reduceEq, Int.reduceLT, Int.reduceLE]) | (refine AWp_condC rfl ?_; intro KA KB hKA hKB; try simp only [onB_true, onB_false, onB_dec, onB_ndec, onB_not, onB_and, onB_or]) | (refine AWp_condA rfl ?_ ?_) | with_reducible (first | refine onB_of ?_ ?_ | rfl) | omega)
        all_goals first
          | omega
          | exact keepFz hk (Fz_tu2 (.nil _) (.same _)) (by simp [Bel_tu, Bel_d])
      have a1' : (axis < 1) = False := eq_false a1
      have a2' : (12 < axis) = False := eq_false a2
      by_cases a3 : t.k < 1
      · have a3' : (t.k < 1) = True := eq_true a3
        refine ACalls_of Tryd.func13 rfl in_13 (Nat.le_of_ble_eq_true rfl) ?_
        intro F hF
        simp (dsimp := false) only [go_sem, Nat.reduceAdd, Nat.reduceBEq, Nat.reduceEqDiff, Nat.reduceLT, Nat.reduceLeDiff, Nat.reduceMul, Int.reduceToNat, reduceCtorEq, ↓reduceIte, Tryd.ntmps13, Tryd.results13, ks_13, mu_13, gv_13, ti_ag3, ti_ag34, ti_ag35, ti_ag37, ti_fl37_0, ti_fl73_3, ti_hb40, ti_hb41, ti_hb42, ti_hb43, ti_hb44, ti_hb45, ti_hb46, ti_hb47, ti_hb48, ti_hb49, ti_hb50, ti_hb51, ti_hb52, ti_hb53, ti_pl73, ti_sb35, ti_sb76, ti_sl35, ti_sl76, ti_sz37, ti_zr73, ndD, ndV, tsV, hnf', hnf, a1', a2', a3', not_true_eq_false, not_false_eq_true, Bool.and_true, Bool.true_and, Bool.false_and, Bool.and_false, Bool.false_or, Bool.or_false, Bool.true_beq, Bool.false_beq, Int.reduceEq, Int.reduceLT, Int.reduceLE, in_13] at hF
        subst hF
        repeat' (first | with_reducible (first | refine And.intro ?_ ?_ | intro _ | refine AWp_seq ?_ | refine AWp_block ?_ | (refine hKv _ _ (AWp_nop ?_); clear hKv Kv) | (refine hKA ?_; clear hKA hKB KA KB) | (refine hKB ?_; clear hKA hKB KA KB) | refine AWp_skipN ?_ | refine AWp_exitO (by repeat (first | exact Out.hit | apply Out.thenA | apply Out.out rfl)) ?_) | ((first | with_reducible (first | (refine hKv _ _ ?_; clear hKv Kv) | ((first | refine AWp_regG gv_13 mu_13 ks_13 (by decide) ?_ | refine AWp_regC mu_13 ks_13 ?_ | refine AWp_regE mu_13 ks_13 ?_); intro Kv hKv) | refine AWp_retR ?_) | refine storeCheck_A l (by omega) hS _ _ ?_); try simp (dsimp := false) only [go_sem, Nat.reduceAdd, Nat.reduceBEq, Nat.reduceEqDiff, Nat.reduceLT, Nat.reduceLeDiff, Nat.reduceMul, Int.reduceToNat, reduceCtorEq, ↓reduceIte, Tryd.ntmps13, Tryd.results13, ks_13, mu_13, gv_13, ti_ag3, ti_ag34, ti_ag35, ti_ag37, ti_fl37_0, ti_fl73_3, ti_hb40, ti_hb41, ti_hb42, ti_hb43, ti_hb44, ti_hb45, ti_hb46, ti_hb47, ti_hb48, ti_hb49, ti_hb50, ti_hb51, ti_hb52, ti_hb53, ti_pl73, ti_sb35, ti_sb76, ti_sl35, ti_sl76, ti_sz37, ti_zr73, ndD, ndV, tsV, hnf', hnf, a1', a2', a3', not_true_eq_false, not_false_eq_true, Bool.and_true, Bool.true_and, Bool.false_and, Bool.and_false, Bool.false_or, Bool.or_false, Bool.true_beq, Bool.false_beq, Int.reduceEq, Int.reduceLT, Int.reduceLE]) | (refine AWp_condC rfl ?_; intro KA KB hKA hKB; try simp only [onB_true, onB_false, onB_dec, onB_ndec, onB_not, onB_and, onB_or]) | (refine AWp_condA rfl ?_ ?_) | with_reducible (first | refine onB_of ?_ ?_ | rfl) | omega)
        all_goals first
          | omega
          | exact keepFz hk (Fz_tu2 (.nil _) (.same _)) (by simp [Bel_tu, Bel_d])
      · have a3' : (t.k < 1) = False := eq_false a3
        have a4' : (5 < t.k) = True := eq_true (by omega)
        refine ACalls_of Tryd.func13 rfl in_13 (Nat.le_of_ble_eq_true rfl) ?_
        intro F hF
        simp (dsimp := false) only [go_sem, Nat.reduceAdd, Nat.reduceBEq, Nat.reduceEqDiff, Nat.reduceLT, Nat.reduceLeDiff, Nat.reduceMul, Int.reduceToNat, reduceCtorEq, ↓reduceIte, Tryd.ntmps13, Tryd.results13, ks_13, mu_13, gv_13, ti_ag3, ti_ag34, ti_ag35, ti_ag37, ti_fl37_0, ti_fl73_3, ti_hb40, ti_hb41, ti_hb42, ti_hb43, ti_hb44, ti_hb45, ti_hb46, ti_hb47, ti_hb48, ti_hb49, ti_hb50, ti_hb51, ti_hb52, ti_hb53, ti_pl73, ti_sb35, ti_sb76, ti_sl35, ti_sl76, ti_sz37, ti_zr73, ndD, ndV, tsV, hnf', hnf, a1', a2', a3', a4', not_true_eq_false, not_false_eq_true, Bool.and_true, Bool.true_and, Bool.false_and, Bool.and_false, Bool.false_or, Bool.or_false, Bool.true_beq, Bool.false_beq, Int.reduceEq, Int.reduceLT, Int.reduceLE, in_13] at hF
        subst hF
        repeat' (first | with_reducible (first | refine And.intro ?_ ?_ | intro _ | refine AWp_seq ?_ | refine AWp_block ?_ | (refine hKv _ _ (AWp_nop ?_); clear hKv Kv) | (refine hKA ?_; clear hKA hKB KA KB) | (refine hKB ?_; clear hKA hKB KA KB) | refine AWp_skipN ?_ | refine AWp_exitO (by repeat (first | exact Out.hit | apply Out.thenA | apply Out.out rfl)) ?_) | ((first | with_reducible (first | (refine hKv _ _ ?_; clear hKv Kv) | ((first | refine AWp_regG gv_13 mu_13 ks_13 (by decide) ?_ | refine AWp_regC mu_13 ks_13 ?_ | refine AWp_regE mu_13 ks_13 ?_); intro Kv hKv) | refine AWp_retR ?_) | refine storeCheck_A l (by omega) hS _ _ ?_); try simp (dsimp := false) only [go_sem, Nat.reduceAdd, Nat.reduceBEq, Nat.reduceEqDiff, Nat.reduceLT, Nat.reduceLeDiff, Nat.reduceMul, Int.reduceToNat, reduceCtorEq, ↓reduceIte, Tryd.ntmps13, Tryd.results13, ks_13, mu_13, gv_13, ti_ag3, ti_ag34, ti_ag35, ti_ag37, ti_fl37_0, ti_fl73_3, ti_hb40, ti_hb41, ti_hb42, ti_hb43, ti_hb44, ti_hb45, ti_hb46, ti_hb47, ti_hb48, ti_hb49, ti_hb50, ti_hb51, ti_hb52, ti_hb53, ti_pl73, ti_sb35, ti_sb76, ti_sl35, ti_sl76, ti_sz37, ti_zr73, ndD, ndV, tsV, hnf', hnf, a1', a2', a3', a4', not_true_eq_false, not_false_eq_true, Bool.and_true, Bool.true_and, Bool.false_and, Bool.and_false, Bool.false_or, Bool.or_false, Bool.true_beq, Bool.false_beq, Int.reduceEq, Int.reduceLT, Int.reduceLE]) | (refine AWp_condC rfl ?_; intro KA KB hKA hKB; try simp only [onB_true, onB_false, onB_dec, onB_ndec, onB_not, onB_and, onB_or]) | (refine AWp_condA rfl ?_ ?_) | with_reducible (first | refine onB_of ?_ ?_ | rfl) | omega)
        all_goals first
          | omega
          | exact keepFz hk (Fz_tu2 (.nil _) (.same _)) (by simp [Bel_tu, Bel_d])
  · rw [if_neg hnf] at hk
    have hnf' : (nodesFault l = 0) = False := eq_false hnf
    refine ACalls_of Tryd.func13 rfl in_13 (Nat.le_of_ble_eq_true rfl) ?_
    intro F hF
    simp (dsimp := false) only [go_sem, Nat.reduceAdd, Nat.reduceBEq, Nat.reduceEqDiff, Nat.reduceLT, Nat.reduceLeDiff, Nat.reduceMul, Int.reduceToNat, reduceCtorEq, ↓reduceIte, Tryd.ntmps13, Tryd.results13, ks_13, mu_13, gv_13, ti_ag3, ti_ag34, ti_ag35, ti_ag37, ti_fl37_0, ti_fl73_3, ti_hb40, ti_hb41, ti_hb42, ti_hb43, ti_hb44, ti_hb45, ti_hb46, ti_hb47, ti_hb48, ti_hb49, ti_hb50, ti_hb51, ti_hb52, ti_hb53, ti_pl73, ti_sb35, ti_sb76, ti_sl35, ti_sl76, ti_sz37, ti_zr73, ndD, ndV, tsV, hnf', not_true_eq_false, not_false_eq_true, Bool.and_true, Bool.true_and, Bool.false_and, Bool.and_false, Bool.false_or, Bool.or_false, Bool.true_beq, Bool.false_beq, Int.reduceEq, Int.reduceLT, Int.reduceLE, in_13] at hF
    subst hF
    repeat' (first | with_reducible (first | refine And.intro ?_ ?_ | intro _ | refine AWp_seq ?_ | refine AWp_block ?_ | (refine hKv _ _ (AWp_nop ?_); clear hKv Kv) | (refine hKA ?_; clear hKA hKB KA KB) | (refine hKB ?_; clear hKA hKB KA KB) | refine AWp_skipN ?_ | refine AWp_exitO (by repeat (first | exact Out.hit | apply Out.thenA | apply Out.out rfl)) ?_) | ((first | with_reducible (first | (refine hKv _ _ ?_; clear hKv Kv) | ((first | refine AWp_regG gv_13 mu_13 ks_13 (by decide) ?_ | refine AWp_regC mu_13 ks_13 ?_ | refine AWp_regE mu_13 ks_13 ?_); intro Kv hKv) | refine AWp_retR ?_) | refine storeCheck_A l (by omega) hS _ _ ?_); try simp (dsimp := false) only [go_sem, Nat.reduceAdd, Nat.reduceBEq, Nat.reduceEqDiff, Nat.reduceLT, Nat.reduceLeDiff, Nat.reduceMul, Int.reduceToNat, reduceCtorEq, ↓reduceIte, Tryd.ntmps13, Tryd.results13, ks_13, mu_13, gv_13, ti_ag3, ti_ag34, ti_ag35, ti_ag37, ti_fl37_0, ti_fl73_3, ti_hb40, ti_hb41, ti_hb42, ti_hb43, ti_hb44, ti_hb45, ti_hb46, ti_hb47, ti_hb48, ti_hb49, ti_hb50, ti_hb51, ti_hb52, ti_hb53, ti_pl73, ti_sb35, ti_sb76, ti_sl35, ti_sl76, ti_sz37, ti_zr73, ndD, ndV, tsV, hnf', not_true_eq_false, not_false_eq_true, Bool.and_true, Bool.true_and, Bool.false_and, Bool.and_false, Bool.false_or, Bool.or_false, Bool.true_beq, Bool.false_beq, Int.reduceEq, Int.reduceLT, Int.reduceLE]) | (refine AWp_condC rfl ?_; intro KA KB hKA hKB; try simp only [onB_true, onB_false, onB_dec, onB_ndec, onB_not, onB_and, onB_or]) | (refine AWp_condA rfl ?_ ?_) | with_reducible (first | refine onB_of ?_ ?_ | rfl) | omega)
    all_goals first
      | omega
      | exact keepFz hk (Fz_tu2 (.nil _) (.same _)) (by simp [Bel_tu, Bel_d])
end Go.Proofs.YtpgdflhcmijaiaaDoor
namespace Go.Proofs.YtpgdflhcmijaiaaDoor
open Go Go.Proofs.YtpgdflhcmijaiaaDoor.Ab
variable [Glo] [U8]
set_option maxHeartbeats 4000000
set_option maxRecDepth 20000
theorem walkAx2_A (l : List Nd) (hlen : l.length ≤ 1048576) (hS : Short l) (hnf : nodesFault l = 0) (t : Ts) (ht : 1 ≤ t.k ∧ t.k ≤ 5) (zs : List Int) (hzl : zs.length ≤ 1048576) (hz : zs.any (badB l) = false) (H : Heap) (K : V → Heap → Prop) (hk : K (.tu [.d (.sl 1 ((walked l (sortU zs) 2 t).map natR)), .d (.i .i64 0)]) H) : ACalls Tryd.prog 13 [.d (.sl 6 (l.map ndD)), .d (.sl 1 (zs.map zR)), .d (.i .i64 2), tsV t] H K := by
  obtain ⟨hN, hg⟩ := good_of hnf
  have hz0 := good_zs hz
  have hpos : ∀ z, z ∈ zs → 0 ≤ z := fun z h => (hz0 z h).1
  have hnf' : (nodesFault l = 0) = True := eq_true hnf
  have a3 : (t.k < 1) = False := eq_false (by omega)
  have a4 : (5 < t.k) = False := eq_false (by omega)
  have hs : ∀ K, K (.tu []) (H ++ [.row 0 3 1 [], .row 1 3 1 ((zs.mergeSort fun x y => decide (x ≤ y)).map icell)]) → ACalls Tryd.prog 44 [.os (H.length + 1) 1] (H ++ [.row 0 3 1 [], .row 1 3 1 (zs.map icell)]) K := fun K hk =>
    sortI_A 3 zs (by omega) _ _ _ K ((get_appk _ _ 1).trans rfl) (by rw [set_appk]; exact hk)
  have hc : ∀ K, K (.os (H.length + 1) 2) (H ++ [.row 0 3 1 [], .row 2 3 1 ((sortU zs).map natC)]) → ACalls Tryd.prog 45 [.os (H.length + 1) 1] (H ++ [.row 0 3 1 [], .row 1 3 1 ((zs.mergeSort fun x y => decide (x ≤ y)).map icell)]) K := fun K hk =>
    compactI_A 3 _ (by rw [List.length_mergeSort]; omega) _ _ _ K ((get_appk _ _ 1).trans rfl) (by rw [set_appk, sortU_eq hpos, ← nat_cells]; exact hk)
  have hCr := sortU_rise hpos
  have hC : ∀ c, c ∈ sortU zs → c < l.length := fun c hc => by
    have := hz0 _ ((sortU_mem hpos c).1 hc)
    omega
  have hCl : (sortU zs).length ≤ 100000 := Nat.le_trans (nodup_len (hCr.imp fun h => Nat.ne_of_lt h) hC) hN
  generalize sortU zs = C at hk hc hCr hC hCl
  have hdd := natC_data C
  have hWk : Wk (H ++ [.row 0 3 1 [], .dead, .row 0 73 5 [[.d (.sl 6 (l.map ndD)), .d (.i .i64 2), .d (.i .i64 t.k), .d (.s t.nm), .os (H.length + 3) 0]], .row 0 3 1 []]) (H.length + 2) (H.length + 3) l 2 t [] := ⟨by omega, (get_appk _ _ 2).trans rfl, (get_appk _ _ 3).trans rfl⟩
  have hwst : ∀ L, wst (H ++ [.row 0 3 1 [], .dead, .row 0 73 5 [[.d (.sl 6 (l.map ndD)), .d (.i .i64 2), .d (.i .i64 t.k), .d (.s t.nm), .os (H.length + 3) 0]], .row 0 3 1 []]) (H.length + 2) (H.length + 3) l 2 t L = H ++ [.row 0 3 1 [], .dead, .row 0 73 5 [[.d (.sl 6 (l.map ndD)), .d (.i .i64 2), .d (.i .i64 t.k), .d (.s t.nm), .os (H.length + 3) L.length]], .row L.length 3 1 (L.map natC)] := fun L => by
    rw [wst, set_appk, set_appk]; rfl
  have hclW : ∀ L : List Nat, Closed H (H ++ [.row 0 3 1 [], .dead, .row 0 73 5 [[.d (.sl 6 (l.map ndD)), .d (.i .i64 2), .d (.i .i64 t.k), .d (.s t.nm), .os (H.length + 3) L.length]], .row L.length 3 1 (L.map natC)]) := fun L => closed_app fun ob hob => by
    simp only [List.mem_cons, List.not_mem_nil, or_false] at hob
    rcases hob with rfl | rfl | rfl | rfl
    · exact outO_bel _ []
    · exact trivial
    · exact wkO_bel l 2 t (by simp)
    · exact outO_bel _ L
  have hf : ∀ K, K (.tu []) (H ++ [.row 0 3 1 [], .dead, .row 0 73 5 [[.d (.sl 6 (l.map ndD)), .d (.i .i64 2), .d (.i .i64 t.k), .d (.s t.nm), .os (H.length + 3) (walked l C 2 t).length]], .row (walked l C 2 t).length 3 1 ((walked l C 2 t).map natC)]) → ACalls Tryd.prog 46 [.pt (H.length + 2) 0 0 0, .d (.sl 1 (C.map natR))] (H ++ [.row 0 3 1 [], .dead, .row 0 73 5 [[.d (.sl 6 (l.map ndD)), .d (.i .i64 2), .d (.i .i64 t.k), .d (.s t.nm), .os (H.length + 3) 0]], .row 0 3 1 []]) K := fun K hk => down_A l hg hN t _ _ C hCr hC hCl _ K hWk (by rw [hwst]; exact hk)
  refine ACalls_of Tryd.func13 rfl in_13 (Nat.le_of_ble_eq_true rfl) ?_
  intro F hF
  simp (dsimp := false) only [go_sem, Nat.reduceAdd, Nat.reduceBEq, Nat.reduceEqDiff, Nat.reduceLT, Nat.reduceLeDiff, Nat.reduceMul, Int.reduceToNat, reduceCtorEq, ↓reduceIte, Tryd.ntmps13, Tryd.results13, ks_13, mu_13, gv_13, ti_ag3, ti_ag34, ti_ag35, ti_ag37, ti_fl37_0, ti_fl73_3, ti_hb40, ti_hb41, ti_hb42, ti_hb43, ti_hb44, ti_hb45, ti_hb46, ti_hb47, ti_hb48, ti_hb49, ti_hb50, ti_hb51, ti_hb52, ti_hb53, ti_pl73, ti_sb35, ti_sb76, ti_sl35, ti_sl76, ti_sz37, ti_zr73, ndD, ndV, tsV, hnf', hnf, a3, a4, hz, hdd, not_true_eq_false, not_false_eq_true, Bool.and_true, Bool.true_and, Bool.false_and, Bool.and_false, Bool.false_or, Bool.or_false, Bool.true_beq, Bool.false_beq, Int.reduceEq, Int.reduceLT, Int.reduceLE, in_13] at hF
  subst hF
  repeat' (first | (refine AWp_prm (H.length + 2) 0 4 3 1 ((get_appk _ _ 2).trans rfl) rfl rfl (h := ?_)) | with_reducible (first | refine And.intro ?_ ?_ | intro _ | refine AWp_seq ?_ | refine AWp_block ?_ | (refine hKv _ _ (AWp_nop ?_); clear hKv Kv) | (refine hKA ?_; clear hKA hKB KA KB) | (refine hKB ?_; clear hKA hKB KA KB) | refine AWp_skipN ?_ | refine AWp_exitO (by repeat (first | exact Out.hit | apply Out.thenA | apply Out.out rfl)) ?_) | ((first | with_reducible (first | (refine hKv _ _ ?_; clear hKv Kv) | ((first | refine AWp_regG gv_13 mu_13 ks_13 (by decide) ?_ | refine AWp_regC mu_13 ks_13 ?_ | refine AWp_regE mu_13 ks_13 ?_); intro Kv hKv) | refine AWp_retR ?_) | refine storeCheck_A l (by omega) hS _ _ ?_ | refine hasBad_A l zs (by omega) _ _ ?_ | refine cloneI_A zs (by omega) _ _ ?_ | refine hs _ ?_ | refine hc _ ?_ | refine hf _ ?_); try simp (dsimp := false) only [go_sem, Nat.reduceAdd, Nat.reduceBEq, Nat.reduceEqDiff, Nat.reduceLT, Nat.reduceLeDiff, Nat.reduceMul, Int.reduceToNat, reduceCtorEq, ↓reduceIte, Tryd.ntmps13, Tryd.results13, ks_13, mu_13, gv_13, ti_ag3, ti_ag34, ti_ag35, ti_ag37, ti_fl37_0, ti_fl73_3, ti_hb40, ti_hb41, ti_hb42, ti_hb43, ti_hb44, ti_hb45, ti_hb46, ti_hb47, ti_hb48, ti_hb49, ti_hb50, ti_hb51, ti_hb52, ti_hb53, ti_pl73, ti_sb35, ti_sb76, ti_sl35, ti_sl76, ti_sz37, ti_zr73, ndD, ndV, tsV, hnf', hnf, a3, a4, hz, hdd, not_true_eq_false, not_false_eq_true, Bool.and_true, Bool.true_and, Bool.false_and, Bool.and_false, Bool.false_or, Bool.or_false, Bool.true_beq, Bool.false_beq, Int.reduceEq, Int.reduceLT, Int.reduceLE]) | (refine AWp_condC rfl ?_; intro KA KB hKA hKB; try simp only [onB_true, onB_false, onB_dec, onB_ndec, onB_not, onB_and, onB_or]) | (refine AWp_condA rfl ?_ ?_) | with_reducible (first | refine onB_of ?_ ?_ | rfl) | omega)
  all_goals first
    | omega
    | exact dropF hk (Fz_tu2 (.os _ _ _ _ _ _ (by omega) ((get_appk _ _ 3).trans rfl) (natC_data _)) (.same _)) (by simp [Bel_tu, Bel_d])
theorem walkAx3_A (l : List Nd) (hlen : l.length ≤ 1048576) (hS : Short l) (hnf : nodesFault l = 0) (t : Ts) (ht : 1 ≤ t.k ∧ t.k ≤ 5) (zs : List Int) (hzl : zs.length ≤ 1048576) (hz : zs.any (badB l) = false) (H : Heap) (K : V → Heap → Prop) (hk : K (.tu [.d (.sl 1 ((walked l (sortU zs) 3 t).map natR)), .d (.i .i64 0)]) H) : ACalls Tryd.prog 13 [.d (.sl 6 (l.map ndD)), .d (.sl 1 (zs.map zR)), .d (.i .i64 3), tsV t] H K := by
  obtain ⟨hN, hg⟩ := good_of hnf
  have hz0 := good_zs hz
  have hpos : ∀ z, z ∈ zs → 0 ≤ z := fun z h => (hz0 z h).1
  have hnf' : (nodesFault l = 0) = True := eq_true hnf
  have a3 : (t.k < 1) = False := eq_false (by omega)
  have a4 : (5 < t.k) = False := eq_false (by omega)
  have hs : ∀ K, K (.tu []) (H ++ [.row 0 3 1 [], .row 1 3 1 ((zs.mergeSort fun x y => decide (x ≤ y)).map icell)]) → ACalls Tryd.prog 44 [.os (H.length + 1) 1] (H ++ [.row 0 3 1 [], .row 1 3 1 (zs.map icell)]) K := fun K hk =>
    sortI_A 3 zs (by omega) _ _ _ K ((get_appk _ _ 1).trans rfl) (by rw [set_appk]; exact hk)
  have hc : ∀ K, K (.os (H.length + 1) 2) (H ++ [.row 0 3 1 [], .row 2 3 1 ((sortU zs).map natC)]) → ACalls Tryd.prog 45 [.os (H.length + 1) 1] (H ++ [.row 0 3 1 [], .row 1 3 1 ((zs.mergeSort fun x y => decide (x ≤ y)).map icell)]) K := fun K hk =>
    compactI_A 3 _ (by rw [List.length_mergeSort]; omega) _ _ _ K ((get_appk _ _ 1).trans rfl) (by rw [set_appk, sortU_eq hpos, ← nat_cells]; exact hk)
  have hCr := sortU_rise hpos
  have hC : ∀ c, c ∈ sortU zs → c < l.length := fun c hc => by
    have := hz0 _ ((sortU_mem hpos c).1 hc)
    omega
  have hCl : (sortU zs).length ≤ 100000 := Nat.le_trans (nodup_len (hCr.imp fun h => Nat.ne_of_lt h) hC) hN
  generalize sortU zs = C at hk hc hCr hC hCl
  have hdd := natC_data C
  have hWk : Wk (H ++ [.row 0 3 1 [], .dead, .row 0 73 5 [[.d (.sl 6 (l.map ndD)), .d (.i .i64 3), .d (.i .i64 t.k), .d (.s t.nm), .os (H.length + 3) 0]], .row 0 3 1 []]) (H.length + 2) (H.length + 3) l 3 t [] := ⟨by omega, (get_appk _ _ 2).trans rfl, (get_appk _ _ 3).trans rfl⟩
  have hwst : ∀ L, wst (H ++ [.row 0 3 1 [], .dead, .row 0 73 5 [[.d (.sl 6 (l.map ndD)), .d (.i .i64 3), .d (.i .i64 t.k), .d (.s t.nm), .os (H.length + 3) 0]], .row 0 3 1 []]) (H.length + 2) (H.length + 3) l 3 t L = H ++ [.row 0 3 1 [], .dead, .row 0 73 5 [[.d (.sl 6 (l.map ndD)), .d (.i .i64 3), .d (.i .i64 t.k), .d (.s t.nm), .os (H.length + 3) L.length]], .row L.length 3 1 (L.map natC)] := fun L => by
    rw [wst, set_appk, set_appk]; rfl
  have hclW : ∀ L : List Nat, Closed H (H ++ [.row 0 3 1 [], .dead, .row 0 73 5 [[.d (.sl 6 (l.map ndD)), .d (.i .i64 3), .d (.i .i64 t.k), .d (.s t.nm), .os (H.length + 3) L.length]], .row L.length 3 1 (L.map natC)]) := fun L => closed_app fun ob hob => by
    simp only [List.mem_cons, List.not_mem_nil, or_false] at hob
    rcases hob with rfl | rfl | rfl | rfl
    · exact outO_bel _ []
    · exact trivial
    · exact wkO_bel l 3 t (by simp)
    · exact outO_bel _ L
  have hf : ∀ K, K (.tu []) (H ++ [.row 0 3 1 [], .dead, .row 0 73 5 [[.d (.sl 6 (l.map ndD)), .d (.i .i64 3), .d (.i .i64 t.k), .d (.s t.nm), .os (H.length + 3) (walked l C 3 t).length]], .row (walked l C 3 t).length 3 1 ((walked l C 3 t).map natC)]) → ACalls Tryd.prog 47 [.pt (H.length + 2) 0 0 0, .d (.sl 1 (C.map natR))] (H ++ [.row 0 3 1 [], .dead, .row 0 73 5 [[.d (.sl 6 (l.map ndD)), .d (.i .i64 3), .d (.i .i64 t.k), .d (.s t.nm), .os (H.length + 3) 0]], .row 0 3 1 []]) K := fun K hk => downSelf_A l hg hN t _ _ C hCr hC hCl _ K hWk (by rw [hwst]; exact hk)
  refine ACalls_of Tryd.func13 rfl in_13 (Nat.le_of_ble_eq_true rfl) ?_
  intro F hF
  simp (dsimp := false) only [go_sem, Nat.reduceAdd, Nat.reduceBEq, Nat.reduceEqDiff, Nat.reduceLT, Nat.reduceLeDiff, Nat.reduceMul, Int.reduceToNat, reduceCtorEq, ↓reduceIte, Tryd.ntmps13, Tryd.results13, ks_13, mu_13, gv_13, ti_ag3, ti_ag34, ti_ag35, ti_ag37, ti_fl37_0, ti_fl73_3, ti_hb40, ti_hb41, ti_hb42, ti_hb43, ti_hb44, ti_hb45, ti_hb46, ti_hb47, ti_hb48, ti_hb49, ti_hb50, ti_hb51, ti_hb52, ti_hb53, ti_pl73, ti_sb35, ti_sb76, ti_sl35, ti_sl76, ti_sz37, ti_zr73, ndD, ndV, tsV, hnf', hnf, a3, a4, hz, hdd, not_true_eq_false, not_false_eq_true, Bool.and_true, Bool.true_and, Bool.false_and, Bool.and_false, Bool.false_or, Bool.or_false, Bool.true_beq, Bool.false_beq, Int.reduceEq, Int.reduceLT, Int.reduceLE, in_13] at hF
  subst hF
  repeat' (first | (refine AWp_prm (H.length + 2) 0 4 3 1 ((get_appk _ _ 2).trans rfl) rfl rfl (h := ?_)) | with_reducible (first | refine And.intro ?_ ?_ | intro _ | refine AWp_seq ?_ | refine AWp_block ?_ | (refine hKv _ _ (AWp_nop ?_); clear hKv Kv) | (refine hKA ?_; clear hKA hKB KA KB) | (refine hKB ?_; clear hKA hKB KA KB) | refine AWp_skipN ?_ | refine AWp_exitO (by repeat (first | exact Out.hit | apply Out.thenA | apply Out.out rfl)) ?_) | ((first | with_reducible (first | (refine hKv _ _ ?_; clear hKv Kv) | ((first | refine AWp_regG gv_13 mu_13 ks_13 (by decide) ?_ | refine AWp_regC mu_13 ks_13 ?_ | refine AWp_regE mu_13 ks_13 ?_); intro Kv hKv) | refine AWp_retR ?_) | refine storeCheck_A l (by omega) hS _ _ ?_ | refine hasBad_A l zs (by omega) _ _ ?_ | refine cloneI_A zs (by omega) _ _ ?_ | refine hs _ ?_ | refine hc _ ?_ | refine hf _ ?_); try simp (dsimp := false) only [go_sem, Nat.reduceAdd, Nat.reduceBEq, Nat.reduceEqDiff, Nat.reduceLT, Nat.reduceLeDiff, Nat.reduceMul, Int.reduceToNat, reduceCtorEq, ↓reduceIte, Tryd.ntmps13, Tryd.results13, ks_13, mu_13, gv_13, ti_ag3, ti_ag34, ti_ag35, ti_ag37, ti_fl37_0, ti_fl73_3, ti_hb40, ti_hb41, ti_hb42, ti_hb43, ti_hb44, ti_hb45, ti_hb46, ti_hb47, ti_hb48, ti_hb49, ti_hb50, ti_hb51, ti_hb52, ti_hb53, ti_pl73, ti_sb35, ti_sb76, ti_sl35, ti_sl76, ti_sz37, ti_zr73, ndD, ndV, tsV, hnf', hnf, a3, a4, hz, hdd, not_true_eq_false, not_false_eq_true, Bool.and_true, Bool.true_and, Bool.false_and, Bool.and_false, Bool.false_or, Bool.or_false, Bool.true_beq, Bool.false_beq, Int.reduceEq, Int.reduceLT, Int.reduceLE]) | (refine AWp_condC rfl ?_; intro KA KB hKA hKB; try simp only [onB_true, onB_false, onB_dec, onB_ndec, onB_not, onB_and, onB_or]) | (refine AWp_condA rfl ?_ ?_) | with_reducible (first | refine onB_of ?_ ?_ | rfl) | omega)
  all_goals first
    | omega
    | exact dropF hk (Fz_tu2 (.os _ _ _ _ _ _ (by omega) ((get_appk _ _ 3).trans rfl) (natC_data _)) (.same _)) (by simp [Bel_tu, Bel_d])
end Go.Proofs.YtpgdflhcmijaiaaDoor
