/- The core: core.Check and the reference's CoreFault, walked. No condition but that the tables of package unicode/utf8 and of the core's functions are there. -/
import Derived.Test.YtppalmoicjogaaaDoorC41
import Derived.Test.YtppalmoicjogaaaDoorC42
import Derived.Test.YtppalmoicjogaaaDoorC43
import Derived.Test.YtppalmoicjogaaaDoorC44
import Derived.Test.YtppalmoicjogaaaDoorC45
import Derived.Test.YtppalmoicjogaaaDoorC46
import Derived.Test.YtppalmoicjogaaaDoorC47
import Derived.Test.YtppalmoicjogaaaDoorC48
import Derived.Test.YtppalmoicjogaaaDoorC49
import Derived.Test.YtppalmoicjogaaaDoorC50
set_option linter.all false
set_option linter.unusedSimpArgs false
set_option linter.unusedVariables false
namespace Go.Proofs.YtppalmoicjogaaaDoor
open Go Go.Proofs.YtppalmoicjogaaaDoor.Ab
variable [Glo] [U8] [CAr]
set_option maxHeartbeats 4000000
set_option maxRecDepth 20000
theorem checkS_A (h : Xh) (l : List Ex) (ok : XhOk h) (hl : l.length ≤ 1048576) (sc : List (List UInt8)) (hsc : sc.length + 2 ≤ 1000000) (id : Nat) (a b c : Int)
    (ih : ∀ x, x ∈ l → ∀ (sc' : List (List UInt8)), sc'.length ≤ sc.length + 2 → ChkAt id x sc')
    (H : Heap) (K : V → Heap → Prop) (hr : H[id]? = some (cntC a b c)) (hB : CntOk a b c (exN (.mk h l))) (hk : ∀ a' b' c', (efQ (.mk h l) sc = 0 → a' = a + exHow 5 6 (.mk h l) ∧ b' = b + exHow 10 10 (.mk h l) ∧ c' = c + exN (.mk h l)) → K (.d (.i .i64 (efQ (.mk h l) sc))) (H.set id (cntC a' b' c'))) :
    ACalls Tryd.prog 24 [exV h l, .d (.sl 1 (sc.map strRow)), .pt id 0 0 0] H K := by
  have hid := lt_of_get hr
  have hr' := hr
  rw [cntC] at hr'
  have hsm : H.set id (cntC a b c) = H := set_same hr
  by_cases h1 : 1 ≤ h.k
  case neg =>
    have t1 : (h.k < 1) = True := eq_true (by omega)
    have hq : efQ (.mk h l) sc = 3 := by rw [efQ, if_pos (by omega)]
    rw [hq] at hk
    replace hk := hk a b c (fun e => absurd e (by decide))
    rw [hsm] at hk
    refine ACalls_of Tryd.func24 rfl in_24 (Nat.le_of_ble_eq_true rfl) ?_
    intro F hF
    simp (dsimp := false) only [go_sem, Nat.reduceAdd, Nat.reduceBEq, Nat.reduceEqDiff, Nat.reduceLT, Nat.reduceLeDiff, Nat.reduceMul, Int.reduceToNat, reduceCtorEq, ↓reduceIte, Tryd.ntmps24, Tryd.results24, ks_24, mu_24, xt_24, gv_24, ro_24, ti_ag3, ti_ag9, ti_ag34, ti_ag36, ti_fl36_0, ti_fl36_2, ti_fl36_3, ti_fl36_7, ti_fl67_0, ti_fl67_1, ti_fl67_2, ti_hb15, ti_hb24, ti_hb45, ti_hb46, ti_sb34, ti_sl34, ti_sl48, ti_sz3, ti_sz36, ti_zr36, not_true_eq_false, not_false_eq_true, Bool.true_and, Bool.false_and, Int.reduceEq, Int.reduceLT, Int.reduceLE, Int.reduceNeg, List.map_cons, List.map_nil, exV, t1, in_24] at hF
    subst hF
    repeat' (first | with_reducible (first | refine And.intro ?_ ?_ | intro _ | refine AWp_seq ?_ | refine AWp_block ?_ | (refine hKv _ _ (AWp_nop ?_); clear hKv Kv) | (refine hKA ?_; clear hKA hKB KA KB) | (refine hKB ?_; clear hKA hKB KA KB) | refine AWp_skipN ?_ | refine AWp_exitO (by repeat (first | exact Out.hit | apply Out.thenA | apply Out.out rfl)) ?_) | (with_reducible (first | (refine hKv _ _ ?_; clear hKv Kv) | ((first | refine AWp_regG gv_24 mu_24 ks_24 (by decide) ?_ | refine AWp_regro mu_24 ks_24 ro_24 ?_ | refine AWp_regC mu_24 ks_24 ?_ | refine AWp_drawT xt_24 mu_24 ks_24 (by decide) ti_mixed (by kernel_rfl) ?_ | refine AWp_regE mu_24 ks_24 ?_); intro Kv hKv) | refine AWp_retR ?_); try simp (dsimp := false) only [go_sem, Nat.reduceAdd, Nat.reduceBEq, Nat.reduceEqDiff, Nat.reduceLT, Nat.reduceLeDiff, Nat.reduceMul, Int.reduceToNat, reduceCtorEq, ↓reduceIte, Tryd.ntmps24, Tryd.results24, ks_24, mu_24, xt_24, gv_24, ro_24, ti_ag3, ti_ag9, ti_ag34, ti_ag36, ti_fl36_0, ti_fl36_2, ti_fl36_3, ti_fl36_7, ti_fl67_0, ti_fl67_1, ti_fl67_2, ti_hb15, ti_hb24, ti_hb45, ti_hb46, ti_sb34, ti_sl34, ti_sl48, ti_sz3, ti_sz36, ti_zr36, not_true_eq_false, not_false_eq_true, Bool.true_and, Bool.false_and, Int.reduceEq, Int.reduceLT, Int.reduceLE, Int.reduceNeg, List.map_cons, List.map_nil, exV, t1]) | (refine AWp_condC rfl ?_; intro KA KB hKA hKB; try simp only [onB_true, onB_false, onB_dec, onB_ndec, onB_not, onB_and, onB_or]) | (refine AWp_condA rfl ?_ ?_) | with_reducible (first | refine onB_of ?_ ?_ | rfl) | omega)
    all_goals first
      | omega
      | exact keepD hk rfl
  have t1 : (h.k < 1) = False := eq_false (by omega)
  by_cases h2 : h.k ≤ 11
  case neg =>
    have t2 : (11 < h.k) = True := eq_true (by omega)
    have hq : efQ (.mk h l) sc = 3 := by rw [efQ, if_pos (by omega)]
    rw [hq] at hk
    replace hk := hk a b c (fun e => absurd e (by decide))
    rw [hsm] at hk
    refine ACalls_of Tryd.func24 rfl in_24 (Nat.le_of_ble_eq_true rfl) ?_
    intro F hF
    simp (dsimp := false) only [go_sem, Nat.reduceAdd, Nat.reduceBEq, Nat.reduceEqDiff, Nat.reduceLT, Nat.reduceLeDiff, Nat.reduceMul, Int.reduceToNat, reduceCtorEq, ↓reduceIte, Tryd.ntmps24, Tryd.results24, ks_24, mu_24, xt_24, gv_24, ro_24, ti_ag3, ti_ag9, ti_ag34, ti_ag36, ti_fl36_0, ti_fl36_2, ti_fl36_3, ti_fl36_7, ti_fl67_0, ti_fl67_1, ti_fl67_2, ti_hb15, ti_hb24, ti_hb45, ti_hb46, ti_sb34, ti_sl34, ti_sl48, ti_sz3, ti_sz36, ti_zr36, not_true_eq_false, not_false_eq_true, Bool.true_and, Bool.false_and, Int.reduceEq, Int.reduceLT, Int.reduceLE, Int.reduceNeg, List.map_cons, List.map_nil, exV, t1, t2, in_24] at hF
    subst hF
    repeat' (first | with_reducible (first | refine And.intro ?_ ?_ | intro _ | refine AWp_seq ?_ | refine AWp_block ?_ | (refine hKv _ _ (AWp_nop ?_); clear hKv Kv) | (refine hKA ?_; clear hKA hKB KA KB) | (refine hKB ?_; clear hKA hKB KA KB) | refine AWp_skipN ?_ | refine AWp_exitO (by repeat (first | exact Out.hit | apply Out.thenA | apply Out.out rfl)) ?_) | (with_reducible (first | (refine hKv _ _ ?_; clear hKv Kv) | ((first | refine AWp_regG gv_24 mu_24 ks_24 (by decide) ?_ | refine AWp_regro mu_24 ks_24 ro_24 ?_ | refine AWp_regC mu_24 ks_24 ?_ | refine AWp_drawT xt_24 mu_24 ks_24 (by decide) ti_mixed (by kernel_rfl) ?_ | refine AWp_regE mu_24 ks_24 ?_); intro Kv hKv) | refine AWp_retR ?_); try simp (dsimp := false) only [go_sem, Nat.reduceAdd, Nat.reduceBEq, Nat.reduceEqDiff, Nat.reduceLT, Nat.reduceLeDiff, Nat.reduceMul, Int.reduceToNat, reduceCtorEq, ↓reduceIte, Tryd.ntmps24, Tryd.results24, ks_24, mu_24, xt_24, gv_24, ro_24, ti_ag3, ti_ag9, ti_ag34, ti_ag36, ti_fl36_0, ti_fl36_2, ti_fl36_3, ti_fl36_7, ti_fl67_0, ti_fl67_1, ti_fl67_2, ti_hb15, ti_hb24, ti_hb45, ti_hb46, ti_sb34, ti_sl34, ti_sl48, ti_sz3, ti_sz36, ti_zr36, not_true_eq_false, not_false_eq_true, Bool.true_and, Bool.false_and, Int.reduceEq, Int.reduceLT, Int.reduceLE, Int.reduceNeg, List.map_cons, List.map_nil, exV, t1, t2]) | (refine AWp_condC rfl ?_; intro KA KB hKA hKB; try simp only [onB_true, onB_false, onB_dec, onB_ndec, onB_not, onB_and, onB_or]) | (refine AWp_condA rfl ?_ ?_) | with_reducible (first | refine onB_of ?_ ?_ | rfl) | omega)
    all_goals first
      | omega
      | exact keepD hk rfl
  have t2 : (11 < h.k) = False := eq_false (by omega)
  have hM := many_A h.k
  have hB' := hB
  obtain ⟨q1, q2, q3, q4, q5, q6⟩ := hB'
  rw [exN] at q6
  have r3 : inR .i64 (c + 1) := inR_i64' (by omega) (by omega)
  by_cases h3 : 0 ≤ coreMany h.k ∧ coreMany h.k ≠ (l.length : Int)
  · have t3 : (0 ≤ coreMany h.k) = True := eq_true h3.1
    have t4 : (coreMany h.k = (l.length : Int)) = False := eq_false h3.2
    have hq : efQ (.mk h l) sc = 11 := by rw [efQ, if_neg (by omega), if_pos h3]
    rw [hq] at hk
    replace hk := hk a b (c + 1) (fun e => absurd e (by decide))
    rw [cntC] at hk
    refine ACalls_of Tryd.func24 rfl in_24 (Nat.le_of_ble_eq_true rfl) ?_
    intro F hF
    simp (dsimp := false) only [go_sem, Nat.reduceAdd, Nat.reduceBEq, Nat.reduceEqDiff, Nat.reduceLT, Nat.reduceLeDiff, Nat.reduceMul, Int.reduceToNat, reduceCtorEq, ↓reduceIte, Tryd.ntmps24, Tryd.results24, ks_24, mu_24, xt_24, gv_24, ro_24, ti_ag3, ti_ag9, ti_ag34, ti_ag36, ti_fl36_0, ti_fl36_2, ti_fl36_3, ti_fl36_7, ti_fl67_0, ti_fl67_1, ti_fl67_2, ti_hb15, ti_hb24, ti_hb45, ti_hb46, ti_sb34, ti_sl34, ti_sl48, ti_sz3, ti_sz36, ti_zr36, not_true_eq_false, not_false_eq_true, Bool.true_and, Bool.false_and, Int.reduceEq, Int.reduceLT, Int.reduceLE, Int.reduceNeg, List.map_cons, List.map_nil, exV, t1, t2, t3, t4, hr', hid, r3, in_24] at hF
    subst hF
    repeat' (first | with_reducible (first | refine And.intro ?_ ?_ | intro _ | refine AWp_seq ?_ | refine AWp_block ?_ | (refine hKv _ _ (AWp_nop ?_); clear hKv Kv) | (refine hKA ?_; clear hKA hKB KA KB) | (refine hKB ?_; clear hKA hKB KA KB) | refine AWp_skipN ?_ | refine AWp_exitO (by repeat (first | exact Out.hit | apply Out.thenA | apply Out.out rfl)) ?_) | ((first | with_reducible (first | (refine hKv _ _ ?_; clear hKv Kv) | ((first | refine AWp_regG gv_24 mu_24 ks_24 (by decide) ?_ | refine AWp_regro mu_24 ks_24 ro_24 ?_ | refine AWp_regC mu_24 ks_24 ?_ | refine AWp_drawT xt_24 mu_24 ks_24 (by decide) ti_mixed (by kernel_rfl) ?_ | refine AWp_regE mu_24 ks_24 ?_); intro Kv hKv) | refine AWp_retR ?_) | refine hM _ _ ?_ | refine QCall_of (hM _ _ (Two_intro _ _)) ?_ | refine ECall_of (hM _ _ (Two_intro _ _)) ?_); try simp (dsimp := false) only [go_sem, Nat.reduceAdd, Nat.reduceBEq, Nat.reduceEqDiff, Nat.reduceLT, Nat.reduceLeDiff, Nat.reduceMul, Int.reduceToNat, reduceCtorEq, ↓reduceIte, Tryd.ntmps24, Tryd.results24, ks_24, mu_24, xt_24, gv_24, ro_24, ti_ag3, ti_ag9, ti_ag34, ti_ag36, ti_fl36_0, ti_fl36_2, ti_fl36_3, ti_fl36_7, ti_fl67_0, ti_fl67_1, ti_fl67_2, ti_hb15, ti_hb24, ti_hb45, ti_hb46, ti_sb34, ti_sl34, ti_sl48, ti_sz3, ti_sz36, ti_zr36, not_true_eq_false, not_false_eq_true, Bool.true_and, Bool.false_and, Int.reduceEq, Int.reduceLT, Int.reduceLE, Int.reduceNeg, List.map_cons, List.map_nil, exV, t1, t2, t3, t4, hr', hid, r3]) | (refine AWp_condC rfl ?_; intro KA KB hKA hKB; try simp only [onB_true, onB_false, onB_dec, onB_ndec, onB_not, onB_and, onB_or]) | (refine AWp_condA rfl ?_ ?_) | with_reducible (first | refine onB_of ?_ ?_ | rfl) | omega)
    all_goals first
      | omega
      | exact r3
      | exact keepS hk (by simp) (closed_set (closed_self H) (cntC_bel _ _ _ _)) (.d _)
  have hcount : coreMany h.k < 0 ∨ coreMany h.k = (l.length : Int) := by omega
  by_cases hown : exOwn h l.length sc = 0
  case neg =>
    have hO := own_A h l ok hl sc (by omega)
    have t5 : (exOwn h l.length sc = 0) = False := eq_false hown
    have hq : efQ (.mk h l) sc = exOwn h l.length sc := by rw [efQ_eq ⟨h1, h2⟩ hcount, if_neg hown]
    rw [hq] at hk
    replace hk := hk a b (c + 1) (fun e => absurd e hown)
    rw [cntC] at hk
    rcases hcount with h4 | h4
    · have t3 : (0 ≤ coreMany h.k) = False := eq_false (by omega)
      refine ACalls_of Tryd.func24 rfl in_24 (Nat.le_of_ble_eq_true rfl) ?_
      intro F hF
      simp (dsimp := false) only [go_sem, Nat.reduceAdd, Nat.reduceBEq, Nat.reduceEqDiff, Nat.reduceLT, Nat.reduceLeDiff, Nat.reduceMul, Int.reduceToNat, reduceCtorEq, ↓reduceIte, Tryd.ntmps24, Tryd.results24, ks_24, mu_24, xt_24, gv_24, ro_24, ti_ag3, ti_ag9, ti_ag34, ti_ag36, ti_fl36_0, ti_fl36_2, ti_fl36_3, ti_fl36_7, ti_fl67_0, ti_fl67_1, ti_fl67_2, ti_hb15, ti_hb24, ti_hb45, ti_hb46, ti_sb34, ti_sl34, ti_sl48, ti_sz3, ti_sz36, ti_zr36, not_true_eq_false, not_false_eq_true, Bool.true_and, Bool.false_and, Int.reduceEq, Int.reduceLT, Int.reduceLE, Int.reduceNeg, List.map_cons, List.map_nil, exV, t1, t2, t3, t5, hr', hid, r3, in_24] at hF
      subst hF
      repeat' (first | with_reducible (first | refine And.intro ?_ ?_ | intro _ | refine AWp_seq ?_ | refine AWp_block ?_ | (refine hKv _ _ (AWp_nop ?_); clear hKv Kv) | (refine hKA ?_; clear hKA hKB KA KB) | (refine hKB ?_; clear hKA hKB KA KB) | refine AWp_skipN ?_ | refine AWp_exitO (by repeat (first | exact Out.hit | apply Out.thenA | apply Out.out rfl)) ?_) | ((first | with_reducible (first | (refine hKv _ _ ?_; clear hKv Kv) | ((first | refine AWp_regG gv_24 mu_24 ks_24 (by decide) ?_ | refine AWp_regro mu_24 ks_24 ro_24 ?_ | refine AWp_regC mu_24 ks_24 ?_ | refine AWp_drawT xt_24 mu_24 ks_24 (by decide) ti_mixed (by kernel_rfl) ?_ | refine AWp_regE mu_24 ks_24 ?_); intro Kv hKv) | refine AWp_retR ?_) | refine hM _ _ ?_ | refine QCall_of (hM _ _ (Two_intro _ _)) ?_ | refine ECall_of (hM _ _ (Two_intro _ _)) ?_ | refine hO _ _ ?_ | refine QCall_of (hO _ _ (Two_intro _ _)) ?_ | refine ECall_of (hO _ _ (Two_intro _ _)) ?_); try simp (dsimp := false) only [go_sem, Nat.reduceAdd, Nat.reduceBEq, Nat.reduceEqDiff, Nat.reduceLT, Nat.reduceLeDiff, Nat.reduceMul, Int.reduceToNat, reduceCtorEq, ↓reduceIte, Tryd.ntmps24, Tryd.results24, ks_24, mu_24, xt_24, gv_24, ro_24, ti_ag3, ti_ag9, ti_ag34, ti_ag36, ti_fl36_0, ti_fl36_2, ti_fl36_3, ti_fl36_7, ti_fl67_0, ti_fl67_1, ti_fl67_2, ti_hb15, ti_hb24, ti_hb45, ti_hb46, ti_sb34, ti_sl34, ti_sl48, ti_sz3, ti_sz36, ti_zr36, not_true_eq_false, not_false_eq_true, Bool.true_and, Bool.false_and, Int.reduceEq, Int.reduceLT, Int.reduceLE, Int.reduceNeg, List.map_cons, List.map_nil, exV, t1, t2, t3, t5, hr', hid, r3]) | (refine AWp_condC rfl ?_; intro KA KB hKA hKB; try simp only [onB_true, onB_false, onB_dec, onB_ndec, onB_not, onB_and, onB_or]) | (refine AWp_condA rfl ?_ ?_) | with_reducible (first | refine onB_of ?_ ?_ | rfl) | omega)
      all_goals first
        | omega
        | exact r3
        | exact keepS hk (by simp) (closed_set (closed_self H) (cntC_bel _ _ _ _)) (.d _)
    · have t3 : (0 ≤ coreMany h.k) = True := eq_true (by omega)
      have t4 : (coreMany h.k = (l.length : Int)) = True := eq_true h4
      refine ACalls_of Tryd.func24 rfl in_24 (Nat.le_of_ble_eq_true rfl) ?_
      intro F hF
      simp (dsimp := false) only [go_sem, Nat.reduceAdd, Nat.reduceBEq, Nat.reduceEqDiff, Nat.reduceLT, Nat.reduceLeDiff, Nat.reduceMul, Int.reduceToNat, reduceCtorEq, ↓reduceIte, Tryd.ntmps24, Tryd.results24, ks_24, mu_24, xt_24, gv_24, ro_24, ti_ag3, ti_ag9, ti_ag34, ti_ag36, ti_fl36_0, ti_fl36_2, ti_fl36_3, ti_fl36_7, ti_fl67_0, ti_fl67_1, ti_fl67_2, ti_hb15, ti_hb24, ti_hb45, ti_hb46, ti_sb34, ti_sl34, ti_sl48, ti_sz3, ti_sz36, ti_zr36, not_true_eq_false, not_false_eq_true, Bool.true_and, Bool.false_and, Int.reduceEq, Int.reduceLT, Int.reduceLE, Int.reduceNeg, List.map_cons, List.map_nil, exV, t1, t2, t3, t4, t5, hr', hid, r3, in_24] at hF
      subst hF
      repeat' (first | with_reducible (first | refine And.intro ?_ ?_ | intro _ | refine AWp_seq ?_ | refine AWp_block ?_ | (refine hKv _ _ (AWp_nop ?_); clear hKv Kv) | (refine hKA ?_; clear hKA hKB KA KB) | (refine hKB ?_; clear hKA hKB KA KB) | refine AWp_skipN ?_ | refine AWp_exitO (by repeat (first | exact Out.hit | apply Out.thenA | apply Out.out rfl)) ?_) | ((first | with_reducible (first | (refine hKv _ _ ?_; clear hKv Kv) | ((first | refine AWp_regG gv_24 mu_24 ks_24 (by decide) ?_ | refine AWp_regro mu_24 ks_24 ro_24 ?_ | refine AWp_regC mu_24 ks_24 ?_ | refine AWp_drawT xt_24 mu_24 ks_24 (by decide) ti_mixed (by kernel_rfl) ?_ | refine AWp_regE mu_24 ks_24 ?_); intro Kv hKv) | refine AWp_retR ?_) | refine hM _ _ ?_ | refine QCall_of (hM _ _ (Two_intro _ _)) ?_ | refine ECall_of (hM _ _ (Two_intro _ _)) ?_ | refine hO _ _ ?_ | refine QCall_of (hO _ _ (Two_intro _ _)) ?_ | refine ECall_of (hO _ _ (Two_intro _ _)) ?_); try simp (dsimp := false) only [go_sem, Nat.reduceAdd, Nat.reduceBEq, Nat.reduceEqDiff, Nat.reduceLT, Nat.reduceLeDiff, Nat.reduceMul, Int.reduceToNat, reduceCtorEq, ↓reduceIte, Tryd.ntmps24, Tryd.results24, ks_24, mu_24, xt_24, gv_24, ro_24, ti_ag3, ti_ag9, ti_ag34, ti_ag36, ti_fl36_0, ti_fl36_2, ti_fl36_3, ti_fl36_7, ti_fl67_0, ti_fl67_1, ti_fl67_2, ti_hb15, ti_hb24, ti_hb45, ti_hb46, ti_sb34, ti_sl34, ti_sl48, ti_sz3, ti_sz36, ti_zr36, not_true_eq_false, not_false_eq_true, Bool.true_and, Bool.false_and, Int.reduceEq, Int.reduceLT, Int.reduceLE, Int.reduceNeg, List.map_cons, List.map_nil, exV, t1, t2, t3, t4, t5, hr', hid, r3]) | (refine AWp_condC rfl ?_; intro KA KB hKA hKB; try simp only [onB_true, onB_false, onB_dec, onB_ndec, onB_not, onB_and, onB_or]) | (refine AWp_condA rfl ?_ ?_) | with_reducible (first | refine onB_of ?_ ?_ | rfl) | omega)
      all_goals first
        | omega
        | exact r3
        | exact keepS hk (by simp) (closed_set (closed_self H) (cntC_bel _ _ _ _)) (.d _)
  have : h.k = 1 ∨ h.k = 2 ∨ h.k = 3 ∨ h.k = 4 ∨ h.k = 5 ∨ h.k = 6 ∨ h.k = 7 ∨ h.k = 8 ∨ h.k = 9 ∨ h.k = 10 ∨ h.k = 11 := by omega
  rcases this with e | e | e | e | e | e | e | e | e | e | e
  · exact chk1_A h l e ok hl hcount sc hsc hown id a b c ih H K hr hB hk
  · exact chk2_A h l e ok hl hcount sc hsc hown id a b c ih H K hr hB hk
  · exact chk3_A h l e ok hl hcount sc hsc hown id a b c ih H K hr hB hk
  · exact chk4_A h l e ok hl hcount sc hsc hown id a b c ih H K hr hB hk
  · exact chk5_A h l e ok hl hcount sc hsc hown id a b c ih H K hr hB hk
  · exact chk6_A h l e ok hl hcount sc hsc hown id a b c ih H K hr hB hk
  · exact chk7_A h l e ok hl hcount sc hsc hown id a b c ih H K hr hB hk
  · exact chk8_A h l e ok hl hcount sc hsc hown id a b c ih H K hr hB hk
  · exact chk9_A h l e ok hl hcount sc hsc hown id a b c ih H K hr hB hk
  · exact chk10_A h l e ok hl hcount sc hsc hown id a b c ih H K hr hB hk
  · exact chk11_A h l e ok hl hcount sc hsc hown id a b c ih H K hr hB hk
theorem check_A : ∀ (n : Nat) (x : Ex), exN x ≤ n → ExOk x → ∀ (sc : List (List UInt8)) (id : Nat), sc.length + 2 * exN x ≤ 1000000 → ChkAt id x sc
  | 0, x, hn, _, _, _, _ => by rw [exN_eq] at hn; omega
  | n + 1, .mk h l, hn, ok, sc, id, hsc => fun a b c H K hr hB hk => by
    refine checkS_A h l ok.h ok.len sc (by rw [exN] at hsc; omega) id a b c (fun x hx sc' hsc' => ?_) H K hr hB hk
    have := exN_lt (x := .mk h l) hx
    exact check_A n x (by omega) (ok.mem x hx) sc' id (by omega)
theorem sees_nil2 {P : Program} {f : Nat} {v u : V} {l : List (List UInt8)} (hl : l = []) {H : Heap} {K : V → Heap → Prop} (h : ACalls P f [v, .d (.sl 1 (l.map strRow)), u] H K) : ACalls P f [v, .d (.c (.slice none 0 0)), u] H K := fun w σ args hw hln hr => h w σ args hw hln fun j c z hc hz => by
  match j, hc with
  | 0, hc => exact hr 0 c z hc hz
  | 1, hc =>
    simp at hc
    subst hc hl
    exact Sees.nil _ _ _ _ _ _ (hr 1 _ z rfl hz)
  | 2, hc => exact hr 2 c z hc hz
theorem sees_nil1 {P : Program} {f : Nat} {v : V} {l : List (List UInt8)} (hl : l = []) {H : Heap} {K : V → Heap → Prop} (h : ACalls P f [v, .d (.sl 1 (l.map strRow))] H K) : ACalls P f [v, .d (.c (.slice none 0 0))] H K := fun w σ args hw hln hr => h w σ args hw hln fun j c z hc hz => by
  match j, hc with
  | 0, hc => exact hr 0 c z hc hz
  | 1, hc =>
    simp at hc
    subst hc hl
    exact Sees.nil _ _ _ _ _ _ (hr 1 _ z rfl hz)
def ks_9 : Nat → List Nat
  | 0 => [1]
  | 1 => [1, 3]
  | 2 => [3, 4]
  | 3 => [3, 4, 11]
  | 4 => [2]
  | 5 => [31]
  | 6 => [2]
  | 7 => [2]
  | _ => []
def mu_9 : List Nat := [6]
def in_9 : List Nat := [0]
theorem coreCheck_A (x : Ex) (ok : ExOk x) (hn : exN x ≤ 100000) (H : Heap) (K : V → Heap → Prop) (hk : K (.d (.i .i64 (coreQ x))) H) : ACalls Tryd.prog 9 [exV x.h x.args] H K := by
  have hC0 : ∀ K : V → Heap → Prop, (∀ a' b' c', (efQ x [] = 0 → a' = 0 + (exHow 5 6 x : Int) ∧ b' = 0 + (exHow 10 10 x : Int) ∧ c' = 0 + (exN x : Int)) → K (.d (.i .i64 (efQ x []))) (H ++ [cntC a' b' c'])) → ACalls Tryd.prog 24 [exV x.h x.args, .d (.c (.slice none 0 0)), .pt H.length 0 0 0] (H ++ [cntC 0 0 0]) K := fun K hK =>
    sees_nil2 (l := []) rfl (check_A _ x (Nat.le_refl _) ok [] H.length (by simp; omega) 0 0 0 (H ++ [cntC 0 0 0]) K (by simp) ⟨by omega, by omega, by omega, by omega, by omega, by omega⟩ fun a' b' c' hc => by
      have := hK a' b' c' hc
      rw [set_app0]
      exact this)
  by_cases hz : efQ x [] = 0
  case neg =>
    have u0 : (efQ x [] = 0) = False := eq_false hz
    have hq : coreQ x = efQ x [] := by rw [coreQ, if_neg hz]
    rw [hq] at hk
    refine ACalls_of Tryd.func9 rfl in_9 (Nat.le_of_ble_eq_true rfl) ?_
    intro F hF
    simp (dsimp := false) only [go_sem, Nat.reduceAdd, Nat.reduceBEq, Nat.reduceEqDiff, Nat.reduceLT, Nat.reduceLeDiff, Nat.reduceMul, Int.reduceToNat, reduceCtorEq, ↓reduceIte, Tryd.ntmps9, Tryd.results9, ks_9, mu_9, ti_ag3, ti_ag36, ti_fl67_0, ti_fl67_1, ti_fl67_2, ti_hb24, ti_pl67, ti_sz36, ti_zr67, not_true_eq_false, not_false_eq_true, Bool.true_and, Bool.false_and, Int.reduceEq, Int.reduceLT, Int.reduceLE, Int.reduceNeg, List.map_cons, List.map_nil, exV, cntC, u0, in_9] at hF
    subst hF
    repeat' (first | with_reducible (first | refine And.intro ?_ ?_ | intro _ | refine AWp_seq ?_ | refine AWp_block ?_ | (refine hKv _ _ (AWp_nop ?_); clear hKv Kv) | (refine hKA ?_; clear hKA hKB KA KB) | (refine hKB ?_; clear hKA hKB KA KB) | refine AWp_skipN ?_ | refine AWp_exitO (by repeat (first | exact Out.hit | apply Out.thenA | apply Out.out rfl)) ?_) | ((first | with_reducible (first | (refine hKv _ _ ?_; clear hKv Kv) | ((first | refine AWp_regC mu_9 ks_9 ?_ | refine AWp_regE mu_9 ks_9 ?_); intro Kv hKv) | refine AWp_retR ?_) | refine hC0 _ ?_); try simp (dsimp := false) only [go_sem, Nat.reduceAdd, Nat.reduceBEq, Nat.reduceEqDiff, Nat.reduceLT, Nat.reduceLeDiff, Nat.reduceMul, Int.reduceToNat, reduceCtorEq, ↓reduceIte, Tryd.ntmps9, Tryd.results9, ks_9, mu_9, ti_ag3, ti_ag36, ti_fl67_0, ti_fl67_1, ti_fl67_2, ti_hb24, ti_pl67, ti_sz36, ti_zr67, not_true_eq_false, not_false_eq_true, Bool.true_and, Bool.false_and, Int.reduceEq, Int.reduceLT, Int.reduceLE, Int.reduceNeg, List.map_cons, List.map_nil, exV, cntC, u0]) | (refine AWp_condC rfl ?_; intro KA KB hKA hKB; try simp only [onB_true, onB_false, onB_dec, onB_ndec, onB_not, onB_and, onB_or]) | (refine AWp_condA rfl ?_ ?_) | with_reducible (first | refine onB_of ?_ ?_ | rfl) | omega)
    all_goals first
      | omega
      | exact dropD hk rfl
  have hC : ∀ K : V → Heap → Prop, K (.d (.i .i64 0)) (H ++ [cntC (exHow 5 6 x) (exHow 10 10 x) (exN x)]) → ACalls Tryd.prog 24 [exV x.h x.args, .d (.c (.slice none 0 0)), .pt H.length 0 0 0] (H ++ [cntC 0 0 0]) K := fun K hK => hC0 K fun a' b' c' hc => by
    obtain ⟨rfl, rfl, rfl⟩ := hc hz
    rw [hz]
    simpa using hK
  by_cases g1 : 6 < exHow 5 6 x
  · have u1 : ((6 : Int) < (exHow 5 6 x : Int)) = True := eq_true (by omega)
    have hq : coreQ x = 1 := by rw [coreQ, if_pos hz, if_pos (.inl g1)]
    rw [hq] at hk
    refine ACalls_of Tryd.func9 rfl in_9 (Nat.le_of_ble_eq_true rfl) ?_
    intro F hF
    simp (dsimp := false) only [go_sem, Nat.reduceAdd, Nat.reduceBEq, Nat.reduceEqDiff, Nat.reduceLT, Nat.reduceLeDiff, Nat.reduceMul, Int.reduceToNat, reduceCtorEq, ↓reduceIte, Tryd.ntmps9, Tryd.results9, ks_9, mu_9, ti_ag3, ti_ag36, ti_fl67_0, ti_fl67_1, ti_fl67_2, ti_hb24, ti_pl67, ti_sz36, ti_zr67, not_true_eq_false, not_false_eq_true, Bool.true_and, Bool.false_and, Int.reduceEq, Int.reduceLT, Int.reduceLE, Int.reduceNeg, List.map_cons, List.map_nil, exV, cntC, Int.zero_add, u1, in_9] at hF
    subst hF
    repeat' (first | with_reducible (first | refine And.intro ?_ ?_ | intro _ | refine AWp_seq ?_ | refine AWp_block ?_ | (refine hKv _ _ (AWp_nop ?_); clear hKv Kv) | (refine hKA ?_; clear hKA hKB KA KB) | (refine hKB ?_; clear hKA hKB KA KB) | refine AWp_skipN ?_ | refine AWp_exitO (by repeat (first | exact Out.hit | apply Out.thenA | apply Out.out rfl)) ?_) | ((first | with_reducible (first | (refine hKv _ _ ?_; clear hKv Kv) | ((first | refine AWp_regC mu_9 ks_9 ?_ | refine AWp_regE mu_9 ks_9 ?_); intro Kv hKv) | refine AWp_retR ?_) | refine hC _ ?_); try simp (dsimp := false) only [go_sem, Nat.reduceAdd, Nat.reduceBEq, Nat.reduceEqDiff, Nat.reduceLT, Nat.reduceLeDiff, Nat.reduceMul, Int.reduceToNat, reduceCtorEq, ↓reduceIte, Tryd.ntmps9, Tryd.results9, ks_9, mu_9, ti_ag3, ti_ag36, ti_fl67_0, ti_fl67_1, ti_fl67_2, ti_hb24, ti_pl67, ti_sz36, ti_zr67, not_true_eq_false, not_false_eq_true, Bool.true_and, Bool.false_and, Int.reduceEq, Int.reduceLT, Int.reduceLE, Int.reduceNeg, List.map_cons, List.map_nil, exV, cntC, Int.zero_add, u1]) | (refine AWp_condC rfl ?_; intro KA KB hKA hKB; try simp only [onB_true, onB_false, onB_dec, onB_ndec, onB_not, onB_and, onB_or]) | (refine AWp_condA rfl ?_ ?_) | with_reducible (first | refine onB_of ?_ ?_ | rfl) | omega)
    all_goals first
      | omega
      | exact dropD hk rfl
  have u1 : ((6 : Int) < (exHow 5 6 x : Int)) = False := eq_false (by omega)
  by_cases g2 : 6 < exHow 10 10 x
  · have u2 : ((6 : Int) < (exHow 10 10 x : Int)) = True := eq_true (by omega)
    have hq : coreQ x = 1 := by rw [coreQ, if_pos hz, if_pos (.inr (.inl g2))]
    rw [hq] at hk
    refine ACalls_of Tryd.func9 rfl in_9 (Nat.le_of_ble_eq_true rfl) ?_
    intro F hF
    simp (dsimp := false) only [go_sem, Nat.reduceAdd, Nat.reduceBEq, Nat.reduceEqDiff, Nat.reduceLT, Nat.reduceLeDiff, Nat.reduceMul, Int.reduceToNat, reduceCtorEq, ↓reduceIte, Tryd.ntmps9, Tryd.results9, ks_9, mu_9, ti_ag3, ti_ag36, ti_fl67_0, ti_fl67_1, ti_fl67_2, ti_hb24, ti_pl67, ti_sz36, ti_zr67, not_true_eq_false, not_false_eq_true, Bool.true_and, Bool.false_and, Int.reduceEq, Int.reduceLT, Int.reduceLE, Int.reduceNeg, List.map_cons, List.map_nil, exV, cntC, Int.zero_add, u1, u2, in_9] at hF
    subst hF
    repeat' (first | with_reducible (first | refine And.intro ?_ ?_ | intro _ | refine AWp_seq ?_ | refine AWp_block ?_ | (refine hKv _ _ (AWp_nop ?_); clear hKv Kv) | (refine hKA ?_; clear hKA hKB KA KB) | (refine hKB ?_; clear hKA hKB KA KB) | refine AWp_skipN ?_ | refine AWp_exitO (by repeat (first | exact Out.hit | apply Out.thenA | apply Out.out rfl)) ?_) | ((first | with_reducible (first | (refine hKv _ _ ?_; clear hKv Kv) | ((first | refine AWp_regC mu_9 ks_9 ?_ | refine AWp_regE mu_9 ks_9 ?_); intro Kv hKv) | refine AWp_retR ?_) | refine hC _ ?_); try simp (dsimp := false) only [go_sem, Nat.reduceAdd, Nat.reduceBEq, Nat.reduceEqDiff, Nat.reduceLT, Nat.reduceLeDiff, Nat.reduceMul, Int.reduceToNat, reduceCtorEq, ↓reduceIte, Tryd.ntmps9, Tryd.results9, ks_9, mu_9, ti_ag3, ti_ag36, ti_fl67_0, ti_fl67_1, ti_fl67_2, ti_hb24, ti_pl67, ti_sz36, ti_zr67, not_true_eq_false, not_false_eq_true, Bool.true_and, Bool.false_and, Int.reduceEq, Int.reduceLT, Int.reduceLE, Int.reduceNeg, List.map_cons, List.map_nil, exV, cntC, Int.zero_add, u1, u2]) | (refine AWp_condC rfl ?_; intro KA KB hKA hKB; try simp only [onB_true, onB_false, onB_dec, onB_ndec, onB_not, onB_and, onB_or]) | (refine AWp_condA rfl ?_ ?_) | with_reducible (first | refine onB_of ?_ ?_ | rfl) | omega)
    all_goals first
      | omega
      | exact dropD hk rfl
  have u2 : ((6 : Int) < (exHow 10 10 x : Int)) = False := eq_false (by omega)
  by_cases g3 : 700 < exN x
  · have u3 : ((700 : Int) < (exN x : Int)) = True := eq_true (by omega)
    have hq : coreQ x = 1 := by rw [coreQ, if_pos hz, if_pos (.inr (.inr g3))]
    rw [hq] at hk
    refine ACalls_of Tryd.func9 rfl in_9 (Nat.le_of_ble_eq_true rfl) ?_
    intro F hF
    simp (dsimp := false) only [go_sem, Nat.reduceAdd, Nat.reduceBEq, Nat.reduceEqDiff, Nat.reduceLT, Nat.reduceLeDiff, Nat.reduceMul, Int.reduceToNat, reduceCtorEq, ↓reduceIte, Tryd.ntmps9, Tryd.results9, ks_9, mu_9, ti_ag3, ti_ag36, ti_fl67_0, ti_fl67_1, ti_fl67_2, ti_hb24, ti_pl67, ti_sz36, ti_zr67, not_true_eq_false, not_false_eq_true, Bool.true_and, Bool.false_and, Int.reduceEq, Int.reduceLT, Int.reduceLE, Int.reduceNeg, List.map_cons, List.map_nil, exV, cntC, Int.zero_add, u1, u2, u3, in_9] at hF
    subst hF
    repeat' (first | with_reducible (first | refine And.intro ?_ ?_ | intro _ | refine AWp_seq ?_ | refine AWp_block ?_ | (refine hKv _ _ (AWp_nop ?_); clear hKv Kv) | (refine hKA ?_; clear hKA hKB KA KB) | (refine hKB ?_; clear hKA hKB KA KB) | refine AWp_skipN ?_ | refine AWp_exitO (by repeat (first | exact Out.hit | apply Out.thenA | apply Out.out rfl)) ?_) | ((first | with_reducible (first | (refine hKv _ _ ?_; clear hKv Kv) | ((first | refine AWp_regC mu_9 ks_9 ?_ | refine AWp_regE mu_9 ks_9 ?_); intro Kv hKv) | refine AWp_retR ?_) | refine hC _ ?_); try simp (dsimp := false) only [go_sem, Nat.reduceAdd, Nat.reduceBEq, Nat.reduceEqDiff, Nat.reduceLT, Nat.reduceLeDiff, Nat.reduceMul, Int.reduceToNat, reduceCtorEq, ↓reduceIte, Tryd.ntmps9, Tryd.results9, ks_9, mu_9, ti_ag3, ti_ag36, ti_fl67_0, ti_fl67_1, ti_fl67_2, ti_hb24, ti_pl67, ti_sz36, ti_zr67, not_true_eq_false, not_false_eq_true, Bool.true_and, Bool.false_and, Int.reduceEq, Int.reduceLT, Int.reduceLE, Int.reduceNeg, List.map_cons, List.map_nil, exV, cntC, Int.zero_add, u1, u2, u3]) | (refine AWp_condC rfl ?_; intro KA KB hKA hKB; try simp only [onB_true, onB_false, onB_dec, onB_ndec, onB_not, onB_and, onB_or]) | (refine AWp_condA rfl ?_ ?_) | with_reducible (first | refine onB_of ?_ ?_ | rfl) | omega)
    all_goals first
      | omega
      | exact dropD hk rfl
  have u3 : ((700 : Int) < (exN x : Int)) = False := eq_false (by omega)
  have hq : coreQ x = 0 := by rw [coreQ, if_pos hz, if_neg (by omega)]
  rw [hq] at hk
  refine ACalls_of Tryd.func9 rfl in_9 (Nat.le_of_ble_eq_true rfl) ?_
  intro F hF
  simp (dsimp := false) only [go_sem, Nat.reduceAdd, Nat.reduceBEq, Nat.reduceEqDiff, Nat.reduceLT, Nat.reduceLeDiff, Nat.reduceMul, Int.reduceToNat, reduceCtorEq, ↓reduceIte, Tryd.ntmps9, Tryd.results9, ks_9, mu_9, ti_ag3, ti_ag36, ti_fl67_0, ti_fl67_1, ti_fl67_2, ti_hb24, ti_pl67, ti_sz36, ti_zr67, not_true_eq_false, not_false_eq_true, Bool.true_and, Bool.false_and, Int.reduceEq, Int.reduceLT, Int.reduceLE, Int.reduceNeg, List.map_cons, List.map_nil, exV, cntC, Int.zero_add, u1, u2, u3, in_9] at hF
  subst hF
  repeat' (first | with_reducible (first | refine And.intro ?_ ?_ | intro _ | refine AWp_seq ?_ | refine AWp_block ?_ | (refine hKv _ _ (AWp_nop ?_); clear hKv Kv) | (refine hKA ?_; clear hKA hKB KA KB) | (refine hKB ?_; clear hKA hKB KA KB) | refine AWp_skipN ?_ | refine AWp_exitO (by repeat (first | exact Out.hit | apply Out.thenA | apply Out.out rfl)) ?_) | ((first | with_reducible (first | (refine hKv _ _ ?_; clear hKv Kv) | ((first | refine AWp_regC mu_9 ks_9 ?_ | refine AWp_regE mu_9 ks_9 ?_); intro Kv hKv) | refine AWp_retR ?_) | refine hC _ ?_); try simp (dsimp := false) only [go_sem, Nat.reduceAdd, Nat.reduceBEq, Nat.reduceEqDiff, Nat.reduceLT, Nat.reduceLeDiff, Nat.reduceMul, Int.reduceToNat, reduceCtorEq, ↓reduceIte, Tryd.ntmps9, Tryd.results9, ks_9, mu_9, ti_ag3, ti_ag36, ti_fl67_0, ti_fl67_1, ti_fl67_2, ti_hb24, ti_pl67, ti_sz36, ti_zr67, not_true_eq_false, not_false_eq_true, Bool.true_and, Bool.false_and, Int.reduceEq, Int.reduceLT, Int.reduceLE, Int.reduceNeg, List.map_cons, List.map_nil, exV, cntC, Int.zero_add, u1, u2, u3]) | (refine AWp_condC rfl ?_; intro KA KB hKA hKB; try simp only [onB_true, onB_false, onB_dec, onB_ndec, onB_not, onB_and, onB_or]) | (refine AWp_condA rfl ?_ ?_) | with_reducible (first | refine onB_of ?_ ?_ | rfl) | omega)
  all_goals first
    | omega
    | exact dropD hk rfl
def ks_10 : Nat → List Nat
  | 0 => [1]
  | 1 => [1, 3]
  | 2 => [3, 22]
  | 3 => [3]
  | 4 => [2]
  | _ => []
def mu_10 : List Nat := []
def in_10 : List Nat := [0]
theorem coreFault_A (x : Ex) (ok : ExOk x) (hn : exN x ≤ 100000) (H : Heap) (K : V → Heap → Prop) (hk : K (.d (.i .i64 (coreQ x))) H) : ACalls Tryd.prog 10 [exV x.h x.args] H K := by
  have hE := fun H K hk => sees_nil1 (l := []) rfl (exprFault_A _ x (Nat.le_refl _) ok [] (by simp; omega) H K hk)
  have h5 := howMany_A 5 6 _ x (Nat.le_refl _) ok (by omega)
  have h10 := howMany_A 10 10 _ x (Nat.le_refl _) ok (by omega)
  have hP := partCount_A _ x (Nat.le_refl _) ok (by omega)
  by_cases hz : efQ x [] = 0
  case neg =>
    have u0 : (efQ x [] = 0) = False := eq_false hz
    have hq : coreQ x = efQ x [] := by rw [coreQ, if_neg hz]
    rw [hq] at hk
    refine ACalls_of Tryd.func10 rfl in_10 (Nat.le_of_ble_eq_true rfl) ?_
    intro F hF
    simp (dsimp := false) only [go_sem, Nat.reduceAdd, Nat.reduceBEq, Nat.reduceEqDiff, Nat.reduceLT, Nat.reduceLeDiff, Nat.reduceMul, Int.reduceToNat, reduceCtorEq, ↓reduceIte, Tryd.ntmps10, Tryd.results10, ks_10, mu_10, ti_ag36, ti_hb25, ti_hb26, ti_hb27, ti_sz36, not_true_eq_false, not_false_eq_true, Bool.true_and, Bool.false_and, Int.reduceEq, Int.reduceLT, Int.reduceLE, Int.reduceNeg, List.map_cons, List.map_nil, exV, u0, in_10] at hF
    subst hF
    repeat' (first | with_reducible (first | refine And.intro ?_ ?_ | intro _ | refine AWp_seq ?_ | refine AWp_block ?_ | (refine hKv _ _ (AWp_nop ?_); clear hKv Kv) | (refine hKA ?_; clear hKA hKB KA KB) | (refine hKB ?_; clear hKA hKB KA KB) | refine AWp_skipN ?_ | refine AWp_exitO (by repeat (first | exact Out.hit | apply Out.thenA | apply Out.out rfl)) ?_) | ((first | with_reducible (first | (refine hKv _ _ ?_; clear hKv Kv) | ((first | refine AWp_regC mu_10 ks_10 ?_ | refine AWp_regE mu_10 ks_10 ?_); intro Kv hKv) | refine AWp_retR ?_) | refine hE _ _ ?_); try simp (dsimp := false) only [go_sem, Nat.reduceAdd, Nat.reduceBEq, Nat.reduceEqDiff, Nat.reduceLT, Nat.reduceLeDiff, Nat.reduceMul, Int.reduceToNat, reduceCtorEq, ↓reduceIte, Tryd.ntmps10, Tryd.results10, ks_10, mu_10, ti_ag36, ti_hb25, ti_hb26, ti_hb27, ti_sz36, not_true_eq_false, not_false_eq_true, Bool.true_and, Bool.false_and, Int.reduceEq, Int.reduceLT, Int.reduceLE, Int.reduceNeg, List.map_cons, List.map_nil, exV, u0]) | (refine AWp_condC rfl ?_; intro KA KB hKA hKB; try simp only [onB_true, onB_false, onB_dec, onB_ndec, onB_not, onB_and, onB_or]) | (refine AWp_condA rfl ?_ ?_) | with_reducible (first | refine onB_of ?_ ?_ | rfl) | omega)
    all_goals first
      | omega
      | exact keepD hk rfl
  rw [hz] at hE
  by_cases g1 : 6 < exHow 5 6 x
  · have u1 : ((6 : Int) < (exHow 5 6 x : Int)) = True := eq_true (by omega)
    have hq : coreQ x = 1 := by rw [coreQ, if_pos hz, if_pos (.inl g1)]
    rw [hq] at hk
    refine ACalls_of Tryd.func10 rfl in_10 (Nat.le_of_ble_eq_true rfl) ?_
    intro F hF
    simp (dsimp := false) only [go_sem, Nat.reduceAdd, Nat.reduceBEq, Nat.reduceEqDiff, Nat.reduceLT, Nat.reduceLeDiff, Nat.reduceMul, Int.reduceToNat, reduceCtorEq, ↓reduceIte, Tryd.ntmps10, Tryd.results10, ks_10, mu_10, ti_ag36, ti_hb25, ti_hb26, ti_hb27, ti_sz36, not_true_eq_false, not_false_eq_true, Bool.true_and, Bool.false_and, Int.reduceEq, Int.reduceLT, Int.reduceLE, Int.reduceNeg, List.map_cons, List.map_nil, exV, u1, in_10] at hF
    subst hF
    repeat' (first | with_reducible (first | refine And.intro ?_ ?_ | intro _ | refine AWp_seq ?_ | refine AWp_block ?_ | (refine hKv _ _ (AWp_nop ?_); clear hKv Kv) | (refine hKA ?_; clear hKA hKB KA KB) | (refine hKB ?_; clear hKA hKB KA KB) | refine AWp_skipN ?_ | refine AWp_exitO (by repeat (first | exact Out.hit | apply Out.thenA | apply Out.out rfl)) ?_) | ((first | with_reducible (first | (refine hKv _ _ ?_; clear hKv Kv) | ((first | refine AWp_regC mu_10 ks_10 ?_ | refine AWp_regE mu_10 ks_10 ?_); intro Kv hKv) | refine AWp_retR ?_) | refine hE _ _ ?_ | refine h5 _ _ ?_ | refine h10 _ _ ?_ | refine hP _ _ ?_); try simp (dsimp := false) only [go_sem, Nat.reduceAdd, Nat.reduceBEq, Nat.reduceEqDiff, Nat.reduceLT, Nat.reduceLeDiff, Nat.reduceMul, Int.reduceToNat, reduceCtorEq, ↓reduceIte, Tryd.ntmps10, Tryd.results10, ks_10, mu_10, ti_ag36, ti_hb25, ti_hb26, ti_hb27, ti_sz36, not_true_eq_false, not_false_eq_true, Bool.true_and, Bool.false_and, Int.reduceEq, Int.reduceLT, Int.reduceLE, Int.reduceNeg, List.map_cons, List.map_nil, exV, u1]) | (refine AWp_condC rfl ?_; intro KA KB hKA hKB; try simp only [onB_true, onB_false, onB_dec, onB_ndec, onB_not, onB_and, onB_or]) | (refine AWp_condA rfl ?_ ?_) | with_reducible (first | refine onB_of ?_ ?_ | rfl) | omega)
    all_goals first
      | omega
      | exact keepD hk rfl
  have u1 : ((6 : Int) < (exHow 5 6 x : Int)) = False := eq_false (by omega)
  by_cases g2 : 6 < exHow 10 10 x
  · have u2 : ((6 : Int) < (exHow 10 10 x : Int)) = True := eq_true (by omega)
    have hq : coreQ x = 1 := by rw [coreQ, if_pos hz, if_pos (.inr (.inl g2))]
    rw [hq] at hk
    refine ACalls_of Tryd.func10 rfl in_10 (Nat.le_of_ble_eq_true rfl) ?_
    intro F hF
    simp (dsimp := false) only [go_sem, Nat.reduceAdd, Nat.reduceBEq, Nat.reduceEqDiff, Nat.reduceLT, Nat.reduceLeDiff, Nat.reduceMul, Int.reduceToNat, reduceCtorEq, ↓reduceIte, Tryd.ntmps10, Tryd.results10, ks_10, mu_10, ti_ag36, ti_hb25, ti_hb26, ti_hb27, ti_sz36, not_true_eq_false, not_false_eq_true, Bool.true_and, Bool.false_and, Int.reduceEq, Int.reduceLT, Int.reduceLE, Int.reduceNeg, List.map_cons, List.map_nil, exV, u1, u2, in_10] at hF
    subst hF
    repeat' (first | with_reducible (first | refine And.intro ?_ ?_ | intro _ | refine AWp_seq ?_ | refine AWp_block ?_ | (refine hKv _ _ (AWp_nop ?_); clear hKv Kv) | (refine hKA ?_; clear hKA hKB KA KB) | (refine hKB ?_; clear hKA hKB KA KB) | refine AWp_skipN ?_ | refine AWp_exitO (by repeat (first | exact Out.hit | apply Out.thenA | apply Out.out rfl)) ?_) | ((first | with_reducible (first | (refine hKv _ _ ?_; clear hKv Kv) | ((first | refine AWp_regC mu_10 ks_10 ?_ | refine AWp_regE mu_10 ks_10 ?_); intro Kv hKv) | refine AWp_retR ?_) | refine hE _ _ ?_ | refine h5 _ _ ?_ | refine h10 _ _ ?_ | refine hP _ _ ?_); try simp (dsimp := false) only [go_sem, Nat.reduceAdd, Nat.reduceBEq, Nat.reduceEqDiff, Nat.reduceLT, Nat.reduceLeDiff, Nat.reduceMul, Int.reduceToNat, reduceCtorEq, ↓reduceIte, Tryd.ntmps10, Tryd.results10, ks_10, mu_10, ti_ag36, ti_hb25, ti_hb26, ti_hb27, ti_sz36, not_true_eq_false, not_false_eq_true, Bool.true_and, Bool.false_and, Int.reduceEq, Int.reduceLT, Int.reduceLE, Int.reduceNeg, List.map_cons, List.map_nil, exV, u1, u2]) | (refine AWp_condC rfl ?_; intro KA KB hKA hKB; try simp only [onB_true, onB_false, onB_dec, onB_ndec, onB_not, onB_and, onB_or]) | (refine AWp_condA rfl ?_ ?_) | with_reducible (first | refine onB_of ?_ ?_ | rfl) | omega)
    all_goals first
      | omega
      | exact keepD hk rfl
  have u2 : ((6 : Int) < (exHow 10 10 x : Int)) = False := eq_false (by omega)
  by_cases g3 : 700 < exN x
  · have u3 : ((700 : Int) < (exN x : Int)) = True := eq_true (by omega)
    have hq : coreQ x = 1 := by rw [coreQ, if_pos hz, if_pos (.inr (.inr g3))]
    rw [hq] at hk
    refine ACalls_of Tryd.func10 rfl in_10 (Nat.le_of_ble_eq_true rfl) ?_
    intro F hF
    simp (dsimp := false) only [go_sem, Nat.reduceAdd, Nat.reduceBEq, Nat.reduceEqDiff, Nat.reduceLT, Nat.reduceLeDiff, Nat.reduceMul, Int.reduceToNat, reduceCtorEq, ↓reduceIte, Tryd.ntmps10, Tryd.results10, ks_10, mu_10, ti_ag36, ti_hb25, ti_hb26, ti_hb27, ti_sz36, not_true_eq_false, not_false_eq_true, Bool.true_and, Bool.false_and, Int.reduceEq, Int.reduceLT, Int.reduceLE, Int.reduceNeg, List.map_cons, List.map_nil, exV, u1, u2, u3, in_10] at hF
    subst hF
    repeat' (first | with_reducible (first | refine And.intro ?_ ?_ | intro _ | refine AWp_seq ?_ | refine AWp_block ?_ | (refine hKv _ _ (AWp_nop ?_); clear hKv Kv) | (refine hKA ?_; clear hKA hKB KA KB) | (refine hKB ?_; clear hKA hKB KA KB) | refine AWp_skipN ?_ | refine AWp_exitO (by repeat (first | exact Out.hit | apply Out.thenA | apply Out.out rfl)) ?_) | ((first | with_reducible (first | (refine hKv _ _ ?_; clear hKv Kv) | ((first | refine AWp_regC mu_10 ks_10 ?_ | refine AWp_regE mu_10 ks_10 ?_); intro Kv hKv) | refine AWp_retR ?_) | refine hE _ _ ?_ | refine h5 _ _ ?_ | refine h10 _ _ ?_ | refine hP _ _ ?_); try simp (dsimp := false) only [go_sem, Nat.reduceAdd, Nat.reduceBEq, Nat.reduceEqDiff, Nat.reduceLT, Nat.reduceLeDiff, Nat.reduceMul, Int.reduceToNat, reduceCtorEq, ↓reduceIte, Tryd.ntmps10, Tryd.results10, ks_10, mu_10, ti_ag36, ti_hb25, ti_hb26, ti_hb27, ti_sz36, not_true_eq_false, not_false_eq_true, Bool.true_and, Bool.false_and, Int.reduceEq, Int.reduceLT, Int.reduceLE, Int.reduceNeg, List.map_cons, List.map_nil, exV, u1, u2, u3]) | (refine AWp_condC rfl ?_; intro KA KB hKA hKB; try simp only [onB_true, onB_false, onB_dec, onB_ndec, onB_not, onB_and, onB_or]) | (refine AWp_condA rfl ?_ ?_) | with_reducible (first | refine onB_of ?_ ?_ | rfl) | omega)
    all_goals first
      | omega
      | exact keepD hk rfl
  have u3 : ((700 : Int) < (exN x : Int)) = False := eq_false (by omega)
  have hq : coreQ x = 0 := by rw [coreQ, if_pos hz, if_neg (by omega)]
  rw [hq] at hk
  refine ACalls_of Tryd.func10 rfl in_10 (Nat.le_of_ble_eq_true rfl) ?_
  intro F hF
  simp (dsimp := false) only [go_sem, Nat.reduceAdd, Nat.reduceBEq, Nat.reduceEqDiff, Nat.reduceLT, Nat.reduceLeDiff, Nat.reduceMul, Int.reduceToNat, reduceCtorEq, ↓reduceIte, Tryd.ntmps10, Tryd.results10, ks_10, mu_10, ti_ag36, ti_hb25, ti_hb26, ti_hb27, ti_sz36, not_true_eq_false, not_false_eq_true, Bool.true_and, Bool.false_and, Int.reduceEq, Int.reduceLT, Int.reduceLE, Int.reduceNeg, List.map_cons, List.map_nil, exV, u1, u2, u3, in_10] at hF
  subst hF
  repeat' (first | with_reducible (first | refine And.intro ?_ ?_ | intro _ | refine AWp_seq ?_ | refine AWp_block ?_ | (refine hKv _ _ (AWp_nop ?_); clear hKv Kv) | (refine hKA ?_; clear hKA hKB KA KB) | (refine hKB ?_; clear hKA hKB KA KB) | refine AWp_skipN ?_ | refine AWp_exitO (by repeat (first | exact Out.hit | apply Out.thenA | apply Out.out rfl)) ?_) | ((first | with_reducible (first | (refine hKv _ _ ?_; clear hKv Kv) | ((first | refine AWp_regC mu_10 ks_10 ?_ | refine AWp_regE mu_10 ks_10 ?_); intro Kv hKv) | refine AWp_retR ?_) | refine hE _ _ ?_ | refine h5 _ _ ?_ | refine h10 _ _ ?_ | refine hP _ _ ?_); try simp (dsimp := false) only [go_sem, Nat.reduceAdd, Nat.reduceBEq, Nat.reduceEqDiff, Nat.reduceLT, Nat.reduceLeDiff, Nat.reduceMul, Int.reduceToNat, reduceCtorEq, ↓reduceIte, Tryd.ntmps10, Tryd.results10, ks_10, mu_10, ti_ag36, ti_hb25, ti_hb26, ti_hb27, ti_sz36, not_true_eq_false, not_false_eq_true, Bool.true_and, Bool.false_and, Int.reduceEq, Int.reduceLT, Int.reduceLE, Int.reduceNeg, List.map_cons, List.map_nil, exV, u1, u2, u3]) | (refine AWp_condC rfl ?_; intro KA KB hKA hKB; try simp only [onB_true, onB_false, onB_dec, onB_ndec, onB_not, onB_and, onB_or]) | (refine AWp_condA rfl ?_ ?_) | with_reducible (first | refine onB_of ?_ ?_ | rfl) | omega)
  all_goals first
    | omega
    | exact keepD hk rfl
end Go.Proofs.YtppalmoicjogaaaDoor
