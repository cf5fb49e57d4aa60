/- The how many-th of its part each row is: the reference's answer. No condition but that the tables of package unicode/utf8 are there. -/
import Derived.Test.YtpgdflhcmijaiaaDoorQ47
import Derived.Test.YtpgdflhcmijaiaaDoorQ48
set_option linter.all false
set_option linter.unusedSimpArgs false
set_option linter.unusedVariables false
namespace Go.Proofs.YtpgdflhcmijaiaaDoor
open Go Go.Proofs.YtpgdflhcmijaiaaDoor.Ab
variable [Glo] [U8]
set_option maxHeartbeats 4000000
set_option maxRecDepth 20000
theorem rankedOf_A (r : Rl) (hS : ShR r) (name : List UInt8) (hname : name.length ≤ 1048576) (by_ : List (List UInt8)) (hby : by_.length ≤ 1048576) (part : List UInt8) (H : Heap) (K : V → Heap → Prop) (hk : K (relE (ranked r name by_ part).1 (ranked r name by_ part).2) H) :
    ACalls Tryd.prog 11 [rlV r, .d (.s name), .d (.sl 1 (by_.map strRow)), .d (.s part)] H K := by
  have q1 := hS.ncols
  have q2 := hS.nrows
  by_cases hf : relFault r = 0
  · cases hp : places r.cols by_ with
    | none =>
      rw [ranked, if_pos hf, hp] at hk
      refine ACalls_of Tryd.func11 rfl in_11 (Nat.le_of_ble_eq_true rfl) ?_
      intro F hF
      simp (dsimp := false) only [go_sem, Nat.reduceAdd, Nat.reduceBEq, Nat.reduceEqDiff, Nat.reduceLT, Nat.reduceLeDiff, Nat.reduceMul, Int.reduceToNat, reduceCtorEq, ↓reduceIte, Tryd.ntmps11, Tryd.results11, ks_11, mu_11, nd_11, ti_ag22, ti_ag23, ti_ag25, ti_ag44, ti_ag49, ti_fe49, ti_fl25_0, ti_fl25_1, ti_hb25, ti_hb26, ti_hb27, ti_hb28, ti_hb29, ti_hb30, ti_hb38, ti_hb39, ti_pl25, ti_pl49, ti_sb23, ti_sl22, ti_sl23, ti_sl44, ti_sl99, ti_sz25, ti_sz49, ti_zr25, ti_zr49, itD, itV, rlV, rowD, rlD, hf, hp, Option.getD_none, Option.isSome_none, not_true_eq_false, not_false_eq_true, Bool.and_true, Bool.true_and, Bool.false_and, Bool.and_false, Bool.false_or, Bool.or_false, Int.reduceEq, Int.reduceLT, Int.reduceLE, in_11] at hF
      subst hF
      repeat' (first | with_reducible (first | refine And.intro ?_ ?_ | intro _ | refine AWp_seq ?_ | refine AWp_block ?_ | (refine hKv _ _ (AWp_nop ?_); clear hKv Kv) | (refine hKA ?_; clear hKA hKB KA KB) | (refine hKB ?_; clear hKA hKB KA KB) | refine AWp_skipN ?_ | refine AWp_exitO (by repeat (first | exact Out.hit | apply Out.thenA | apply Out.out rfl)) ?_) | ((first | with_reducible (first | (refine hKv _ _ ?_; clear hKv Kv) | ((first | refine AWp_regC mu_11 ks_11 ?_ | refine AWp_draw nd_11 mu_11 ks_11 ti_mixed (by kernel_rfl) ?_ | refine AWp_regE mu_11 ks_11 ?_ | refine AWp_drawE nd_11 mu_11 ks_11 ti_mixed (by kernel_rfl) ?_); intro Kv hKv) | refine AWp_retR ?_) | refine relFault_A r hS _ _ ?_ | refine QCall_of (relFault_A r hS _ _ (Two_intro _ _)) ?_ | refine colsAt_A r hS by_ hby _ _ ?_ | refine QCall_of (colsAt_A r hS by_ hby _ _ (Two_intro _ _)) ?_ | refine colAt_A r hS part _ _ ?_ | refine QCall_of (colAt_A r hS part _ _ (Two_intro _ _)) ?_); try simp (dsimp := false) only [go_sem, Nat.reduceAdd, Nat.reduceBEq, Nat.reduceEqDiff, Nat.reduceLT, Nat.reduceLeDiff, Nat.reduceMul, Int.reduceToNat, reduceCtorEq, ↓reduceIte, Tryd.ntmps11, Tryd.results11, ks_11, mu_11, nd_11, ti_ag22, ti_ag23, ti_ag25, ti_ag44, ti_ag49, ti_fe49, ti_fl25_0, ti_fl25_1, ti_hb25, ti_hb26, ti_hb27, ti_hb28, ti_hb29, ti_hb30, ti_hb38, ti_hb39, ti_pl25, ti_pl49, ti_sb23, ti_sl22, ti_sl23, ti_sl44, ti_sl99, ti_sz25, ti_sz49, ti_zr25, ti_zr49, itD, itV, rlV, rowD, rlD, hf, hp, Option.getD_none, Option.isSome_none, not_true_eq_false, not_false_eq_true, Bool.and_true, Bool.true_and, Bool.false_and, Bool.and_false, Bool.false_or, Bool.or_false, Int.reduceEq, Int.reduceLT, Int.reduceLE]) | (refine AWp_condC rfl ?_; intro KA KB hKA hKB; try simp only [onB_true, onB_false, onB_dec, onB_ndec, onB_not, onB_and, onB_or]) | (refine AWp_condA rfl ?_ ?_) | with_reducible (first | refine onB_of ?_ ?_ | rfl) | omega)
      all_goals first
        | omega
        | exact dropF hk (fz_rl0 _ _ _) (bel_relE _ _ _)
    | some ps =>
      by_cases hpart : part = []
      · exact rankedOf_all r hS name hname by_ hby part H K hk hf ps hp hpart
      · by_cases hc : txtAt r.cols part < 0
        · have hq : withinP r.cols part = none := by rw [withinP_eq, if_neg hpart, if_pos hc]
          rw [ranked, if_pos hf, hp, hq] at hk
          have hpt' : (part = []) = False := eq_false hpart
          have hc2 : (txtAt r.cols part < 0) = True := eq_true hc
          refine ACalls_of Tryd.func11 rfl in_11 (Nat.le_of_ble_eq_true rfl) ?_
          intro F hF
          simp (dsimp := false) only [go_sem, Nat.reduceAdd, Nat.reduceBEq, Nat.reduceEqDiff, Nat.reduceLT, Nat.reduceLeDiff, Nat.reduceMul, Int.reduceToNat, reduceCtorEq, ↓reduceIte, Tryd.ntmps11, Tryd.results11, ks_11, mu_11, nd_11, ti_ag22, ti_ag23, ti_ag25, ti_ag44, ti_ag49, ti_fe49, ti_fl25_0, ti_fl25_1, ti_hb25, ti_hb26, ti_hb27, ti_hb28, ti_hb29, ti_hb30, ti_hb38, ti_hb39, ti_pl25, ti_pl49, ti_sb23, ti_sl22, ti_sl23, ti_sl44, ti_sl99, ti_sz25, ti_sz49, ti_zr25, ti_zr49, itD, itV, rlV, rowD, rlD, hf, hp, hpt', hc2, Option.getD_some, Option.isSome_some, eq_self, not_true_eq_false, not_false_eq_true, Bool.and_true, Bool.true_and, Bool.false_and, Bool.and_false, Bool.false_or, Bool.or_false, Int.reduceEq, Int.reduceLT, Int.reduceLE, in_11] at hF
          subst hF
          repeat' (first | with_reducible (first | refine And.intro ?_ ?_ | intro _ | refine AWp_seq ?_ | refine AWp_block ?_ | (refine hKv _ _ (AWp_nop ?_); clear hKv Kv) | (refine hKA ?_; clear hKA hKB KA KB) | (refine hKB ?_; clear hKA hKB KA KB) | refine AWp_skipN ?_ | refine AWp_exitO (by repeat (first | exact Out.hit | apply Out.thenA | apply Out.out rfl)) ?_) | ((first | with_reducible (first | (refine hKv _ _ ?_; clear hKv Kv) | ((first | refine AWp_regC mu_11 ks_11 ?_ | refine AWp_draw nd_11 mu_11 ks_11 ti_mixed (by kernel_rfl) ?_ | refine AWp_regE mu_11 ks_11 ?_ | refine AWp_drawE nd_11 mu_11 ks_11 ti_mixed (by kernel_rfl) ?_); intro Kv hKv) | refine AWp_retR ?_) | refine relFault_A r hS _ _ ?_ | refine QCall_of (relFault_A r hS _ _ (Two_intro _ _)) ?_ | refine colsAt_A r hS by_ hby _ _ ?_ | refine QCall_of (colsAt_A r hS by_ hby _ _ (Two_intro _ _)) ?_ | refine colAt_A r hS part _ _ ?_ | refine QCall_of (colAt_A r hS part _ _ (Two_intro _ _)) ?_); try simp (dsimp := false) only [go_sem, Nat.reduceAdd, Nat.reduceBEq, Nat.reduceEqDiff, Nat.reduceLT, Nat.reduceLeDiff, Nat.reduceMul, Int.reduceToNat, reduceCtorEq, ↓reduceIte, Tryd.ntmps11, Tryd.results11, ks_11, mu_11, nd_11, ti_ag22, ti_ag23, ti_ag25, ti_ag44, ti_ag49, ti_fe49, ti_fl25_0, ti_fl25_1, ti_hb25, ti_hb26, ti_hb27, ti_hb28, ti_hb29, ti_hb30, ti_hb38, ti_hb39, ti_pl25, ti_pl49, ti_sb23, ti_sl22, ti_sl23, ti_sl44, ti_sl99, ti_sz25, ti_sz49, ti_zr25, ti_zr49, itD, itV, rlV, rowD, rlD, hf, hp, hpt', hc2, Option.getD_some, Option.isSome_some, eq_self, not_true_eq_false, not_false_eq_true, Bool.and_true, Bool.true_and, Bool.false_and, Bool.and_false, Bool.false_or, Bool.or_false, Int.reduceEq, Int.reduceLT, Int.reduceLE]) | (refine AWp_condC rfl ?_; intro KA KB hKA hKB; try simp only [onB_true, onB_false, onB_dec, onB_ndec, onB_not, onB_and, onB_or]) | (refine AWp_condA rfl ?_ ?_) | with_reducible (first | refine onB_of ?_ ?_ | rfl) | omega)
          all_goals first
            | omega
            | exact dropF hk (fz_rl0 _ _ _) (bel_relE _ _ _)
        · have hlt := (fidx_lt (fun z => decide (part = z)) r.cols).2
          obtain ⟨c, hcc⟩ : ∃ c : Nat, txtAt r.cols part = c := ⟨(txtAt r.cols part).toNat, by omega⟩
          have hcn : c < r.cols.length := by
            have : txtAt r.cols part < r.cols.length := hlt
            omega
          exact rankedOf_part r hS name hname by_ hby part H K hk hf ps hp hpart c hc hcc hcn
  · rw [ranked, if_neg hf] at hk
    have hf' : (relFault r = 0) = False := eq_false hf
    refine ACalls_of Tryd.func11 rfl in_11 (Nat.le_of_ble_eq_true rfl) ?_
    intro F hF
    simp (dsimp := false) only [go_sem, Nat.reduceAdd, Nat.reduceBEq, Nat.reduceEqDiff, Nat.reduceLT, Nat.reduceLeDiff, Nat.reduceMul, Int.reduceToNat, reduceCtorEq, ↓reduceIte, Tryd.ntmps11, Tryd.results11, ks_11, mu_11, nd_11, ti_ag22, ti_ag23, ti_ag25, ti_ag44, ti_ag49, ti_fe49, ti_fl25_0, ti_fl25_1, ti_hb25, ti_hb26, ti_hb27, ti_hb28, ti_hb29, ti_hb30, ti_hb38, ti_hb39, ti_pl25, ti_pl49, ti_sb23, ti_sl22, ti_sl23, ti_sl44, ti_sl99, ti_sz25, ti_sz49, ti_zr25, ti_zr49, itD, itV, rlV, rowD, rlD, hf', not_true_eq_false, not_false_eq_true, Bool.and_true, Bool.true_and, Bool.false_and, Bool.and_false, Bool.false_or, Bool.or_false, Int.reduceEq, Int.reduceLT, Int.reduceLE, in_11] at hF
    subst hF
    repeat' (first | with_reducible (first | refine And.intro ?_ ?_ | intro _ | refine AWp_seq ?_ | refine AWp_block ?_ | (refine hKv _ _ (AWp_nop ?_); clear hKv Kv) | (refine hKA ?_; clear hKA hKB KA KB) | (refine hKB ?_; clear hKA hKB KA KB) | refine AWp_skipN ?_ | refine AWp_exitO (by repeat (first | exact Out.hit | apply Out.thenA | apply Out.out rfl)) ?_) | ((first | with_reducible (first | (refine hKv _ _ ?_; clear hKv Kv) | ((first | refine AWp_regC mu_11 ks_11 ?_ | refine AWp_draw nd_11 mu_11 ks_11 ti_mixed (by kernel_rfl) ?_ | refine AWp_regE mu_11 ks_11 ?_ | refine AWp_drawE nd_11 mu_11 ks_11 ti_mixed (by kernel_rfl) ?_); intro Kv hKv) | refine AWp_retR ?_) | refine relFault_A r hS _ _ ?_ | refine QCall_of (relFault_A r hS _ _ (Two_intro _ _)) ?_ | refine colsAt_A r hS by_ hby _ _ ?_ | refine QCall_of (colsAt_A r hS by_ hby _ _ (Two_intro _ _)) ?_ | refine colAt_A r hS part _ _ ?_ | refine QCall_of (colAt_A r hS part _ _ (Two_intro _ _)) ?_); try simp (dsimp := false) only [go_sem, Nat.reduceAdd, Nat.reduceBEq, Nat.reduceEqDiff, Nat.reduceLT, Nat.reduceLeDiff, Nat.reduceMul, Int.reduceToNat, reduceCtorEq, ↓reduceIte, Tryd.ntmps11, Tryd.results11, ks_11, mu_11, nd_11, ti_ag22, ti_ag23, ti_ag25, ti_ag44, ti_ag49, ti_fe49, ti_fl25_0, ti_fl25_1, ti_hb25, ti_hb26, ti_hb27, ti_hb28, ti_hb29, ti_hb30, ti_hb38, ti_hb39, ti_pl25, ti_pl49, ti_sb23, ti_sl22, ti_sl23, ti_sl44, ti_sl99, ti_sz25, ti_sz49, ti_zr25, ti_zr49, itD, itV, rlV, rowD, rlD, hf', not_true_eq_false, not_false_eq_true, Bool.and_true, Bool.true_and, Bool.false_and, Bool.and_false, Bool.false_or, Bool.or_false, Int.reduceEq, Int.reduceLT, Int.reduceLE]) | (refine AWp_condC rfl ?_; intro KA KB hKA hKB; try simp only [onB_true, onB_false, onB_dec, onB_ndec, onB_not, onB_and, onB_or]) | (refine AWp_condA rfl ?_ ?_) | with_reducible (first | refine onB_of ?_ ?_ | rfl) | omega)
    all_goals first
      | omega
      | exact dropF hk (fz_rl0 _ _ _) (bel_relE _ _ _)
end Go.Proofs.YtpgdflhcmijaiaaDoor
