/- Plans: run.columns, kind 6. No condition but that the tables of package unicode/utf8 are there. -/
import Derived.Test.YtppalmoicjogaaaDoorR27
set_option linter.all false
set_option linter.unusedSimpArgs false
set_option linter.unusedVariables false
namespace Go.Proofs.YtppalmoicjogaaaDoor
open Go Go.Proofs.YtppalmoicjogaaaDoor.Ab
variable [Glo] [U8]
set_option maxHeartbeats 4000000
set_option maxRecDepth 20000
theorem columns6_A (o : Opp) (ok : OkO o) (hkind : o.kind = 6) (a b : List (List UInt8)) (ha : OkC a) (hb : OkC b) (H : Heap) (K : V → Heap → Prop) (hk : K (colsV (colsQ o a b)) H) :
    ACalls Tryd.prog 14 [opV o, .d (.sl 1 [[.sl 1 (a.map strRow)], [.sl 1 (b.map strRow)]])] H K := by
  rw [opV_k hkind]
  have hn := named_A (a) ha.n ha.s
  have he := equalStr_A a b ha.len hb.len
  by_cases h1 : a = b
  · rw [decide_eq_true h1] at he
    have e : colsQ o a b = namedQ (0, a) := by simp [colsQ, opCols, hkind, okC, namedQ, h1]
    rw [e, ← namedV_eq] at hk
    refine ACalls_of Tryd.func14 rfl in_14 (Nat.le_of_ble_eq_true rfl) ?_
    intro F hF
    simp (dsimp := false) only [go_sem, Nat.reduceAdd, Nat.reduceBEq, Nat.reduceEqDiff, Nat.reduceLT, Nat.reduceLeDiff, Nat.reduceMul, Int.reduceToNat, reduceCtorEq, ↓reduceIte, Tryd.ntmps14, Tryd.results14, ks_14, mu_14, nd_14, xt_14, ti_ag3, ti_ag9, ti_ag48, ti_ag49, ti_ag51, ti_ag78, ti_ag82, ti_fl33_0, ti_fl51_0, ti_fl51_1, ti_fl53_0, ti_fl53_2, ti_fl53_3, ti_fl53_4, ti_fl53_5, ti_fl53_6, ti_fl53_7, ti_fl53_8, ti_fl53_9, ti_fl53_10, ti_hb15, ti_hb16, ti_hb30, ti_hb31, ti_hb32, ti_hb33, ti_hb34, ti_hb35, ti_hb36, ti_ky9, ti_mp82, ti_sb48, ti_sb49, ti_sl24, ti_sl48, ti_sl49, ti_sz51, ti_zv3, strRow, namedV, List.map_cons, List.map_nil, not_true_eq_false, not_false_eq_true, Bool.and_true, Bool.true_and, Bool.false_and, Bool.and_false, Bool.false_or, Bool.or_false, Bool.true_beq, Bool.false_beq, Int.reduceEq, Int.reduceLT, Int.reduceLE, in_14] at hF
    subst hF
    repeat' (first | with_reducible (first | refine And.intro ?_ ?_ | intro _ | refine AWp_seq ?_ | refine AWp_block ?_ | (refine hKv _ _ (AWp_nop ?_); clear hKv Kv) | (refine hKA ?_; clear hKA hKB KA KB) | (refine hKB ?_; clear hKA hKB KA KB) | refine AWp_skipN ?_ | refine AWp_exitO (by repeat (first | exact Out.hit | apply Out.thenA | apply Out.out rfl)) ?_) | ((first | with_reducible (first | (refine hKv _ _ ?_; clear hKv Kv) | ((first | refine AWp_regC mu_14 ks_14 ?_ | refine AWp_drawU xt_14 mu_14 ks_14 (by decide) ti_mixed (by kernel_rfl) ?_ | refine AWp_draw nd_14 mu_14 ks_14 ti_mixed (by kernel_rfl) ?_ | refine AWp_regE mu_14 ks_14 ?_ | refine AWp_drawE nd_14 mu_14 ks_14 ti_mixed (by kernel_rfl) ?_); intro Kv hKv) | refine AWp_retR ?_) | refine he _ _ ?_ | refine QCall_of (he _ _ (Two_intro _ _)) ?_ | refine ECall_of (he _ _ (Two_intro _ _)) ?_ | refine hn _ _ ?_ | refine QCall_of (hn _ _ (Two_intro _ _)) ?_ | refine ECall_of (hn _ _ (Two_intro _ _)) ?_); try simp (dsimp := false) only [go_sem, Nat.reduceAdd, Nat.reduceBEq, Nat.reduceEqDiff, Nat.reduceLT, Nat.reduceLeDiff, Nat.reduceMul, Int.reduceToNat, reduceCtorEq, ↓reduceIte, Tryd.ntmps14, Tryd.results14, ks_14, mu_14, nd_14, xt_14, ti_ag3, ti_ag9, ti_ag48, ti_ag49, ti_ag51, ti_ag78, ti_ag82, ti_fl33_0, ti_fl51_0, ti_fl51_1, ti_fl53_0, ti_fl53_2, ti_fl53_3, ti_fl53_4, ti_fl53_5, ti_fl53_6, ti_fl53_7, ti_fl53_8, ti_fl53_9, ti_fl53_10, ti_hb15, ti_hb16, ti_hb30, ti_hb31, ti_hb32, ti_hb33, ti_hb34, ti_hb35, ti_hb36, ti_ky9, ti_mp82, ti_sb48, ti_sb49, ti_sl24, ti_sl48, ti_sl49, ti_sz51, ti_zv3, strRow, namedV, List.map_cons, List.map_nil, not_true_eq_false, not_false_eq_true, Bool.and_true, Bool.true_and, Bool.false_and, Bool.and_false, Bool.false_or, Bool.or_false, Bool.true_beq, Bool.false_beq, Int.reduceEq, Int.reduceLT, Int.reduceLE]) | (refine AWp_condC rfl ?_; intro KA KB hKA hKB; try simp only [onB_true, onB_false, onB_dec, onB_ndec, onB_not, onB_and, onB_or]) | (refine AWp_condA rfl ?_ ?_) | with_reducible (first | refine onB_of ?_ ?_ | rfl) | omega)
    all_goals first
      | omega
      | exact keepK hk (by simp [namedV, Bel_tu, Bel_d]) rfl
      | exact keepFz hk (Fz_tu2 (.nil _) (.same _)) (by simp [namedV, Bel_tu, Bel_d])
      | exact dropF hk (Fz_tu2 (.same _) (.same _)) (by simp [namedV, Bel_tu, Bel_d])
      | exact dropF hk (Fz_tu2 (.nil _) (.same _)) (by simp [namedV, Bel_tu, Bel_d])
  · rw [decide_eq_false h1] at he
    have e : colsQ o a b = (9, []) := by simp [colsQ, opCols, hkind, okC, namedQ, h1]
    rw [e, colsV, List.map_nil] at hk
    refine ACalls_of Tryd.func14 rfl in_14 (Nat.le_of_ble_eq_true rfl) ?_
    intro F hF
    simp (dsimp := false) only [go_sem, Nat.reduceAdd, Nat.reduceBEq, Nat.reduceEqDiff, Nat.reduceLT, Nat.reduceLeDiff, Nat.reduceMul, Int.reduceToNat, reduceCtorEq, ↓reduceIte, Tryd.ntmps14, Tryd.results14, ks_14, mu_14, nd_14, xt_14, ti_ag3, ti_ag9, ti_ag48, ti_ag49, ti_ag51, ti_ag78, ti_ag82, ti_fl33_0, ti_fl51_0, ti_fl51_1, ti_fl53_0, ti_fl53_2, ti_fl53_3, ti_fl53_4, ti_fl53_5, ti_fl53_6, ti_fl53_7, ti_fl53_8, ti_fl53_9, ti_fl53_10, ti_hb15, ti_hb16, ti_hb30, ti_hb31, ti_hb32, ti_hb33, ti_hb34, ti_hb35, ti_hb36, ti_ky9, ti_mp82, ti_sb48, ti_sb49, ti_sl24, ti_sl48, ti_sl49, ti_sz51, ti_zv3, strRow, namedV, List.map_cons, List.map_nil, not_true_eq_false, not_false_eq_true, Bool.and_true, Bool.true_and, Bool.false_and, Bool.and_false, Bool.false_or, Bool.or_false, Bool.true_beq, Bool.false_beq, Int.reduceEq, Int.reduceLT, Int.reduceLE, in_14] at hF
    subst hF
    repeat' (first | with_reducible (first | refine And.intro ?_ ?_ | intro _ | refine AWp_seq ?_ | refine AWp_block ?_ | (refine hKv _ _ (AWp_nop ?_); clear hKv Kv) | (refine hKA ?_; clear hKA hKB KA KB) | (refine hKB ?_; clear hKA hKB KA KB) | refine AWp_skipN ?_ | refine AWp_exitO (by repeat (first | exact Out.hit | apply Out.thenA | apply Out.out rfl)) ?_) | ((first | with_reducible (first | (refine hKv _ _ ?_; clear hKv Kv) | ((first | refine AWp_regC mu_14 ks_14 ?_ | refine AWp_drawU xt_14 mu_14 ks_14 (by decide) ti_mixed (by kernel_rfl) ?_ | refine AWp_draw nd_14 mu_14 ks_14 ti_mixed (by kernel_rfl) ?_ | refine AWp_regE mu_14 ks_14 ?_ | refine AWp_drawE nd_14 mu_14 ks_14 ti_mixed (by kernel_rfl) ?_); intro Kv hKv) | refine AWp_retR ?_) | refine he _ _ ?_ | refine QCall_of (he _ _ (Two_intro _ _)) ?_ | refine ECall_of (he _ _ (Two_intro _ _)) ?_); try simp (dsimp := false) only [go_sem, Nat.reduceAdd, Nat.reduceBEq, Nat.reduceEqDiff, Nat.reduceLT, Nat.reduceLeDiff, Nat.reduceMul, Int.reduceToNat, reduceCtorEq, ↓reduceIte, Tryd.ntmps14, Tryd.results14, ks_14, mu_14, nd_14, xt_14, ti_ag3, ti_ag9, ti_ag48, ti_ag49, ti_ag51, ti_ag78, ti_ag82, ti_fl33_0, ti_fl51_0, ti_fl51_1, ti_fl53_0, ti_fl53_2, ti_fl53_3, ti_fl53_4, ti_fl53_5, ti_fl53_6, ti_fl53_7, ti_fl53_8, ti_fl53_9, ti_fl53_10, ti_hb15, ti_hb16, ti_hb30, ti_hb31, ti_hb32, ti_hb33, ti_hb34, ti_hb35, ti_hb36, ti_ky9, ti_mp82, ti_sb48, ti_sb49, ti_sl24, ti_sl48, ti_sl49, ti_sz51, ti_zv3, strRow, namedV, List.map_cons, List.map_nil, not_true_eq_false, not_false_eq_true, Bool.and_true, Bool.true_and, Bool.false_and, Bool.and_false, Bool.false_or, Bool.or_false, Bool.true_beq, Bool.false_beq, Int.reduceEq, Int.reduceLT, Int.reduceLE]) | (refine AWp_condC rfl ?_; intro KA KB hKA hKB; try simp only [onB_true, onB_false, onB_dec, onB_ndec, onB_not, onB_and, onB_or]) | (refine AWp_condA rfl ?_ ?_) | with_reducible (first | refine onB_of ?_ ?_ | rfl) | omega)
    all_goals first
      | omega
      | exact keepK hk (by simp [namedV, Bel_tu, Bel_d]) rfl
      | exact keepFz hk (Fz_tu2 (.nil _) (.same _)) (by simp [namedV, Bel_tu, Bel_d])
      | exact dropF hk (Fz_tu2 (.same _) (.same _)) (by simp [namedV, Bel_tu, Bel_d])
      | exact dropF hk (Fz_tu2 (.nil _) (.same _)) (by simp [namedV, Bel_tu, Bel_d])
end Go.Proofs.YtppalmoicjogaaaDoor
namespace Go.Proofs.YtppalmoicjogaaaDoor
open Go Go.Proofs.YtppalmoicjogaaaDoor.Ab
variable [Glo] [U8]
set_option maxHeartbeats 4000000
set_option maxRecDepth 20000
theorem columns7_A (o : Opp) (ok : OkO o) (hkind : o.kind = 7) (a b : List (List UInt8)) (ha : OkC a) (hb : OkC b) (H : Heap) (K : V → Heap → Prop) (hk : K (colsV (colsQ o a b)) H) :
    ACalls Tryd.prog 14 [opV o, .d (.sl 1 [[.sl 1 (a.map strRow)], [.sl 1 (b.map strRow)]])] H K := by
  rw [opV_k hkind]
  have hn := named_A (a) ha.n ha.s
  have hh := has_A a ha.len o.cols (by have := ok.ncols; omega)
  have hg := has_A b hb.len o.cols (by have := ok.ncols; omega)
  cases h2 : hasQ a o.cols with
  | true =>
    rw [h2] at hh
    cases h3 : hasQ b o.cols with
    | true =>
      rw [h3] at hg
      have e : colsQ o a b = namedQ (0, a) := by simp [colsQ, opCols, hkind, okC, namedQ, h2, h3]
      rw [e, ← namedV_eq] at hk
      refine ACalls_of Tryd.func14 rfl in_14 (Nat.le_of_ble_eq_true rfl) ?_
      intro F hF
      simp (dsimp := false) only [go_sem, Nat.reduceAdd, Nat.reduceBEq, Nat.reduceEqDiff, Nat.reduceLT, Nat.reduceLeDiff, Nat.reduceMul, Int.reduceToNat, reduceCtorEq, ↓reduceIte, Tryd.ntmps14, Tryd.results14, ks_14, mu_14, nd_14, xt_14, ti_ag3, ti_ag9, ti_ag48, ti_ag49, ti_ag51, ti_ag78, ti_ag82, ti_fl33_0, ti_fl51_0, ti_fl51_1, ti_fl53_0, ti_fl53_2, ti_fl53_3, ti_fl53_4, ti_fl53_5, ti_fl53_6, ti_fl53_7, ti_fl53_8, ti_fl53_9, ti_fl53_10, ti_hb15, ti_hb16, ti_hb30, ti_hb31, ti_hb32, ti_hb33, ti_hb34, ti_hb35, ti_hb36, ti_ky9, ti_mp82, ti_sb48, ti_sb49, ti_sl24, ti_sl48, ti_sl49, ti_sz51, ti_zv3, strRow, namedV, List.map_cons, List.map_nil, not_true_eq_false, not_false_eq_true, Bool.and_true, Bool.true_and, Bool.false_and, Bool.and_false, Bool.false_or, Bool.or_false, Bool.true_beq, Bool.false_beq, Int.reduceEq, Int.reduceLT, Int.reduceLE, in_14] at hF
      subst hF
      repeat' (first | with_reducible (first | refine And.intro ?_ ?_ | intro _ | refine AWp_seq ?_ | refine AWp_block ?_ | (refine hKv _ _ (AWp_nop ?_); clear hKv Kv) | (refine hKA ?_; clear hKA hKB KA KB) | (refine hKB ?_; clear hKA hKB KA KB) | refine AWp_skipN ?_ | refine AWp_exitO (by repeat (first | exact Out.hit | apply Out.thenA | apply Out.out rfl)) ?_) | ((first | with_reducible (first | (refine hKv _ _ ?_; clear hKv Kv) | ((first | refine AWp_regC mu_14 ks_14 ?_ | refine AWp_drawU xt_14 mu_14 ks_14 (by decide) ti_mixed (by kernel_rfl) ?_ | refine AWp_draw nd_14 mu_14 ks_14 ti_mixed (by kernel_rfl) ?_ | refine AWp_regE mu_14 ks_14 ?_ | refine AWp_drawE nd_14 mu_14 ks_14 ti_mixed (by kernel_rfl) ?_); intro Kv hKv) | refine AWp_retR ?_) | refine hh _ _ ?_ | refine QCall_of (hh _ _ (Two_intro _ _)) ?_ | refine ECall_of (hh _ _ (Two_intro _ _)) ?_ | refine hg _ _ ?_ | refine QCall_of (hg _ _ (Two_intro _ _)) ?_ | refine ECall_of (hg _ _ (Two_intro _ _)) ?_ | refine hn _ _ ?_ | refine QCall_of (hn _ _ (Two_intro _ _)) ?_ | refine ECall_of (hn _ _ (Two_intro _ _)) ?_); try simp (dsimp := false) only [go_sem, Nat.reduceAdd, Nat.reduceBEq, Nat.reduceEqDiff, Nat.reduceLT, Nat.reduceLeDiff, Nat.reduceMul, Int.reduceToNat, reduceCtorEq, ↓reduceIte, Tryd.ntmps14, Tryd.results14, ks_14, mu_14, nd_14, xt_14, ti_ag3, ti_ag9, ti_ag48, ti_ag49, ti_ag51, ti_ag78, ti_ag82, ti_fl33_0, ti_fl51_0, ti_fl51_1, ti_fl53_0, ti_fl53_2, ti_fl53_3, ti_fl53_4, ti_fl53_5, ti_fl53_6, ti_fl53_7, ti_fl53_8, ti_fl53_9, ti_fl53_10, ti_hb15, ti_hb16, ti_hb30, ti_hb31, ti_hb32, ti_hb33, ti_hb34, ti_hb35, ti_hb36, ti_ky9, ti_mp82, ti_sb48, ti_sb49, ti_sl24, ti_sl48, ti_sl49, ti_sz51, ti_zv3, strRow, namedV, List.map_cons, List.map_nil, not_true_eq_false, not_false_eq_true, Bool.and_true, Bool.true_and, Bool.false_and, Bool.and_false, Bool.false_or, Bool.or_false, Bool.true_beq, Bool.false_beq, Int.reduceEq, Int.reduceLT, Int.reduceLE]) | (refine AWp_condC rfl ?_; intro KA KB hKA hKB; try simp only [onB_true, onB_false, onB_dec, onB_ndec, onB_not, onB_and, onB_or]) | (refine AWp_condA rfl ?_ ?_) | with_reducible (first | refine onB_of ?_ ?_ | rfl) | omega)
      all_goals first
        | omega
        | exact keepK hk (by simp [namedV, Bel_tu, Bel_d]) rfl
        | exact keepFz hk (Fz_tu2 (.nil _) (.same _)) (by simp [namedV, Bel_tu, Bel_d])
        | exact dropF hk (Fz_tu2 (.same _) (.same _)) (by simp [namedV, Bel_tu, Bel_d])
        | exact dropF hk (Fz_tu2 (.nil _) (.same _)) (by simp [namedV, Bel_tu, Bel_d])
    | false =>
      rw [h3] at hg
      have e : colsQ o a b = (9, []) := by simp [colsQ, opCols, hkind, okC, namedQ, h2, h3]
      rw [e, colsV, List.map_nil] at hk
      refine ACalls_of Tryd.func14 rfl in_14 (Nat.le_of_ble_eq_true rfl) ?_
      intro F hF
      simp (dsimp := false) only [go_sem, Nat.reduceAdd, Nat.reduceBEq, Nat.reduceEqDiff, Nat.reduceLT, Nat.reduceLeDiff, Nat.reduceMul, Int.reduceToNat, reduceCtorEq, ↓reduceIte, Tryd.ntmps14, Tryd.results14, ks_14, mu_14, nd_14, xt_14, ti_ag3, ti_ag9, ti_ag48, ti_ag49, ti_ag51, ti_ag78, ti_ag82, ti_fl33_0, ti_fl51_0, ti_fl51_1, ti_fl53_0, ti_fl53_2, ti_fl53_3, ti_fl53_4, ti_fl53_5, ti_fl53_6, ti_fl53_7, ti_fl53_8, ti_fl53_9, ti_fl53_10, ti_hb15, ti_hb16, ti_hb30, ti_hb31, ti_hb32, ti_hb33, ti_hb34, ti_hb35, ti_hb36, ti_ky9, ti_mp82, ti_sb48, ti_sb49, ti_sl24, ti_sl48, ti_sl49, ti_sz51, ti_zv3, strRow, namedV, List.map_cons, List.map_nil, not_true_eq_false, not_false_eq_true, Bool.and_true, Bool.true_and, Bool.false_and, Bool.and_false, Bool.false_or, Bool.or_false, Bool.true_beq, Bool.false_beq, Int.reduceEq, Int.reduceLT, Int.reduceLE, in_14] at hF
      subst hF
      repeat' (first | with_reducible (first | refine And.intro ?_ ?_ | intro _ | refine AWp_seq ?_ | refine AWp_block ?_ | (refine hKv _ _ (AWp_nop ?_); clear hKv Kv) | (refine hKA ?_; clear hKA hKB KA KB) | (refine hKB ?_; clear hKA hKB KA KB) | refine AWp_skipN ?_ | refine AWp_exitO (by repeat (first | exact Out.hit | apply Out.thenA | apply Out.out rfl)) ?_) | ((first | with_reducible (first | (refine hKv _ _ ?_; clear hKv Kv) | ((first | refine AWp_regC mu_14 ks_14 ?_ | refine AWp_drawU xt_14 mu_14 ks_14 (by decide) ti_mixed (by kernel_rfl) ?_ | refine AWp_draw nd_14 mu_14 ks_14 ti_mixed (by kernel_rfl) ?_ | refine AWp_regE mu_14 ks_14 ?_ | refine AWp_drawE nd_14 mu_14 ks_14 ti_mixed (by kernel_rfl) ?_); intro Kv hKv) | refine AWp_retR ?_) | refine hh _ _ ?_ | refine QCall_of (hh _ _ (Two_intro _ _)) ?_ | refine ECall_of (hh _ _ (Two_intro _ _)) ?_ | refine hg _ _ ?_ | refine QCall_of (hg _ _ (Two_intro _ _)) ?_ | refine ECall_of (hg _ _ (Two_intro _ _)) ?_); try simp (dsimp := false) only [go_sem, Nat.reduceAdd, Nat.reduceBEq, Nat.reduceEqDiff, Nat.reduceLT, Nat.reduceLeDiff, Nat.reduceMul, Int.reduceToNat, reduceCtorEq, ↓reduceIte, Tryd.ntmps14, Tryd.results14, ks_14, mu_14, nd_14, xt_14, ti_ag3, ti_ag9, ti_ag48, ti_ag49, ti_ag51, ti_ag78, ti_ag82, ti_fl33_0, ti_fl51_0, ti_fl51_1, ti_fl53_0, ti_fl53_2, ti_fl53_3, ti_fl53_4, ti_fl53_5, ti_fl53_6, ti_fl53_7, ti_fl53_8, ti_fl53_9, ti_fl53_10, ti_hb15, ti_hb16, ti_hb30, ti_hb31, ti_hb32, ti_hb33, ti_hb34, ti_hb35, ti_hb36, ti_ky9, ti_mp82, ti_sb48, ti_sb49, ti_sl24, ti_sl48, ti_sl49, ti_sz51, ti_zv3, strRow, namedV, List.map_cons, List.map_nil, not_true_eq_false, not_false_eq_true, Bool.and_true, Bool.true_and, Bool.false_and, Bool.and_false, Bool.false_or, Bool.or_false, Bool.true_beq, Bool.false_beq, Int.reduceEq, Int.reduceLT, Int.reduceLE]) | (refine AWp_condC rfl ?_; intro KA KB hKA hKB; try simp only [onB_true, onB_false, onB_dec, onB_ndec, onB_not, onB_and, onB_or]) | (refine AWp_condA rfl ?_ ?_) | with_reducible (first | refine onB_of ?_ ?_ | rfl) | omega)
      all_goals first
        | omega
        | exact keepK hk (by simp [namedV, Bel_tu, Bel_d]) rfl
        | exact keepFz hk (Fz_tu2 (.nil _) (.same _)) (by simp [namedV, Bel_tu, Bel_d])
        | exact dropF hk (Fz_tu2 (.same _) (.same _)) (by simp [namedV, Bel_tu, Bel_d])
        | exact dropF hk (Fz_tu2 (.nil _) (.same _)) (by simp [namedV, Bel_tu, Bel_d])
  | false =>
    rw [h2] at hh
    have e : colsQ o a b = (9, []) := by simp [colsQ, opCols, hkind, okC, namedQ, h2]
    rw [e, colsV, List.map_nil] at hk
    refine ACalls_of Tryd.func14 rfl in_14 (Nat.le_of_ble_eq_true rfl) ?_
    intro F hF
    simp (dsimp := false) only [go_sem, Nat.reduceAdd, Nat.reduceBEq, Nat.reduceEqDiff, Nat.reduceLT, Nat.reduceLeDiff, Nat.reduceMul, Int.reduceToNat, reduceCtorEq, ↓reduceIte, Tryd.ntmps14, Tryd.results14, ks_14, mu_14, nd_14, xt_14, ti_ag3, ti_ag9, ti_ag48, ti_ag49, ti_ag51, ti_ag78, ti_ag82, ti_fl33_0, ti_fl51_0, ti_fl51_1, ti_fl53_0, ti_fl53_2, ti_fl53_3, ti_fl53_4, ti_fl53_5, ti_fl53_6, ti_fl53_7, ti_fl53_8, ti_fl53_9, ti_fl53_10, ti_hb15, ti_hb16, ti_hb30, ti_hb31, ti_hb32, ti_hb33, ti_hb34, ti_hb35, ti_hb36, ti_ky9, ti_mp82, ti_sb48, ti_sb49, ti_sl24, ti_sl48, ti_sl49, ti_sz51, ti_zv3, strRow, namedV, List.map_cons, List.map_nil, not_true_eq_false, not_false_eq_true, Bool.and_true, Bool.true_and, Bool.false_and, Bool.and_false, Bool.false_or, Bool.or_false, Bool.true_beq, Bool.false_beq, Int.reduceEq, Int.reduceLT, Int.reduceLE, in_14] at hF
    subst hF
    repeat' (first | with_reducible (first | refine And.intro ?_ ?_ | intro _ | refine AWp_seq ?_ | refine AWp_block ?_ | (refine hKv _ _ (AWp_nop ?_); clear hKv Kv) | (refine hKA ?_; clear hKA hKB KA KB) | (refine hKB ?_; clear hKA hKB KA KB) | refine AWp_skipN ?_ | refine AWp_exitO (by repeat (first | exact Out.hit | apply Out.thenA | apply Out.out rfl)) ?_) | ((first | with_reducible (first | (refine hKv _ _ ?_; clear hKv Kv) | ((first | refine AWp_regC mu_14 ks_14 ?_ | refine AWp_drawU xt_14 mu_14 ks_14 (by decide) ti_mixed (by kernel_rfl) ?_ | refine AWp_draw nd_14 mu_14 ks_14 ti_mixed (by kernel_rfl) ?_ | refine AWp_regE mu_14 ks_14 ?_ | refine AWp_drawE nd_14 mu_14 ks_14 ti_mixed (by kernel_rfl) ?_); intro Kv hKv) | refine AWp_retR ?_) | refine hh _ _ ?_ | refine QCall_of (hh _ _ (Two_intro _ _)) ?_ | refine ECall_of (hh _ _ (Two_intro _ _)) ?_); try simp (dsimp := false) only [go_sem, Nat.reduceAdd, Nat.reduceBEq, Nat.reduceEqDiff, Nat.reduceLT, Nat.reduceLeDiff, Nat.reduceMul, Int.reduceToNat, reduceCtorEq, ↓reduceIte, Tryd.ntmps14, Tryd.results14, ks_14, mu_14, nd_14, xt_14, ti_ag3, ti_ag9, ti_ag48, ti_ag49, ti_ag51, ti_ag78, ti_ag82, ti_fl33_0, ti_fl51_0, ti_fl51_1, ti_fl53_0, ti_fl53_2, ti_fl53_3, ti_fl53_4, ti_fl53_5, ti_fl53_6, ti_fl53_7, ti_fl53_8, ti_fl53_9, ti_fl53_10, ti_hb15, ti_hb16, ti_hb30, ti_hb31, ti_hb32, ti_hb33, ti_hb34, ti_hb35, ti_hb36, ti_ky9, ti_mp82, ti_sb48, ti_sb49, ti_sl24, ti_sl48, ti_sl49, ti_sz51, ti_zv3, strRow, namedV, List.map_cons, List.map_nil, not_true_eq_false, not_false_eq_true, Bool.and_true, Bool.true_and, Bool.false_and, Bool.and_false, Bool.false_or, Bool.or_false, Bool.true_beq, Bool.false_beq, Int.reduceEq, Int.reduceLT, Int.reduceLE]) | (refine AWp_condC rfl ?_; intro KA KB hKA hKB; try simp only [onB_true, onB_false, onB_dec, onB_ndec, onB_not, onB_and, onB_or]) | (refine AWp_condA rfl ?_ ?_) | with_reducible (first | refine onB_of ?_ ?_ | rfl) | omega)
    all_goals first
      | omega
      | exact keepK hk (by simp [namedV, Bel_tu, Bel_d]) rfl
      | exact keepFz hk (Fz_tu2 (.nil _) (.same _)) (by simp [namedV, Bel_tu, Bel_d])
      | exact dropF hk (Fz_tu2 (.same _) (.same _)) (by simp [namedV, Bel_tu, Bel_d])
      | exact dropF hk (Fz_tu2 (.nil _) (.same _)) (by simp [namedV, Bel_tu, Bel_d])
end Go.Proofs.YtppalmoicjogaaaDoor
namespace Go.Proofs.YtppalmoicjogaaaDoor
open Go Go.Proofs.YtppalmoicjogaaaDoor.Ab
variable [Glo] [U8]
set_option maxHeartbeats 4000000
set_option maxRecDepth 20000
theorem columns8_A (o : Opp) (ok : OkO o) (hkind : o.kind = 8) (a b : List (List UInt8)) (ha : OkC a) (hb : OkC b) (H : Heap) (K : V → Heap → Prop) (hk : K (colsV (colsQ o a b)) H) :
    ACalls Tryd.prog 14 [opV o, .d (.sl 1 [[.sl 1 (a.map strRow)]])] H K := by
  rw [opV_k hkind]
  have hn := named_A (a) ha.n ha.s
  have hh := has_A a ha.len o.cols (by have := ok.ncols; omega)
  cases h2 : hasQ a o.cols with
  | true =>
    rw [h2] at hh
    have e : colsQ o a b = namedQ (0, a) := by simp [colsQ, opCols, hkind, okC, namedQ, h2]
    rw [e, ← namedV_eq] at hk
    refine ACalls_of Tryd.func14 rfl in_14 (Nat.le_of_ble_eq_true rfl) ?_
    intro F hF
    simp (dsimp := false) only [go_sem, Nat.reduceAdd, Nat.reduceBEq, Nat.reduceEqDiff, Nat.reduceLT, Nat.reduceLeDiff, Nat.reduceMul, Int.reduceToNat, reduceCtorEq, ↓reduceIte, Tryd.ntmps14, Tryd.results14, ks_14, mu_14, nd_14, xt_14, ti_ag3, ti_ag9, ti_ag48, ti_ag49, ti_ag51, ti_ag78, ti_ag82, ti_fl33_0, ti_fl51_0, ti_fl51_1, ti_fl53_0, ti_fl53_2, ti_fl53_3, ti_fl53_4, ti_fl53_5, ti_fl53_6, ti_fl53_7, ti_fl53_8, ti_fl53_9, ti_fl53_10, ti_hb15, ti_hb16, ti_hb30, ti_hb31, ti_hb32, ti_hb33, ti_hb34, ti_hb35, ti_hb36, ti_ky9, ti_mp82, ti_sb48, ti_sb49, ti_sl24, ti_sl48, ti_sl49, ti_sz51, ti_zv3, strRow, namedV, List.map_cons, List.map_nil, not_true_eq_false, not_false_eq_true, Bool.and_true, Bool.true_and, Bool.false_and, Bool.and_false, Bool.false_or, Bool.or_false, Bool.true_beq, Bool.false_beq, Int.reduceEq, Int.reduceLT, Int.reduceLE, in_14] at hF
    subst hF
    repeat' (first | with_reducible (first | refine And.intro ?_ ?_ | intro _ | refine AWp_seq ?_ | refine AWp_block ?_ | (refine hKv _ _ (AWp_nop ?_); clear hKv Kv) | (refine hKA ?_; clear hKA hKB KA KB) | (refine hKB ?_; clear hKA hKB KA KB) | refine AWp_skipN ?_ | refine AWp_exitO (by repeat (first | exact Out.hit | apply Out.thenA | apply Out.out rfl)) ?_) | ((first | with_reducible (first | (refine hKv _ _ ?_; clear hKv Kv) | ((first | refine AWp_regC mu_14 ks_14 ?_ | refine AWp_drawU xt_14 mu_14 ks_14 (by decide) ti_mixed (by kernel_rfl) ?_ | refine AWp_draw nd_14 mu_14 ks_14 ti_mixed (by kernel_rfl) ?_ | refine AWp_regE mu_14 ks_14 ?_ | refine AWp_drawE nd_14 mu_14 ks_14 ti_mixed (by kernel_rfl) ?_); intro Kv hKv) | refine AWp_retR ?_) | refine hh _ _ ?_ | refine QCall_of (hh _ _ (Two_intro _ _)) ?_ | refine ECall_of (hh _ _ (Two_intro _ _)) ?_ | refine hn _ _ ?_ | refine QCall_of (hn _ _ (Two_intro _ _)) ?_ | refine ECall_of (hn _ _ (Two_intro _ _)) ?_); try simp (dsimp := false) only [go_sem, Nat.reduceAdd, Nat.reduceBEq, Nat.reduceEqDiff, Nat.reduceLT, Nat.reduceLeDiff, Nat.reduceMul, Int.reduceToNat, reduceCtorEq, ↓reduceIte, Tryd.ntmps14, Tryd.results14, ks_14, mu_14, nd_14, xt_14, ti_ag3, ti_ag9, ti_ag48, ti_ag49, ti_ag51, ti_ag78, ti_ag82, ti_fl33_0, ti_fl51_0, ti_fl51_1, ti_fl53_0, ti_fl53_2, ti_fl53_3, ti_fl53_4, ti_fl53_5, ti_fl53_6, ti_fl53_7, ti_fl53_8, ti_fl53_9, ti_fl53_10, ti_hb15, ti_hb16, ti_hb30, ti_hb31, ti_hb32, ti_hb33, ti_hb34, ti_hb35, ti_hb36, ti_ky9, ti_mp82, ti_sb48, ti_sb49, ti_sl24, ti_sl48, ti_sl49, ti_sz51, ti_zv3, strRow, namedV, List.map_cons, List.map_nil, not_true_eq_false, not_false_eq_true, Bool.and_true, Bool.true_and, Bool.false_and, Bool.and_false, Bool.false_or, Bool.or_false, Bool.true_beq, Bool.false_beq, Int.reduceEq, Int.reduceLT, Int.reduceLE]) | (refine AWp_condC rfl ?_; intro KA KB hKA hKB; try simp only [onB_true, onB_false, onB_dec, onB_ndec, onB_not, onB_and, onB_or]) | (refine AWp_condA rfl ?_ ?_) | with_reducible (first | refine onB_of ?_ ?_ | rfl) | omega)
    all_goals first
      | omega
      | exact keepK hk (by simp [namedV, Bel_tu, Bel_d]) rfl
      | exact keepFz hk (Fz_tu2 (.nil _) (.same _)) (by simp [namedV, Bel_tu, Bel_d])
      | exact dropF hk (Fz_tu2 (.same _) (.same _)) (by simp [namedV, Bel_tu, Bel_d])
      | exact dropF hk (Fz_tu2 (.nil _) (.same _)) (by simp [namedV, Bel_tu, Bel_d])
  | false =>
    rw [h2] at hh
    have e : colsQ o a b = (9, []) := by simp [colsQ, opCols, hkind, okC, namedQ, h2]
    rw [e, colsV, List.map_nil] at hk
    refine ACalls_of Tryd.func14 rfl in_14 (Nat.le_of_ble_eq_true rfl) ?_
    intro F hF
    simp (dsimp := false) only [go_sem, Nat.reduceAdd, Nat.reduceBEq, Nat.reduceEqDiff, Nat.reduceLT, Nat.reduceLeDiff, Nat.reduceMul, Int.reduceToNat, reduceCtorEq, ↓reduceIte, Tryd.ntmps14, Tryd.results14, ks_14, mu_14, nd_14, xt_14, ti_ag3, ti_ag9, ti_ag48, ti_ag49, ti_ag51, ti_ag78, ti_ag82, ti_fl33_0, ti_fl51_0, ti_fl51_1, ti_fl53_0, ti_fl53_2, ti_fl53_3, ti_fl53_4, ti_fl53_5, ti_fl53_6, ti_fl53_7, ti_fl53_8, ti_fl53_9, ti_fl53_10, ti_hb15, ti_hb16, ti_hb30, ti_hb31, ti_hb32, ti_hb33, ti_hb34, ti_hb35, ti_hb36, ti_ky9, ti_mp82, ti_sb48, ti_sb49, ti_sl24, ti_sl48, ti_sl49, ti_sz51, ti_zv3, strRow, namedV, List.map_cons, List.map_nil, not_true_eq_false, not_false_eq_true, Bool.and_true, Bool.true_and, Bool.false_and, Bool.and_false, Bool.false_or, Bool.or_false, Bool.true_beq, Bool.false_beq, Int.reduceEq, Int.reduceLT, Int.reduceLE, in_14] at hF
    subst hF
    repeat' (first | with_reducible (first | refine And.intro ?_ ?_ | intro _ | refine AWp_seq ?_ | refine AWp_block ?_ | (refine hKv _ _ (AWp_nop ?_); clear hKv Kv) | (refine hKA ?_; clear hKA hKB KA KB) | (refine hKB ?_; clear hKA hKB KA KB) | refine AWp_skipN ?_ | refine AWp_exitO (by repeat (first | exact Out.hit | apply Out.thenA | apply Out.out rfl)) ?_) | ((first | with_reducible (first | (refine hKv _ _ ?_; clear hKv Kv) | ((first | refine AWp_regC mu_14 ks_14 ?_ | refine AWp_drawU xt_14 mu_14 ks_14 (by decide) ti_mixed (by kernel_rfl) ?_ | refine AWp_draw nd_14 mu_14 ks_14 ti_mixed (by kernel_rfl) ?_ | refine AWp_regE mu_14 ks_14 ?_ | refine AWp_drawE nd_14 mu_14 ks_14 ti_mixed (by kernel_rfl) ?_); intro Kv hKv) | refine AWp_retR ?_) | refine hh _ _ ?_ | refine QCall_of (hh _ _ (Two_intro _ _)) ?_ | refine ECall_of (hh _ _ (Two_intro _ _)) ?_); try simp (dsimp := false) only [go_sem, Nat.reduceAdd, Nat.reduceBEq, Nat.reduceEqDiff, Nat.reduceLT, Nat.reduceLeDiff, Nat.reduceMul, Int.reduceToNat, reduceCtorEq, ↓reduceIte, Tryd.ntmps14, Tryd.results14, ks_14, mu_14, nd_14, xt_14, ti_ag3, ti_ag9, ti_ag48, ti_ag49, ti_ag51, ti_ag78, ti_ag82, ti_fl33_0, ti_fl51_0, ti_fl51_1, ti_fl53_0, ti_fl53_2, ti_fl53_3, ti_fl53_4, ti_fl53_5, ti_fl53_6, ti_fl53_7, ti_fl53_8, ti_fl53_9, ti_fl53_10, ti_hb15, ti_hb16, ti_hb30, ti_hb31, ti_hb32, ti_hb33, ti_hb34, ti_hb35, ti_hb36, ti_ky9, ti_mp82, ti_sb48, ti_sb49, ti_sl24, ti_sl48, ti_sl49, ti_sz51, ti_zv3, strRow, namedV, List.map_cons, List.map_nil, not_true_eq_false, not_false_eq_true, Bool.and_true, Bool.true_and, Bool.false_and, Bool.and_false, Bool.false_or, Bool.or_false, Bool.true_beq, Bool.false_beq, Int.reduceEq, Int.reduceLT, Int.reduceLE]) | (refine AWp_condC rfl ?_; intro KA KB hKA hKB; try simp only [onB_true, onB_false, onB_dec, onB_ndec, onB_not, onB_and, onB_or]) | (refine AWp_condA rfl ?_ ?_) | with_reducible (first | refine onB_of ?_ ?_ | rfl) | omega)
    all_goals first
      | omega
      | exact keepK hk (by simp [namedV, Bel_tu, Bel_d]) rfl
      | exact keepFz hk (Fz_tu2 (.nil _) (.same _)) (by simp [namedV, Bel_tu, Bel_d])
      | exact dropF hk (Fz_tu2 (.same _) (.same _)) (by simp [namedV, Bel_tu, Bel_d])
      | exact dropF hk (Fz_tu2 (.nil _) (.same _)) (by simp [namedV, Bel_tu, Bel_d])
end Go.Proofs.YtppalmoicjogaaaDoor
