/- Plans: run.columns, kind 12. No condition but that the tables of package unicode/utf8 are there. -/
import Derived.Test.YtppalmoicjogaaaDoorR27
set_option linter.all false
set_option linter.unusedSimpArgs false
set_option linter.unusedVariables false
namespace Go.Proofs.YtppalmoicjogaaaDoor
open Go Go.Proofs.YtppalmoicjogaaaDoor.Ab
variable [Glo] [U8]
set_option maxHeartbeats 4000000
set_option maxRecDepth 20000
theorem opCols12 {o : Opp} (h : o.kind = 12) {a b : List (List UInt8)} : opCols o a b = if 1 ≤ o.axis ∧ o.axis ≤ 12 ∧ 1 ≤ o.tk ∧ o.tk ≤ 5 then okC (hasQ a [sIter, sItem]) [sIter, sItem] else (3, []) := by
  simp [opCols, h]
theorem columns12_A (o : Opp) (ok : OkO o) (hkind : o.kind = 12) (a b : List (List UInt8)) (ha : OkC a) (hb : OkC b) (H : Heap) (K : V → Heap → Prop) (hk : K (colsV (colsQ o a b)) H) :
    ACalls Tryd.prog 14 [opV o, .d (.sl 1 [[.sl 1 (a.map strRow)]])] H K := by
  rw [opV_k hkind]
  have hn := named_A ([sIter, sItem]) (by decide) (by decide)
  have hh := has_A a ha.len [sIter, sItem] (by decide)
  by_cases c0 : o.axis < 1
  · have i0 : (o.axis < 1) = True := eq_true c0
    have e : colsQ o a b = (3, []) := by rw [colsQ, opCols12 hkind, if_neg (by omega)]; rfl
    rw [e, colsV, List.map_nil] at hk
    refine ACalls_of Tryd.func14 rfl in_14 (Nat.le_of_ble_eq_true rfl) ?_
    intro F hF
    simp (dsimp := false) only [go_sem, Nat.reduceAdd, Nat.reduceBEq, Nat.reduceEqDiff, Nat.reduceLT, Nat.reduceLeDiff, Nat.reduceMul, Int.reduceToNat, reduceCtorEq, ↓reduceIte, Tryd.ntmps14, Tryd.results14, ks_14, mu_14, nd_14, xt_14, ti_ag3, ti_ag9, ti_ag48, ti_ag49, ti_ag51, ti_ag78, ti_ag82, ti_fl33_0, ti_fl51_0, ti_fl51_1, ti_fl53_0, ti_fl53_2, ti_fl53_3, ti_fl53_4, ti_fl53_5, ti_fl53_6, ti_fl53_7, ti_fl53_8, ti_fl53_9, ti_fl53_10, ti_hb15, ti_hb16, ti_hb30, ti_hb31, ti_hb32, ti_hb33, ti_hb34, ti_hb35, ti_hb36, ti_ky9, ti_mp82, ti_sb48, ti_sb49, ti_sl24, ti_sl48, ti_sl49, ti_sz51, ti_zv3, strRow, namedV, List.map_cons, List.map_nil, not_true_eq_false, not_false_eq_true, Bool.and_true, Bool.true_and, Bool.false_and, Bool.and_false, Bool.false_or, Bool.or_false, Bool.true_beq, Bool.false_beq, Int.reduceEq, Int.reduceLT, Int.reduceLE, i0, in_14] at hF
    subst hF
    repeat' (first | with_reducible (first | refine And.intro ?_ ?_ | intro _ | refine AWp_seq ?_ | refine AWp_block ?_ | (refine hKv _ _ (AWp_nop ?_); clear hKv Kv) | (refine hKA ?_; clear hKA hKB KA KB) | (refine hKB ?_; clear hKA hKB KA KB) | refine AWp_skipN ?_ | refine AWp_exitO (by repeat (first | exact Out.hit | apply Out.thenA | apply Out.out rfl)) ?_) | (with_reducible (first | (refine hKv _ _ ?_; clear hKv Kv) | ((first | refine AWp_regC mu_14 ks_14 ?_ | refine AWp_drawU xt_14 mu_14 ks_14 (by decide) ti_mixed (by kernel_rfl) ?_ | refine AWp_draw nd_14 mu_14 ks_14 ti_mixed (by kernel_rfl) ?_ | refine AWp_regE mu_14 ks_14 ?_ | refine AWp_drawE nd_14 mu_14 ks_14 ti_mixed (by kernel_rfl) ?_); intro Kv hKv) | refine AWp_retR ?_); try simp (dsimp := false) only [go_sem, Nat.reduceAdd, Nat.reduceBEq, Nat.reduceEqDiff, Nat.reduceLT, Nat.reduceLeDiff, Nat.reduceMul, Int.reduceToNat, reduceCtorEq, ↓reduceIte, Tryd.ntmps14, Tryd.results14, ks_14, mu_14, nd_14, xt_14, ti_ag3, ti_ag9, ti_ag48, ti_ag49, ti_ag51, ti_ag78, ti_ag82, ti_fl33_0, ti_fl51_0, ti_fl51_1, ti_fl53_0, ti_fl53_2, ti_fl53_3, ti_fl53_4, ti_fl53_5, ti_fl53_6, ti_fl53_7, ti_fl53_8, ti_fl53_9, ti_fl53_10, ti_hb15, ti_hb16, ti_hb30, ti_hb31, ti_hb32, ti_hb33, ti_hb34, ti_hb35, ti_hb36, ti_ky9, ti_mp82, ti_sb48, ti_sb49, ti_sl24, ti_sl48, ti_sl49, ti_sz51, ti_zv3, strRow, namedV, List.map_cons, List.map_nil, not_true_eq_false, not_false_eq_true, Bool.and_true, Bool.true_and, Bool.false_and, Bool.and_false, Bool.false_or, Bool.or_false, Bool.true_beq, Bool.false_beq, Int.reduceEq, Int.reduceLT, Int.reduceLE, i0]) | (refine AWp_condC rfl ?_; intro KA KB hKA hKB; try simp only [onB_true, onB_false, onB_dec, onB_ndec, onB_not, onB_and, onB_or]) | (refine AWp_condA rfl ?_ ?_) | with_reducible (first | refine onB_of ?_ ?_ | rfl) | omega)
    all_goals first
      | omega
      | exact keepK hk (by simp [namedV, Bel_tu, Bel_d]) rfl
      | exact keepFz hk (Fz_tu2 (.nil _) (.same _)) (by simp [namedV, Bel_tu, Bel_d])
      | exact dropF hk (Fz_tu2 (.same _) (.same _)) (by simp [namedV, Bel_tu, Bel_d])
      | exact dropF hk (Fz_tu2 (.nil _) (.same _)) (by simp [namedV, Bel_tu, Bel_d])
  · have i0 : (o.axis < 1) = False := eq_false c0
    by_cases c1 : 12 < o.axis
    · have i1 : (12 < o.axis) = True := eq_true c1
      have e : colsQ o a b = (3, []) := by rw [colsQ, opCols12 hkind, if_neg (by omega)]; rfl
      rw [e, colsV, List.map_nil] at hk
      refine ACalls_of Tryd.func14 rfl in_14 (Nat.le_of_ble_eq_true rfl) ?_
      intro F hF
      simp (dsimp := false) only [go_sem, Nat.reduceAdd, Nat.reduceBEq, Nat.reduceEqDiff, Nat.reduceLT, Nat.reduceLeDiff, Nat.reduceMul, Int.reduceToNat, reduceCtorEq, ↓reduceIte, Tryd.ntmps14, Tryd.results14, ks_14, mu_14, nd_14, xt_14, ti_ag3, ti_ag9, ti_ag48, ti_ag49, ti_ag51, ti_ag78, ti_ag82, ti_fl33_0, ti_fl51_0, ti_fl51_1, ti_fl53_0, ti_fl53_2, ti_fl53_3, ti_fl53_4, ti_fl53_5, ti_fl53_6, ti_fl53_7, ti_fl53_8, ti_fl53_9, ti_fl53_10, ti_hb15, ti_hb16, ti_hb30, ti_hb31, ti_hb32, ti_hb33, ti_hb34, ti_hb35, ti_hb36, ti_ky9, ti_mp82, ti_sb48, ti_sb49, ti_sl24, ti_sl48, ti_sl49, ti_sz51, ti_zv3, strRow, namedV, List.map_cons, List.map_nil, not_true_eq_false, not_false_eq_true, Bool.and_true, Bool.true_and, Bool.false_and, Bool.and_false, Bool.false_or, Bool.or_false, Bool.true_beq, Bool.false_beq, Int.reduceEq, Int.reduceLT, Int.reduceLE, i0, i1, in_14] at hF
      subst hF
      repeat' (first | with_reducible (first | refine And.intro ?_ ?_ | intro _ | refine AWp_seq ?_ | refine AWp_block ?_ | (refine hKv _ _ (AWp_nop ?_); clear hKv Kv) | (refine hKA ?_; clear hKA hKB KA KB) | (refine hKB ?_; clear hKA hKB KA KB) | refine AWp_skipN ?_ | refine AWp_exitO (by repeat (first | exact Out.hit | apply Out.thenA | apply Out.out rfl)) ?_) | (with_reducible (first | (refine hKv _ _ ?_; clear hKv Kv) | ((first | refine AWp_regC mu_14 ks_14 ?_ | refine AWp_drawU xt_14 mu_14 ks_14 (by decide) ti_mixed (by kernel_rfl) ?_ | refine AWp_draw nd_14 mu_14 ks_14 ti_mixed (by kernel_rfl) ?_ | refine AWp_regE mu_14 ks_14 ?_ | refine AWp_drawE nd_14 mu_14 ks_14 ti_mixed (by kernel_rfl) ?_); intro Kv hKv) | refine AWp_retR ?_); try simp (dsimp := false) only [go_sem, Nat.reduceAdd, Nat.reduceBEq, Nat.reduceEqDiff, Nat.reduceLT, Nat.reduceLeDiff, Nat.reduceMul, Int.reduceToNat, reduceCtorEq, ↓reduceIte, Tryd.ntmps14, Tryd.results14, ks_14, mu_14, nd_14, xt_14, ti_ag3, ti_ag9, ti_ag48, ti_ag49, ti_ag51, ti_ag78, ti_ag82, ti_fl33_0, ti_fl51_0, ti_fl51_1, ti_fl53_0, ti_fl53_2, ti_fl53_3, ti_fl53_4, ti_fl53_5, ti_fl53_6, ti_fl53_7, ti_fl53_8, ti_fl53_9, ti_fl53_10, ti_hb15, ti_hb16, ti_hb30, ti_hb31, ti_hb32, ti_hb33, ti_hb34, ti_hb35, ti_hb36, ti_ky9, ti_mp82, ti_sb48, ti_sb49, ti_sl24, ti_sl48, ti_sl49, ti_sz51, ti_zv3, strRow, namedV, List.map_cons, List.map_nil, not_true_eq_false, not_false_eq_true, Bool.and_true, Bool.true_and, Bool.false_and, Bool.and_false, Bool.false_or, Bool.or_false, Bool.true_beq, Bool.false_beq, Int.reduceEq, Int.reduceLT, Int.reduceLE, i0, i1]) | (refine AWp_condC rfl ?_; intro KA KB hKA hKB; try simp only [onB_true, onB_false, onB_dec, onB_ndec, onB_not, onB_and, onB_or]) | (refine AWp_condA rfl ?_ ?_) | with_reducible (first | refine onB_of ?_ ?_ | rfl) | omega)
      all_goals first
        | omega
        | exact keepK hk (by simp [namedV, Bel_tu, Bel_d]) rfl
        | exact keepFz hk (Fz_tu2 (.nil _) (.same _)) (by simp [namedV, Bel_tu, Bel_d])
        | exact dropF hk (Fz_tu2 (.same _) (.same _)) (by simp [namedV, Bel_tu, Bel_d])
        | exact dropF hk (Fz_tu2 (.nil _) (.same _)) (by simp [namedV, Bel_tu, Bel_d])
    · have i1 : (12 < o.axis) = False := eq_false c1
      by_cases c2 : o.tk < 1
      · have i2 : (o.tk < 1) = True := eq_true c2
        have e : colsQ o a b = (3, []) := by rw [colsQ, opCols12 hkind, if_neg (by omega)]; rfl
        rw [e, colsV, List.map_nil] at hk
        refine ACalls_of Tryd.func14 rfl in_14 (Nat.le_of_ble_eq_true rfl) ?_
        intro F hF
        simp (dsimp := false) only [go_sem, Nat.reduceAdd, Nat.reduceBEq, Nat.reduceEqDiff, Nat.reduceLT, Nat.reduceLeDiff, Nat.reduceMul, Int.reduceToNat, reduceCtorEq, ↓reduceIte, Tryd.ntmps14, Tryd.results14, ks_14, mu_14, nd_14, xt_14, ti_ag3, ti_ag9, ti_ag48, ti_ag49, ti_ag51, ti_ag78, ti_ag82, ti_fl33_0, ti_fl51_0, ti_fl51_1, ti_fl53_0, ti_fl53_2, ti_fl53_3, ti_fl53_4, ti_fl53_5, ti_fl53_6, ti_fl53_7, ti_fl53_8, ti_fl53_9, ti_fl53_10, ti_hb15, ti_hb16, ti_hb30, ti_hb31, ti_hb32, ti_hb33, ti_hb34, ti_hb35, ti_hb36, ti_ky9, ti_mp82, ti_sb48, ti_sb49, ti_sl24, ti_sl48, ti_sl49, ti_sz51, ti_zv3, strRow, namedV, List.map_cons, List.map_nil, not_true_eq_false, not_false_eq_true, Bool.and_true, Bool.true_and, Bool.false_and, Bool.and_false, Bool.false_or, Bool.or_false, Bool.true_beq, Bool.false_beq, Int.reduceEq, Int.reduceLT, Int.reduceLE, i0, i1, i2, in_14] at hF
        subst hF
        repeat' (first | with_reducible (first | refine And.intro ?_ ?_ | intro _ | refine AWp_seq ?_ | refine AWp_block ?_ | (refine hKv _ _ (AWp_nop ?_); clear hKv Kv) | (refine hKA ?_; clear hKA hKB KA KB) | (refine hKB ?_; clear hKA hKB KA KB) | refine AWp_skipN ?_ | refine AWp_exitO (by repeat (first | exact Out.hit | apply Out.thenA | apply Out.out rfl)) ?_) | (with_reducible (first | (refine hKv _ _ ?_; clear hKv Kv) | ((first | refine AWp_regC mu_14 ks_14 ?_ | refine AWp_drawU xt_14 mu_14 ks_14 (by decide) ti_mixed (by kernel_rfl) ?_ | refine AWp_draw nd_14 mu_14 ks_14 ti_mixed (by kernel_rfl) ?_ | refine AWp_regE mu_14 ks_14 ?_ | refine AWp_drawE nd_14 mu_14 ks_14 ti_mixed (by kernel_rfl) ?_); intro Kv hKv) | refine AWp_retR ?_); try simp (dsimp := false) only [go_sem, Nat.reduceAdd, Nat.reduceBEq, Nat.reduceEqDiff, Nat.reduceLT, Nat.reduceLeDiff, Nat.reduceMul, Int.reduceToNat, reduceCtorEq, ↓reduceIte, Tryd.ntmps14, Tryd.results14, ks_14, mu_14, nd_14, xt_14, ti_ag3, ti_ag9, ti_ag48, ti_ag49, ti_ag51, ti_ag78, ti_ag82, ti_fl33_0, ti_fl51_0, ti_fl51_1, ti_fl53_0, ti_fl53_2, ti_fl53_3, ti_fl53_4, ti_fl53_5, ti_fl53_6, ti_fl53_7, ti_fl53_8, ti_fl53_9, ti_fl53_10, ti_hb15, ti_hb16, ti_hb30, ti_hb31, ti_hb32, ti_hb33, ti_hb34, ti_hb35, ti_hb36, ti_ky9, ti_mp82, ti_sb48, ti_sb49, ti_sl24, ti_sl48, ti_sl49, ti_sz51, ti_zv3, strRow, namedV, List.map_cons, List.map_nil, not_true_eq_false, not_false_eq_true, Bool.and_true, Bool.true_and, Bool.false_and, Bool.and_false, Bool.false_or, Bool.or_false, Bool.true_beq, Bool.false_beq, Int.reduceEq, Int.reduceLT, Int.reduceLE, i0, i1, i2]) | (refine AWp_condC rfl ?_; intro KA KB hKA hKB; try simp only [onB_true, onB_false, onB_dec, onB_ndec, onB_not, onB_and, onB_or]) | (refine AWp_condA rfl ?_ ?_) | with_reducible (first | refine onB_of ?_ ?_ | rfl) | omega)
        all_goals first
          | omega
          | exact keepK hk (by simp [namedV, Bel_tu, Bel_d]) rfl
          | exact keepFz hk (Fz_tu2 (.nil _) (.same _)) (by simp [namedV, Bel_tu, Bel_d])
          | exact dropF hk (Fz_tu2 (.same _) (.same _)) (by simp [namedV, Bel_tu, Bel_d])
          | exact dropF hk (Fz_tu2 (.nil _) (.same _)) (by simp [namedV, Bel_tu, Bel_d])
      · have i2 : (o.tk < 1) = False := eq_false c2
        by_cases c3 : 5 < o.tk
        · have i3 : (5 < o.tk) = True := eq_true c3
          have e : colsQ o a b = (3, []) := by rw [colsQ, opCols12 hkind, if_neg (by omega)]; rfl
          rw [e, colsV, List.map_nil] at hk
          refine ACalls_of Tryd.func14 rfl in_14 (Nat.le_of_ble_eq_true rfl) ?_
          intro F hF
          simp (dsimp := false) only [go_sem, Nat.reduceAdd, Nat.reduceBEq, Nat.reduceEqDiff, Nat.reduceLT, Nat.reduceLeDiff, Nat.reduceMul, Int.reduceToNat, reduceCtorEq, ↓reduceIte, Tryd.ntmps14, Tryd.results14, ks_14, mu_14, nd_14, xt_14, ti_ag3, ti_ag9, ti_ag48, ti_ag49, ti_ag51, ti_ag78, ti_ag82, ti_fl33_0, ti_fl51_0, ti_fl51_1, ti_fl53_0, ti_fl53_2, ti_fl53_3, ti_fl53_4, ti_fl53_5, ti_fl53_6, ti_fl53_7, ti_fl53_8, ti_fl53_9, ti_fl53_10, ti_hb15, ti_hb16, ti_hb30, ti_hb31, ti_hb32, ti_hb33, ti_hb34, ti_hb35, ti_hb36, ti_ky9, ti_mp82, ti_sb48, ti_sb49, ti_sl24, ti_sl48, ti_sl49, ti_sz51, ti_zv3, strRow, namedV, List.map_cons, List.map_nil, not_true_eq_false, not_false_eq_true, Bool.and_true, Bool.true_and, Bool.false_and, Bool.and_false, Bool.false_or, Bool.or_false, Bool.true_beq, Bool.false_beq, Int.reduceEq, Int.reduceLT, Int.reduceLE, i0, i1, i2, i3, in_14] at hF
          subst hF
          repeat' (first | with_reducible (first | refine And.intro ?_ ?_ | intro _ | refine AWp_seq ?_ | refine AWp_block ?_ | (refine hKv _ _ (AWp_nop ?_); clear hKv Kv) | (refine hKA ?_; clear hKA hKB KA KB) | (refine hKB ?_; clear hKA hKB KA KB) | refine AWp_skipN ?_ | refine AWp_exitO (by repeat (first | exact Out.hit | apply Out.thenA | apply Out.out rfl)) ?_) | (with_reducible (first | (refine hKv _ _ ?_; clear hKv Kv) | ((first | refine AWp_regC mu_14 ks_14 ?_ | refine AWp_drawU xt_14 mu_14 ks_14 (by decide) ti_mixed (by kernel_rfl) ?_ | refine AWp_draw nd_14 mu_14 ks_14 ti_mixed (by kernel_rfl) ?_ | refine AWp_regE mu_14 ks_14 ?_ | refine AWp_drawE nd_14 mu_14 ks_14 ti_mixed (by kernel_rfl) ?_); intro Kv hKv) | refine AWp_retR ?_); try simp (dsimp := false) only [go_sem, Nat.reduceAdd, Nat.reduceBEq, Nat.reduceEqDiff, Nat.reduceLT, Nat.reduceLeDiff, Nat.reduceMul, Int.reduceToNat, reduceCtorEq, ↓reduceIte, Tryd.ntmps14, Tryd.results14, ks_14, mu_14, nd_14, xt_14, ti_ag3, ti_ag9, ti_ag48, ti_ag49, ti_ag51, ti_ag78, ti_ag82, ti_fl33_0, ti_fl51_0, ti_fl51_1, ti_fl53_0, ti_fl53_2, ti_fl53_3, ti_fl53_4, ti_fl53_5, ti_fl53_6, ti_fl53_7, ti_fl53_8, ti_fl53_9, ti_fl53_10, ti_hb15, ti_hb16, ti_hb30, ti_hb31, ti_hb32, ti_hb33, ti_hb34, ti_hb35, ti_hb36, ti_ky9, ti_mp82, ti_sb48, ti_sb49, ti_sl24, ti_sl48, ti_sl49, ti_sz51, ti_zv3, strRow, namedV, List.map_cons, List.map_nil, not_true_eq_false, not_false_eq_true, Bool.and_true, Bool.true_and, Bool.false_and, Bool.and_false, Bool.false_or, Bool.or_false, Bool.true_beq, Bool.false_beq, Int.reduceEq, Int.reduceLT, Int.reduceLE, i0, i1, i2, i3]) | (refine AWp_condC rfl ?_; intro KA KB hKA hKB; try simp only [onB_true, onB_false, onB_dec, onB_ndec, onB_not, onB_and, onB_or]) | (refine AWp_condA rfl ?_ ?_) | with_reducible (first | refine onB_of ?_ ?_ | rfl) | omega)
          all_goals first
            | omega
            | exact keepK hk (by simp [namedV, Bel_tu, Bel_d]) rfl
            | exact keepFz hk (Fz_tu2 (.nil _) (.same _)) (by simp [namedV, Bel_tu, Bel_d])
            | exact dropF hk (Fz_tu2 (.same _) (.same _)) (by simp [namedV, Bel_tu, Bel_d])
            | exact dropF hk (Fz_tu2 (.nil _) (.same _)) (by simp [namedV, Bel_tu, Bel_d])
        · have i3 : (5 < o.tk) = False := eq_false c3
          have hgood : 1 ≤ o.axis ∧ o.axis ≤ 12 ∧ 1 ≤ o.tk ∧ o.tk ≤ 5 := ⟨by omega, by omega, by omega, by omega⟩
          cases h2 : hasQ a [sIter, sItem] with
          | true =>
            rw [h2] at hh
            have e : colsQ o a b = namedQ (0, [sIter, sItem]) := by rw [colsQ, opCols12 hkind, if_pos hgood, h2]; rfl
            rw [e, ← namedV_eq] at hk
            refine ACalls_of Tryd.func14 rfl in_14 (Nat.le_of_ble_eq_true rfl) ?_
            intro F hF
            simp (dsimp := false) only [go_sem, Nat.reduceAdd, Nat.reduceBEq, Nat.reduceEqDiff, Nat.reduceLT, Nat.reduceLeDiff, Nat.reduceMul, Int.reduceToNat, reduceCtorEq, ↓reduceIte, Tryd.ntmps14, Tryd.results14, ks_14, mu_14, nd_14, xt_14, ti_ag3, ti_ag9, ti_ag48, ti_ag49, ti_ag51, ti_ag78, ti_ag82, ti_fl33_0, ti_fl51_0, ti_fl51_1, ti_fl53_0, ti_fl53_2, ti_fl53_3, ti_fl53_4, ti_fl53_5, ti_fl53_6, ti_fl53_7, ti_fl53_8, ti_fl53_9, ti_fl53_10, ti_hb15, ti_hb16, ti_hb30, ti_hb31, ti_hb32, ti_hb33, ti_hb34, ti_hb35, ti_hb36, ti_ky9, ti_mp82, ti_sb48, ti_sb49, ti_sl24, ti_sl48, ti_sl49, ti_sz51, ti_zv3, strRow, namedV, List.map_cons, List.map_nil, not_true_eq_false, not_false_eq_true, Bool.and_true, Bool.true_and, Bool.false_and, Bool.and_false, Bool.false_or, Bool.or_false, Bool.true_beq, Bool.false_beq, Int.reduceEq, Int.reduceLT, Int.reduceLE, i0, i1, i2, i3, sIter, sItem, in_14] at hF
            subst hF
            repeat' (first | with_reducible (first | refine And.intro ?_ ?_ | intro _ | refine AWp_seq ?_ | refine AWp_block ?_ | (refine hKv _ _ (AWp_nop ?_); clear hKv Kv) | (refine hKA ?_; clear hKA hKB KA KB) | (refine hKB ?_; clear hKA hKB KA KB) | refine AWp_skipN ?_ | refine AWp_exitO (by repeat (first | exact Out.hit | apply Out.thenA | apply Out.out rfl)) ?_) | ((first | with_reducible (first | (refine hKv _ _ ?_; clear hKv Kv) | ((first | refine AWp_regC mu_14 ks_14 ?_ | refine AWp_drawU xt_14 mu_14 ks_14 (by decide) ti_mixed (by kernel_rfl) ?_ | refine AWp_draw nd_14 mu_14 ks_14 ti_mixed (by kernel_rfl) ?_ | refine AWp_regE mu_14 ks_14 ?_ | refine AWp_drawE nd_14 mu_14 ks_14 ti_mixed (by kernel_rfl) ?_); intro Kv hKv) | refine AWp_retR ?_) | refine hh _ _ ?_ | refine QCall_of (hh _ _ (Two_intro _ _)) ?_ | refine ECall_of (hh _ _ (Two_intro _ _)) ?_ | refine hn _ _ ?_ | refine QCall_of (hn _ _ (Two_intro _ _)) ?_ | refine ECall_of (hn _ _ (Two_intro _ _)) ?_); try simp (dsimp := false) only [go_sem, Nat.reduceAdd, Nat.reduceBEq, Nat.reduceEqDiff, Nat.reduceLT, Nat.reduceLeDiff, Nat.reduceMul, Int.reduceToNat, reduceCtorEq, ↓reduceIte, Tryd.ntmps14, Tryd.results14, ks_14, mu_14, nd_14, xt_14, ti_ag3, ti_ag9, ti_ag48, ti_ag49, ti_ag51, ti_ag78, ti_ag82, ti_fl33_0, ti_fl51_0, ti_fl51_1, ti_fl53_0, ti_fl53_2, ti_fl53_3, ti_fl53_4, ti_fl53_5, ti_fl53_6, ti_fl53_7, ti_fl53_8, ti_fl53_9, ti_fl53_10, ti_hb15, ti_hb16, ti_hb30, ti_hb31, ti_hb32, ti_hb33, ti_hb34, ti_hb35, ti_hb36, ti_ky9, ti_mp82, ti_sb48, ti_sb49, ti_sl24, ti_sl48, ti_sl49, ti_sz51, ti_zv3, strRow, namedV, List.map_cons, List.map_nil, not_true_eq_false, not_false_eq_true, Bool.and_true, Bool.true_and, Bool.false_and, Bool.and_false, Bool.false_or, Bool.or_false, Bool.true_beq, Bool.false_beq, Int.reduceEq, Int.reduceLT, Int.reduceLE, i0, i1, i2, i3, sIter, sItem]) | (refine AWp_condC rfl ?_; intro KA KB hKA hKB; try simp only [onB_true, onB_false, onB_dec, onB_ndec, onB_not, onB_and, onB_or]) | (refine AWp_condA rfl ?_ ?_) | with_reducible (first | refine onB_of ?_ ?_ | rfl) | omega)
            all_goals first
              | omega
              | exact keepK hk (by simp [namedV, Bel_tu, Bel_d]) rfl
              | exact keepFz hk (Fz_tu2 (.nil _) (.same _)) (by simp [namedV, Bel_tu, Bel_d])
              | exact dropF hk (Fz_tu2 (.same _) (.same _)) (by simp [namedV, Bel_tu, Bel_d])
              | exact dropF hk (Fz_tu2 (.nil _) (.same _)) (by simp [namedV, Bel_tu, Bel_d])
          | false =>
            rw [h2] at hh
            have e : colsQ o a b = (9, []) := by rw [colsQ, opCols12 hkind, if_pos hgood, h2]; rfl
            rw [e, colsV, List.map_nil] at hk
            refine ACalls_of Tryd.func14 rfl in_14 (Nat.le_of_ble_eq_true rfl) ?_
            intro F hF
            simp (dsimp := false) only [go_sem, Nat.reduceAdd, Nat.reduceBEq, Nat.reduceEqDiff, Nat.reduceLT, Nat.reduceLeDiff, Nat.reduceMul, Int.reduceToNat, reduceCtorEq, ↓reduceIte, Tryd.ntmps14, Tryd.results14, ks_14, mu_14, nd_14, xt_14, ti_ag3, ti_ag9, ti_ag48, ti_ag49, ti_ag51, ti_ag78, ti_ag82, ti_fl33_0, ti_fl51_0, ti_fl51_1, ti_fl53_0, ti_fl53_2, ti_fl53_3, ti_fl53_4, ti_fl53_5, ti_fl53_6, ti_fl53_7, ti_fl53_8, ti_fl53_9, ti_fl53_10, ti_hb15, ti_hb16, ti_hb30, ti_hb31, ti_hb32, ti_hb33, ti_hb34, ti_hb35, ti_hb36, ti_ky9, ti_mp82, ti_sb48, ti_sb49, ti_sl24, ti_sl48, ti_sl49, ti_sz51, ti_zv3, strRow, namedV, List.map_cons, List.map_nil, not_true_eq_false, not_false_eq_true, Bool.and_true, Bool.true_and, Bool.false_and, Bool.and_false, Bool.false_or, Bool.or_false, Bool.true_beq, Bool.false_beq, Int.reduceEq, Int.reduceLT, Int.reduceLE, i0, i1, i2, i3, sIter, sItem, in_14] at hF
            subst hF
            repeat' (first | with_reducible (first | refine And.intro ?_ ?_ | intro _ | refine AWp_seq ?_ | refine AWp_block ?_ | (refine hKv _ _ (AWp_nop ?_); clear hKv Kv) | (refine hKA ?_; clear hKA hKB KA KB) | (refine hKB ?_; clear hKA hKB KA KB) | refine AWp_skipN ?_ | refine AWp_exitO (by repeat (first | exact Out.hit | apply Out.thenA | apply Out.out rfl)) ?_) | ((first | with_reducible (first | (refine hKv _ _ ?_; clear hKv Kv) | ((first | refine AWp_regC mu_14 ks_14 ?_ | refine AWp_drawU xt_14 mu_14 ks_14 (by decide) ti_mixed (by kernel_rfl) ?_ | refine AWp_draw nd_14 mu_14 ks_14 ti_mixed (by kernel_rfl) ?_ | refine AWp_regE mu_14 ks_14 ?_ | refine AWp_drawE nd_14 mu_14 ks_14 ti_mixed (by kernel_rfl) ?_); intro Kv hKv) | refine AWp_retR ?_) | refine hh _ _ ?_ | refine QCall_of (hh _ _ (Two_intro _ _)) ?_ | refine ECall_of (hh _ _ (Two_intro _ _)) ?_); try simp (dsimp := false) only [go_sem, Nat.reduceAdd, Nat.reduceBEq, Nat.reduceEqDiff, Nat.reduceLT, Nat.reduceLeDiff, Nat.reduceMul, Int.reduceToNat, reduceCtorEq, ↓reduceIte, Tryd.ntmps14, Tryd.results14, ks_14, mu_14, nd_14, xt_14, ti_ag3, ti_ag9, ti_ag48, ti_ag49, ti_ag51, ti_ag78, ti_ag82, ti_fl33_0, ti_fl51_0, ti_fl51_1, ti_fl53_0, ti_fl53_2, ti_fl53_3, ti_fl53_4, ti_fl53_5, ti_fl53_6, ti_fl53_7, ti_fl53_8, ti_fl53_9, ti_fl53_10, ti_hb15, ti_hb16, ti_hb30, ti_hb31, ti_hb32, ti_hb33, ti_hb34, ti_hb35, ti_hb36, ti_ky9, ti_mp82, ti_sb48, ti_sb49, ti_sl24, ti_sl48, ti_sl49, ti_sz51, ti_zv3, strRow, namedV, List.map_cons, List.map_nil, not_true_eq_false, not_false_eq_true, Bool.and_true, Bool.true_and, Bool.false_and, Bool.and_false, Bool.false_or, Bool.or_false, Bool.true_beq, Bool.false_beq, Int.reduceEq, Int.reduceLT, Int.reduceLE, i0, i1, i2, i3, sIter, sItem]) | (refine AWp_condC rfl ?_; intro KA KB hKA hKB; try simp only [onB_true, onB_false, onB_dec, onB_ndec, onB_not, onB_and, onB_or]) | (refine AWp_condA rfl ?_ ?_) | with_reducible (first | refine onB_of ?_ ?_ | rfl) | omega)
            all_goals first
              | omega
              | exact keepK hk (by simp [namedV, Bel_tu, Bel_d]) rfl
              | exact keepFz hk (Fz_tu2 (.nil _) (.same _)) (by simp [namedV, Bel_tu, Bel_d])
              | exact dropF hk (Fz_tu2 (.same _) (.same _)) (by simp [namedV, Bel_tu, Bel_d])
              | exact dropF hk (Fz_tu2 (.nil _) (.same _)) (by simp [namedV, Bel_tu, Bel_d])
end Go.Proofs.YtppalmoicjogaaaDoor
