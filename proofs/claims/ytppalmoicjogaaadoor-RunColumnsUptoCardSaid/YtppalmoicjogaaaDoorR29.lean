/- Plans: run.columns, kind 3. No condition but that the tables of package unicode/utf8 are there. -/
import Derived.Test.YtppalmoicjogaaaDoorR27
set_option linter.all false
set_option linter.unusedSimpArgs false
set_option linter.unusedVariables false
namespace Go.Proofs.YtppalmoicjogaaaDoor
open Go Go.Proofs.YtppalmoicjogaaaDoor.Ab
variable [Glo] [U8]
set_option maxHeartbeats 4000000
set_option maxRecDepth 20000
theorem columns3_A (o : Opp) (ok : OkO o) (hkind : o.kind = 3) (a b : List (List UInt8)) (ha : OkC a) (hb : OkC b) (H : Heap) (K : V → Heap → Prop) (hk : K (colsV (colsQ o a b)) H) :
    ACalls Tryd.prog 14 [opV o, .d (.sl 1 [[.sl 1 (a.map strRow)]])] H K := by
  rw [opV_k hkind]
  have hn := named_A (a) ha.n ha.s
  have hh := has_A a ha.len o.cols (by have := ok.ncols; omega)
  by_cases h1 : o.cols.length = 1
  · have i1 : ((o.cols.length : Int) = 1) = True := eq_true (by omega)
    cases h2 : hasQ a o.cols with
    | true =>
      rw [h2] at hh
      have e : colsQ o a b = namedQ (0, a) := by simp [colsQ, opCols, hkind, okC, namedQ, h1, h2]
      rw [e, ← namedV_eq] at hk
      refine ACalls_of Tryd.func14 rfl in_14 (Nat.le_of_ble_eq_true rfl) ?_
      intro F hF
      simp (dsimp := false) only [go_sem, Nat.reduceAdd, Nat.reduceBEq, Nat.reduceEqDiff, Nat.reduceLT, Nat.reduceLeDiff, Nat.reduceMul, Int.reduceToNat, reduceCtorEq, ↓reduceIte, Tryd.ntmps14, Tryd.results14, ks_14, mu_14, nd_14, xt_14, ti_ag3, ti_ag9, ti_ag48, ti_ag49, ti_ag51, ti_ag78, ti_ag82, ti_fl33_0, ti_fl51_0, ti_fl51_1, ti_fl53_0, ti_fl53_2, ti_fl53_3, ti_fl53_4, ti_fl53_5, ti_fl53_6, ti_fl53_7, ti_fl53_8, ti_fl53_9, ti_fl53_10, ti_hb15, ti_hb16, ti_hb30, ti_hb31, ti_hb32, ti_hb33, ti_hb34, ti_hb35, ti_hb36, ti_ky9, ti_mp82, ti_sb48, ti_sb49, ti_sl24, ti_sl48, ti_sl49, ti_sz51, ti_zv3, strRow, namedV, List.map_cons, List.map_nil, not_true_eq_false, not_false_eq_true, Bool.and_true, Bool.true_and, Bool.false_and, Bool.and_false, Bool.false_or, Bool.or_false, Bool.true_beq, Bool.false_beq, Int.reduceEq, Int.reduceLT, Int.reduceLE, i1, in_14] at hF
      subst hF
      repeat' (first | with_reducible (first | refine And.intro ?_ ?_ | intro _ | refine AWp_seq ?_ | refine AWp_block ?_ | (refine hKv _ _ (AWp_nop ?_); clear hKv Kv) | (refine hKA ?_; clear hKA hKB KA KB) | (refine hKB ?_; clear hKA hKB KA KB) | refine AWp_skipN ?_ | refine AWp_exitO (by repeat (first | exact Out.hit | apply Out.thenA | apply Out.out rfl)) ?_) | ((first | with_reducible (first | (refine hKv _ _ ?_; clear hKv Kv) | ((first | refine AWp_regC mu_14 ks_14 ?_ | refine AWp_drawU xt_14 mu_14 ks_14 (by decide) ti_mixed (by kernel_rfl) ?_ | refine AWp_draw nd_14 mu_14 ks_14 ti_mixed (by kernel_rfl) ?_ | refine AWp_regE mu_14 ks_14 ?_ | refine AWp_drawE nd_14 mu_14 ks_14 ti_mixed (by kernel_rfl) ?_); intro Kv hKv) | refine AWp_retR ?_) | refine hh _ _ ?_ | refine QCall_of (hh _ _ (Two_intro _ _)) ?_ | refine ECall_of (hh _ _ (Two_intro _ _)) ?_ | refine hn _ _ ?_ | refine QCall_of (hn _ _ (Two_intro _ _)) ?_ | refine ECall_of (hn _ _ (Two_intro _ _)) ?_); try simp (dsimp := false) only [go_sem, Nat.reduceAdd, Nat.reduceBEq, Nat.reduceEqDiff, Nat.reduceLT, Nat.reduceLeDiff, Nat.reduceMul, Int.reduceToNat, reduceCtorEq, ↓reduceIte, Tryd.ntmps14, Tryd.results14, ks_14, mu_14, nd_14, xt_14, ti_ag3, ti_ag9, ti_ag48, ti_ag49, ti_ag51, ti_ag78, ti_ag82, ti_fl33_0, ti_fl51_0, ti_fl51_1, ti_fl53_0, ti_fl53_2, ti_fl53_3, ti_fl53_4, ti_fl53_5, ti_fl53_6, ti_fl53_7, ti_fl53_8, ti_fl53_9, ti_fl53_10, ti_hb15, ti_hb16, ti_hb30, ti_hb31, ti_hb32, ti_hb33, ti_hb34, ti_hb35, ti_hb36, ti_ky9, ti_mp82, ti_sb48, ti_sb49, ti_sl24, ti_sl48, ti_sl49, ti_sz51, ti_zv3, strRow, namedV, List.map_cons, List.map_nil, not_true_eq_false, not_false_eq_true, Bool.and_true, Bool.true_and, Bool.false_and, Bool.and_false, Bool.false_or, Bool.or_false, Bool.true_beq, Bool.false_beq, Int.reduceEq, Int.reduceLT, Int.reduceLE, i1]) | (refine AWp_condC rfl ?_; intro KA KB hKA hKB; try simp only [onB_true, onB_false, onB_dec, onB_ndec, onB_not, onB_and, onB_or]) | (refine AWp_condA rfl ?_ ?_) | with_reducible (first | refine onB_of ?_ ?_ | rfl) | omega)
      all_goals first
        | omega
        | exact keepK hk (by simp [namedV, Bel_tu, Bel_d]) rfl
        | exact keepFz hk (Fz_tu2 (.nil _) (.same _)) (by simp [namedV, Bel_tu, Bel_d])
        | exact dropF hk (Fz_tu2 (.same _) (.same _)) (by simp [namedV, Bel_tu, Bel_d])
        | exact dropF hk (Fz_tu2 (.nil _) (.same _)) (by simp [namedV, Bel_tu, Bel_d])
    | false =>
      rw [h2] at hh
      have e : colsQ o a b = (9, []) := by simp [colsQ, opCols, hkind, okC, namedQ, h1, h2]
      rw [e, colsV, List.map_nil] at hk
      refine ACalls_of Tryd.func14 rfl in_14 (Nat.le_of_ble_eq_true rfl) ?_
      intro F hF
      simp (dsimp := false) only [go_sem, Nat.reduceAdd, Nat.reduceBEq, Nat.reduceEqDiff, Nat.reduceLT, Nat.reduceLeDiff, Nat.reduceMul, Int.reduceToNat, reduceCtorEq, ↓reduceIte, Tryd.ntmps14, Tryd.results14, ks_14, mu_14, nd_14, xt_14, ti_ag3, ti_ag9, ti_ag48, ti_ag49, ti_ag51, ti_ag78, ti_ag82, ti_fl33_0, ti_fl51_0, ti_fl51_1, ti_fl53_0, ti_fl53_2, ti_fl53_3, ti_fl53_4, ti_fl53_5, ti_fl53_6, ti_fl53_7, ti_fl53_8, ti_fl53_9, ti_fl53_10, ti_hb15, ti_hb16, ti_hb30, ti_hb31, ti_hb32, ti_hb33, ti_hb34, ti_hb35, ti_hb36, ti_ky9, ti_mp82, ti_sb48, ti_sb49, ti_sl24, ti_sl48, ti_sl49, ti_sz51, ti_zv3, strRow, namedV, List.map_cons, List.map_nil, not_true_eq_false, not_false_eq_true, Bool.and_true, Bool.true_and, Bool.false_and, Bool.and_false, Bool.false_or, Bool.or_false, Bool.true_beq, Bool.false_beq, Int.reduceEq, Int.reduceLT, Int.reduceLE, i1, in_14] at hF
      subst hF
      repeat' (first | with_reducible (first | refine And.intro ?_ ?_ | intro _ | refine AWp_seq ?_ | refine AWp_block ?_ | (refine hKv _ _ (AWp_nop ?_); clear hKv Kv) | (refine hKA ?_; clear hKA hKB KA KB) | (refine hKB ?_; clear hKA hKB KA KB) | refine AWp_skipN ?_ | refine AWp_exitO (by repeat (first | exact Out.hit | apply Out.thenA | apply Out.out rfl)) ?_) | ((first | with_reducible (first | (refine hKv _ _ ?_; clear hKv Kv) | ((first | refine AWp_regC mu_14 ks_14 ?_ | refine AWp_drawU xt_14 mu_14 ks_14 (by decide) ti_mixed (by kernel_rfl) ?_ | refine AWp_draw nd_14 mu_14 ks_14 ti_mixed (by kernel_rfl) ?_ | refine AWp_regE mu_14 ks_14 ?_ | refine AWp_drawE nd_14 mu_14 ks_14 ti_mixed (by kernel_rfl) ?_); intro Kv hKv) | refine AWp_retR ?_) | refine hh _ _ ?_ | refine QCall_of (hh _ _ (Two_intro _ _)) ?_ | refine ECall_of (hh _ _ (Two_intro _ _)) ?_); try simp (dsimp := false) only [go_sem, Nat.reduceAdd, Nat.reduceBEq, Nat.reduceEqDiff, Nat.reduceLT, Nat.reduceLeDiff, Nat.reduceMul, Int.reduceToNat, reduceCtorEq, ↓reduceIte, Tryd.ntmps14, Tryd.results14, ks_14, mu_14, nd_14, xt_14, ti_ag3, ti_ag9, ti_ag48, ti_ag49, ti_ag51, ti_ag78, ti_ag82, ti_fl33_0, ti_fl51_0, ti_fl51_1, ti_fl53_0, ti_fl53_2, ti_fl53_3, ti_fl53_4, ti_fl53_5, ti_fl53_6, ti_fl53_7, ti_fl53_8, ti_fl53_9, ti_fl53_10, ti_hb15, ti_hb16, ti_hb30, ti_hb31, ti_hb32, ti_hb33, ti_hb34, ti_hb35, ti_hb36, ti_ky9, ti_mp82, ti_sb48, ti_sb49, ti_sl24, ti_sl48, ti_sl49, ti_sz51, ti_zv3, strRow, namedV, List.map_cons, List.map_nil, not_true_eq_false, not_false_eq_true, Bool.and_true, Bool.true_and, Bool.false_and, Bool.and_false, Bool.false_or, Bool.or_false, Bool.true_beq, Bool.false_beq, Int.reduceEq, Int.reduceLT, Int.reduceLE, i1]) | (refine AWp_condC rfl ?_; intro KA KB hKA hKB; try simp only [onB_true, onB_false, onB_dec, onB_ndec, onB_not, onB_and, onB_or]) | (refine AWp_condA rfl ?_ ?_) | with_reducible (first | refine onB_of ?_ ?_ | rfl) | omega)
      all_goals first
        | omega
        | exact keepK hk (by simp [namedV, Bel_tu, Bel_d]) rfl
        | exact keepFz hk (Fz_tu2 (.nil _) (.same _)) (by simp [namedV, Bel_tu, Bel_d])
        | exact dropF hk (Fz_tu2 (.same _) (.same _)) (by simp [namedV, Bel_tu, Bel_d])
        | exact dropF hk (Fz_tu2 (.nil _) (.same _)) (by simp [namedV, Bel_tu, Bel_d])
  · have i1 : ((o.cols.length : Int) = 1) = False := eq_false (by omega)
    have e : colsQ o a b = (9, []) := by simp [colsQ, opCols, hkind, okC, namedQ, h1]
    rw [e, colsV, List.map_nil] at hk
    refine ACalls_of Tryd.func14 rfl in_14 (Nat.le_of_ble_eq_true rfl) ?_
    intro F hF
    simp (dsimp := false) only [go_sem, Nat.reduceAdd, Nat.reduceBEq, Nat.reduceEqDiff, Nat.reduceLT, Nat.reduceLeDiff, Nat.reduceMul, Int.reduceToNat, reduceCtorEq, ↓reduceIte, Tryd.ntmps14, Tryd.results14, ks_14, mu_14, nd_14, xt_14, ti_ag3, ti_ag9, ti_ag48, ti_ag49, ti_ag51, ti_ag78, ti_ag82, ti_fl33_0, ti_fl51_0, ti_fl51_1, ti_fl53_0, ti_fl53_2, ti_fl53_3, ti_fl53_4, ti_fl53_5, ti_fl53_6, ti_fl53_7, ti_fl53_8, ti_fl53_9, ti_fl53_10, ti_hb15, ti_hb16, ti_hb30, ti_hb31, ti_hb32, ti_hb33, ti_hb34, ti_hb35, ti_hb36, ti_ky9, ti_mp82, ti_sb48, ti_sb49, ti_sl24, ti_sl48, ti_sl49, ti_sz51, ti_zv3, strRow, namedV, List.map_cons, List.map_nil, not_true_eq_false, not_false_eq_true, Bool.and_true, Bool.true_and, Bool.false_and, Bool.and_false, Bool.false_or, Bool.or_false, Bool.true_beq, Bool.false_beq, Int.reduceEq, Int.reduceLT, Int.reduceLE, i1, in_14] at hF
    subst hF
    repeat' (first | with_reducible (first | refine And.intro ?_ ?_ | intro _ | refine AWp_seq ?_ | refine AWp_block ?_ | (refine hKv _ _ (AWp_nop ?_); clear hKv Kv) | (refine hKA ?_; clear hKA hKB KA KB) | (refine hKB ?_; clear hKA hKB KA KB) | refine AWp_skipN ?_ | refine AWp_exitO (by repeat (first | exact Out.hit | apply Out.thenA | apply Out.out rfl)) ?_) | (with_reducible (first | (refine hKv _ _ ?_; clear hKv Kv) | ((first | refine AWp_regC mu_14 ks_14 ?_ | refine AWp_drawU xt_14 mu_14 ks_14 (by decide) ti_mixed (by kernel_rfl) ?_ | refine AWp_draw nd_14 mu_14 ks_14 ti_mixed (by kernel_rfl) ?_ | refine AWp_regE mu_14 ks_14 ?_ | refine AWp_drawE nd_14 mu_14 ks_14 ti_mixed (by kernel_rfl) ?_); intro Kv hKv) | refine AWp_retR ?_); try simp (dsimp := false) only [go_sem, Nat.reduceAdd, Nat.reduceBEq, Nat.reduceEqDiff, Nat.reduceLT, Nat.reduceLeDiff, Nat.reduceMul, Int.reduceToNat, reduceCtorEq, ↓reduceIte, Tryd.ntmps14, Tryd.results14, ks_14, mu_14, nd_14, xt_14, ti_ag3, ti_ag9, ti_ag48, ti_ag49, ti_ag51, ti_ag78, ti_ag82, ti_fl33_0, ti_fl51_0, ti_fl51_1, ti_fl53_0, ti_fl53_2, ti_fl53_3, ti_fl53_4, ti_fl53_5, ti_fl53_6, ti_fl53_7, ti_fl53_8, ti_fl53_9, ti_fl53_10, ti_hb15, ti_hb16, ti_hb30, ti_hb31, ti_hb32, ti_hb33, ti_hb34, ti_hb35, ti_hb36, ti_ky9, ti_mp82, ti_sb48, ti_sb49, ti_sl24, ti_sl48, ti_sl49, ti_sz51, ti_zv3, strRow, namedV, List.map_cons, List.map_nil, not_true_eq_false, not_false_eq_true, Bool.and_true, Bool.true_and, Bool.false_and, Bool.and_false, Bool.false_or, Bool.or_false, Bool.true_beq, Bool.false_beq, Int.reduceEq, Int.reduceLT, Int.reduceLE, i1]) | (refine AWp_condC rfl ?_; intro KA KB hKA hKB; try simp only [onB_true, onB_false, onB_dec, onB_ndec, onB_not, onB_and, onB_or]) | (refine AWp_condA rfl ?_ ?_) | with_reducible (first | refine onB_of ?_ ?_ | rfl) | omega)
    all_goals first
      | omega
      | exact keepK hk (by simp [namedV, Bel_tu, Bel_d]) rfl
      | exact keepFz hk (Fz_tu2 (.nil _) (.same _)) (by simp [namedV, Bel_tu, Bel_d])
      | exact dropF hk (Fz_tu2 (.same _) (.same _)) (by simp [namedV, Bel_tu, Bel_d])
      | exact dropF hk (Fz_tu2 (.nil _) (.same _)) (by simp [namedV, Bel_tu, Bel_d])
end Go.Proofs.YtppalmoicjogaaaDoor
namespace Go.Proofs.YtppalmoicjogaaaDoor
open Go Go.Proofs.YtppalmoicjogaaaDoor.Ab
variable [Glo] [U8]
set_option maxHeartbeats 4000000
set_option maxRecDepth 20000
theorem columns4_A (o : Opp) (ok : OkO o) (hkind : o.kind = 4) (a b : List (List UInt8)) (ha : OkC a) (hb : OkC b) (H : Heap) (K : V → Heap → Prop) (hk : K (colsV (colsQ o a b)) H) :
    ACalls Tryd.prog 14 [opV o, .d (.sl 1 [[.sl 1 (a.map strRow)], [.sl 1 (b.map strRow)]])] H K := by
  rw [opV_k hkind]
  have hn := named_A (a ++ b) (ha.app hb).1 (ha.app hb).2
  have hc := concat2_A a b ha hb
  by_cases h1 : o.cols.length = 2
  · obtain ⟨x, y, hxy⟩ : ∃ x y, o.cols = [x, y] := by rcases hcc : o.cols with _ | ⟨x, _ | ⟨y, _ | _⟩⟩ <;> simp_all
    rw [hxy]
    have hh := has_A a ha.len [x] (by simp)
    have hg := has_A b hb.len [y] (by simp)
    cases h2 : hasQ a [x] with
    | true =>
      rw [h2] at hh
      cases h3 : hasQ b [y] with
      | true =>
        rw [h3] at hg
        have e : colsQ o a b = namedQ (0, a ++ b) := by simp [colsQ, opCols, hkind, okC, namedQ, hxy, h2, h3]
        rw [e, ← namedV_eq] at hk
        refine ACalls_of Tryd.func14 rfl in_14 (Nat.le_of_ble_eq_true rfl) ?_
        intro F hF
        simp (dsimp := false) only [go_sem, Nat.reduceAdd, Nat.reduceBEq, Nat.reduceEqDiff, Nat.reduceLT, Nat.reduceLeDiff, Nat.reduceMul, Int.reduceToNat, reduceCtorEq, ↓reduceIte, Tryd.ntmps14, Tryd.results14, ks_14, mu_14, nd_14, xt_14, ti_ag3, ti_ag9, ti_ag48, ti_ag49, ti_ag51, ti_ag78, ti_ag82, ti_fl33_0, ti_fl51_0, ti_fl51_1, ti_fl53_0, ti_fl53_2, ti_fl53_3, ti_fl53_4, ti_fl53_5, ti_fl53_6, ti_fl53_7, ti_fl53_8, ti_fl53_9, ti_fl53_10, ti_hb15, ti_hb16, ti_hb30, ti_hb31, ti_hb32, ti_hb33, ti_hb34, ti_hb35, ti_hb36, ti_ky9, ti_mp82, ti_sb48, ti_sb49, ti_sl24, ti_sl48, ti_sl49, ti_sz51, ti_zv3, strRow, namedV, List.map_cons, List.map_nil, not_true_eq_false, not_false_eq_true, Bool.and_true, Bool.true_and, Bool.false_and, Bool.and_false, Bool.false_or, Bool.or_false, Bool.true_beq, Bool.false_beq, Int.reduceEq, Int.reduceLT, Int.reduceLE, List.take_succ_cons, List.take_zero, List.drop_succ_cons, List.drop_zero, in_14] at hF
        subst hF
        repeat' (first | with_reducible (first | refine And.intro ?_ ?_ | intro _ | refine AWp_seq ?_ | refine AWp_block ?_ | (refine hKv _ _ (AWp_nop ?_); clear hKv Kv) | (refine hKA ?_; clear hKA hKB KA KB) | (refine hKB ?_; clear hKA hKB KA KB) | refine AWp_skipN ?_ | refine AWp_exitO (by repeat (first | exact Out.hit | apply Out.thenA | apply Out.out rfl)) ?_) | ((first | with_reducible (first | (refine hKv _ _ ?_; clear hKv Kv) | ((first | refine AWp_regC mu_14 ks_14 ?_ | refine AWp_drawU xt_14 mu_14 ks_14 (by decide) ti_mixed (by kernel_rfl) ?_ | refine AWp_draw nd_14 mu_14 ks_14 ti_mixed (by kernel_rfl) ?_ | refine AWp_regE mu_14 ks_14 ?_ | refine AWp_drawE nd_14 mu_14 ks_14 ti_mixed (by kernel_rfl) ?_); intro Kv hKv) | refine AWp_retR ?_) | refine hh _ _ ?_ | refine QCall_of (hh _ _ (Two_intro _ _)) ?_ | refine ECall_of (hh _ _ (Two_intro _ _)) ?_ | refine hg _ _ ?_ | refine QCall_of (hg _ _ (Two_intro _ _)) ?_ | refine ECall_of (hg _ _ (Two_intro _ _)) ?_ | refine hc _ _ ?_ | refine QCall_of (hc _ _ (Two_intro _ _)) ?_ | refine ECall_of (hc _ _ (Two_intro _ _)) ?_ | refine hn _ _ ?_ | refine QCall_of (hn _ _ (Two_intro _ _)) ?_ | refine ECall_of (hn _ _ (Two_intro _ _)) ?_); try simp (dsimp := false) only [go_sem, Nat.reduceAdd, Nat.reduceBEq, Nat.reduceEqDiff, Nat.reduceLT, Nat.reduceLeDiff, Nat.reduceMul, Int.reduceToNat, reduceCtorEq, ↓reduceIte, Tryd.ntmps14, Tryd.results14, ks_14, mu_14, nd_14, xt_14, ti_ag3, ti_ag9, ti_ag48, ti_ag49, ti_ag51, ti_ag78, ti_ag82, ti_fl33_0, ti_fl51_0, ti_fl51_1, ti_fl53_0, ti_fl53_2, ti_fl53_3, ti_fl53_4, ti_fl53_5, ti_fl53_6, ti_fl53_7, ti_fl53_8, ti_fl53_9, ti_fl53_10, ti_hb15, ti_hb16, ti_hb30, ti_hb31, ti_hb32, ti_hb33, ti_hb34, ti_hb35, ti_hb36, ti_ky9, ti_mp82, ti_sb48, ti_sb49, ti_sl24, ti_sl48, ti_sl49, ti_sz51, ti_zv3, strRow, namedV, List.map_cons, List.map_nil, not_true_eq_false, not_false_eq_true, Bool.and_true, Bool.true_and, Bool.false_and, Bool.and_false, Bool.false_or, Bool.or_false, Bool.true_beq, Bool.false_beq, Int.reduceEq, Int.reduceLT, Int.reduceLE, List.take_succ_cons, List.take_zero, List.drop_succ_cons, List.drop_zero]) | (refine AWp_condC rfl ?_; intro KA KB hKA hKB; try simp only [onB_true, onB_false, onB_dec, onB_ndec, onB_not, onB_and, onB_or]) | (refine AWp_condA rfl ?_ ?_) | with_reducible (first | refine onB_of ?_ ?_ | rfl) | omega)
        all_goals first
          | omega
          | exact keepK hk (by simp [namedV, Bel_tu, Bel_d]) rfl
          | exact keepFz hk (Fz_tu2 (.nil _) (.same _)) (by simp [namedV, Bel_tu, Bel_d])
          | exact dropF hk (Fz_tu2 (.same _) (.same _)) (by simp [namedV, Bel_tu, Bel_d])
          | exact dropF hk (Fz_tu2 (.nil _) (.same _)) (by simp [namedV, Bel_tu, Bel_d])
      | false =>
        rw [h3] at hg
        have e : colsQ o a b = (9, []) := by simp [colsQ, opCols, hkind, okC, namedQ, hxy, h2, h3]
        rw [e, colsV, List.map_nil] at hk
        refine ACalls_of Tryd.func14 rfl in_14 (Nat.le_of_ble_eq_true rfl) ?_
        intro F hF
        simp (dsimp := false) only [go_sem, Nat.reduceAdd, Nat.reduceBEq, Nat.reduceEqDiff, Nat.reduceLT, Nat.reduceLeDiff, Nat.reduceMul, Int.reduceToNat, reduceCtorEq, ↓reduceIte, Tryd.ntmps14, Tryd.results14, ks_14, mu_14, nd_14, xt_14, ti_ag3, ti_ag9, ti_ag48, ti_ag49, ti_ag51, ti_ag78, ti_ag82, ti_fl33_0, ti_fl51_0, ti_fl51_1, ti_fl53_0, ti_fl53_2, ti_fl53_3, ti_fl53_4, ti_fl53_5, ti_fl53_6, ti_fl53_7, ti_fl53_8, ti_fl53_9, ti_fl53_10, ti_hb15, ti_hb16, ti_hb30, ti_hb31, ti_hb32, ti_hb33, ti_hb34, ti_hb35, ti_hb36, ti_ky9, ti_mp82, ti_sb48, ti_sb49, ti_sl24, ti_sl48, ti_sl49, ti_sz51, ti_zv3, strRow, namedV, List.map_cons, List.map_nil, not_true_eq_false, not_false_eq_true, Bool.and_true, Bool.true_and, Bool.false_and, Bool.and_false, Bool.false_or, Bool.or_false, Bool.true_beq, Bool.false_beq, Int.reduceEq, Int.reduceLT, Int.reduceLE, List.take_succ_cons, List.take_zero, List.drop_succ_cons, List.drop_zero, in_14] at hF
        subst hF
        repeat' (first | with_reducible (first | refine And.intro ?_ ?_ | intro _ | refine AWp_seq ?_ | refine AWp_block ?_ | (refine hKv _ _ (AWp_nop ?_); clear hKv Kv) | (refine hKA ?_; clear hKA hKB KA KB) | (refine hKB ?_; clear hKA hKB KA KB) | refine AWp_skipN ?_ | refine AWp_exitO (by repeat (first | exact Out.hit | apply Out.thenA | apply Out.out rfl)) ?_) | ((first | with_reducible (first | (refine hKv _ _ ?_; clear hKv Kv) | ((first | refine AWp_regC mu_14 ks_14 ?_ | refine AWp_drawU xt_14 mu_14 ks_14 (by decide) ti_mixed (by kernel_rfl) ?_ | refine AWp_draw nd_14 mu_14 ks_14 ti_mixed (by kernel_rfl) ?_ | refine AWp_regE mu_14 ks_14 ?_ | refine AWp_drawE nd_14 mu_14 ks_14 ti_mixed (by kernel_rfl) ?_); intro Kv hKv) | refine AWp_retR ?_) | refine hh _ _ ?_ | refine QCall_of (hh _ _ (Two_intro _ _)) ?_ | refine ECall_of (hh _ _ (Two_intro _ _)) ?_ | refine hg _ _ ?_ | refine QCall_of (hg _ _ (Two_intro _ _)) ?_ | refine ECall_of (hg _ _ (Two_intro _ _)) ?_ | refine hc _ _ ?_ | refine QCall_of (hc _ _ (Two_intro _ _)) ?_ | refine ECall_of (hc _ _ (Two_intro _ _)) ?_); try simp (dsimp := false) only [go_sem, Nat.reduceAdd, Nat.reduceBEq, Nat.reduceEqDiff, Nat.reduceLT, Nat.reduceLeDiff, Nat.reduceMul, Int.reduceToNat, reduceCtorEq, ↓reduceIte, Tryd.ntmps14, Tryd.results14, ks_14, mu_14, nd_14, xt_14, ti_ag3, ti_ag9, ti_ag48, ti_ag49, ti_ag51, ti_ag78, ti_ag82, ti_fl33_0, ti_fl51_0, ti_fl51_1, ti_fl53_0, ti_fl53_2, ti_fl53_3, ti_fl53_4, ti_fl53_5, ti_fl53_6, ti_fl53_7, ti_fl53_8, ti_fl53_9, ti_fl53_10, ti_hb15, ti_hb16, ti_hb30, ti_hb31, ti_hb32, ti_hb33, ti_hb34, ti_hb35, ti_hb36, ti_ky9, ti_mp82, ti_sb48, ti_sb49, ti_sl24, ti_sl48, ti_sl49, ti_sz51, ti_zv3, strRow, namedV, List.map_cons, List.map_nil, not_true_eq_false, not_false_eq_true, Bool.and_true, Bool.true_and, Bool.false_and, Bool.and_false, Bool.false_or, Bool.or_false, Bool.true_beq, Bool.false_beq, Int.reduceEq, Int.reduceLT, Int.reduceLE, List.take_succ_cons, List.take_zero, List.drop_succ_cons, List.drop_zero]) | (refine AWp_condC rfl ?_; intro KA KB hKA hKB; try simp only [onB_true, onB_false, onB_dec, onB_ndec, onB_not, onB_and, onB_or]) | (refine AWp_condA rfl ?_ ?_) | with_reducible (first | refine onB_of ?_ ?_ | rfl) | omega)
        all_goals first
          | omega
          | exact keepK hk (by simp [namedV, Bel_tu, Bel_d]) rfl
          | exact keepFz hk (Fz_tu2 (.nil _) (.same _)) (by simp [namedV, Bel_tu, Bel_d])
          | exact dropF hk (Fz_tu2 (.same _) (.same _)) (by simp [namedV, Bel_tu, Bel_d])
          | exact dropF hk (Fz_tu2 (.nil _) (.same _)) (by simp [namedV, Bel_tu, Bel_d])
    | false =>
      rw [h2] at hh
      have e : colsQ o a b = (9, []) := by simp [colsQ, opCols, hkind, okC, namedQ, hxy, h2]
      rw [e, colsV, List.map_nil] at hk
      refine ACalls_of Tryd.func14 rfl in_14 (Nat.le_of_ble_eq_true rfl) ?_
      intro F hF
      simp (dsimp := false) only [go_sem, Nat.reduceAdd, Nat.reduceBEq, Nat.reduceEqDiff, Nat.reduceLT, Nat.reduceLeDiff, Nat.reduceMul, Int.reduceToNat, reduceCtorEq, ↓reduceIte, Tryd.ntmps14, Tryd.results14, ks_14, mu_14, nd_14, xt_14, ti_ag3, ti_ag9, ti_ag48, ti_ag49, ti_ag51, ti_ag78, ti_ag82, ti_fl33_0, ti_fl51_0, ti_fl51_1, ti_fl53_0, ti_fl53_2, ti_fl53_3, ti_fl53_4, ti_fl53_5, ti_fl53_6, ti_fl53_7, ti_fl53_8, ti_fl53_9, ti_fl53_10, ti_hb15, ti_hb16, ti_hb30, ti_hb31, ti_hb32, ti_hb33, ti_hb34, ti_hb35, ti_hb36, ti_ky9, ti_mp82, ti_sb48, ti_sb49, ti_sl24, ti_sl48, ti_sl49, ti_sz51, ti_zv3, strRow, namedV, List.map_cons, List.map_nil, not_true_eq_false, not_false_eq_true, Bool.and_true, Bool.true_and, Bool.false_and, Bool.and_false, Bool.false_or, Bool.or_false, Bool.true_beq, Bool.false_beq, Int.reduceEq, Int.reduceLT, Int.reduceLE, List.take_succ_cons, List.take_zero, List.drop_succ_cons, List.drop_zero, in_14] at hF
      subst hF
      repeat' (first | with_reducible (first | refine And.intro ?_ ?_ | intro _ | refine AWp_seq ?_ | refine AWp_block ?_ | (refine hKv _ _ (AWp_nop ?_); clear hKv Kv) | (refine hKA ?_; clear hKA hKB KA KB) | (refine hKB ?_; clear hKA hKB KA KB) | refine AWp_skipN ?_ | refine AWp_exitO (by repeat (first | exact Out.hit | apply Out.thenA | apply Out.out rfl)) ?_) | ((first | with_reducible (first | (refine hKv _ _ ?_; clear hKv Kv) | ((first | refine AWp_regC mu_14 ks_14 ?_ | refine AWp_drawU xt_14 mu_14 ks_14 (by decide) ti_mixed (by kernel_rfl) ?_ | refine AWp_draw nd_14 mu_14 ks_14 ti_mixed (by kernel_rfl) ?_ | refine AWp_regE mu_14 ks_14 ?_ | refine AWp_drawE nd_14 mu_14 ks_14 ti_mixed (by kernel_rfl) ?_); intro Kv hKv) | refine AWp_retR ?_) | refine hh _ _ ?_ | refine QCall_of (hh _ _ (Two_intro _ _)) ?_ | refine ECall_of (hh _ _ (Two_intro _ _)) ?_ | refine hg _ _ ?_ | refine QCall_of (hg _ _ (Two_intro _ _)) ?_ | refine ECall_of (hg _ _ (Two_intro _ _)) ?_ | refine hc _ _ ?_ | refine QCall_of (hc _ _ (Two_intro _ _)) ?_ | refine ECall_of (hc _ _ (Two_intro _ _)) ?_); try simp (dsimp := false) only [go_sem, Nat.reduceAdd, Nat.reduceBEq, Nat.reduceEqDiff, Nat.reduceLT, Nat.reduceLeDiff, Nat.reduceMul, Int.reduceToNat, reduceCtorEq, ↓reduceIte, Tryd.ntmps14, Tryd.results14, ks_14, mu_14, nd_14, xt_14, ti_ag3, ti_ag9, ti_ag48, ti_ag49, ti_ag51, ti_ag78, ti_ag82, ti_fl33_0, ti_fl51_0, ti_fl51_1, ti_fl53_0, ti_fl53_2, ti_fl53_3, ti_fl53_4, ti_fl53_5, ti_fl53_6, ti_fl53_7, ti_fl53_8, ti_fl53_9, ti_fl53_10, ti_hb15, ti_hb16, ti_hb30, ti_hb31, ti_hb32, ti_hb33, ti_hb34, ti_hb35, ti_hb36, ti_ky9, ti_mp82, ti_sb48, ti_sb49, ti_sl24, ti_sl48, ti_sl49, ti_sz51, ti_zv3, strRow, namedV, List.map_cons, List.map_nil, not_true_eq_false, not_false_eq_true, Bool.and_true, Bool.true_and, Bool.false_and, Bool.and_false, Bool.false_or, Bool.or_false, Bool.true_beq, Bool.false_beq, Int.reduceEq, Int.reduceLT, Int.reduceLE, List.take_succ_cons, List.take_zero, List.drop_succ_cons, List.drop_zero]) | (refine AWp_condC rfl ?_; intro KA KB hKA hKB; try simp only [onB_true, onB_false, onB_dec, onB_ndec, onB_not, onB_and, onB_or]) | (refine AWp_condA rfl ?_ ?_) | with_reducible (first | refine onB_of ?_ ?_ | rfl) | omega)
      all_goals first
        | omega
        | exact keepK hk (by simp [namedV, Bel_tu, Bel_d]) rfl
        | exact keepFz hk (Fz_tu2 (.nil _) (.same _)) (by simp [namedV, Bel_tu, Bel_d])
        | exact dropF hk (Fz_tu2 (.same _) (.same _)) (by simp [namedV, Bel_tu, Bel_d])
        | exact dropF hk (Fz_tu2 (.nil _) (.same _)) (by simp [namedV, Bel_tu, Bel_d])
  · have i1 : ((o.cols.length : Int) = 2) = False := eq_false (by omega)
    have e : colsQ o a b = (9, []) := by simp [colsQ, opCols, hkind, okC, namedQ, h1]
    rw [e, colsV, List.map_nil] at hk
    refine ACalls_of Tryd.func14 rfl in_14 (Nat.le_of_ble_eq_true rfl) ?_
    intro F hF
    simp (dsimp := false) only [go_sem, Nat.reduceAdd, Nat.reduceBEq, Nat.reduceEqDiff, Nat.reduceLT, Nat.reduceLeDiff, Nat.reduceMul, Int.reduceToNat, reduceCtorEq, ↓reduceIte, Tryd.ntmps14, Tryd.results14, ks_14, mu_14, nd_14, xt_14, ti_ag3, ti_ag9, ti_ag48, ti_ag49, ti_ag51, ti_ag78, ti_ag82, ti_fl33_0, ti_fl51_0, ti_fl51_1, ti_fl53_0, ti_fl53_2, ti_fl53_3, ti_fl53_4, ti_fl53_5, ti_fl53_6, ti_fl53_7, ti_fl53_8, ti_fl53_9, ti_fl53_10, ti_hb15, ti_hb16, ti_hb30, ti_hb31, ti_hb32, ti_hb33, ti_hb34, ti_hb35, ti_hb36, ti_ky9, ti_mp82, ti_sb48, ti_sb49, ti_sl24, ti_sl48, ti_sl49, ti_sz51, ti_zv3, strRow, namedV, List.map_cons, List.map_nil, not_true_eq_false, not_false_eq_true, Bool.and_true, Bool.true_and, Bool.false_and, Bool.and_false, Bool.false_or, Bool.or_false, Bool.true_beq, Bool.false_beq, Int.reduceEq, Int.reduceLT, Int.reduceLE, i1, in_14] at hF
    subst hF
    repeat' (first | with_reducible (first | refine And.intro ?_ ?_ | intro _ | refine AWp_seq ?_ | refine AWp_block ?_ | (refine hKv _ _ (AWp_nop ?_); clear hKv Kv) | (refine hKA ?_; clear hKA hKB KA KB) | (refine hKB ?_; clear hKA hKB KA KB) | refine AWp_skipN ?_ | refine AWp_exitO (by repeat (first | exact Out.hit | apply Out.thenA | apply Out.out rfl)) ?_) | ((first | with_reducible (first | (refine hKv _ _ ?_; clear hKv Kv) | ((first | refine AWp_regC mu_14 ks_14 ?_ | refine AWp_drawU xt_14 mu_14 ks_14 (by decide) ti_mixed (by kernel_rfl) ?_ | refine AWp_draw nd_14 mu_14 ks_14 ti_mixed (by kernel_rfl) ?_ | refine AWp_regE mu_14 ks_14 ?_ | refine AWp_drawE nd_14 mu_14 ks_14 ti_mixed (by kernel_rfl) ?_); intro Kv hKv) | refine AWp_retR ?_) | refine hc _ _ ?_ | refine QCall_of (hc _ _ (Two_intro _ _)) ?_ | refine ECall_of (hc _ _ (Two_intro _ _)) ?_); try simp (dsimp := false) only [go_sem, Nat.reduceAdd, Nat.reduceBEq, Nat.reduceEqDiff, Nat.reduceLT, Nat.reduceLeDiff, Nat.reduceMul, Int.reduceToNat, reduceCtorEq, ↓reduceIte, Tryd.ntmps14, Tryd.results14, ks_14, mu_14, nd_14, xt_14, ti_ag3, ti_ag9, ti_ag48, ti_ag49, ti_ag51, ti_ag78, ti_ag82, ti_fl33_0, ti_fl51_0, ti_fl51_1, ti_fl53_0, ti_fl53_2, ti_fl53_3, ti_fl53_4, ti_fl53_5, ti_fl53_6, ti_fl53_7, ti_fl53_8, ti_fl53_9, ti_fl53_10, ti_hb15, ti_hb16, ti_hb30, ti_hb31, ti_hb32, ti_hb33, ti_hb34, ti_hb35, ti_hb36, ti_ky9, ti_mp82, ti_sb48, ti_sb49, ti_sl24, ti_sl48, ti_sl49, ti_sz51, ti_zv3, strRow, namedV, List.map_cons, List.map_nil, not_true_eq_false, not_false_eq_true, Bool.and_true, Bool.true_and, Bool.false_and, Bool.and_false, Bool.false_or, Bool.or_false, Bool.true_beq, Bool.false_beq, Int.reduceEq, Int.reduceLT, Int.reduceLE, i1]) | (refine AWp_condC rfl ?_; intro KA KB hKA hKB; try simp only [onB_true, onB_false, onB_dec, onB_ndec, onB_not, onB_and, onB_or]) | (refine AWp_condA rfl ?_ ?_) | with_reducible (first | refine onB_of ?_ ?_ | rfl) | omega)
    all_goals first
      | omega
      | exact keepK hk (by simp [namedV, Bel_tu, Bel_d]) rfl
      | exact keepFz hk (Fz_tu2 (.nil _) (.same _)) (by simp [namedV, Bel_tu, Bel_d])
      | exact dropF hk (Fz_tu2 (.same _) (.same _)) (by simp [namedV, Bel_tu, Bel_d])
      | exact dropF hk (Fz_tu2 (.nil _) (.same _)) (by simp [namedV, Bel_tu, Bel_d])
end Go.Proofs.YtppalmoicjogaaaDoor
namespace Go.Proofs.YtppalmoicjogaaaDoor
open Go Go.Proofs.YtppalmoicjogaaaDoor.Ab
variable [Glo] [U8]
set_option maxHeartbeats 4000000
set_option maxRecDepth 20000
theorem columns5_A (o : Opp) (ok : OkO o) (hkind : o.kind = 5) (a b : List (List UInt8)) (ha : OkC a) (hb : OkC b) (H : Heap) (K : V → Heap → Prop) (hk : K (colsV (colsQ o a b)) H) :
    ACalls Tryd.prog 14 [opV o, .d (.sl 1 [[.sl 1 (a.map strRow)], [.sl 1 (b.map strRow)]])] H K := by
  rw [opV_k hkind]
  have hn := named_A (a ++ b) (ha.app hb).1 (ha.app hb).2
  have hc := concat2_A a b ha hb
  have e : colsQ o a b = namedQ (0, a ++ b) := by simp [colsQ, opCols, hkind, okC, namedQ]
  rw [e, ← namedV_eq] at hk
  refine ACalls_of Tryd.func14 rfl in_14 (Nat.le_of_ble_eq_true rfl) ?_
  intro F hF
  simp (dsimp := false) only [go_sem, Nat.reduceAdd, Nat.reduceBEq, Nat.reduceEqDiff, Nat.reduceLT, Nat.reduceLeDiff, Nat.reduceMul, Int.reduceToNat, reduceCtorEq, ↓reduceIte, Tryd.ntmps14, Tryd.results14, ks_14, mu_14, nd_14, xt_14, ti_ag3, ti_ag9, ti_ag48, ti_ag49, ti_ag51, ti_ag78, ti_ag82, ti_fl33_0, ti_fl51_0, ti_fl51_1, ti_fl53_0, ti_fl53_2, ti_fl53_3, ti_fl53_4, ti_fl53_5, ti_fl53_6, ti_fl53_7, ti_fl53_8, ti_fl53_9, ti_fl53_10, ti_hb15, ti_hb16, ti_hb30, ti_hb31, ti_hb32, ti_hb33, ti_hb34, ti_hb35, ti_hb36, ti_ky9, ti_mp82, ti_sb48, ti_sb49, ti_sl24, ti_sl48, ti_sl49, ti_sz51, ti_zv3, strRow, namedV, List.map_cons, List.map_nil, not_true_eq_false, not_false_eq_true, Bool.and_true, Bool.true_and, Bool.false_and, Bool.and_false, Bool.false_or, Bool.or_false, Bool.true_beq, Bool.false_beq, Int.reduceEq, Int.reduceLT, Int.reduceLE, in_14] at hF
  subst hF
  repeat' (first | with_reducible (first | refine And.intro ?_ ?_ | intro _ | refine AWp_seq ?_ | refine AWp_block ?_ | (refine hKv _ _ (AWp_nop ?_); clear hKv Kv) | (refine hKA ?_; clear hKA hKB KA KB) | (refine hKB ?_; clear hKA hKB KA KB) | refine AWp_skipN ?_ | refine AWp_exitO (by repeat (first | exact Out.hit | apply Out.thenA | apply Out.out rfl)) ?_) | ((first | with_reducible (first | (refine hKv _ _ ?_; clear hKv Kv) | ((first | refine AWp_regC mu_14 ks_14 ?_ | refine AWp_drawU xt_14 mu_14 ks_14 (by decide) ti_mixed (by kernel_rfl) ?_ | refine AWp_draw nd_14 mu_14 ks_14 ti_mixed (by kernel_rfl) ?_ | refine AWp_regE mu_14 ks_14 ?_ | refine AWp_drawE nd_14 mu_14 ks_14 ti_mixed (by kernel_rfl) ?_); intro Kv hKv) | refine AWp_retR ?_) | refine hc _ _ ?_ | refine QCall_of (hc _ _ (Two_intro _ _)) ?_ | refine ECall_of (hc _ _ (Two_intro _ _)) ?_ | refine hn _ _ ?_ | refine QCall_of (hn _ _ (Two_intro _ _)) ?_ | refine ECall_of (hn _ _ (Two_intro _ _)) ?_); try simp (dsimp := false) only [go_sem, Nat.reduceAdd, Nat.reduceBEq, Nat.reduceEqDiff, Nat.reduceLT, Nat.reduceLeDiff, Nat.reduceMul, Int.reduceToNat, reduceCtorEq, ↓reduceIte, Tryd.ntmps14, Tryd.results14, ks_14, mu_14, nd_14, xt_14, ti_ag3, ti_ag9, ti_ag48, ti_ag49, ti_ag51, ti_ag78, ti_ag82, ti_fl33_0, ti_fl51_0, ti_fl51_1, ti_fl53_0, ti_fl53_2, ti_fl53_3, ti_fl53_4, ti_fl53_5, ti_fl53_6, ti_fl53_7, ti_fl53_8, ti_fl53_9, ti_fl53_10, ti_hb15, ti_hb16, ti_hb30, ti_hb31, ti_hb32, ti_hb33, ti_hb34, ti_hb35, ti_hb36, ti_ky9, ti_mp82, ti_sb48, ti_sb49, ti_sl24, ti_sl48, ti_sl49, ti_sz51, ti_zv3, strRow, namedV, List.map_cons, List.map_nil, not_true_eq_false, not_false_eq_true, Bool.and_true, Bool.true_and, Bool.false_and, Bool.and_false, Bool.false_or, Bool.or_false, Bool.true_beq, Bool.false_beq, Int.reduceEq, Int.reduceLT, Int.reduceLE]) | (refine AWp_condC rfl ?_; intro KA KB hKA hKB; try simp only [onB_true, onB_false, onB_dec, onB_ndec, onB_not, onB_and, onB_or]) | (refine AWp_condA rfl ?_ ?_) | with_reducible (first | refine onB_of ?_ ?_ | rfl) | omega)
  all_goals first
    | omega
    | exact keepK hk (by simp [namedV, Bel_tu, Bel_d]) rfl
    | exact keepFz hk (Fz_tu2 (.nil _) (.same _)) (by simp [namedV, Bel_tu, Bel_d])
    | exact dropF hk (Fz_tu2 (.same _) (.same _)) (by simp [namedV, Bel_tu, Bel_d])
    | exact dropF hk (Fz_tu2 (.nil _) (.same _)) (by simp [namedV, Bel_tu, Bel_d])
end Go.Proofs.YtppalmoicjogaaaDoor
