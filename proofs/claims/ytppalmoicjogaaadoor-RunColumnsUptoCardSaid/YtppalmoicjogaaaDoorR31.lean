/- Plans: run.columns, kind 9. No condition but that the tables of package unicode/utf8 are there. -/
import Derived.Test.YtppalmoicjogaaaDoorR27
set_option linter.all false
set_option linter.unusedSimpArgs false
set_option linter.unusedVariables false
namespace Go.Proofs.YtppalmoicjogaaaDoor
open Go Go.Proofs.YtppalmoicjogaaaDoor.Ab
variable [Glo] [U8]
set_option maxHeartbeats 4000000
set_option maxRecDepth 20000
theorem columns9_A (o : Opp) (ok : OkO o) (hkind : o.kind = 9) (a b : List (List UInt8)) (ha : OkC a) (hb : OkC b) (H : Heap) (K : V → Heap → Prop) (hk : K (colsV (colsQ o a b)) H) :
    ACalls Tryd.prog 14 [opV o, .d (.sl 1 [[.sl 1 (a.map strRow)]])] H K := by
  rw [opV_k hkind]
  have hap : (a ++ [o.new]).length ≤ 1048576 ∧ ∀ s, s ∈ a ++ [o.new] → s.length ≤ 1048576 := by
    have := ha.le8
    refine ⟨by rw [List.length_append, List.length_singleton]; omega, fun s hs => ?_⟩
    rcases List.mem_append.1 hs with h | h
    · exact ha.s s h
    · rw [List.mem_singleton.1 h]; exact ok.snew
  have hcl := fun H K hk => RkO.cloneStrsO_A (a.map strRow) (by have := ha.le8; simp; omega) H K hk
  have hds : dsRows ((a.map strRow).map (fun r => r.map V.d) ++ [[V.d (.s o.new)]]) = some ((a ++ [o.new]).map strRow) := by
    have := data_rows ((a ++ [o.new]).map strRow)
    rw [List.map_append, List.map_append] at this
    rw [List.map_append]
    exact this
  have hl8 := ha.le8
  have hn := named_A (a ++ [o.new]) hap.1 hap.2
  have hh := has_A a ha.len o.cols (by have := ok.ncols; omega)
  have hg := has_A a ha.len [o.part] (by simp)
  have e1 : decide (o.part ∈ a) = hasQ a [o.part] := by simp [hasQ]
  cases h2 : hasQ a o.cols with
  | true =>
    rw [h2] at hh
    by_cases h1 : o.part = []
    · have i1 : (o.part = []) = True := eq_true h1
      have e : colsQ o a b = namedQ (0, a ++ [o.new]) := by rw [colsQ, opCols, hkind]; simp [okC, h1, h2]
      rw [e, ← namedV_eq] at hk
      refine ACalls_of Tryd.func14 rfl in_14 (Nat.le_of_ble_eq_true rfl) ?_
      intro F hF
      simp (dsimp := false) only [go_sem, Nat.reduceAdd, Nat.reduceBEq, Nat.reduceEqDiff, Nat.reduceLT, Nat.reduceLeDiff, Nat.reduceMul, Int.reduceToNat, reduceCtorEq, ↓reduceIte, Tryd.ntmps14, Tryd.results14, ks_14, mu_14, nd_14, xt_14, ti_ag3, ti_ag9, ti_ag48, ti_ag49, ti_ag51, ti_ag78, ti_ag82, ti_fl33_0, ti_fl51_0, ti_fl51_1, ti_fl53_0, ti_fl53_2, ti_fl53_3, ti_fl53_4, ti_fl53_5, ti_fl53_6, ti_fl53_7, ti_fl53_8, ti_fl53_9, ti_fl53_10, ti_hb15, ti_hb16, ti_hb30, ti_hb31, ti_hb32, ti_hb33, ti_hb34, ti_hb35, ti_hb36, ti_ky9, ti_mp82, ti_sb48, ti_sb49, ti_sl24, ti_sl48, ti_sl49, ti_sz51, ti_zv3, strRow, namedV, List.map_cons, List.map_nil, not_true_eq_false, not_false_eq_true, Bool.and_true, Bool.true_and, Bool.false_and, Bool.and_false, Bool.false_or, Bool.or_false, Bool.true_beq, Bool.false_beq, Int.reduceEq, Int.reduceLT, Int.reduceLE, hds, i1, in_14] at hF
      subst hF
      repeat' (first | with_reducible (first | refine And.intro ?_ ?_ | intro _ | refine AWp_seq ?_ | refine AWp_block ?_ | (refine hKv _ _ (AWp_nop ?_); clear hKv Kv) | (refine hKA ?_; clear hKA hKB KA KB) | (refine hKB ?_; clear hKA hKB KA KB) | refine AWp_skipN ?_ | refine AWp_exitO (by repeat (first | exact Out.hit | apply Out.thenA | apply Out.out rfl)) ?_) | ((first | with_reducible (first | (refine hKv _ _ ?_; clear hKv Kv) | ((first | refine AWp_regC mu_14 ks_14 ?_ | refine AWp_drawU xt_14 mu_14 ks_14 (by decide) ti_mixed (by kernel_rfl) ?_ | refine AWp_draw nd_14 mu_14 ks_14 ti_mixed (by kernel_rfl) ?_ | refine AWp_regE mu_14 ks_14 ?_ | refine AWp_drawE nd_14 mu_14 ks_14 ti_mixed (by kernel_rfl) ?_); intro Kv hKv) | refine AWp_retR ?_) | refine hh _ _ ?_ | refine QCall_of (hh _ _ (Two_intro _ _)) ?_ | refine ECall_of (hh _ _ (Two_intro _ _)) ?_ | refine hg _ _ ?_ | refine QCall_of (hg _ _ (Two_intro _ _)) ?_ | refine ECall_of (hg _ _ (Two_intro _ _)) ?_ | refine hcl _ _ ?_ | refine QCall_of (hcl _ _ (Two_intro _ _)) ?_ | refine ECall_of (hcl _ _ (Two_intro _ _)) ?_ | refine hn _ _ ?_ | refine QCall_of (hn _ _ (Two_intro _ _)) ?_ | refine ECall_of (hn _ _ (Two_intro _ _)) ?_); try simp (dsimp := false) only [go_sem, Nat.reduceAdd, Nat.reduceBEq, Nat.reduceEqDiff, Nat.reduceLT, Nat.reduceLeDiff, Nat.reduceMul, Int.reduceToNat, reduceCtorEq, ↓reduceIte, Tryd.ntmps14, Tryd.results14, ks_14, mu_14, nd_14, xt_14, ti_ag3, ti_ag9, ti_ag48, ti_ag49, ti_ag51, ti_ag78, ti_ag82, ti_fl33_0, ti_fl51_0, ti_fl51_1, ti_fl53_0, ti_fl53_2, ti_fl53_3, ti_fl53_4, ti_fl53_5, ti_fl53_6, ti_fl53_7, ti_fl53_8, ti_fl53_9, ti_fl53_10, ti_hb15, ti_hb16, ti_hb30, ti_hb31, ti_hb32, ti_hb33, ti_hb34, ti_hb35, ti_hb36, ti_ky9, ti_mp82, ti_sb48, ti_sb49, ti_sl24, ti_sl48, ti_sl49, ti_sz51, ti_zv3, strRow, namedV, List.map_cons, List.map_nil, not_true_eq_false, not_false_eq_true, Bool.and_true, Bool.true_and, Bool.false_and, Bool.and_false, Bool.false_or, Bool.or_false, Bool.true_beq, Bool.false_beq, Int.reduceEq, Int.reduceLT, Int.reduceLE, hds, i1]) | (refine AWp_condC rfl ?_; intro KA KB hKA hKB; try simp only [onB_true, onB_false, onB_dec, onB_ndec, onB_not, onB_and, onB_or]) | (refine AWp_condA rfl ?_ ?_) | with_reducible (first | refine onB_of ?_ ?_ | rfl) | omega)
      all_goals first
        | omega
        | exact keepK hk (by simp [namedV, Bel_tu, Bel_d]) rfl
        | exact keepFz hk (Fz_tu2 (.nil _) (.same _)) (by simp [namedV, Bel_tu, Bel_d])
        | exact dropF hk (Fz_tu2 (.same _) (.same _)) (by simp [namedV, Bel_tu, Bel_d])
        | exact dropF hk (Fz_tu2 (.nil _) (.same _)) (by simp [namedV, Bel_tu, Bel_d])
    · have i1 : (o.part = []) = False := eq_false h1
      cases h3 : hasQ a [o.part] with
      | true =>
        rw [h3] at hg
        have e : colsQ o a b = namedQ (0, a ++ [o.new]) := by rw [colsQ, opCols, hkind]; simp [okC, h1, h2, e1, h3]
        rw [e, ← namedV_eq] at hk
        refine ACalls_of Tryd.func14 rfl in_14 (Nat.le_of_ble_eq_true rfl) ?_
        intro F hF
        simp (dsimp := false) only [go_sem, Nat.reduceAdd, Nat.reduceBEq, Nat.reduceEqDiff, Nat.reduceLT, Nat.reduceLeDiff, Nat.reduceMul, Int.reduceToNat, reduceCtorEq, ↓reduceIte, Tryd.ntmps14, Tryd.results14, ks_14, mu_14, nd_14, xt_14, ti_ag3, ti_ag9, ti_ag48, ti_ag49, ti_ag51, ti_ag78, ti_ag82, ti_fl33_0, ti_fl51_0, ti_fl51_1, ti_fl53_0, ti_fl53_2, ti_fl53_3, ti_fl53_4, ti_fl53_5, ti_fl53_6, ti_fl53_7, ti_fl53_8, ti_fl53_9, ti_fl53_10, ti_hb15, ti_hb16, ti_hb30, ti_hb31, ti_hb32, ti_hb33, ti_hb34, ti_hb35, ti_hb36, ti_ky9, ti_mp82, ti_sb48, ti_sb49, ti_sl24, ti_sl48, ti_sl49, ti_sz51, ti_zv3, strRow, namedV, List.map_cons, List.map_nil, not_true_eq_false, not_false_eq_true, Bool.and_true, Bool.true_and, Bool.false_and, Bool.and_false, Bool.false_or, Bool.or_false, Bool.true_beq, Bool.false_beq, Int.reduceEq, Int.reduceLT, Int.reduceLE, hds, i1, in_14] at hF
        subst hF
        repeat' (first | with_reducible (first | refine And.intro ?_ ?_ | intro _ | refine AWp_seq ?_ | refine AWp_block ?_ | (refine hKv _ _ (AWp_nop ?_); clear hKv Kv) | (refine hKA ?_; clear hKA hKB KA KB) | (refine hKB ?_; clear hKA hKB KA KB) | refine AWp_skipN ?_ | refine AWp_exitO (by repeat (first | exact Out.hit | apply Out.thenA | apply Out.out rfl)) ?_) | ((first | with_reducible (first | (refine hKv _ _ ?_; clear hKv Kv) | ((first | refine AWp_regC mu_14 ks_14 ?_ | refine AWp_drawU xt_14 mu_14 ks_14 (by decide) ti_mixed (by kernel_rfl) ?_ | refine AWp_draw nd_14 mu_14 ks_14 ti_mixed (by kernel_rfl) ?_ | refine AWp_regE mu_14 ks_14 ?_ | refine AWp_drawE nd_14 mu_14 ks_14 ti_mixed (by kernel_rfl) ?_); intro Kv hKv) | refine AWp_retR ?_) | refine hh _ _ ?_ | refine QCall_of (hh _ _ (Two_intro _ _)) ?_ | refine ECall_of (hh _ _ (Two_intro _ _)) ?_ | refine hg _ _ ?_ | refine QCall_of (hg _ _ (Two_intro _ _)) ?_ | refine ECall_of (hg _ _ (Two_intro _ _)) ?_ | refine hcl _ _ ?_ | refine QCall_of (hcl _ _ (Two_intro _ _)) ?_ | refine ECall_of (hcl _ _ (Two_intro _ _)) ?_ | refine hn _ _ ?_ | refine QCall_of (hn _ _ (Two_intro _ _)) ?_ | refine ECall_of (hn _ _ (Two_intro _ _)) ?_); try simp (dsimp := false) only [go_sem, Nat.reduceAdd, Nat.reduceBEq, Nat.reduceEqDiff, Nat.reduceLT, Nat.reduceLeDiff, Nat.reduceMul, Int.reduceToNat, reduceCtorEq, ↓reduceIte, Tryd.ntmps14, Tryd.results14, ks_14, mu_14, nd_14, xt_14, ti_ag3, ti_ag9, ti_ag48, ti_ag49, ti_ag51, ti_ag78, ti_ag82, ti_fl33_0, ti_fl51_0, ti_fl51_1, ti_fl53_0, ti_fl53_2, ti_fl53_3, ti_fl53_4, ti_fl53_5, ti_fl53_6, ti_fl53_7, ti_fl53_8, ti_fl53_9, ti_fl53_10, ti_hb15, ti_hb16, ti_hb30, ti_hb31, ti_hb32, ti_hb33, ti_hb34, ti_hb35, ti_hb36, ti_ky9, ti_mp82, ti_sb48, ti_sb49, ti_sl24, ti_sl48, ti_sl49, ti_sz51, ti_zv3, strRow, namedV, List.map_cons, List.map_nil, not_true_eq_false, not_false_eq_true, Bool.and_true, Bool.true_and, Bool.false_and, Bool.and_false, Bool.false_or, Bool.or_false, Bool.true_beq, Bool.false_beq, Int.reduceEq, Int.reduceLT, Int.reduceLE, hds, i1]) | (refine AWp_condC rfl ?_; intro KA KB hKA hKB; try simp only [onB_true, onB_false, onB_dec, onB_ndec, onB_not, onB_and, onB_or]) | (refine AWp_condA rfl ?_ ?_) | with_reducible (first | refine onB_of ?_ ?_ | rfl) | omega)
        all_goals first
          | omega
          | exact keepK hk (by simp [namedV, Bel_tu, Bel_d]) rfl
          | exact keepFz hk (Fz_tu2 (.nil _) (.same _)) (by simp [namedV, Bel_tu, Bel_d])
          | exact dropF hk (Fz_tu2 (.same _) (.same _)) (by simp [namedV, Bel_tu, Bel_d])
          | exact dropF hk (Fz_tu2 (.nil _) (.same _)) (by simp [namedV, Bel_tu, Bel_d])
      | false =>
        rw [h3] at hg
        have e : colsQ o a b = (9, []) := by rw [colsQ, opCols, hkind]; simp [okC, namedQ, h1, h2, e1, h3]
        rw [e, colsV, List.map_nil] at hk
        refine ACalls_of Tryd.func14 rfl in_14 (Nat.le_of_ble_eq_true rfl) ?_
        intro F hF
        simp (dsimp := false) only [go_sem, Nat.reduceAdd, Nat.reduceBEq, Nat.reduceEqDiff, Nat.reduceLT, Nat.reduceLeDiff, Nat.reduceMul, Int.reduceToNat, reduceCtorEq, ↓reduceIte, Tryd.ntmps14, Tryd.results14, ks_14, mu_14, nd_14, xt_14, ti_ag3, ti_ag9, ti_ag48, ti_ag49, ti_ag51, ti_ag78, ti_ag82, ti_fl33_0, ti_fl51_0, ti_fl51_1, ti_fl53_0, ti_fl53_2, ti_fl53_3, ti_fl53_4, ti_fl53_5, ti_fl53_6, ti_fl53_7, ti_fl53_8, ti_fl53_9, ti_fl53_10, ti_hb15, ti_hb16, ti_hb30, ti_hb31, ti_hb32, ti_hb33, ti_hb34, ti_hb35, ti_hb36, ti_ky9, ti_mp82, ti_sb48, ti_sb49, ti_sl24, ti_sl48, ti_sl49, ti_sz51, ti_zv3, strRow, namedV, List.map_cons, List.map_nil, not_true_eq_false, not_false_eq_true, Bool.and_true, Bool.true_and, Bool.false_and, Bool.and_false, Bool.false_or, Bool.or_false, Bool.true_beq, Bool.false_beq, Int.reduceEq, Int.reduceLT, Int.reduceLE, hds, i1, in_14] at hF
        subst hF
        repeat' (first | with_reducible (first | refine And.intro ?_ ?_ | intro _ | refine AWp_seq ?_ | refine AWp_block ?_ | (refine hKv _ _ (AWp_nop ?_); clear hKv Kv) | (refine hKA ?_; clear hKA hKB KA KB) | (refine hKB ?_; clear hKA hKB KA KB) | refine AWp_skipN ?_ | refine AWp_exitO (by repeat (first | exact Out.hit | apply Out.thenA | apply Out.out rfl)) ?_) | ((first | with_reducible (first | (refine hKv _ _ ?_; clear hKv Kv) | ((first | refine AWp_regC mu_14 ks_14 ?_ | refine AWp_drawU xt_14 mu_14 ks_14 (by decide) ti_mixed (by kernel_rfl) ?_ | refine AWp_draw nd_14 mu_14 ks_14 ti_mixed (by kernel_rfl) ?_ | refine AWp_regE mu_14 ks_14 ?_ | refine AWp_drawE nd_14 mu_14 ks_14 ti_mixed (by kernel_rfl) ?_); intro Kv hKv) | refine AWp_retR ?_) | refine hh _ _ ?_ | refine QCall_of (hh _ _ (Two_intro _ _)) ?_ | refine ECall_of (hh _ _ (Two_intro _ _)) ?_ | refine hg _ _ ?_ | refine QCall_of (hg _ _ (Two_intro _ _)) ?_ | refine ECall_of (hg _ _ (Two_intro _ _)) ?_ | refine hcl _ _ ?_ | refine QCall_of (hcl _ _ (Two_intro _ _)) ?_ | refine ECall_of (hcl _ _ (Two_intro _ _)) ?_); try simp (dsimp := false) only [go_sem, Nat.reduceAdd, Nat.reduceBEq, Nat.reduceEqDiff, Nat.reduceLT, Nat.reduceLeDiff, Nat.reduceMul, Int.reduceToNat, reduceCtorEq, ↓reduceIte, Tryd.ntmps14, Tryd.results14, ks_14, mu_14, nd_14, xt_14, ti_ag3, ti_ag9, ti_ag48, ti_ag49, ti_ag51, ti_ag78, ti_ag82, ti_fl33_0, ti_fl51_0, ti_fl51_1, ti_fl53_0, ti_fl53_2, ti_fl53_3, ti_fl53_4, ti_fl53_5, ti_fl53_6, ti_fl53_7, ti_fl53_8, ti_fl53_9, ti_fl53_10, ti_hb15, ti_hb16, ti_hb30, ti_hb31, ti_hb32, ti_hb33, ti_hb34, ti_hb35, ti_hb36, ti_ky9, ti_mp82, ti_sb48, ti_sb49, ti_sl24, ti_sl48, ti_sl49, ti_sz51, ti_zv3, strRow, namedV, List.map_cons, List.map_nil, not_true_eq_false, not_false_eq_true, Bool.and_true, Bool.true_and, Bool.false_and, Bool.and_false, Bool.false_or, Bool.or_false, Bool.true_beq, Bool.false_beq, Int.reduceEq, Int.reduceLT, Int.reduceLE, hds, i1]) | (refine AWp_condC rfl ?_; intro KA KB hKA hKB; try simp only [onB_true, onB_false, onB_dec, onB_ndec, onB_not, onB_and, onB_or]) | (refine AWp_condA rfl ?_ ?_) | with_reducible (first | refine onB_of ?_ ?_ | rfl) | omega)
        all_goals first
          | omega
          | exact keepK hk (by simp [namedV, Bel_tu, Bel_d]) rfl
          | exact keepFz hk (Fz_tu2 (.nil _) (.same _)) (by simp [namedV, Bel_tu, Bel_d])
          | exact dropF hk (Fz_tu2 (.same _) (.same _)) (by simp [namedV, Bel_tu, Bel_d])
          | exact dropF hk (Fz_tu2 (.nil _) (.same _)) (by simp [namedV, Bel_tu, Bel_d])
  | false =>
    rw [h2] at hh
    have e : colsQ o a b = (9, []) := by rw [colsQ, opCols, hkind]; simp [okC, namedQ, h2]
    rw [e, colsV, List.map_nil] at hk
    refine ACalls_of Tryd.func14 rfl in_14 (Nat.le_of_ble_eq_true rfl) ?_
    intro F hF
    simp (dsimp := false) only [go_sem, Nat.reduceAdd, Nat.reduceBEq, Nat.reduceEqDiff, Nat.reduceLT, Nat.reduceLeDiff, Nat.reduceMul, Int.reduceToNat, reduceCtorEq, ↓reduceIte, Tryd.ntmps14, Tryd.results14, ks_14, mu_14, nd_14, xt_14, ti_ag3, ti_ag9, ti_ag48, ti_ag49, ti_ag51, ti_ag78, ti_ag82, ti_fl33_0, ti_fl51_0, ti_fl51_1, ti_fl53_0, ti_fl53_2, ti_fl53_3, ti_fl53_4, ti_fl53_5, ti_fl53_6, ti_fl53_7, ti_fl53_8, ti_fl53_9, ti_fl53_10, ti_hb15, ti_hb16, ti_hb30, ti_hb31, ti_hb32, ti_hb33, ti_hb34, ti_hb35, ti_hb36, ti_ky9, ti_mp82, ti_sb48, ti_sb49, ti_sl24, ti_sl48, ti_sl49, ti_sz51, ti_zv3, strRow, namedV, List.map_cons, List.map_nil, not_true_eq_false, not_false_eq_true, Bool.and_true, Bool.true_and, Bool.false_and, Bool.and_false, Bool.false_or, Bool.or_false, Bool.true_beq, Bool.false_beq, Int.reduceEq, Int.reduceLT, Int.reduceLE, hds, in_14] at hF
    subst hF
    repeat' (first | with_reducible (first | refine And.intro ?_ ?_ | intro _ | refine AWp_seq ?_ | refine AWp_block ?_ | (refine hKv _ _ (AWp_nop ?_); clear hKv Kv) | (refine hKA ?_; clear hKA hKB KA KB) | (refine hKB ?_; clear hKA hKB KA KB) | refine AWp_skipN ?_ | refine AWp_exitO (by repeat (first | exact Out.hit | apply Out.thenA | apply Out.out rfl)) ?_) | ((first | with_reducible (first | (refine hKv _ _ ?_; clear hKv Kv) | ((first | refine AWp_regC mu_14 ks_14 ?_ | refine AWp_drawU xt_14 mu_14 ks_14 (by decide) ti_mixed (by kernel_rfl) ?_ | refine AWp_draw nd_14 mu_14 ks_14 ti_mixed (by kernel_rfl) ?_ | refine AWp_regE mu_14 ks_14 ?_ | refine AWp_drawE nd_14 mu_14 ks_14 ti_mixed (by kernel_rfl) ?_); intro Kv hKv) | refine AWp_retR ?_) | refine hh _ _ ?_ | refine QCall_of (hh _ _ (Two_intro _ _)) ?_ | refine ECall_of (hh _ _ (Two_intro _ _)) ?_ | refine hg _ _ ?_ | refine QCall_of (hg _ _ (Two_intro _ _)) ?_ | refine ECall_of (hg _ _ (Two_intro _ _)) ?_ | refine hcl _ _ ?_ | refine QCall_of (hcl _ _ (Two_intro _ _)) ?_ | refine ECall_of (hcl _ _ (Two_intro _ _)) ?_); try simp (dsimp := false) only [go_sem, Nat.reduceAdd, Nat.reduceBEq, Nat.reduceEqDiff, Nat.reduceLT, Nat.reduceLeDiff, Nat.reduceMul, Int.reduceToNat, reduceCtorEq, ↓reduceIte, Tryd.ntmps14, Tryd.results14, ks_14, mu_14, nd_14, xt_14, ti_ag3, ti_ag9, ti_ag48, ti_ag49, ti_ag51, ti_ag78, ti_ag82, ti_fl33_0, ti_fl51_0, ti_fl51_1, ti_fl53_0, ti_fl53_2, ti_fl53_3, ti_fl53_4, ti_fl53_5, ti_fl53_6, ti_fl53_7, ti_fl53_8, ti_fl53_9, ti_fl53_10, ti_hb15, ti_hb16, ti_hb30, ti_hb31, ti_hb32, ti_hb33, ti_hb34, ti_hb35, ti_hb36, ti_ky9, ti_mp82, ti_sb48, ti_sb49, ti_sl24, ti_sl48, ti_sl49, ti_sz51, ti_zv3, strRow, namedV, List.map_cons, List.map_nil, not_true_eq_false, not_false_eq_true, Bool.and_true, Bool.true_and, Bool.false_and, Bool.and_false, Bool.false_or, Bool.or_false, Bool.true_beq, Bool.false_beq, Int.reduceEq, Int.reduceLT, Int.reduceLE, hds]) | (refine AWp_condC rfl ?_; intro KA KB hKA hKB; try simp only [onB_true, onB_false, onB_dec, onB_ndec, onB_not, onB_and, onB_or]) | (refine AWp_condA rfl ?_ ?_) | with_reducible (first | refine onB_of ?_ ?_ | rfl) | omega)
    all_goals first
      | omega
      | exact keepK hk (by simp [namedV, Bel_tu, Bel_d]) rfl
      | exact keepFz hk (Fz_tu2 (.nil _) (.same _)) (by simp [namedV, Bel_tu, Bel_d])
      | exact dropF hk (Fz_tu2 (.same _) (.same _)) (by simp [namedV, Bel_tu, Bel_d])
      | exact dropF hk (Fz_tu2 (.nil _) (.same _)) (by simp [namedV, Bel_tu, Bel_d])
end Go.Proofs.YtppalmoicjogaaaDoor
