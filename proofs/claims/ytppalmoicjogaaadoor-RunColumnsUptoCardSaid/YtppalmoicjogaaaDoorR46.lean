/- Plans: the reference's opCols, kind 12. No condition but that the tables of package unicode/utf8 are there. -/
import Derived.Test.YtppalmoicjogaaaDoorR41
set_option linter.all false
set_option linter.unusedSimpArgs false
set_option linter.unusedVariables false
namespace Go.Proofs.YtppalmoicjogaaaDoor
open Go Go.Proofs.YtppalmoicjogaaaDoor.Ab
variable [Glo] [U8]
set_option maxHeartbeats 4000000
set_option maxRecDepth 20000
theorem opCols12_eq {o : Opp} (h : o.kind = 12) {a b : List (List UInt8)} : opCols o a b = if stepB o.axis o.tk = true then okC (hasQ a [sIter, sItem]) [sIter, sItem] else (3, []) := by
  unfold stepB
  simp [opCols, h]
theorem opCols12_A (o : Opp) (ok : OkO o) (hkind : o.kind = 12) (a b : List (List UInt8)) (ha : OkC a) (hb : OkC b) (H : Heap) (K : V → Heap → Prop) (hk : K (.tu [.d (.sl 1 ((opC2 o a b).map strRow)), .d (.i .i64 (opCols o a b).1)]) H) :
    ACalls Tryd.prog 19 [opV o, .d (.sl 1 (a.map strRow)), .d (.sl 1 (b.map strRow))] H K := by
  rw [opV_k hkind]
  replace hk : ∀ c, c = opC2 o a b → K (.tu [.d (.sl 1 (c.map strRow)), .d (.i .i64 (opCols o a b).1)]) H := fun c hc => by rw [hc]; exact hk
  have hl8a := ha.le8
  have hl8b := hb.le8
  have hn1 := ok.ncols
  have hn2 := ok.nolds
  have hs := stepMay_A o.axis o.tk o.tn
  have hh := allThere_A a [sIter, sItem] ha.len (by decide)
  cases h1 : stepB o.axis o.tk with
  | false =>
    rw [h1] at hs
    have e : opCols o a b = (3, []) := by rw [opCols12_eq hkind, h1]; rfl
    replace hk := hk [] (by rw [opC2, if_neg (by rw [hkind]; decide), e])
    rw [e, List.map_nil] at hk
    refine ACalls_of Tryd.func19 rfl in_19 (Nat.le_of_ble_eq_true rfl) ?_
    intro F hF
    simp (dsimp := false) only [go_sem, Nat.reduceAdd, Nat.reduceBEq, Nat.reduceEqDiff, Nat.reduceLT, Nat.reduceLeDiff, Nat.reduceMul, Int.reduceToNat, reduceCtorEq, ↓reduceIte, Tryd.ntmps19, Tryd.results19, ks_19, mu_19, nd_19, ti_ag3, ti_ag9, ti_ag33, ti_ag48, ti_ag49, ti_ag51, ti_ag78, ti_fl31_0, ti_fl51_0, ti_fl51_1, ti_fl53_0, ti_fl53_2, ti_fl53_3, ti_fl53_4, ti_fl53_5, ti_fl53_6, ti_fl53_7, ti_fl53_8, ti_fl53_9, ti_fl53_10, ti_hb21, ti_hb22, ti_hb40, ti_hb41, ti_hb42, ti_hb43, ti_hb44, ti_sb48, ti_sb49, ti_sb78, ti_sl24, ti_sl48, ti_sl49, ti_sl78, ti_sz33, ti_sz51, strRow, List.map_cons, List.map_nil, not_true_eq_false, not_false_eq_true, Bool.and_true, Bool.true_and, Bool.false_and, Bool.and_false, Bool.false_or, Bool.or_false, Bool.true_beq, Bool.false_beq, Int.reduceEq, Int.reduceLT, Int.reduceLE, sIter, sItem, tsV, in_19] at hF
    subst hF
    repeat' (first | with_reducible (first | refine And.intro ?_ ?_ | intro _ | refine AWp_seq ?_ | refine AWp_block ?_ | (refine hKv _ _ (AWp_nop ?_); clear hKv Kv) | (refine hKA ?_; clear hKA hKB KA KB) | (refine hKB ?_; clear hKA hKB KA KB) | refine AWp_skipN ?_ | refine AWp_exitO (by repeat (first | exact Out.hit | apply Out.thenA | apply Out.out rfl)) ?_) | ((first | with_reducible (first | (refine hKv _ _ ?_; clear hKv Kv) | ((first | refine AWp_regC mu_19 ks_19 ?_ | refine AWp_draw nd_19 mu_19 ks_19 ti_mixed (by kernel_rfl) ?_ | refine AWp_regE mu_19 ks_19 ?_ | refine AWp_drawE nd_19 mu_19 ks_19 ti_mixed (by kernel_rfl) ?_); intro Kv hKv) | refine AWp_retR ?_) | refine hs _ _ ?_ | refine QCall_of (hs _ _ (Two_intro _ _)) ?_); try simp (dsimp := false) only [go_sem, Nat.reduceAdd, Nat.reduceBEq, Nat.reduceEqDiff, Nat.reduceLT, Nat.reduceLeDiff, Nat.reduceMul, Int.reduceToNat, reduceCtorEq, ↓reduceIte, Tryd.ntmps19, Tryd.results19, ks_19, mu_19, nd_19, ti_ag3, ti_ag9, ti_ag33, ti_ag48, ti_ag49, ti_ag51, ti_ag78, ti_fl31_0, ti_fl51_0, ti_fl51_1, ti_fl53_0, ti_fl53_2, ti_fl53_3, ti_fl53_4, ti_fl53_5, ti_fl53_6, ti_fl53_7, ti_fl53_8, ti_fl53_9, ti_fl53_10, ti_hb21, ti_hb22, ti_hb40, ti_hb41, ti_hb42, ti_hb43, ti_hb44, ti_sb48, ti_sb49, ti_sb78, ti_sl24, ti_sl48, ti_sl49, ti_sl78, ti_sz33, ti_sz51, strRow, List.map_cons, List.map_nil, not_true_eq_false, not_false_eq_true, Bool.and_true, Bool.true_and, Bool.false_and, Bool.and_false, Bool.false_or, Bool.or_false, Bool.true_beq, Bool.false_beq, Int.reduceEq, Int.reduceLT, Int.reduceLE, sIter, sItem, tsV]) | (refine AWp_condC rfl ?_; intro KA KB hKA hKB; try simp only [onB_true, onB_false, onB_dec, onB_ndec, onB_not, onB_and, onB_or]) | (refine AWp_condA rfl ?_ ?_) | with_reducible (first | refine onB_of ?_ ?_ | rfl) | omega)
    all_goals first
      | omega
      | exact keepFz hk (Fz_tu2 (.nil _) (.same _)) (by simp [Bel_tu, Bel_d])
      | exact keepD hk rfl
  | true =>
    rw [h1] at hs
    cases h2 : hasQ a [sIter, sItem] with
    | true =>
      rw [h2] at hh
      have e : opCols o a b = (0, [sIter, sItem]) := by rw [opCols12_eq hkind, h1, h2]; rfl
      replace hk := hk ([sIter, sItem]) (by rw [opC2, if_neg (by rw [hkind]; decide), e])
      rw [e] at hk
      refine ACalls_of Tryd.func19 rfl in_19 (Nat.le_of_ble_eq_true rfl) ?_
      intro F hF
      simp (dsimp := false) only [go_sem, Nat.reduceAdd, Nat.reduceBEq, Nat.reduceEqDiff, Nat.reduceLT, Nat.reduceLeDiff, Nat.reduceMul, Int.reduceToNat, reduceCtorEq, ↓reduceIte, Tryd.ntmps19, Tryd.results19, ks_19, mu_19, nd_19, ti_ag3, ti_ag9, ti_ag33, ti_ag48, ti_ag49, ti_ag51, ti_ag78, ti_fl31_0, ti_fl51_0, ti_fl51_1, ti_fl53_0, ti_fl53_2, ti_fl53_3, ti_fl53_4, ti_fl53_5, ti_fl53_6, ti_fl53_7, ti_fl53_8, ti_fl53_9, ti_fl53_10, ti_hb21, ti_hb22, ti_hb40, ti_hb41, ti_hb42, ti_hb43, ti_hb44, ti_sb48, ti_sb49, ti_sb78, ti_sl24, ti_sl48, ti_sl49, ti_sl78, ti_sz33, ti_sz51, strRow, List.map_cons, List.map_nil, not_true_eq_false, not_false_eq_true, Bool.and_true, Bool.true_and, Bool.false_and, Bool.and_false, Bool.false_or, Bool.or_false, Bool.true_beq, Bool.false_beq, Int.reduceEq, Int.reduceLT, Int.reduceLE, sIter, sItem, tsV, in_19] at hF
      subst hF
      repeat' (first | with_reducible (first | refine And.intro ?_ ?_ | intro _ | refine AWp_seq ?_ | refine AWp_block ?_ | (refine hKv _ _ (AWp_nop ?_); clear hKv Kv) | (refine hKA ?_; clear hKA hKB KA KB) | (refine hKB ?_; clear hKA hKB KA KB) | refine AWp_skipN ?_ | refine AWp_exitO (by repeat (first | exact Out.hit | apply Out.thenA | apply Out.out rfl)) ?_) | ((first | with_reducible (first | (refine hKv _ _ ?_; clear hKv Kv) | ((first | refine AWp_regC mu_19 ks_19 ?_ | refine AWp_draw nd_19 mu_19 ks_19 ti_mixed (by kernel_rfl) ?_ | refine AWp_regE mu_19 ks_19 ?_ | refine AWp_drawE nd_19 mu_19 ks_19 ti_mixed (by kernel_rfl) ?_); intro Kv hKv) | refine AWp_retR ?_) | refine hs _ _ ?_ | refine QCall_of (hs _ _ (Two_intro _ _)) ?_ | refine hh _ _ ?_ | refine QCall_of (hh _ _ (Two_intro _ _)) ?_); try simp (dsimp := false) only [go_sem, Nat.reduceAdd, Nat.reduceBEq, Nat.reduceEqDiff, Nat.reduceLT, Nat.reduceLeDiff, Nat.reduceMul, Int.reduceToNat, reduceCtorEq, ↓reduceIte, Tryd.ntmps19, Tryd.results19, ks_19, mu_19, nd_19, ti_ag3, ti_ag9, ti_ag33, ti_ag48, ti_ag49, ti_ag51, ti_ag78, ti_fl31_0, ti_fl51_0, ti_fl51_1, ti_fl53_0, ti_fl53_2, ti_fl53_3, ti_fl53_4, ti_fl53_5, ti_fl53_6, ti_fl53_7, ti_fl53_8, ti_fl53_9, ti_fl53_10, ti_hb21, ti_hb22, ti_hb40, ti_hb41, ti_hb42, ti_hb43, ti_hb44, ti_sb48, ti_sb49, ti_sb78, ti_sl24, ti_sl48, ti_sl49, ti_sl78, ti_sz33, ti_sz51, strRow, List.map_cons, List.map_nil, not_true_eq_false, not_false_eq_true, Bool.and_true, Bool.true_and, Bool.false_and, Bool.and_false, Bool.false_or, Bool.or_false, Bool.true_beq, Bool.false_beq, Int.reduceEq, Int.reduceLT, Int.reduceLE, sIter, sItem, tsV]) | (refine AWp_condC rfl ?_; intro KA KB hKA hKB; try simp only [onB_true, onB_false, onB_dec, onB_ndec, onB_not, onB_and, onB_or]) | (refine AWp_condA rfl ?_ ?_) | with_reducible (first | refine onB_of ?_ ?_ | rfl) | omega)
      all_goals first
        | omega
        | exact keepK hk (by simp [Bel_tu, Bel_d]) rfl
        | exact keepD hk rfl
    | false =>
      rw [h2] at hh
      have e : opCols o a b = (9, []) := by rw [opCols12_eq hkind, h1, h2]; rfl
      replace hk := hk [] (by rw [opC2, if_neg (by rw [hkind]; decide), e])
      rw [e, List.map_nil] at hk
      refine ACalls_of Tryd.func19 rfl in_19 (Nat.le_of_ble_eq_true rfl) ?_
      intro F hF
      simp (dsimp := false) only [go_sem, Nat.reduceAdd, Nat.reduceBEq, Nat.reduceEqDiff, Nat.reduceLT, Nat.reduceLeDiff, Nat.reduceMul, Int.reduceToNat, reduceCtorEq, ↓reduceIte, Tryd.ntmps19, Tryd.results19, ks_19, mu_19, nd_19, ti_ag3, ti_ag9, ti_ag33, ti_ag48, ti_ag49, ti_ag51, ti_ag78, ti_fl31_0, ti_fl51_0, ti_fl51_1, ti_fl53_0, ti_fl53_2, ti_fl53_3, ti_fl53_4, ti_fl53_5, ti_fl53_6, ti_fl53_7, ti_fl53_8, ti_fl53_9, ti_fl53_10, ti_hb21, ti_hb22, ti_hb40, ti_hb41, ti_hb42, ti_hb43, ti_hb44, ti_sb48, ti_sb49, ti_sb78, ti_sl24, ti_sl48, ti_sl49, ti_sl78, ti_sz33, ti_sz51, strRow, List.map_cons, List.map_nil, not_true_eq_false, not_false_eq_true, Bool.and_true, Bool.true_and, Bool.false_and, Bool.and_false, Bool.false_or, Bool.or_false, Bool.true_beq, Bool.false_beq, Int.reduceEq, Int.reduceLT, Int.reduceLE, sIter, sItem, tsV, in_19] at hF
      subst hF
      repeat' (first | with_reducible (first | refine And.intro ?_ ?_ | intro _ | refine AWp_seq ?_ | refine AWp_block ?_ | (refine hKv _ _ (AWp_nop ?_); clear hKv Kv) | (refine hKA ?_; clear hKA hKB KA KB) | (refine hKB ?_; clear hKA hKB KA KB) | refine AWp_skipN ?_ | refine AWp_exitO (by repeat (first | exact Out.hit | apply Out.thenA | apply Out.out rfl)) ?_) | ((first | with_reducible (first | (refine hKv _ _ ?_; clear hKv Kv) | ((first | refine AWp_regC mu_19 ks_19 ?_ | refine AWp_draw nd_19 mu_19 ks_19 ti_mixed (by kernel_rfl) ?_ | refine AWp_regE mu_19 ks_19 ?_ | refine AWp_drawE nd_19 mu_19 ks_19 ti_mixed (by kernel_rfl) ?_); intro Kv hKv) | refine AWp_retR ?_) | refine hs _ _ ?_ | refine QCall_of (hs _ _ (Two_intro _ _)) ?_ | refine hh _ _ ?_ | refine QCall_of (hh _ _ (Two_intro _ _)) ?_); try simp (dsimp := false) only [go_sem, Nat.reduceAdd, Nat.reduceBEq, Nat.reduceEqDiff, Nat.reduceLT, Nat.reduceLeDiff, Nat.reduceMul, Int.reduceToNat, reduceCtorEq, ↓reduceIte, Tryd.ntmps19, Tryd.results19, ks_19, mu_19, nd_19, ti_ag3, ti_ag9, ti_ag33, ti_ag48, ti_ag49, ti_ag51, ti_ag78, ti_fl31_0, ti_fl51_0, ti_fl51_1, ti_fl53_0, ti_fl53_2, ti_fl53_3, ti_fl53_4, ti_fl53_5, ti_fl53_6, ti_fl53_7, ti_fl53_8, ti_fl53_9, ti_fl53_10, ti_hb21, ti_hb22, ti_hb40, ti_hb41, ti_hb42, ti_hb43, ti_hb44, ti_sb48, ti_sb49, ti_sb78, ti_sl24, ti_sl48, ti_sl49, ti_sl78, ti_sz33, ti_sz51, strRow, List.map_cons, List.map_nil, not_true_eq_false, not_false_eq_true, Bool.and_true, Bool.true_and, Bool.false_and, Bool.and_false, Bool.false_or, Bool.or_false, Bool.true_beq, Bool.false_beq, Int.reduceEq, Int.reduceLT, Int.reduceLE, sIter, sItem, tsV]) | (refine AWp_condC rfl ?_; intro KA KB hKA hKB; try simp only [onB_true, onB_false, onB_dec, onB_ndec, onB_not, onB_and, onB_or]) | (refine AWp_condA rfl ?_ ?_) | with_reducible (first | refine onB_of ?_ ?_ | rfl) | omega)
      all_goals first
        | omega
        | exact keepFz hk (Fz_tu2 (.nil _) (.same _)) (by simp [Bel_tu, Bel_d])
        | exact keepD hk rfl
end Go.Proofs.YtppalmoicjogaaaDoor
namespace Go.Proofs.YtppalmoicjogaaaDoor
open Go Go.Proofs.YtppalmoicjogaaaDoor.Ab
variable [Glo] [U8]
set_option maxHeartbeats 4000000
set_option maxRecDepth 20000
theorem opCols13_eq {o : Opp} (h : o.kind = 13) {a b : List (List UInt8)} : opCols o a b = if madeQ o.n o.name ≠ 0 then (madeQ o.n o.name, []) else okC (decide (sIter ∈ a) && hasQ b [sIter, sPos, sItem]) [sIter, sItem] := by
  rw [opCols]
  unfold madeQ
  simp only [h, Int.reduceEq, if_false, if_true, or_self]
  by_cases h1 : o.n = 1
  · simp [h1]
  by_cases h2 : o.n = 2
  · simp [h2]
  by_cases h3 : o.n = 3
  · simp [h3]
  simp [h1, h2, h3]
theorem opCols13_A (o : Opp) (ok : OkO o) (hkind : o.kind = 13) (a b : List (List UInt8)) (ha : OkC a) (hb : OkC b) (H : Heap) (K : V → Heap → Prop) (hk : K (.tu [.d (.sl 1 ((opC2 o a b).map strRow)), .d (.i .i64 (opCols o a b).1)]) H) :
    ACalls Tryd.prog 19 [opV o, .d (.sl 1 (a.map strRow)), .d (.sl 1 (b.map strRow))] H K := by
  rw [opV_k hkind]
  replace hk : ∀ c, c = opC2 o a b → K (.tu [.d (.sl 1 (c.map strRow)), .d (.i .i64 (opCols o a b).1)]) H := fun c hc => by rw [hc]; exact hk
  have hl8a := ha.le8
  have hl8b := hb.le8
  have hn1 := ok.ncols
  have hn2 := ok.nolds
  have hm := makeFault_A o.n o.name (by have := ok.sname; omega)
  have hh := hasText_A a sIter ha.len
  have hg := allThere_A b [sIter, sPos, sItem] hb.len (by decide)
  by_cases h0 : madeQ o.n o.name = 0
  · rw [h0] at hm
    cases h2 : decide (sIter ∈ a) with
    | true =>
      rw [h2] at hh
      cases h3 : hasQ b [sIter, sPos, sItem] with
      | true =>
        rw [h3] at hg
        have e : opCols o a b = (0, [sIter, sItem]) := by rw [opCols13_eq hkind, if_neg (by rw [h0]; simp), h2, h3]; rfl
        replace hk := hk ([sIter, sItem]) (by rw [opC2, if_pos hkind])
        rw [e] at hk
        refine ACalls_of Tryd.func19 rfl in_19 (Nat.le_of_ble_eq_true rfl) ?_
        intro F hF
        simp (dsimp := false) only [go_sem, Nat.reduceAdd, Nat.reduceBEq, Nat.reduceEqDiff, Nat.reduceLT, Nat.reduceLeDiff, Nat.reduceMul, Int.reduceToNat, reduceCtorEq, ↓reduceIte, Tryd.ntmps19, Tryd.results19, ks_19, mu_19, nd_19, ti_ag3, ti_ag9, ti_ag33, ti_ag48, ti_ag49, ti_ag51, ti_ag78, ti_fl31_0, ti_fl51_0, ti_fl51_1, ti_fl53_0, ti_fl53_2, ti_fl53_3, ti_fl53_4, ti_fl53_5, ti_fl53_6, ti_fl53_7, ti_fl53_8, ti_fl53_9, ti_fl53_10, ti_hb21, ti_hb22, ti_hb40, ti_hb41, ti_hb42, ti_hb43, ti_hb44, ti_sb48, ti_sb49, ti_sb78, ti_sl24, ti_sl48, ti_sl49, ti_sl78, ti_sz33, ti_sz51, strRow, List.map_cons, List.map_nil, not_true_eq_false, not_false_eq_true, Bool.and_true, Bool.true_and, Bool.false_and, Bool.and_false, Bool.false_or, Bool.or_false, Bool.true_beq, Bool.false_beq, Int.reduceEq, Int.reduceLT, Int.reduceLE, sIter, sPos, sItem, in_19] at hF
        subst hF
        repeat' (first | with_reducible (first | refine And.intro ?_ ?_ | intro _ | refine AWp_seq ?_ | refine AWp_block ?_ | (refine hKv _ _ (AWp_nop ?_); clear hKv Kv) | (refine hKA ?_; clear hKA hKB KA KB) | (refine hKB ?_; clear hKA hKB KA KB) | refine AWp_skipN ?_ | refine AWp_exitO (by repeat (first | exact Out.hit | apply Out.thenA | apply Out.out rfl)) ?_) | ((first | with_reducible (first | (refine hKv _ _ ?_; clear hKv Kv) | ((first | refine AWp_regC mu_19 ks_19 ?_ | refine AWp_draw nd_19 mu_19 ks_19 ti_mixed (by kernel_rfl) ?_ | refine AWp_regE mu_19 ks_19 ?_ | refine AWp_drawE nd_19 mu_19 ks_19 ti_mixed (by kernel_rfl) ?_); intro Kv hKv) | refine AWp_retR ?_) | refine hm _ _ ?_ | refine QCall_of (hm _ _ (Two_intro _ _)) ?_ | refine hh _ _ ?_ | refine QCall_of (hh _ _ (Two_intro _ _)) ?_ | refine hg _ _ ?_ | refine QCall_of (hg _ _ (Two_intro _ _)) ?_); try simp (dsimp := false) only [go_sem, Nat.reduceAdd, Nat.reduceBEq, Nat.reduceEqDiff, Nat.reduceLT, Nat.reduceLeDiff, Nat.reduceMul, Int.reduceToNat, reduceCtorEq, ↓reduceIte, Tryd.ntmps19, Tryd.results19, ks_19, mu_19, nd_19, ti_ag3, ti_ag9, ti_ag33, ti_ag48, ti_ag49, ti_ag51, ti_ag78, ti_fl31_0, ti_fl51_0, ti_fl51_1, ti_fl53_0, ti_fl53_2, ti_fl53_3, ti_fl53_4, ti_fl53_5, ti_fl53_6, ti_fl53_7, ti_fl53_8, ti_fl53_9, ti_fl53_10, ti_hb21, ti_hb22, ti_hb40, ti_hb41, ti_hb42, ti_hb43, ti_hb44, ti_sb48, ti_sb49, ti_sb78, ti_sl24, ti_sl48, ti_sl49, ti_sl78, ti_sz33, ti_sz51, strRow, List.map_cons, List.map_nil, not_true_eq_false, not_false_eq_true, Bool.and_true, Bool.true_and, Bool.false_and, Bool.and_false, Bool.false_or, Bool.or_false, Bool.true_beq, Bool.false_beq, Int.reduceEq, Int.reduceLT, Int.reduceLE, sIter, sPos, sItem]) | (refine AWp_condC rfl ?_; intro KA KB hKA hKB; try simp only [onB_true, onB_false, onB_dec, onB_ndec, onB_not, onB_and, onB_or]) | (refine AWp_condA rfl ?_ ?_) | with_reducible (first | refine onB_of ?_ ?_ | rfl) | omega)
        all_goals first
          | omega
          | exact keepK hk (by simp [Bel_tu, Bel_d]) rfl
          | exact keepD hk rfl
      | false =>
        rw [h3] at hg
        have e : opCols o a b = (9, []) := by rw [opCols13_eq hkind, if_neg (by rw [h0]; simp), h2, h3]; rfl
        replace hk := hk ([sIter, sItem]) (by rw [opC2, if_pos hkind])
        rw [e] at hk
        refine ACalls_of Tryd.func19 rfl in_19 (Nat.le_of_ble_eq_true rfl) ?_
        intro F hF
        simp (dsimp := false) only [go_sem, Nat.reduceAdd, Nat.reduceBEq, Nat.reduceEqDiff, Nat.reduceLT, Nat.reduceLeDiff, Nat.reduceMul, Int.reduceToNat, reduceCtorEq, ↓reduceIte, Tryd.ntmps19, Tryd.results19, ks_19, mu_19, nd_19, ti_ag3, ti_ag9, ti_ag33, ti_ag48, ti_ag49, ti_ag51, ti_ag78, ti_fl31_0, ti_fl51_0, ti_fl51_1, ti_fl53_0, ti_fl53_2, ti_fl53_3, ti_fl53_4, ti_fl53_5, ti_fl53_6, ti_fl53_7, ti_fl53_8, ti_fl53_9, ti_fl53_10, ti_hb21, ti_hb22, ti_hb40, ti_hb41, ti_hb42, ti_hb43, ti_hb44, ti_sb48, ti_sb49, ti_sb78, ti_sl24, ti_sl48, ti_sl49, ti_sl78, ti_sz33, ti_sz51, strRow, List.map_cons, List.map_nil, not_true_eq_false, not_false_eq_true, Bool.and_true, Bool.true_and, Bool.false_and, Bool.and_false, Bool.false_or, Bool.or_false, Bool.true_beq, Bool.false_beq, Int.reduceEq, Int.reduceLT, Int.reduceLE, sIter, sPos, sItem, in_19] at hF
        subst hF
        repeat' (first | with_reducible (first | refine And.intro ?_ ?_ | intro _ | refine AWp_seq ?_ | refine AWp_block ?_ | (refine hKv _ _ (AWp_nop ?_); clear hKv Kv) | (refine hKA ?_; clear hKA hKB KA KB) | (refine hKB ?_; clear hKA hKB KA KB) | refine AWp_skipN ?_ | refine AWp_exitO (by repeat (first | exact Out.hit | apply Out.thenA | apply Out.out rfl)) ?_) | ((first | with_reducible (first | (refine hKv _ _ ?_; clear hKv Kv) | ((first | refine AWp_regC mu_19 ks_19 ?_ | refine AWp_draw nd_19 mu_19 ks_19 ti_mixed (by kernel_rfl) ?_ | refine AWp_regE mu_19 ks_19 ?_ | refine AWp_drawE nd_19 mu_19 ks_19 ti_mixed (by kernel_rfl) ?_); intro Kv hKv) | refine AWp_retR ?_) | refine hm _ _ ?_ | refine QCall_of (hm _ _ (Two_intro _ _)) ?_ | refine hh _ _ ?_ | refine QCall_of (hh _ _ (Two_intro _ _)) ?_ | refine hg _ _ ?_ | refine QCall_of (hg _ _ (Two_intro _ _)) ?_); try simp (dsimp := false) only [go_sem, Nat.reduceAdd, Nat.reduceBEq, Nat.reduceEqDiff, Nat.reduceLT, Nat.reduceLeDiff, Nat.reduceMul, Int.reduceToNat, reduceCtorEq, ↓reduceIte, Tryd.ntmps19, Tryd.results19, ks_19, mu_19, nd_19, ti_ag3, ti_ag9, ti_ag33, ti_ag48, ti_ag49, ti_ag51, ti_ag78, ti_fl31_0, ti_fl51_0, ti_fl51_1, ti_fl53_0, ti_fl53_2, ti_fl53_3, ti_fl53_4, ti_fl53_5, ti_fl53_6, ti_fl53_7, ti_fl53_8, ti_fl53_9, ti_fl53_10, ti_hb21, ti_hb22, ti_hb40, ti_hb41, ti_hb42, ti_hb43, ti_hb44, ti_sb48, ti_sb49, ti_sb78, ti_sl24, ti_sl48, ti_sl49, ti_sl78, ti_sz33, ti_sz51, strRow, List.map_cons, List.map_nil, not_true_eq_false, not_false_eq_true, Bool.and_true, Bool.true_and, Bool.false_and, Bool.and_false, Bool.false_or, Bool.or_false, Bool.true_beq, Bool.false_beq, Int.reduceEq, Int.reduceLT, Int.reduceLE, sIter, sPos, sItem]) | (refine AWp_condC rfl ?_; intro KA KB hKA hKB; try simp only [onB_true, onB_false, onB_dec, onB_ndec, onB_not, onB_and, onB_or]) | (refine AWp_condA rfl ?_ ?_) | with_reducible (first | refine onB_of ?_ ?_ | rfl) | omega)
        all_goals first
          | omega
          | exact keepK hk (by simp [Bel_tu, Bel_d]) rfl
          | exact keepD hk rfl
    | false =>
      rw [h2] at hh
      have e : opCols o a b = (9, []) := by rw [opCols13_eq hkind, if_neg (by rw [h0]; simp), h2, Bool.false_and]; rfl
      replace hk := hk ([sIter, sItem]) (by rw [opC2, if_pos hkind])
      rw [e] at hk
      refine ACalls_of Tryd.func19 rfl in_19 (Nat.le_of_ble_eq_true rfl) ?_
      intro F hF
      simp (dsimp := false) only [go_sem, Nat.reduceAdd, Nat.reduceBEq, Nat.reduceEqDiff, Nat.reduceLT, Nat.reduceLeDiff, Nat.reduceMul, Int.reduceToNat, reduceCtorEq, ↓reduceIte, Tryd.ntmps19, Tryd.results19, ks_19, mu_19, nd_19, ti_ag3, ti_ag9, ti_ag33, ti_ag48, ti_ag49, ti_ag51, ti_ag78, ti_fl31_0, ti_fl51_0, ti_fl51_1, ti_fl53_0, ti_fl53_2, ti_fl53_3, ti_fl53_4, ti_fl53_5, ti_fl53_6, ti_fl53_7, ti_fl53_8, ti_fl53_9, ti_fl53_10, ti_hb21, ti_hb22, ti_hb40, ti_hb41, ti_hb42, ti_hb43, ti_hb44, ti_sb48, ti_sb49, ti_sb78, ti_sl24, ti_sl48, ti_sl49, ti_sl78, ti_sz33, ti_sz51, strRow, List.map_cons, List.map_nil, not_true_eq_false, not_false_eq_true, Bool.and_true, Bool.true_and, Bool.false_and, Bool.and_false, Bool.false_or, Bool.or_false, Bool.true_beq, Bool.false_beq, Int.reduceEq, Int.reduceLT, Int.reduceLE, sIter, sPos, sItem, in_19] at hF
      subst hF
      repeat' (first | with_reducible (first | refine And.intro ?_ ?_ | intro _ | refine AWp_seq ?_ | refine AWp_block ?_ | (refine hKv _ _ (AWp_nop ?_); clear hKv Kv) | (refine hKA ?_; clear hKA hKB KA KB) | (refine hKB ?_; clear hKA hKB KA KB) | refine AWp_skipN ?_ | refine AWp_exitO (by repeat (first | exact Out.hit | apply Out.thenA | apply Out.out rfl)) ?_) | ((first | with_reducible (first | (refine hKv _ _ ?_; clear hKv Kv) | ((first | refine AWp_regC mu_19 ks_19 ?_ | refine AWp_draw nd_19 mu_19 ks_19 ti_mixed (by kernel_rfl) ?_ | refine AWp_regE mu_19 ks_19 ?_ | refine AWp_drawE nd_19 mu_19 ks_19 ti_mixed (by kernel_rfl) ?_); intro Kv hKv) | refine AWp_retR ?_) | refine hm _ _ ?_ | refine QCall_of (hm _ _ (Two_intro _ _)) ?_ | refine hh _ _ ?_ | refine QCall_of (hh _ _ (Two_intro _ _)) ?_ | refine hg _ _ ?_ | refine QCall_of (hg _ _ (Two_intro _ _)) ?_); try simp (dsimp := false) only [go_sem, Nat.reduceAdd, Nat.reduceBEq, Nat.reduceEqDiff, Nat.reduceLT, Nat.reduceLeDiff, Nat.reduceMul, Int.reduceToNat, reduceCtorEq, ↓reduceIte, Tryd.ntmps19, Tryd.results19, ks_19, mu_19, nd_19, ti_ag3, ti_ag9, ti_ag33, ti_ag48, ti_ag49, ti_ag51, ti_ag78, ti_fl31_0, ti_fl51_0, ti_fl51_1, ti_fl53_0, ti_fl53_2, ti_fl53_3, ti_fl53_4, ti_fl53_5, ti_fl53_6, ti_fl53_7, ti_fl53_8, ti_fl53_9, ti_fl53_10, ti_hb21, ti_hb22, ti_hb40, ti_hb41, ti_hb42, ti_hb43, ti_hb44, ti_sb48, ti_sb49, ti_sb78, ti_sl24, ti_sl48, ti_sl49, ti_sl78, ti_sz33, ti_sz51, strRow, List.map_cons, List.map_nil, not_true_eq_false, not_false_eq_true, Bool.and_true, Bool.true_and, Bool.false_and, Bool.and_false, Bool.false_or, Bool.or_false, Bool.true_beq, Bool.false_beq, Int.reduceEq, Int.reduceLT, Int.reduceLE, sIter, sPos, sItem]) | (refine AWp_condC rfl ?_; intro KA KB hKA hKB; try simp only [onB_true, onB_false, onB_dec, onB_ndec, onB_not, onB_and, onB_or]) | (refine AWp_condA rfl ?_ ?_) | with_reducible (first | refine onB_of ?_ ?_ | rfl) | omega)
      all_goals first
        | omega
        | exact keepK hk (by simp [Bel_tu, Bel_d]) rfl
        | exact keepD hk rfl
  · have i0 : (madeQ o.n o.name = 0) = False := eq_false h0
    have e : opCols o a b = (madeQ o.n o.name, []) := by rw [opCols13_eq hkind, if_pos h0]
    replace hk := hk ([sIter, sItem]) (by rw [opC2, if_pos hkind])
    rw [e] at hk
    refine ACalls_of Tryd.func19 rfl in_19 (Nat.le_of_ble_eq_true rfl) ?_
    intro F hF
    simp (dsimp := false) only [go_sem, Nat.reduceAdd, Nat.reduceBEq, Nat.reduceEqDiff, Nat.reduceLT, Nat.reduceLeDiff, Nat.reduceMul, Int.reduceToNat, reduceCtorEq, ↓reduceIte, Tryd.ntmps19, Tryd.results19, ks_19, mu_19, nd_19, ti_ag3, ti_ag9, ti_ag33, ti_ag48, ti_ag49, ti_ag51, ti_ag78, ti_fl31_0, ti_fl51_0, ti_fl51_1, ti_fl53_0, ti_fl53_2, ti_fl53_3, ti_fl53_4, ti_fl53_5, ti_fl53_6, ti_fl53_7, ti_fl53_8, ti_fl53_9, ti_fl53_10, ti_hb21, ti_hb22, ti_hb40, ti_hb41, ti_hb42, ti_hb43, ti_hb44, ti_sb48, ti_sb49, ti_sb78, ti_sl24, ti_sl48, ti_sl49, ti_sl78, ti_sz33, ti_sz51, strRow, List.map_cons, List.map_nil, not_true_eq_false, not_false_eq_true, Bool.and_true, Bool.true_and, Bool.false_and, Bool.and_false, Bool.false_or, Bool.or_false, Bool.true_beq, Bool.false_beq, Int.reduceEq, Int.reduceLT, Int.reduceLE, sIter, sPos, sItem, i0, in_19] at hF
    subst hF
    repeat' (first | with_reducible (first | refine And.intro ?_ ?_ | intro _ | refine AWp_seq ?_ | refine AWp_block ?_ | (refine hKv _ _ (AWp_nop ?_); clear hKv Kv) | (refine hKA ?_; clear hKA hKB KA KB) | (refine hKB ?_; clear hKA hKB KA KB) | refine AWp_skipN ?_ | refine AWp_exitO (by repeat (first | exact Out.hit | apply Out.thenA | apply Out.out rfl)) ?_) | ((first | with_reducible (first | (refine hKv _ _ ?_; clear hKv Kv) | ((first | refine AWp_regC mu_19 ks_19 ?_ | refine AWp_draw nd_19 mu_19 ks_19 ti_mixed (by kernel_rfl) ?_ | refine AWp_regE mu_19 ks_19 ?_ | refine AWp_drawE nd_19 mu_19 ks_19 ti_mixed (by kernel_rfl) ?_); intro Kv hKv) | refine AWp_retR ?_) | refine hm _ _ ?_ | refine QCall_of (hm _ _ (Two_intro _ _)) ?_ | refine hh _ _ ?_ | refine QCall_of (hh _ _ (Two_intro _ _)) ?_ | refine hg _ _ ?_ | refine QCall_of (hg _ _ (Two_intro _ _)) ?_); try simp (dsimp := false) only [go_sem, Nat.reduceAdd, Nat.reduceBEq, Nat.reduceEqDiff, Nat.reduceLT, Nat.reduceLeDiff, Nat.reduceMul, Int.reduceToNat, reduceCtorEq, ↓reduceIte, Tryd.ntmps19, Tryd.results19, ks_19, mu_19, nd_19, ti_ag3, ti_ag9, ti_ag33, ti_ag48, ti_ag49, ti_ag51, ti_ag78, ti_fl31_0, ti_fl51_0, ti_fl51_1, ti_fl53_0, ti_fl53_2, ti_fl53_3, ti_fl53_4, ti_fl53_5, ti_fl53_6, ti_fl53_7, ti_fl53_8, ti_fl53_9, ti_fl53_10, ti_hb21, ti_hb22, ti_hb40, ti_hb41, ti_hb42, ti_hb43, ti_hb44, ti_sb48, ti_sb49, ti_sb78, ti_sl24, ti_sl48, ti_sl49, ti_sl78, ti_sz33, ti_sz51, strRow, List.map_cons, List.map_nil, not_true_eq_false, not_false_eq_true, Bool.and_true, Bool.true_and, Bool.false_and, Bool.and_false, Bool.false_or, Bool.or_false, Bool.true_beq, Bool.false_beq, Int.reduceEq, Int.reduceLT, Int.reduceLE, sIter, sPos, sItem, i0]) | (refine AWp_condC rfl ?_; intro KA KB hKA hKB; try simp only [onB_true, onB_false, onB_dec, onB_ndec, onB_not, onB_and, onB_or]) | (refine AWp_condA rfl ?_ ?_) | with_reducible (first | refine onB_of ?_ ?_ | rfl) | omega)
    all_goals first
      | omega
      | exact keepK hk (by simp [Bel_tu, Bel_d]) rfl
      | exact keepD hk rfl
end Go.Proofs.YtppalmoicjogaaaDoor
namespace Go.Proofs.YtppalmoicjogaaaDoor
open Go Go.Proofs.YtppalmoicjogaaaDoor.Ab
variable [Glo] [U8]
set_option maxHeartbeats 4000000
set_option maxRecDepth 20000
theorem opCols14_A (o : Opp) (ok : OkO o) (hkind : o.kind = 14) (a b : List (List UInt8)) (ha : OkC a) (hb : OkC b) (H : Heap) (K : V → Heap → Prop) (hk : K (.tu [.d (.sl 1 ((opC2 o a b).map strRow)), .d (.i .i64 (opCols o a b).1)]) H) :
    ACalls Tryd.prog 19 [opV o, .d (.sl 1 (a.map strRow)), .d (.sl 1 (b.map strRow))] H K := by
  rw [opV_k hkind]
  replace hk : ∀ c, c = opC2 o a b → K (.tu [.d (.sl 1 (c.map strRow)), .d (.i .i64 (opCols o a b).1)]) H := fun c hc => by rw [hc]; exact hk
  have hl8a := ha.le8
  have hl8b := hb.le8
  have hn1 := ok.ncols
  have hn2 := ok.nolds
  have e : opCols o a b = (0, [sItem]) := by rw [opCols]; simp [okC, hkind]
  replace hk := hk ([sItem]) (by rw [opC2, if_neg (by rw [hkind]; decide), e])
  rw [e] at hk
  refine ACalls_of Tryd.func19 rfl in_19 (Nat.le_of_ble_eq_true rfl) ?_
  intro F hF
  simp (dsimp := false) only [go_sem, Nat.reduceAdd, Nat.reduceBEq, Nat.reduceEqDiff, Nat.reduceLT, Nat.reduceLeDiff, Nat.reduceMul, Int.reduceToNat, reduceCtorEq, ↓reduceIte, Tryd.ntmps19, Tryd.results19, ks_19, mu_19, nd_19, ti_ag3, ti_ag9, ti_ag33, ti_ag48, ti_ag49, ti_ag51, ti_ag78, ti_fl31_0, ti_fl51_0, ti_fl51_1, ti_fl53_0, ti_fl53_2, ti_fl53_3, ti_fl53_4, ti_fl53_5, ti_fl53_6, ti_fl53_7, ti_fl53_8, ti_fl53_9, ti_fl53_10, ti_hb21, ti_hb22, ti_hb40, ti_hb41, ti_hb42, ti_hb43, ti_hb44, ti_sb48, ti_sb49, ti_sb78, ti_sl24, ti_sl48, ti_sl49, ti_sl78, ti_sz33, ti_sz51, strRow, List.map_cons, List.map_nil, not_true_eq_false, not_false_eq_true, Bool.and_true, Bool.true_and, Bool.false_and, Bool.and_false, Bool.false_or, Bool.or_false, Bool.true_beq, Bool.false_beq, Int.reduceEq, Int.reduceLT, Int.reduceLE, sItem, in_19] at hF
  subst hF
  repeat' (first | with_reducible (first | refine And.intro ?_ ?_ | intro _ | refine AWp_seq ?_ | refine AWp_block ?_ | (refine hKv _ _ (AWp_nop ?_); clear hKv Kv) | (refine hKA ?_; clear hKA hKB KA KB) | (refine hKB ?_; clear hKA hKB KA KB) | refine AWp_skipN ?_ | refine AWp_exitO (by repeat (first | exact Out.hit | apply Out.thenA | apply Out.out rfl)) ?_) | (with_reducible (first | (refine hKv _ _ ?_; clear hKv Kv) | ((first | refine AWp_regC mu_19 ks_19 ?_ | refine AWp_draw nd_19 mu_19 ks_19 ti_mixed (by kernel_rfl) ?_ | refine AWp_regE mu_19 ks_19 ?_ | refine AWp_drawE nd_19 mu_19 ks_19 ti_mixed (by kernel_rfl) ?_); intro Kv hKv) | refine AWp_retR ?_); try simp (dsimp := false) only [go_sem, Nat.reduceAdd, Nat.reduceBEq, Nat.reduceEqDiff, Nat.reduceLT, Nat.reduceLeDiff, Nat.reduceMul, Int.reduceToNat, reduceCtorEq, ↓reduceIte, Tryd.ntmps19, Tryd.results19, ks_19, mu_19, nd_19, ti_ag3, ti_ag9, ti_ag33, ti_ag48, ti_ag49, ti_ag51, ti_ag78, ti_fl31_0, ti_fl51_0, ti_fl51_1, ti_fl53_0, ti_fl53_2, ti_fl53_3, ti_fl53_4, ti_fl53_5, ti_fl53_6, ti_fl53_7, ti_fl53_8, ti_fl53_9, ti_fl53_10, ti_hb21, ti_hb22, ti_hb40, ti_hb41, ti_hb42, ti_hb43, ti_hb44, ti_sb48, ti_sb49, ti_sb78, ti_sl24, ti_sl48, ti_sl49, ti_sl78, ti_sz33, ti_sz51, strRow, List.map_cons, List.map_nil, not_true_eq_false, not_false_eq_true, Bool.and_true, Bool.true_and, Bool.false_and, Bool.and_false, Bool.false_or, Bool.or_false, Bool.true_beq, Bool.false_beq, Int.reduceEq, Int.reduceLT, Int.reduceLE, sItem]) | (refine AWp_condC rfl ?_; intro KA KB hKA hKB; try simp only [onB_true, onB_false, onB_dec, onB_ndec, onB_not, onB_and, onB_or]) | (refine AWp_condA rfl ?_ ?_) | with_reducible (first | refine onB_of ?_ ?_ | rfl) | omega)
  all_goals first
    | omega
    | exact keepK hk (by simp [Bel_tu, Bel_d]) rfl
    | exact keepD hk rfl
end Go.Proofs.YtppalmoicjogaaaDoor
