/- Plans: the reference's opCols, kind 3. No condition but that the tables of package unicode/utf8 are there. -/
import Derived.Test.YtppalmoicjogaaaDoorR41
set_option linter.all false
set_option linter.unusedSimpArgs false
set_option linter.unusedVariables false
namespace Go.Proofs.YtppalmoicjogaaaDoor
open Go Go.Proofs.YtppalmoicjogaaaDoor.Ab
variable [Glo] [U8]
set_option maxHeartbeats 4000000
set_option maxRecDepth 20000
theorem opCols3_A (o : Opp) (ok : OkO o) (hkind : o.kind = 3) (a b : List (List UInt8)) (ha : OkC a) (hb : OkC b) (H : Heap) (K : V → Heap → Prop) (hk : K (.tu [.d (.sl 1 ((opC2 o a b).map strRow)), .d (.i .i64 (opCols o a b).1)]) H) :
    ACalls Tryd.prog 19 [opV o, .d (.sl 1 (a.map strRow)), .d (.sl 1 (b.map strRow))] H K := by
  rw [opV_k hkind]
  replace hk : ∀ c, c = opC2 o a b → K (.tu [.d (.sl 1 (c.map strRow)), .d (.i .i64 (opCols o a b).1)]) H := fun c hc => by rw [hc]; exact hk
  have hl8a := ha.le8
  have hl8b := hb.le8
  have hn1 := ok.ncols
  have hn2 := ok.nolds
  have hh := allThere_A a o.cols ha.len (by omega)
  by_cases h1 : o.cols.length = 1
  · have i1 : ((o.cols.length : Int) = 1) = True := eq_true (by omega)
    cases h2 : hasQ a o.cols with
    | true =>
      rw [h2] at hh
      have e : opCols o a b = (0, a) := by rw [opCols]; simp [okC, hkind, h1, h2]
      replace hk := hk (a) (by rw [opC2, if_neg (by rw [hkind]; decide), e])
      rw [e] at hk
      refine ACalls_of Tryd.func19 rfl in_19 (Nat.le_of_ble_eq_true rfl) ?_
      intro F hF
      simp (dsimp := false) only [go_sem, Nat.reduceAdd, Nat.reduceBEq, Nat.reduceEqDiff, Nat.reduceLT, Nat.reduceLeDiff, Nat.reduceMul, Int.reduceToNat, reduceCtorEq, ↓reduceIte, Tryd.ntmps19, Tryd.results19, ks_19, mu_19, nd_19, ti_ag3, ti_ag9, ti_ag33, ti_ag48, ti_ag49, ti_ag51, ti_ag78, ti_fl31_0, ti_fl51_0, ti_fl51_1, ti_fl53_0, ti_fl53_2, ti_fl53_3, ti_fl53_4, ti_fl53_5, ti_fl53_6, ti_fl53_7, ti_fl53_8, ti_fl53_9, ti_fl53_10, ti_hb21, ti_hb22, ti_hb40, ti_hb41, ti_hb42, ti_hb43, ti_hb44, ti_sb48, ti_sb49, ti_sb78, ti_sl24, ti_sl48, ti_sl49, ti_sl78, ti_sz33, ti_sz51, strRow, List.map_cons, List.map_nil, not_true_eq_false, not_false_eq_true, Bool.and_true, Bool.true_and, Bool.false_and, Bool.and_false, Bool.false_or, Bool.or_false, Bool.true_beq, Bool.false_beq, Int.reduceEq, Int.reduceLT, Int.reduceLE, i1, in_19] at hF
      subst hF
      repeat' (first | with_reducible (first | refine And.intro ?_ ?_ | intro _ | refine AWp_seq ?_ | refine AWp_block ?_ | (refine hKv _ _ (AWp_nop ?_); clear hKv Kv) | (refine hKA ?_; clear hKA hKB KA KB) | (refine hKB ?_; clear hKA hKB KA KB) | refine AWp_skipN ?_ | refine AWp_exitO (by repeat (first | exact Out.hit | apply Out.thenA | apply Out.out rfl)) ?_) | ((first | with_reducible (first | (refine hKv _ _ ?_; clear hKv Kv) | ((first | refine AWp_regC mu_19 ks_19 ?_ | refine AWp_draw nd_19 mu_19 ks_19 ti_mixed (by kernel_rfl) ?_ | refine AWp_regE mu_19 ks_19 ?_ | refine AWp_drawE nd_19 mu_19 ks_19 ti_mixed (by kernel_rfl) ?_); intro Kv hKv) | refine AWp_retR ?_) | refine hh _ _ ?_ | refine QCall_of (hh _ _ (Two_intro _ _)) ?_); try simp (dsimp := false) only [go_sem, Nat.reduceAdd, Nat.reduceBEq, Nat.reduceEqDiff, Nat.reduceLT, Nat.reduceLeDiff, Nat.reduceMul, Int.reduceToNat, reduceCtorEq, ↓reduceIte, Tryd.ntmps19, Tryd.results19, ks_19, mu_19, nd_19, ti_ag3, ti_ag9, ti_ag33, ti_ag48, ti_ag49, ti_ag51, ti_ag78, ti_fl31_0, ti_fl51_0, ti_fl51_1, ti_fl53_0, ti_fl53_2, ti_fl53_3, ti_fl53_4, ti_fl53_5, ti_fl53_6, ti_fl53_7, ti_fl53_8, ti_fl53_9, ti_fl53_10, ti_hb21, ti_hb22, ti_hb40, ti_hb41, ti_hb42, ti_hb43, ti_hb44, ti_sb48, ti_sb49, ti_sb78, ti_sl24, ti_sl48, ti_sl49, ti_sl78, ti_sz33, ti_sz51, strRow, List.map_cons, List.map_nil, not_true_eq_false, not_false_eq_true, Bool.and_true, Bool.true_and, Bool.false_and, Bool.and_false, Bool.false_or, Bool.or_false, Bool.true_beq, Bool.false_beq, Int.reduceEq, Int.reduceLT, Int.reduceLE, i1]) | (refine AWp_condC rfl ?_; intro KA KB hKA hKB; try simp only [onB_true, onB_false, onB_dec, onB_ndec, onB_not, onB_and, onB_or]) | (refine AWp_condA rfl ?_ ?_) | with_reducible (first | refine onB_of ?_ ?_ | rfl) | omega)
      all_goals first
        | omega
        | exact keepK hk (by simp [Bel_tu, Bel_d]) rfl
        | exact keepD hk rfl
    | false =>
      rw [h2] at hh
      have e : opCols o a b = (9, []) := by rw [opCols]; simp [okC, hkind, h1, h2]
      replace hk := hk [] (by rw [opC2, if_neg (by rw [hkind]; decide), e])
      rw [e, List.map_nil] at hk
      refine ACalls_of Tryd.func19 rfl in_19 (Nat.le_of_ble_eq_true rfl) ?_
      intro F hF
      simp (dsimp := false) only [go_sem, Nat.reduceAdd, Nat.reduceBEq, Nat.reduceEqDiff, Nat.reduceLT, Nat.reduceLeDiff, Nat.reduceMul, Int.reduceToNat, reduceCtorEq, ↓reduceIte, Tryd.ntmps19, Tryd.results19, ks_19, mu_19, nd_19, ti_ag3, ti_ag9, ti_ag33, ti_ag48, ti_ag49, ti_ag51, ti_ag78, ti_fl31_0, ti_fl51_0, ti_fl51_1, ti_fl53_0, ti_fl53_2, ti_fl53_3, ti_fl53_4, ti_fl53_5, ti_fl53_6, ti_fl53_7, ti_fl53_8, ti_fl53_9, ti_fl53_10, ti_hb21, ti_hb22, ti_hb40, ti_hb41, ti_hb42, ti_hb43, ti_hb44, ti_sb48, ti_sb49, ti_sb78, ti_sl24, ti_sl48, ti_sl49, ti_sl78, ti_sz33, ti_sz51, strRow, List.map_cons, List.map_nil, not_true_eq_false, not_false_eq_true, Bool.and_true, Bool.true_and, Bool.false_and, Bool.and_false, Bool.false_or, Bool.or_false, Bool.true_beq, Bool.false_beq, Int.reduceEq, Int.reduceLT, Int.reduceLE, i1, in_19] at hF
      subst hF
      repeat' (first | with_reducible (first | refine And.intro ?_ ?_ | intro _ | refine AWp_seq ?_ | refine AWp_block ?_ | (refine hKv _ _ (AWp_nop ?_); clear hKv Kv) | (refine hKA ?_; clear hKA hKB KA KB) | (refine hKB ?_; clear hKA hKB KA KB) | refine AWp_skipN ?_ | refine AWp_exitO (by repeat (first | exact Out.hit | apply Out.thenA | apply Out.out rfl)) ?_) | ((first | with_reducible (first | (refine hKv _ _ ?_; clear hKv Kv) | ((first | refine AWp_regC mu_19 ks_19 ?_ | refine AWp_draw nd_19 mu_19 ks_19 ti_mixed (by kernel_rfl) ?_ | refine AWp_regE mu_19 ks_19 ?_ | refine AWp_drawE nd_19 mu_19 ks_19 ti_mixed (by kernel_rfl) ?_); intro Kv hKv) | refine AWp_retR ?_) | refine hh _ _ ?_ | refine QCall_of (hh _ _ (Two_intro _ _)) ?_); try simp (dsimp := false) only [go_sem, Nat.reduceAdd, Nat.reduceBEq, Nat.reduceEqDiff, Nat.reduceLT, Nat.reduceLeDiff, Nat.reduceMul, Int.reduceToNat, reduceCtorEq, ↓reduceIte, Tryd.ntmps19, Tryd.results19, ks_19, mu_19, nd_19, ti_ag3, ti_ag9, ti_ag33, ti_ag48, ti_ag49, ti_ag51, ti_ag78, ti_fl31_0, ti_fl51_0, ti_fl51_1, ti_fl53_0, ti_fl53_2, ti_fl53_3, ti_fl53_4, ti_fl53_5, ti_fl53_6, ti_fl53_7, ti_fl53_8, ti_fl53_9, ti_fl53_10, ti_hb21, ti_hb22, ti_hb40, ti_hb41, ti_hb42, ti_hb43, ti_hb44, ti_sb48, ti_sb49, ti_sb78, ti_sl24, ti_sl48, ti_sl49, ti_sl78, ti_sz33, ti_sz51, strRow, List.map_cons, List.map_nil, not_true_eq_false, not_false_eq_true, Bool.and_true, Bool.true_and, Bool.false_and, Bool.and_false, Bool.false_or, Bool.or_false, Bool.true_beq, Bool.false_beq, Int.reduceEq, Int.reduceLT, Int.reduceLE, i1]) | (refine AWp_condC rfl ?_; intro KA KB hKA hKB; try simp only [onB_true, onB_false, onB_dec, onB_ndec, onB_not, onB_and, onB_or]) | (refine AWp_condA rfl ?_ ?_) | with_reducible (first | refine onB_of ?_ ?_ | rfl) | omega)
      all_goals first
        | omega
        | exact keepFz hk (Fz_tu2 (.nil _) (.same _)) (by simp [Bel_tu, Bel_d])
        | exact keepD hk rfl
  · have i1 : ((o.cols.length : Int) = 1) = False := eq_false (by omega)
    have e : opCols o a b = (9, []) := by rw [opCols]; simp [okC, hkind, h1]
    replace hk := hk [] (by rw [opC2, if_neg (by rw [hkind]; decide), e])
    rw [e, List.map_nil] at hk
    refine ACalls_of Tryd.func19 rfl in_19 (Nat.le_of_ble_eq_true rfl) ?_
    intro F hF
    simp (dsimp := false) only [go_sem, Nat.reduceAdd, Nat.reduceBEq, Nat.reduceEqDiff, Nat.reduceLT, Nat.reduceLeDiff, Nat.reduceMul, Int.reduceToNat, reduceCtorEq, ↓reduceIte, Tryd.ntmps19, Tryd.results19, ks_19, mu_19, nd_19, ti_ag3, ti_ag9, ti_ag33, ti_ag48, ti_ag49, ti_ag51, ti_ag78, ti_fl31_0, ti_fl51_0, ti_fl51_1, ti_fl53_0, ti_fl53_2, ti_fl53_3, ti_fl53_4, ti_fl53_5, ti_fl53_6, ti_fl53_7, ti_fl53_8, ti_fl53_9, ti_fl53_10, ti_hb21, ti_hb22, ti_hb40, ti_hb41, ti_hb42, ti_hb43, ti_hb44, ti_sb48, ti_sb49, ti_sb78, ti_sl24, ti_sl48, ti_sl49, ti_sl78, ti_sz33, ti_sz51, strRow, List.map_cons, List.map_nil, not_true_eq_false, not_false_eq_true, Bool.and_true, Bool.true_and, Bool.false_and, Bool.and_false, Bool.false_or, Bool.or_false, Bool.true_beq, Bool.false_beq, Int.reduceEq, Int.reduceLT, Int.reduceLE, i1, in_19] at hF
    subst hF
    repeat' (first | with_reducible (first | refine And.intro ?_ ?_ | intro _ | refine AWp_seq ?_ | refine AWp_block ?_ | (refine hKv _ _ (AWp_nop ?_); clear hKv Kv) | (refine hKA ?_; clear hKA hKB KA KB) | (refine hKB ?_; clear hKA hKB KA KB) | refine AWp_skipN ?_ | refine AWp_exitO (by repeat (first | exact Out.hit | apply Out.thenA | apply Out.out rfl)) ?_) | (with_reducible (first | (refine hKv _ _ ?_; clear hKv Kv) | ((first | refine AWp_regC mu_19 ks_19 ?_ | refine AWp_draw nd_19 mu_19 ks_19 ti_mixed (by kernel_rfl) ?_ | refine AWp_regE mu_19 ks_19 ?_ | refine AWp_drawE nd_19 mu_19 ks_19 ti_mixed (by kernel_rfl) ?_); intro Kv hKv) | refine AWp_retR ?_); try simp (dsimp := false) only [go_sem, Nat.reduceAdd, Nat.reduceBEq, Nat.reduceEqDiff, Nat.reduceLT, Nat.reduceLeDiff, Nat.reduceMul, Int.reduceToNat, reduceCtorEq, ↓reduceIte, Tryd.ntmps19, Tryd.results19, ks_19, mu_19, nd_19, ti_ag3, ti_ag9, ti_ag33, ti_ag48, ti_ag49, ti_ag51, ti_ag78, ti_fl31_0, ti_fl51_0, ti_fl51_1, ti_fl53_0, ti_fl53_2, ti_fl53_3, ti_fl53_4, ti_fl53_5, ti_fl53_6, ti_fl53_7, ti_fl53_8, ti_fl53_9, ti_fl53_10, ti_hb21, ti_hb22, ti_hb40, ti_hb41, ti_hb42, ti_hb43, ti_hb44, ti_sb48, ti_sb49, ti_sb78, ti_sl24, ti_sl48, ti_sl49, ti_sl78, ti_sz33, ti_sz51, strRow, List.map_cons, List.map_nil, not_true_eq_false, not_false_eq_true, Bool.and_true, Bool.true_and, Bool.false_and, Bool.and_false, Bool.false_or, Bool.or_false, Bool.true_beq, Bool.false_beq, Int.reduceEq, Int.reduceLT, Int.reduceLE, i1]) | (refine AWp_condC rfl ?_; intro KA KB hKA hKB; try simp only [onB_true, onB_false, onB_dec, onB_ndec, onB_not, onB_and, onB_or]) | (refine AWp_condA rfl ?_ ?_) | with_reducible (first | refine onB_of ?_ ?_ | rfl) | omega)
    all_goals first
      | omega
      | exact keepFz hk (Fz_tu2 (.nil _) (.same _)) (by simp [Bel_tu, Bel_d])
      | exact keepD hk rfl
end Go.Proofs.YtppalmoicjogaaaDoor
namespace Go.Proofs.YtppalmoicjogaaaDoor
open Go Go.Proofs.YtppalmoicjogaaaDoor.Ab
variable [Glo] [U8]
set_option maxHeartbeats 4000000
set_option maxRecDepth 20000
theorem opCols4_A (o : Opp) (ok : OkO o) (hkind : o.kind = 4) (a b : List (List UInt8)) (ha : OkC a) (hb : OkC b) (H : Heap) (K : V → Heap → Prop) (hk : K (.tu [.d (.sl 1 ((opC2 o a b).map strRow)), .d (.i .i64 (opCols o a b).1)]) H) :
    ACalls Tryd.prog 19 [opV o, .d (.sl 1 (a.map strRow)), .d (.sl 1 (b.map strRow))] H K := by
  rw [opV_k hkind]
  replace hk : ∀ c, c = opC2 o a b → K (.tu [.d (.sl 1 (c.map strRow)), .d (.i .i64 (opCols o a b).1)]) H := fun c hc => by rw [hc]; exact hk
  have hl8a := ha.le8
  have hl8b := hb.le8
  have hn1 := ok.ncols
  have hn2 := ok.nolds
  have hts : ∀ (x y : List (List UInt8)), x.length ≤ 8 → y.length ≤ 8 → ∀ (H : Heap) (K : V → Heap → Prop), K (.d (.sl 1 ((x ++ y).map strRow))) H → ACalls Tryd.prog 21 [.d (.sl 1 [[.sl 1 (x.map strRow)], [.sl 1 (y.map strRow)]])] H K := fun x y hx hy H K hk =>
    texts_A [x, y] (by simp) (by intro l hl; simp only [List.mem_cons, List.not_mem_nil, or_false] at hl; rcases hl with rfl | rfl <;> omega) (by simp; omega) H K (by simpa using hk)
  by_cases h1 : o.cols.length = 2
  · obtain ⟨x, y, hxy⟩ : ∃ x y, o.cols = [x, y] := by rcases hcc : o.cols with _ | ⟨x, _ | ⟨y, _ | _⟩⟩ <;> simp_all
    rw [hxy]
    have hh := hasText_A a x ha.len
    have hg := hasText_A b y hb.len
    cases h2 : decide (x ∈ a) with
    | true =>
      rw [h2] at hh
      cases h3 : decide (y ∈ b) with
      | true =>
        rw [h3] at hg
        have e : opCols o a b = (0, a ++ b) := by have h2 := of_decide_eq_true h2; have h3 := of_decide_eq_true h3; rw [opCols]; simp [okC, hkind, hxy, hasQ, h2, h3]
        replace hk := hk (a ++ b) (by rw [opC2, if_neg (by rw [hkind]; decide), e])
        rw [e] at hk
        refine ACalls_of Tryd.func19 rfl in_19 (Nat.le_of_ble_eq_true rfl) ?_
        intro F hF
        simp (dsimp := false) only [go_sem, Nat.reduceAdd, Nat.reduceBEq, Nat.reduceEqDiff, Nat.reduceLT, Nat.reduceLeDiff, Nat.reduceMul, Int.reduceToNat, reduceCtorEq, ↓reduceIte, Tryd.ntmps19, Tryd.results19, ks_19, mu_19, nd_19, ti_ag3, ti_ag9, ti_ag33, ti_ag48, ti_ag49, ti_ag51, ti_ag78, ti_fl31_0, ti_fl51_0, ti_fl51_1, ti_fl53_0, ti_fl53_2, ti_fl53_3, ti_fl53_4, ti_fl53_5, ti_fl53_6, ti_fl53_7, ti_fl53_8, ti_fl53_9, ti_fl53_10, ti_hb21, ti_hb22, ti_hb40, ti_hb41, ti_hb42, ti_hb43, ti_hb44, ti_sb48, ti_sb49, ti_sb78, ti_sl24, ti_sl48, ti_sl49, ti_sl78, ti_sz33, ti_sz51, strRow, List.map_cons, List.map_nil, not_true_eq_false, not_false_eq_true, Bool.and_true, Bool.true_and, Bool.false_and, Bool.and_false, Bool.false_or, Bool.or_false, Bool.true_beq, Bool.false_beq, Int.reduceEq, Int.reduceLT, Int.reduceLE, in_19] at hF
        subst hF
        repeat' (first | with_reducible (first | refine And.intro ?_ ?_ | intro _ | refine AWp_seq ?_ | refine AWp_block ?_ | (refine hKv _ _ (AWp_nop ?_); clear hKv Kv) | (refine hKA ?_; clear hKA hKB KA KB) | (refine hKB ?_; clear hKA hKB KA KB) | refine AWp_skipN ?_ | refine AWp_exitO (by repeat (first | exact Out.hit | apply Out.thenA | apply Out.out rfl)) ?_) | ((first | with_reducible (first | (refine hKv _ _ ?_; clear hKv Kv) | ((first | refine AWp_regC mu_19 ks_19 ?_ | refine AWp_draw nd_19 mu_19 ks_19 ti_mixed (by kernel_rfl) ?_ | refine AWp_regE mu_19 ks_19 ?_ | refine AWp_drawE nd_19 mu_19 ks_19 ti_mixed (by kernel_rfl) ?_); intro Kv hKv) | refine AWp_retR ?_) | refine hh _ _ ?_ | refine QCall_of (hh _ _ (Two_intro _ _)) ?_ | refine hg _ _ ?_ | refine QCall_of (hg _ _ (Two_intro _ _)) ?_ | refine hts a b hl8a hl8b _ _ ?_ | refine QCall_of (hts a b hl8a hl8b _ _ (Two_intro _ _)) ?_); try simp (dsimp := false) only [go_sem, Nat.reduceAdd, Nat.reduceBEq, Nat.reduceEqDiff, Nat.reduceLT, Nat.reduceLeDiff, Nat.reduceMul, Int.reduceToNat, reduceCtorEq, ↓reduceIte, Tryd.ntmps19, Tryd.results19, ks_19, mu_19, nd_19, ti_ag3, ti_ag9, ti_ag33, ti_ag48, ti_ag49, ti_ag51, ti_ag78, ti_fl31_0, ti_fl51_0, ti_fl51_1, ti_fl53_0, ti_fl53_2, ti_fl53_3, ti_fl53_4, ti_fl53_5, ti_fl53_6, ti_fl53_7, ti_fl53_8, ti_fl53_9, ti_fl53_10, ti_hb21, ti_hb22, ti_hb40, ti_hb41, ti_hb42, ti_hb43, ti_hb44, ti_sb48, ti_sb49, ti_sb78, ti_sl24, ti_sl48, ti_sl49, ti_sl78, ti_sz33, ti_sz51, strRow, List.map_cons, List.map_nil, not_true_eq_false, not_false_eq_true, Bool.and_true, Bool.true_and, Bool.false_and, Bool.and_false, Bool.false_or, Bool.or_false, Bool.true_beq, Bool.false_beq, Int.reduceEq, Int.reduceLT, Int.reduceLE]) | (refine AWp_condC rfl ?_; intro KA KB hKA hKB; try simp only [onB_true, onB_false, onB_dec, onB_ndec, onB_not, onB_and, onB_or]) | (refine AWp_condA rfl ?_ ?_) | with_reducible (first | refine onB_of ?_ ?_ | rfl) | omega)
        all_goals first
          | omega
          | exact keepK hk (by simp [Bel_tu, Bel_d]) rfl
          | exact keepD hk rfl
      | false =>
        rw [h3] at hg
        have e : opCols o a b = (9, []) := by have h2 := of_decide_eq_true h2; have h3 := of_decide_eq_false h3; rw [opCols]; simp [okC, hkind, hxy, hasQ, h2, h3]
        replace hk := hk [] (by rw [opC2, if_neg (by rw [hkind]; decide), e])
        rw [e, List.map_nil] at hk
        refine ACalls_of Tryd.func19 rfl in_19 (Nat.le_of_ble_eq_true rfl) ?_
        intro F hF
        simp (dsimp := false) only [go_sem, Nat.reduceAdd, Nat.reduceBEq, Nat.reduceEqDiff, Nat.reduceLT, Nat.reduceLeDiff, Nat.reduceMul, Int.reduceToNat, reduceCtorEq, ↓reduceIte, Tryd.ntmps19, Tryd.results19, ks_19, mu_19, nd_19, ti_ag3, ti_ag9, ti_ag33, ti_ag48, ti_ag49, ti_ag51, ti_ag78, ti_fl31_0, ti_fl51_0, ti_fl51_1, ti_fl53_0, ti_fl53_2, ti_fl53_3, ti_fl53_4, ti_fl53_5, ti_fl53_6, ti_fl53_7, ti_fl53_8, ti_fl53_9, ti_fl53_10, ti_hb21, ti_hb22, ti_hb40, ti_hb41, ti_hb42, ti_hb43, ti_hb44, ti_sb48, ti_sb49, ti_sb78, ti_sl24, ti_sl48, ti_sl49, ti_sl78, ti_sz33, ti_sz51, strRow, List.map_cons, List.map_nil, not_true_eq_false, not_false_eq_true, Bool.and_true, Bool.true_and, Bool.false_and, Bool.and_false, Bool.false_or, Bool.or_false, Bool.true_beq, Bool.false_beq, Int.reduceEq, Int.reduceLT, Int.reduceLE, in_19] at hF
        subst hF
        repeat' (first | with_reducible (first | refine And.intro ?_ ?_ | intro _ | refine AWp_seq ?_ | refine AWp_block ?_ | (refine hKv _ _ (AWp_nop ?_); clear hKv Kv) | (refine hKA ?_; clear hKA hKB KA KB) | (refine hKB ?_; clear hKA hKB KA KB) | refine AWp_skipN ?_ | refine AWp_exitO (by repeat (first | exact Out.hit | apply Out.thenA | apply Out.out rfl)) ?_) | ((first | with_reducible (first | (refine hKv _ _ ?_; clear hKv Kv) | ((first | refine AWp_regC mu_19 ks_19 ?_ | refine AWp_draw nd_19 mu_19 ks_19 ti_mixed (by kernel_rfl) ?_ | refine AWp_regE mu_19 ks_19 ?_ | refine AWp_drawE nd_19 mu_19 ks_19 ti_mixed (by kernel_rfl) ?_); intro Kv hKv) | refine AWp_retR ?_) | refine hh _ _ ?_ | refine QCall_of (hh _ _ (Two_intro _ _)) ?_ | refine hg _ _ ?_ | refine QCall_of (hg _ _ (Two_intro _ _)) ?_); try simp (dsimp := false) only [go_sem, Nat.reduceAdd, Nat.reduceBEq, Nat.reduceEqDiff, Nat.reduceLT, Nat.reduceLeDiff, Nat.reduceMul, Int.reduceToNat, reduceCtorEq, ↓reduceIte, Tryd.ntmps19, Tryd.results19, ks_19, mu_19, nd_19, ti_ag3, ti_ag9, ti_ag33, ti_ag48, ti_ag49, ti_ag51, ti_ag78, ti_fl31_0, ti_fl51_0, ti_fl51_1, ti_fl53_0, ti_fl53_2, ti_fl53_3, ti_fl53_4, ti_fl53_5, ti_fl53_6, ti_fl53_7, ti_fl53_8, ti_fl53_9, ti_fl53_10, ti_hb21, ti_hb22, ti_hb40, ti_hb41, ti_hb42, ti_hb43, ti_hb44, ti_sb48, ti_sb49, ti_sb78, ti_sl24, ti_sl48, ti_sl49, ti_sl78, ti_sz33, ti_sz51, strRow, List.map_cons, List.map_nil, not_true_eq_false, not_false_eq_true, Bool.and_true, Bool.true_and, Bool.false_and, Bool.and_false, Bool.false_or, Bool.or_false, Bool.true_beq, Bool.false_beq, Int.reduceEq, Int.reduceLT, Int.reduceLE]) | (refine AWp_condC rfl ?_; intro KA KB hKA hKB; try simp only [onB_true, onB_false, onB_dec, onB_ndec, onB_not, onB_and, onB_or]) | (refine AWp_condA rfl ?_ ?_) | with_reducible (first | refine onB_of ?_ ?_ | rfl) | omega)
        all_goals first
          | omega
          | exact keepFz hk (Fz_tu2 (.nil _) (.same _)) (by simp [Bel_tu, Bel_d])
          | exact keepD hk rfl
    | false =>
      rw [h2] at hh
      have e : opCols o a b = (9, []) := by have h2 := of_decide_eq_false h2; rw [opCols]; simp [okC, hkind, hxy, hasQ, h2]
      replace hk := hk [] (by rw [opC2, if_neg (by rw [hkind]; decide), e])
      rw [e, List.map_nil] at hk
      refine ACalls_of Tryd.func19 rfl in_19 (Nat.le_of_ble_eq_true rfl) ?_
      intro F hF
      simp (dsimp := false) only [go_sem, Nat.reduceAdd, Nat.reduceBEq, Nat.reduceEqDiff, Nat.reduceLT, Nat.reduceLeDiff, Nat.reduceMul, Int.reduceToNat, reduceCtorEq, ↓reduceIte, Tryd.ntmps19, Tryd.results19, ks_19, mu_19, nd_19, ti_ag3, ti_ag9, ti_ag33, ti_ag48, ti_ag49, ti_ag51, ti_ag78, ti_fl31_0, ti_fl51_0, ti_fl51_1, ti_fl53_0, ti_fl53_2, ti_fl53_3, ti_fl53_4, ti_fl53_5, ti_fl53_6, ti_fl53_7, ti_fl53_8, ti_fl53_9, ti_fl53_10, ti_hb21, ti_hb22, ti_hb40, ti_hb41, ti_hb42, ti_hb43, ti_hb44, ti_sb48, ti_sb49, ti_sb78, ti_sl24, ti_sl48, ti_sl49, ti_sl78, ti_sz33, ti_sz51, strRow, List.map_cons, List.map_nil, not_true_eq_false, not_false_eq_true, Bool.and_true, Bool.true_and, Bool.false_and, Bool.and_false, Bool.false_or, Bool.or_false, Bool.true_beq, Bool.false_beq, Int.reduceEq, Int.reduceLT, Int.reduceLE, in_19] at hF
      subst hF
      repeat' (first | with_reducible (first | refine And.intro ?_ ?_ | intro _ | refine AWp_seq ?_ | refine AWp_block ?_ | (refine hKv _ _ (AWp_nop ?_); clear hKv Kv) | (refine hKA ?_; clear hKA hKB KA KB) | (refine hKB ?_; clear hKA hKB KA KB) | refine AWp_skipN ?_ | refine AWp_exitO (by repeat (first | exact Out.hit | apply Out.thenA | apply Out.out rfl)) ?_) | ((first | with_reducible (first | (refine hKv _ _ ?_; clear hKv Kv) | ((first | refine AWp_regC mu_19 ks_19 ?_ | refine AWp_draw nd_19 mu_19 ks_19 ti_mixed (by kernel_rfl) ?_ | refine AWp_regE mu_19 ks_19 ?_ | refine AWp_drawE nd_19 mu_19 ks_19 ti_mixed (by kernel_rfl) ?_); intro Kv hKv) | refine AWp_retR ?_) | refine hh _ _ ?_ | refine QCall_of (hh _ _ (Two_intro _ _)) ?_); try simp (dsimp := false) only [go_sem, Nat.reduceAdd, Nat.reduceBEq, Nat.reduceEqDiff, Nat.reduceLT, Nat.reduceLeDiff, Nat.reduceMul, Int.reduceToNat, reduceCtorEq, ↓reduceIte, Tryd.ntmps19, Tryd.results19, ks_19, mu_19, nd_19, ti_ag3, ti_ag9, ti_ag33, ti_ag48, ti_ag49, ti_ag51, ti_ag78, ti_fl31_0, ti_fl51_0, ti_fl51_1, ti_fl53_0, ti_fl53_2, ti_fl53_3, ti_fl53_4, ti_fl53_5, ti_fl53_6, ti_fl53_7, ti_fl53_8, ti_fl53_9, ti_fl53_10, ti_hb21, ti_hb22, ti_hb40, ti_hb41, ti_hb42, ti_hb43, ti_hb44, ti_sb48, ti_sb49, ti_sb78, ti_sl24, ti_sl48, ti_sl49, ti_sl78, ti_sz33, ti_sz51, strRow, List.map_cons, List.map_nil, not_true_eq_false, not_false_eq_true, Bool.and_true, Bool.true_and, Bool.false_and, Bool.and_false, Bool.false_or, Bool.or_false, Bool.true_beq, Bool.false_beq, Int.reduceEq, Int.reduceLT, Int.reduceLE]) | (refine AWp_condC rfl ?_; intro KA KB hKA hKB; try simp only [onB_true, onB_false, onB_dec, onB_ndec, onB_not, onB_and, onB_or]) | (refine AWp_condA rfl ?_ ?_) | with_reducible (first | refine onB_of ?_ ?_ | rfl) | omega)
      all_goals first
        | omega
        | exact keepFz hk (Fz_tu2 (.nil _) (.same _)) (by simp [Bel_tu, Bel_d])
        | exact keepD hk rfl
  · have i1 : ((o.cols.length : Int) = 2) = False := eq_false (by omega)
    have e : opCols o a b = (9, []) := by rw [opCols]; simp [okC, hkind, h1]
    replace hk := hk [] (by rw [opC2, if_neg (by rw [hkind]; decide), e])
    rw [e, List.map_nil] at hk
    refine ACalls_of Tryd.func19 rfl in_19 (Nat.le_of_ble_eq_true rfl) ?_
    intro F hF
    simp (dsimp := false) only [go_sem, Nat.reduceAdd, Nat.reduceBEq, Nat.reduceEqDiff, Nat.reduceLT, Nat.reduceLeDiff, Nat.reduceMul, Int.reduceToNat, reduceCtorEq, ↓reduceIte, Tryd.ntmps19, Tryd.results19, ks_19, mu_19, nd_19, ti_ag3, ti_ag9, ti_ag33, ti_ag48, ti_ag49, ti_ag51, ti_ag78, ti_fl31_0, ti_fl51_0, ti_fl51_1, ti_fl53_0, ti_fl53_2, ti_fl53_3, ti_fl53_4, ti_fl53_5, ti_fl53_6, ti_fl53_7, ti_fl53_8, ti_fl53_9, ti_fl53_10, ti_hb21, ti_hb22, ti_hb40, ti_hb41, ti_hb42, ti_hb43, ti_hb44, ti_sb48, ti_sb49, ti_sb78, ti_sl24, ti_sl48, ti_sl49, ti_sl78, ti_sz33, ti_sz51, strRow, List.map_cons, List.map_nil, not_true_eq_false, not_false_eq_true, Bool.and_true, Bool.true_and, Bool.false_and, Bool.and_false, Bool.false_or, Bool.or_false, Bool.true_beq, Bool.false_beq, Int.reduceEq, Int.reduceLT, Int.reduceLE, i1, in_19] at hF
    subst hF
    repeat' (first | with_reducible (first | refine And.intro ?_ ?_ | intro _ | refine AWp_seq ?_ | refine AWp_block ?_ | (refine hKv _ _ (AWp_nop ?_); clear hKv Kv) | (refine hKA ?_; clear hKA hKB KA KB) | (refine hKB ?_; clear hKA hKB KA KB) | refine AWp_skipN ?_ | refine AWp_exitO (by repeat (first | exact Out.hit | apply Out.thenA | apply Out.out rfl)) ?_) | (with_reducible (first | (refine hKv _ _ ?_; clear hKv Kv) | ((first | refine AWp_regC mu_19 ks_19 ?_ | refine AWp_draw nd_19 mu_19 ks_19 ti_mixed (by kernel_rfl) ?_ | refine AWp_regE mu_19 ks_19 ?_ | refine AWp_drawE nd_19 mu_19 ks_19 ti_mixed (by kernel_rfl) ?_); intro Kv hKv) | refine AWp_retR ?_); try simp (dsimp := false) only [go_sem, Nat.reduceAdd, Nat.reduceBEq, Nat.reduceEqDiff, Nat.reduceLT, Nat.reduceLeDiff, Nat.reduceMul, Int.reduceToNat, reduceCtorEq, ↓reduceIte, Tryd.ntmps19, Tryd.results19, ks_19, mu_19, nd_19, ti_ag3, ti_ag9, ti_ag33, ti_ag48, ti_ag49, ti_ag51, ti_ag78, ti_fl31_0, ti_fl51_0, ti_fl51_1, ti_fl53_0, ti_fl53_2, ti_fl53_3, ti_fl53_4, ti_fl53_5, ti_fl53_6, ti_fl53_7, ti_fl53_8, ti_fl53_9, ti_fl53_10, ti_hb21, ti_hb22, ti_hb40, ti_hb41, ti_hb42, ti_hb43, ti_hb44, ti_sb48, ti_sb49, ti_sb78, ti_sl24, ti_sl48, ti_sl49, ti_sl78, ti_sz33, ti_sz51, strRow, List.map_cons, List.map_nil, not_true_eq_false, not_false_eq_true, Bool.and_true, Bool.true_and, Bool.false_and, Bool.and_false, Bool.false_or, Bool.or_false, Bool.true_beq, Bool.false_beq, Int.reduceEq, Int.reduceLT, Int.reduceLE, i1]) | (refine AWp_condC rfl ?_; intro KA KB hKA hKB; try simp only [onB_true, onB_false, onB_dec, onB_ndec, onB_not, onB_and, onB_or]) | (refine AWp_condA rfl ?_ ?_) | with_reducible (first | refine onB_of ?_ ?_ | rfl) | omega)
    all_goals first
      | omega
      | exact keepFz hk (Fz_tu2 (.nil _) (.same _)) (by simp [Bel_tu, Bel_d])
      | exact keepD hk rfl
end Go.Proofs.YtppalmoicjogaaaDoor
namespace Go.Proofs.YtppalmoicjogaaaDoor
open Go Go.Proofs.YtppalmoicjogaaaDoor.Ab
variable [Glo] [U8]
set_option maxHeartbeats 4000000
set_option maxRecDepth 20000
theorem opCols5_A (o : Opp) (ok : OkO o) (hkind : o.kind = 5) (a b : List (List UInt8)) (ha : OkC a) (hb : OkC b) (H : Heap) (K : V → Heap → Prop) (hk : K (.tu [.d (.sl 1 ((opC2 o a b).map strRow)), .d (.i .i64 (opCols o a b).1)]) H) :
    ACalls Tryd.prog 19 [opV o, .d (.sl 1 (a.map strRow)), .d (.sl 1 (b.map strRow))] H K := by
  rw [opV_k hkind]
  replace hk : ∀ c, c = opC2 o a b → K (.tu [.d (.sl 1 (c.map strRow)), .d (.i .i64 (opCols o a b).1)]) H := fun c hc => by rw [hc]; exact hk
  have hl8a := ha.le8
  have hl8b := hb.le8
  have hn1 := ok.ncols
  have hn2 := ok.nolds
  have hts : ∀ (x y : List (List UInt8)), x.length ≤ 8 → y.length ≤ 8 → ∀ (H : Heap) (K : V → Heap → Prop), K (.d (.sl 1 ((x ++ y).map strRow))) H → ACalls Tryd.prog 21 [.d (.sl 1 [[.sl 1 (x.map strRow)], [.sl 1 (y.map strRow)]])] H K := fun x y hx hy H K hk =>
    texts_A [x, y] (by simp) (by intro l hl; simp only [List.mem_cons, List.not_mem_nil, or_false] at hl; rcases hl with rfl | rfl <;> omega) (by simp; omega) H K (by simpa using hk)
  have e : opCols o a b = (0, a ++ b) := by rw [opCols]; simp [okC, hkind]
  replace hk := hk (a ++ b) (by rw [opC2, if_neg (by rw [hkind]; decide), e])
  rw [e] at hk
  refine ACalls_of Tryd.func19 rfl in_19 (Nat.le_of_ble_eq_true rfl) ?_
  intro F hF
  simp (dsimp := false) only [go_sem, Nat.reduceAdd, Nat.reduceBEq, Nat.reduceEqDiff, Nat.reduceLT, Nat.reduceLeDiff, Nat.reduceMul, Int.reduceToNat, reduceCtorEq, ↓reduceIte, Tryd.ntmps19, Tryd.results19, ks_19, mu_19, nd_19, ti_ag3, ti_ag9, ti_ag33, ti_ag48, ti_ag49, ti_ag51, ti_ag78, ti_fl31_0, ti_fl51_0, ti_fl51_1, ti_fl53_0, ti_fl53_2, ti_fl53_3, ti_fl53_4, ti_fl53_5, ti_fl53_6, ti_fl53_7, ti_fl53_8, ti_fl53_9, ti_fl53_10, ti_hb21, ti_hb22, ti_hb40, ti_hb41, ti_hb42, ti_hb43, ti_hb44, ti_sb48, ti_sb49, ti_sb78, ti_sl24, ti_sl48, ti_sl49, ti_sl78, ti_sz33, ti_sz51, strRow, List.map_cons, List.map_nil, not_true_eq_false, not_false_eq_true, Bool.and_true, Bool.true_and, Bool.false_and, Bool.and_false, Bool.false_or, Bool.or_false, Bool.true_beq, Bool.false_beq, Int.reduceEq, Int.reduceLT, Int.reduceLE, in_19] at hF
  subst hF
  repeat' (first | with_reducible (first | refine And.intro ?_ ?_ | intro _ | refine AWp_seq ?_ | refine AWp_block ?_ | (refine hKv _ _ (AWp_nop ?_); clear hKv Kv) | (refine hKA ?_; clear hKA hKB KA KB) | (refine hKB ?_; clear hKA hKB KA KB) | refine AWp_skipN ?_ | refine AWp_exitO (by repeat (first | exact Out.hit | apply Out.thenA | apply Out.out rfl)) ?_) | ((first | with_reducible (first | (refine hKv _ _ ?_; clear hKv Kv) | ((first | refine AWp_regC mu_19 ks_19 ?_ | refine AWp_draw nd_19 mu_19 ks_19 ti_mixed (by kernel_rfl) ?_ | refine AWp_regE mu_19 ks_19 ?_ | refine AWp_drawE nd_19 mu_19 ks_19 ti_mixed (by kernel_rfl) ?_); intro Kv hKv) | refine AWp_retR ?_) | refine hts a b hl8a hl8b _ _ ?_ | refine QCall_of (hts a b hl8a hl8b _ _ (Two_intro _ _)) ?_); try simp (dsimp := false) only [go_sem, Nat.reduceAdd, Nat.reduceBEq, Nat.reduceEqDiff, Nat.reduceLT, Nat.reduceLeDiff, Nat.reduceMul, Int.reduceToNat, reduceCtorEq, ↓reduceIte, Tryd.ntmps19, Tryd.results19, ks_19, mu_19, nd_19, ti_ag3, ti_ag9, ti_ag33, ti_ag48, ti_ag49, ti_ag51, ti_ag78, ti_fl31_0, ti_fl51_0, ti_fl51_1, ti_fl53_0, ti_fl53_2, ti_fl53_3, ti_fl53_4, ti_fl53_5, ti_fl53_6, ti_fl53_7, ti_fl53_8, ti_fl53_9, ti_fl53_10, ti_hb21, ti_hb22, ti_hb40, ti_hb41, ti_hb42, ti_hb43, ti_hb44, ti_sb48, ti_sb49, ti_sb78, ti_sl24, ti_sl48, ti_sl49, ti_sl78, ti_sz33, ti_sz51, strRow, List.map_cons, List.map_nil, not_true_eq_false, not_false_eq_true, Bool.and_true, Bool.true_and, Bool.false_and, Bool.and_false, Bool.false_or, Bool.or_false, Bool.true_beq, Bool.false_beq, Int.reduceEq, Int.reduceLT, Int.reduceLE]) | (refine AWp_condC rfl ?_; intro KA KB hKA hKB; try simp only [onB_true, onB_false, onB_dec, onB_ndec, onB_not, onB_and, onB_or]) | (refine AWp_condA rfl ?_ ?_) | with_reducible (first | refine onB_of ?_ ?_ | rfl) | omega)
  all_goals first
    | omega
    | exact keepK hk (by simp [Bel_tu, Bel_d]) rfl
    | exact keepD hk rfl
end Go.Proofs.YtppalmoicjogaaaDoor
