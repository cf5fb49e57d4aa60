/- Plans: the reference's opCols, kinds 1 and 6. No condition but that the tables of package unicode/utf8 are there. -/
import Derived.Test.YtppalmoicjogaaaDoorR41
set_option linter.all false
set_option linter.unusedSimpArgs false
set_option linter.unusedVariables false
namespace Go.Proofs.YtppalmoicjogaaaDoor
open Go Go.Proofs.YtppalmoicjogaaaDoor.Ab
variable [Glo] [U8]
set_option maxHeartbeats 4000000
set_option maxRecDepth 20000
theorem opCols6_A (o : Opp) (ok : OkO o) (hkind : o.kind = 6) (a b : List (List UInt8)) (ha : OkC a) (hb : OkC b) (H : Heap) (K : V → Heap → Prop) (hk : K (.tu [.d (.sl 1 ((opC2 o a b).map strRow)), .d (.i .i64 (opCols o a b).1)]) H) :
    ACalls Tryd.prog 19 [opV o, .d (.sl 1 (a.map strRow)), .d (.sl 1 (b.map strRow))] H K := by
  rw [opV_k hkind]
  replace hk : ∀ c, c = (opCols o a b).2 → K (.tu [.d (.sl 1 (c.map strRow)), .d (.i .i64 (opCols o a b).1)]) H := fun c hc => by
    rw [opC2, if_neg (by rw [hkind]; decide)] at hk
    rw [hc]; exact hk
  have hl8a := ha.le8
  have hl8b := hb.le8
  have hn1 := ok.ncols
  have hE : opCols o a b = okC (decide (a = b)) a := by rw [opCols]; simp [hkind]
  rw [hE] at hk
  have hbad : a ≠ b → K (.tu [.d (.sl 1 []), .d (.i .i64 9)]) H := fun h => by
    rw [decide_eq_false h] at hk
    exact hk [] rfl
  by_cases h1 : a.length = b.length
  case neg =>
    have i1 : ((a.length : Int) = (b.length : Int)) = False := eq_false (by omega)
    have hk := hbad (fun e => h1 (by rw [e]))
    refine ACalls_of Tryd.func19 rfl in_19 (Nat.le_of_ble_eq_true rfl) ?_
    intro F hF
    simp (dsimp := false) only [go_sem, Nat.reduceAdd, Nat.reduceBEq, Nat.reduceEqDiff, Nat.reduceLT, Nat.reduceLeDiff, Nat.reduceMul, Int.reduceToNat, reduceCtorEq, ↓reduceIte, Tryd.ntmps19, Tryd.results19, ks_19, mu_19, nd_19, ti_ag3, ti_ag9, ti_ag33, ti_ag48, ti_ag49, ti_ag51, ti_ag78, ti_fl31_0, ti_fl51_0, ti_fl51_1, ti_fl53_0, ti_fl53_2, ti_fl53_3, ti_fl53_4, ti_fl53_5, ti_fl53_6, ti_fl53_7, ti_fl53_8, ti_fl53_9, ti_fl53_10, ti_hb21, ti_hb22, ti_hb40, ti_hb41, ti_hb42, ti_hb43, ti_hb44, ti_sb48, ti_sb49, ti_sb78, ti_sl24, ti_sl48, ti_sl49, ti_sl78, ti_sz33, ti_sz51, strRow, i1, Int.reduceEq, Int.reduceLT, in_19] at hF
    subst hF
    repeat' (first | with_reducible (first | refine And.intro ?_ ?_ | intro _ | refine AWp_seq ?_ | refine AWp_block ?_ | (refine hKv _ _ (AWp_nop ?_); clear hKv Kv) | (refine hKA ?_; clear hKA hKB KA KB) | (refine hKB ?_; clear hKA hKB KA KB) | refine AWp_skipN ?_ | refine AWp_exitO (by repeat (first | exact Out.hit | apply Out.thenA | apply Out.out rfl)) ?_) | (with_reducible (first | (refine hKv _ _ ?_; clear hKv Kv) | ((first | refine AWp_regC mu_19 ks_19 ?_ | refine AWp_draw nd_19 mu_19 ks_19 ti_mixed (by kernel_rfl) ?_ | refine AWp_regE mu_19 ks_19 ?_ | refine AWp_drawE nd_19 mu_19 ks_19 ti_mixed (by kernel_rfl) ?_); intro Kv hKv) | refine AWp_retR ?_); try simp (dsimp := false) only [go_sem, Nat.reduceAdd, Nat.reduceBEq, Nat.reduceEqDiff, Nat.reduceLT, Nat.reduceLeDiff, Nat.reduceMul, Int.reduceToNat, reduceCtorEq, ↓reduceIte, Tryd.ntmps19, Tryd.results19, ks_19, mu_19, nd_19, ti_ag3, ti_ag9, ti_ag33, ti_ag48, ti_ag49, ti_ag51, ti_ag78, ti_fl31_0, ti_fl51_0, ti_fl51_1, ti_fl53_0, ti_fl53_2, ti_fl53_3, ti_fl53_4, ti_fl53_5, ti_fl53_6, ti_fl53_7, ti_fl53_8, ti_fl53_9, ti_fl53_10, ti_hb21, ti_hb22, ti_hb40, ti_hb41, ti_hb42, ti_hb43, ti_hb44, ti_sb48, ti_sb49, ti_sb78, ti_sl24, ti_sl48, ti_sl49, ti_sl78, ti_sz33, ti_sz51, strRow, i1, Int.reduceEq, Int.reduceLT]) | (refine AWp_condC rfl ?_; intro KA KB hKA hKB; try simp only [onB_true, onB_false, onB_dec, onB_ndec, onB_not, onB_and, onB_or]) | (refine AWp_condA rfl ?_ ?_) | with_reducible (first | refine onB_of ?_ ?_ | rfl) | omega)
    all_goals first
      | omega
      | exact keepFz hk (Fz_tu2 (.nil _) (.same _)) (by simp [Bel_tu, Bel_d])
  have i1 : ((a.length : Int) = (b.length : Int)) = True := eq_true (by omega)
  refine ACalls_of Tryd.func19 rfl in_19 (Nat.le_of_ble_eq_true rfl) ?_
  intro F hF
  simp (dsimp := false) only [go_sem, Nat.reduceAdd, Nat.reduceBEq, Nat.reduceEqDiff, Nat.reduceLT, Nat.reduceLeDiff, Nat.reduceMul, Int.reduceToNat, reduceCtorEq, ↓reduceIte, Tryd.ntmps19, Tryd.results19, ks_19, mu_19, nd_19, ti_ag3, ti_ag9, ti_ag33, ti_ag48, ti_ag49, ti_ag51, ti_ag78, ti_fl31_0, ti_fl51_0, ti_fl51_1, ti_fl53_0, ti_fl53_2, ti_fl53_3, ti_fl53_4, ti_fl53_5, ti_fl53_6, ti_fl53_7, ti_fl53_8, ti_fl53_9, ti_fl53_10, ti_hb21, ti_hb22, ti_hb40, ti_hb41, ti_hb42, ti_hb43, ti_hb44, ti_sb48, ti_sb49, ti_sb78, ti_sl24, ti_sl48, ti_sl49, ti_sl78, ti_sz33, ti_sz51, strRow, i1, Int.reduceEq, Int.reduceLT, in_19] at hF
  subst hF
  repeat' (first | with_reducible (first | refine And.intro ?_ ?_ | intro _ | refine AWp_seq ?_ | refine AWp_block ?_ | (refine hKv _ _ (AWp_nop ?_); clear hKv Kv) | (refine hKA ?_; clear hKA hKB KA KB) | (refine hKB ?_; clear hKA hKB KA KB) | refine AWp_skipN ?_ | refine AWp_exitO (by repeat (first | exact Out.hit | apply Out.thenA | apply Out.out rfl)) ?_) | (with_reducible (first | (refine hKv _ _ ?_; clear hKv Kv) | ((first | refine AWp_regC mu_19 ks_19 ?_ | refine AWp_draw nd_19 mu_19 ks_19 ti_mixed (by kernel_rfl) ?_ | refine AWp_regE mu_19 ks_19 ?_ | refine AWp_drawE nd_19 mu_19 ks_19 ti_mixed (by kernel_rfl) ?_); intro Kv hKv) | refine AWp_retR ?_); try simp (dsimp := false) only [go_sem, Nat.reduceAdd, Nat.reduceBEq, Nat.reduceEqDiff, Nat.reduceLT, Nat.reduceLeDiff, Nat.reduceMul, Int.reduceToNat, reduceCtorEq, ↓reduceIte, Tryd.ntmps19, Tryd.results19, ks_19, mu_19, nd_19, ti_ag3, ti_ag9, ti_ag33, ti_ag48, ti_ag49, ti_ag51, ti_ag78, ti_fl31_0, ti_fl51_0, ti_fl51_1, ti_fl53_0, ti_fl53_2, ti_fl53_3, ti_fl53_4, ti_fl53_5, ti_fl53_6, ti_fl53_7, ti_fl53_8, ti_fl53_9, ti_fl53_10, ti_hb21, ti_hb22, ti_hb40, ti_hb41, ti_hb42, ti_hb43, ti_hb44, ti_sb48, ti_sb49, ti_sb78, ti_sl24, ti_sl48, ti_sl49, ti_sl78, ti_sz33, ti_sz51, strRow, i1, Int.reduceEq, Int.reduceLT]) | (refine AWp_condC rfl ?_; intro KA KB hKA hKB; try simp only [onB_true, onB_false, onB_dec, onB_ndec, onB_not, onB_and, onB_or]) | (refine AWp_condA rfl ?_ ?_) | with_reducible (first | refine onB_of ?_ ?_ | rfl) | omega)
  refine AWp_while0 (fun i : Nat => i ≤ a.length ∧ a.take i = b.take i) (fun i => [(1, .d (.sl 1 (a.map strRow))), (2, .d (.sl 1 (b.map strRow))), (12, .d (.i .i64 i))]) (fun i => a.length - i) 0 ⟨Nat.zero_le _, rfl⟩ ?_ ?_
  · simp (dsimp := false) only [go_sem, Nat.reduceAdd, Nat.reduceBEq, Nat.reduceEqDiff, Nat.reduceLT, Nat.reduceLeDiff, Nat.reduceMul, Int.reduceToNat, reduceCtorEq, ↓reduceIte, Tryd.ntmps19, Tryd.results19, ks_19, mu_19, nd_19, ti_ag3, ti_ag9, ti_ag33, ti_ag48, ti_ag49, ti_ag51, ti_ag78, ti_fl31_0, ti_fl51_0, ti_fl51_1, ti_fl53_0, ti_fl53_2, ti_fl53_3, ti_fl53_4, ti_fl53_5, ti_fl53_6, ti_fl53_7, ti_fl53_8, ti_fl53_9, ti_fl53_10, ti_hb21, ti_hb22, ti_hb40, ti_hb41, ti_hb42, ti_hb43, ti_hb44, ti_sb48, ti_sb49, ti_sb78, ti_sl24, ti_sl48, ti_sl49, ti_sl78, ti_sz33, ti_sz51, strRow, i1, Int.reduceEq, Int.reduceLT]
    first | done | simp
  rintro i ⟨hi, hv⟩
  by_cases hil : i < a.length
  · obtain ⟨x, hx⟩ : ∃ x, a[i]? = some x := ⟨a[i], List.getElem?_eq_getElem hil⟩
    obtain ⟨y, hy⟩ : ∃ y, b[i]? = some y := ⟨b[i]'(by omega), List.getElem?_eq_getElem (by omega)⟩
    have t1 : ((i : Int) < (a.length : Int)) = True := eq_true (by omega)
    have t2 : ((0 : Int) ≤ (i : Int)) = True := eq_true (by omega)
    have t3 : ((i : Int) < (b.length : Int)) = True := eq_true (by omega)
    by_cases hxy : x = y
    · have t4 : (x = y) = True := eq_true hxy
      repeat' (first | with_reducible (first | refine And.intro ?_ ?_ | intro _ | refine AWp_seq ?_ | refine AWp_block ?_ | (refine hKv _ _ (AWp_nop ?_); clear hKv Kv) | (refine hKA ?_; clear hKA hKB KA KB) | (refine hKB ?_; clear hKA hKB KA KB) | refine AWp_skipN ?_ | refine AWp_exitO (by repeat (first | exact Out.hit | apply Out.thenA | apply Out.out rfl)) ?_) | (with_reducible (first | (refine hKv _ _ ?_; clear hKv Kv) | ((first | refine AWp_regC mu_19 ks_19 ?_ | refine AWp_draw nd_19 mu_19 ks_19 ti_mixed (by kernel_rfl) ?_ | refine AWp_regE mu_19 ks_19 ?_ | refine AWp_drawE nd_19 mu_19 ks_19 ti_mixed (by kernel_rfl) ?_); intro Kv hKv) | refine AWp_retR ?_); try simp (dsimp := false) only [go_sem, Nat.reduceAdd, Nat.reduceBEq, Nat.reduceEqDiff, Nat.reduceLT, Nat.reduceLeDiff, Nat.reduceMul, Int.reduceToNat, reduceCtorEq, ↓reduceIte, Tryd.ntmps19, Tryd.results19, ks_19, mu_19, nd_19, ti_ag3, ti_ag9, ti_ag33, ti_ag48, ti_ag49, ti_ag51, ti_ag78, ti_fl31_0, ti_fl51_0, ti_fl51_1, ti_fl53_0, ti_fl53_2, ti_fl53_3, ti_fl53_4, ti_fl53_5, ti_fl53_6, ti_fl53_7, ti_fl53_8, ti_fl53_9, ti_fl53_10, ti_hb21, ti_hb22, ti_hb40, ti_hb41, ti_hb42, ti_hb43, ti_hb44, ti_sb48, ti_sb49, ti_sb78, ti_sl24, ti_sl48, ti_sl49, ti_sl78, ti_sz33, ti_sz51, strRow, hx, hy, t1, t2, t3, t4]) | (refine AWp_condC rfl ?_; intro KA KB hKA hKB; try simp only [onB_true, onB_false, onB_dec, onB_ndec, onB_not, onB_and, onB_or]) | (refine AWp_condA rfl ?_ ?_) | with_reducible (first | refine onB_of ?_ ?_ | rfl) | omega)
      all_goals first
        | omega
        | exact ⟨i + 1, ⟨by omega, by rw [take_of_get hx, take_of_get hy, hv, hxy]⟩, by omega, by omega⟩
    · have t4 : (x = y) = False := eq_false hxy
      have hk := hbad (fun e => hxy (Option.some.inj (hx.symm.trans ((congrArg (·[i]?) e).trans hy))))
      repeat' (first | with_reducible (first | refine And.intro ?_ ?_ | intro _ | refine AWp_seq ?_ | refine AWp_block ?_ | (refine hKv _ _ (AWp_nop ?_); clear hKv Kv) | (refine hKA ?_; clear hKA hKB KA KB) | (refine hKB ?_; clear hKA hKB KA KB) | refine AWp_skipN ?_ | refine AWp_exitO (by repeat (first | exact Out.hit | apply Out.thenA | apply Out.out rfl)) ?_) | (with_reducible (first | (refine hKv _ _ ?_; clear hKv Kv) | ((first | refine AWp_regC mu_19 ks_19 ?_ | refine AWp_draw nd_19 mu_19 ks_19 ti_mixed (by kernel_rfl) ?_ | refine AWp_regE mu_19 ks_19 ?_ | refine AWp_drawE nd_19 mu_19 ks_19 ti_mixed (by kernel_rfl) ?_); intro Kv hKv) | refine AWp_retR ?_); try simp (dsimp := false) only [go_sem, Nat.reduceAdd, Nat.reduceBEq, Nat.reduceEqDiff, Nat.reduceLT, Nat.reduceLeDiff, Nat.reduceMul, Int.reduceToNat, reduceCtorEq, ↓reduceIte, Tryd.ntmps19, Tryd.results19, ks_19, mu_19, nd_19, ti_ag3, ti_ag9, ti_ag33, ti_ag48, ti_ag49, ti_ag51, ti_ag78, ti_fl31_0, ti_fl51_0, ti_fl51_1, ti_fl53_0, ti_fl53_2, ti_fl53_3, ti_fl53_4, ti_fl53_5, ti_fl53_6, ti_fl53_7, ti_fl53_8, ti_fl53_9, ti_fl53_10, ti_hb21, ti_hb22, ti_hb40, ti_hb41, ti_hb42, ti_hb43, ti_hb44, ti_sb48, ti_sb49, ti_sb78, ti_sl24, ti_sl48, ti_sl49, ti_sl78, ti_sz33, ti_sz51, strRow, hx, hy, t1, t2, t3, t4]) | (refine AWp_condC rfl ?_; intro KA KB hKA hKB; try simp only [onB_true, onB_false, onB_dec, onB_ndec, onB_not, onB_and, onB_or]) | (refine AWp_condA rfl ?_ ?_) | with_reducible (first | refine onB_of ?_ ?_ | rfl) | omega)
      all_goals first
        | omega
        | exact keepFz hk (Fz_tu2 (.nil _) (.same _)) (by simp [Bel_tu, Bel_d])
  · have t1 : ((i : Int) < (a.length : Int)) = False := eq_false (by omega)
    have hab : a = b := by
      rw [List.take_of_length_le (by omega), List.take_of_length_le (by omega)] at hv
      exact hv
    rw [decide_eq_true hab] at hk
    replace hk := hk a rfl
    repeat' (first | with_reducible (first | refine And.intro ?_ ?_ | intro _ | refine AWp_seq ?_ | refine AWp_block ?_ | (refine hKv _ _ (AWp_nop ?_); clear hKv Kv) | (refine hKA ?_; clear hKA hKB KA KB) | (refine hKB ?_; clear hKA hKB KA KB) | refine AWp_skipN ?_ | refine AWp_exitO (by repeat (first | exact Out.hit | apply Out.thenA | apply Out.out rfl)) ?_) | (with_reducible (first | (refine hKv _ _ ?_; clear hKv Kv) | ((first | refine AWp_regC mu_19 ks_19 ?_ | refine AWp_draw nd_19 mu_19 ks_19 ti_mixed (by kernel_rfl) ?_ | refine AWp_regE mu_19 ks_19 ?_ | refine AWp_drawE nd_19 mu_19 ks_19 ti_mixed (by kernel_rfl) ?_); intro Kv hKv) | refine AWp_retR ?_); try simp (dsimp := false) only [go_sem, Nat.reduceAdd, Nat.reduceBEq, Nat.reduceEqDiff, Nat.reduceLT, Nat.reduceLeDiff, Nat.reduceMul, Int.reduceToNat, reduceCtorEq, ↓reduceIte, Tryd.ntmps19, Tryd.results19, ks_19, mu_19, nd_19, ti_ag3, ti_ag9, ti_ag33, ti_ag48, ti_ag49, ti_ag51, ti_ag78, ti_fl31_0, ti_fl51_0, ti_fl51_1, ti_fl53_0, ti_fl53_2, ti_fl53_3, ti_fl53_4, ti_fl53_5, ti_fl53_6, ti_fl53_7, ti_fl53_8, ti_fl53_9, ti_fl53_10, ti_hb21, ti_hb22, ti_hb40, ti_hb41, ti_hb42, ti_hb43, ti_hb44, ti_sb48, ti_sb49, ti_sb78, ti_sl24, ti_sl48, ti_sl49, ti_sl78, ti_sz33, ti_sz51, strRow, t1]) | (refine AWp_condC rfl ?_; intro KA KB hKA hKB; try simp only [onB_true, onB_false, onB_dec, onB_ndec, onB_not, onB_and, onB_or]) | (refine AWp_condA rfl ?_ ?_) | with_reducible (first | refine onB_of ?_ ?_ | rfl) | omega)
    all_goals first
      | omega
      | exact keepK hk (by simp [Bel_tu, Bel_d]) rfl
theorem opCols1_A (o : Opp) (ok : OkO o) (hkind : o.kind = 1) (a b : List (List UInt8)) (ins : V) (ins' : V) (H : Heap) (K : V → Heap → Prop) (hk : K (.tu [.d (.sl 1 ((opC2 o a b).map strRow)), .d (.i .i64 (opCols o a b).1)]) H) :
    ACalls Tryd.prog 19 [opV o, .d (.sl 1 (a.map strRow)), .d (.sl 1 (b.map strRow))] H K := by
  rw [opV_k hkind]
  replace hk : ∀ c, c = (opCols o a b).2 → K (.tu [.d (.sl 1 (c.map strRow)), .d (.i .i64 (opCols o a b).1)]) H := fun c hc => by
    rw [opC2, if_neg (by rw [hkind]; decide)] at hk
    rw [hc]; exact hk
  have hE : opCols o a b = if relFault o.rel ≠ 0 then (relFault o.rel, []) else if nodeIn o.rel = true then (12, []) else (0, o.rel.cols) := by rw [opCols]; simp [hkind]
  rw [hE] at hk
  have hcols := ok.ncols
  have hrf := relFault_A o.rel ok.rel
  by_cases h0 : relFault o.rel = 0
  case neg =>
    have i0 : (relFault o.rel = 0) = False := eq_false h0
    rw [if_pos h0] at hk
    replace hk := hk [] rfl
    refine ACalls_of Tryd.func19 rfl in_19 (Nat.le_of_ble_eq_true rfl) ?_
    intro F hF
    simp (dsimp := false) only [go_sem, Nat.reduceAdd, Nat.reduceBEq, Nat.reduceEqDiff, Nat.reduceLT, Nat.reduceLeDiff, Nat.reduceMul, Int.reduceToNat, reduceCtorEq, ↓reduceIte, Tryd.ntmps19, Tryd.results19, ks_19, mu_19, nd_19, ti_ag3, ti_ag9, ti_ag33, ti_ag48, ti_ag49, ti_ag51, ti_ag78, ti_fl31_0, ti_fl51_0, ti_fl51_1, ti_fl53_0, ti_fl53_2, ti_fl53_3, ti_fl53_4, ti_fl53_5, ti_fl53_6, ti_fl53_7, ti_fl53_8, ti_fl53_9, ti_fl53_10, ti_hb21, ti_hb22, ti_hb40, ti_hb41, ti_hb42, ti_hb43, ti_hb44, ti_sb48, ti_sb49, ti_sb78, ti_sl24, ti_sl48, ti_sl49, ti_sl78, ti_sz33, ti_sz51, strRow, rlV, i0, Int.reduceEq, Int.reduceLT, in_19] at hF
    subst hF
    repeat' (first | with_reducible (first | refine And.intro ?_ ?_ | intro _ | refine AWp_seq ?_ | refine AWp_block ?_ | (refine hKv _ _ (AWp_nop ?_); clear hKv Kv) | (refine hKA ?_; clear hKA hKB KA KB) | (refine hKB ?_; clear hKA hKB KA KB) | refine AWp_skipN ?_ | refine AWp_exitO (by repeat (first | exact Out.hit | apply Out.thenA | apply Out.out rfl)) ?_) | ((first | with_reducible (first | (refine hKv _ _ ?_; clear hKv Kv) | ((first | refine AWp_regC mu_19 ks_19 ?_ | refine AWp_draw nd_19 mu_19 ks_19 ti_mixed (by kernel_rfl) ?_ | refine AWp_regE mu_19 ks_19 ?_ | refine AWp_drawE nd_19 mu_19 ks_19 ti_mixed (by kernel_rfl) ?_); intro Kv hKv) | refine AWp_retR ?_) | refine hrf _ _ ?_ | refine QCall_of (hrf _ _ (Two_intro _ _)) ?_); try simp (dsimp := false) only [go_sem, Nat.reduceAdd, Nat.reduceBEq, Nat.reduceEqDiff, Nat.reduceLT, Nat.reduceLeDiff, Nat.reduceMul, Int.reduceToNat, reduceCtorEq, ↓reduceIte, Tryd.ntmps19, Tryd.results19, ks_19, mu_19, nd_19, ti_ag3, ti_ag9, ti_ag33, ti_ag48, ti_ag49, ti_ag51, ti_ag78, ti_fl31_0, ti_fl51_0, ti_fl51_1, ti_fl53_0, ti_fl53_2, ti_fl53_3, ti_fl53_4, ti_fl53_5, ti_fl53_6, ti_fl53_7, ti_fl53_8, ti_fl53_9, ti_fl53_10, ti_hb21, ti_hb22, ti_hb40, ti_hb41, ti_hb42, ti_hb43, ti_hb44, ti_sb48, ti_sb49, ti_sb78, ti_sl24, ti_sl48, ti_sl49, ti_sl78, ti_sz33, ti_sz51, strRow, rlV, i0, Int.reduceEq, Int.reduceLT]) | (refine AWp_condC rfl ?_; intro KA KB hKA hKB; try simp only [onB_true, onB_false, onB_dec, onB_ndec, onB_not, onB_and, onB_or]) | (refine AWp_condA rfl ?_ ?_) | with_reducible (first | refine onB_of ?_ ?_ | rfl) | omega)
    all_goals first
      | omega
      | exact keepFz hk (Fz_tu2 (.nil _) (.same _)) (by simp [Bel_tu, Bel_d])
  rw [if_neg (by simpa using h0)] at hk
  rw [h0] at hrf
  have hnr := ok.rel.nrows
  have hbad : nodeIn o.rel = true → K (.tu [.d (.sl 1 []), .d (.i .i64 12)]) H := fun h => by
    rw [if_pos h] at hk
    exact hk [] rfl
  refine ACalls_of Tryd.func19 rfl in_19 (Nat.le_of_ble_eq_true rfl) ?_
  intro F hF
  simp (dsimp := false) only [go_sem, Nat.reduceAdd, Nat.reduceBEq, Nat.reduceEqDiff, Nat.reduceLT, Nat.reduceLeDiff, Nat.reduceMul, Int.reduceToNat, reduceCtorEq, ↓reduceIte, Tryd.ntmps19, Tryd.results19, ks_19, mu_19, nd_19, ti_ag3, ti_ag9, ti_ag33, ti_ag48, ti_ag49, ti_ag51, ti_ag78, ti_fl31_0, ti_fl51_0, ti_fl51_1, ti_fl53_0, ti_fl53_2, ti_fl53_3, ti_fl53_4, ti_fl53_5, ti_fl53_6, ti_fl53_7, ti_fl53_8, ti_fl53_9, ti_fl53_10, ti_hb21, ti_hb22, ti_hb40, ti_hb41, ti_hb42, ti_hb43, ti_hb44, ti_sb48, ti_sb49, ti_sb78, ti_sl24, ti_sl48, ti_sl49, ti_sl78, ti_sz33, ti_sz51, strRow, rlV, Int.reduceEq, Int.reduceLT, in_19] at hF
  subst hF
  repeat' (first | with_reducible (first | refine And.intro ?_ ?_ | intro _ | refine AWp_seq ?_ | refine AWp_block ?_ | (refine hKv _ _ (AWp_nop ?_); clear hKv Kv) | (refine hKA ?_; clear hKA hKB KA KB) | (refine hKB ?_; clear hKA hKB KA KB) | refine AWp_skipN ?_ | refine AWp_exitO (by repeat (first | exact Out.hit | apply Out.thenA | apply Out.out rfl)) ?_) | ((first | with_reducible (first | (refine hKv _ _ ?_; clear hKv Kv) | ((first | refine AWp_regC mu_19 ks_19 ?_ | refine AWp_draw nd_19 mu_19 ks_19 ti_mixed (by kernel_rfl) ?_ | refine AWp_regE mu_19 ks_19 ?_ | refine AWp_drawE nd_19 mu_19 ks_19 ti_mixed (by kernel_rfl) ?_); intro Kv hKv) | refine AWp_retR ?_) | refine hrf _ _ ?_ | refine QCall_of (hrf _ _ (Two_intro _ _)) ?_); try simp (dsimp := false) only [go_sem, Nat.reduceAdd, Nat.reduceBEq, Nat.reduceEqDiff, Nat.reduceLT, Nat.reduceLeDiff, Nat.reduceMul, Int.reduceToNat, reduceCtorEq, ↓reduceIte, Tryd.ntmps19, Tryd.results19, ks_19, mu_19, nd_19, ti_ag3, ti_ag9, ti_ag33, ti_ag48, ti_ag49, ti_ag51, ti_ag78, ti_fl31_0, ti_fl51_0, ti_fl51_1, ti_fl53_0, ti_fl53_2, ti_fl53_3, ti_fl53_4, ti_fl53_5, ti_fl53_6, ti_fl53_7, ti_fl53_8, ti_fl53_9, ti_fl53_10, ti_hb21, ti_hb22, ti_hb40, ti_hb41, ti_hb42, ti_hb43, ti_hb44, ti_sb48, ti_sb49, ti_sb78, ti_sl24, ti_sl48, ti_sl49, ti_sl78, ti_sz33, ti_sz51, strRow, rlV, Int.reduceEq, Int.reduceLT]) | (refine AWp_condC rfl ?_; intro KA KB hKA hKB; try simp only [onB_true, onB_false, onB_dec, onB_ndec, onB_not, onB_and, onB_or]) | (refine AWp_condA rfl ?_ ?_) | with_reducible (first | refine onB_of ?_ ?_ | rfl) | omega)
  refine AWp_while0 (fun i : Nat => i ≤ o.rel.rows.length ∧ ∀ row, row ∈ o.rel.rows.take i → (row.any fun x => decide (x.k = 1)) = false) (fun i => [(3, .rp (opD o)), (10, .d (.i .i64 i))]) (fun i => o.rel.rows.length - i) 0 ⟨Nat.zero_le _, by simp⟩ ?_ ?_
  · simp (dsimp := false) only [go_sem, Nat.reduceAdd, Nat.reduceBEq, Nat.reduceEqDiff, Nat.reduceLT, Nat.reduceLeDiff, Nat.reduceMul, Int.reduceToNat, reduceCtorEq, ↓reduceIte, Tryd.ntmps19, Tryd.results19, ks_19, mu_19, nd_19, ti_ag3, ti_ag9, ti_ag33, ti_ag48, ti_ag49, ti_ag51, ti_ag78, ti_fl31_0, ti_fl51_0, ti_fl51_1, ti_fl53_0, ti_fl53_2, ti_fl53_3, ti_fl53_4, ti_fl53_5, ti_fl53_6, ti_fl53_7, ti_fl53_8, ti_fl53_9, ti_fl53_10, ti_hb21, ti_hb22, ti_hb40, ti_hb41, ti_hb42, ti_hb43, ti_hb44, ti_sb48, ti_sb49, ti_sb78, ti_sl24, ti_sl48, ti_sl49, ti_sl78, ti_sz33, ti_sz51, strRow, rlV, Int.reduceEq, Int.reduceLT]
    first | done | (simp [opD, hkind]; done)
  rintro i ⟨hi, hv⟩
  by_cases hil : i < o.rel.rows.length
  · obtain ⟨row, hrow⟩ : ∃ x, o.rel.rows[i]? = some x := ⟨o.rel.rows[i], List.getElem?_eq_getElem hil⟩
    have t1 : ((i : Int) < (o.rel.rows.length : Int)) = True := eq_true (by omega)
    have t2 : ((0 : Int) ≤ (i : Int)) = True := eq_true (by omega)
    have hrl := ok.rel.row row (List.mem_of_getElem? hrow)
    repeat' (first | with_reducible (first | refine And.intro ?_ ?_ | intro _ | refine AWp_seq ?_ | refine AWp_block ?_ | (refine hKv _ _ (AWp_nop ?_); clear hKv Kv) | (refine hKA ?_; clear hKA hKB KA KB) | (refine hKB ?_; clear hKA hKB KA KB) | refine AWp_skipN ?_ | refine AWp_exitO (by repeat (first | exact Out.hit | apply Out.thenA | apply Out.out rfl)) ?_) | (with_reducible (first | (refine hKv _ _ ?_; clear hKv Kv) | ((first | refine AWp_regC mu_19 ks_19 ?_ | refine AWp_draw nd_19 mu_19 ks_19 ti_mixed (by kernel_rfl) ?_ | refine AWp_regE mu_19 ks_19 ?_ | refine AWp_drawE nd_19 mu_19 ks_19 ti_mixed (by kernel_rfl) ?_); intro Kv hKv) | refine AWp_retR ?_); try simp (dsimp := false) only [go_sem, Nat.reduceAdd, Nat.reduceBEq, Nat.reduceEqDiff, Nat.reduceLT, Nat.reduceLeDiff, Nat.reduceMul, Int.reduceToNat, reduceCtorEq, ↓reduceIte, Tryd.ntmps19, Tryd.results19, ks_19, mu_19, nd_19, ti_ag3, ti_ag9, ti_ag33, ti_ag48, ti_ag49, ti_ag51, ti_ag78, ti_fl31_0, ti_fl51_0, ti_fl51_1, ti_fl53_0, ti_fl53_2, ti_fl53_3, ti_fl53_4, ti_fl53_5, ti_fl53_6, ti_fl53_7, ti_fl53_8, ti_fl53_9, ti_fl53_10, ti_hb21, ti_hb22, ti_hb40, ti_hb41, ti_hb42, ti_hb43, ti_hb44, ti_sb48, ti_sb49, ti_sb78, ti_sl24, ti_sl48, ti_sl49, ti_sl78, ti_sz33, ti_sz51, opD, rowD, itD, hrow, t1, t2]) | (refine AWp_condC rfl ?_; intro KA KB hKA hKB; try simp only [onB_true, onB_false, onB_dec, onB_ndec, onB_not, onB_and, onB_or]) | (refine AWp_condA rfl ?_ ?_) | with_reducible (first | refine onB_of ?_ ?_ | rfl) | omega)
    refine AWp_while0 (fun k : Nat => k ≤ row.length ∧ ∀ x, x ∈ row.take k → x.k ≠ 1) (fun k => [(3, .rp (opD o)), (10, .d (.i .i64 i)), (11, .d (.i .i64 k))]) (fun k => row.length - k) 0 ⟨Nat.zero_le _, by simp⟩ ?_ ?_
    · simp (dsimp := false) only [go_sem, Nat.reduceAdd, Nat.reduceBEq, Nat.reduceEqDiff, Nat.reduceLT, Nat.reduceLeDiff, Nat.reduceMul, Int.reduceToNat, reduceCtorEq, ↓reduceIte, Tryd.ntmps19, Tryd.results19, ks_19, mu_19, nd_19, ti_ag3, ti_ag9, ti_ag33, ti_ag48, ti_ag49, ti_ag51, ti_ag78, ti_fl31_0, ti_fl51_0, ti_fl51_1, ti_fl53_0, ti_fl53_2, ti_fl53_3, ti_fl53_4, ti_fl53_5, ti_fl53_6, ti_fl53_7, ti_fl53_8, ti_fl53_9, ti_fl53_10, ti_hb21, ti_hb22, ti_hb40, ti_hb41, ti_hb42, ti_hb43, ti_hb44, ti_sb48, ti_sb49, ti_sb78, ti_sl24, ti_sl48, ti_sl49, ti_sl78, ti_sz33, ti_sz51, opD, rowD, itD, hrow, t1, t2]
      first | done | (simp [opD]; done)
    rintro k ⟨hk1, hk2⟩
    by_cases hkl : k < row.length
    · obtain ⟨x, hx⟩ : ∃ x, row[k]? = some x := ⟨row[k], List.getElem?_eq_getElem hkl⟩
      have t3 : ((k : Int) < (row.length : Int)) = True := eq_true (by omega)
      have t4 : ((0 : Int) ≤ (k : Int)) = True := eq_true (by omega)
      by_cases hxn : x.k = 1
      · have t5 : (x.k = 1) = True := eq_true hxn
        have hk := hbad (List.any_eq_true.2 ⟨row, List.mem_of_getElem? hrow, List.any_eq_true.2 ⟨x, List.mem_of_getElem? hx, decide_eq_true hxn⟩⟩)
        repeat' (first | with_reducible (first | refine And.intro ?_ ?_ | intro _ | refine AWp_seq ?_ | refine AWp_block ?_ | (refine hKv _ _ (AWp_nop ?_); clear hKv Kv) | (refine hKA ?_; clear hKA hKB KA KB) | (refine hKB ?_; clear hKA hKB KA KB) | refine AWp_skipN ?_ | refine AWp_exitO (by repeat (first | exact Out.hit | apply Out.thenA | apply Out.out rfl)) ?_) | (with_reducible (first | (refine hKv _ _ ?_; clear hKv Kv) | ((first | refine AWp_regC mu_19 ks_19 ?_ | refine AWp_draw nd_19 mu_19 ks_19 ti_mixed (by kernel_rfl) ?_ | refine AWp_regE mu_19 ks_19 ?_ | refine AWp_drawE nd_19 mu_19 ks_19 ti_mixed (by kernel_rfl) ?_); intro Kv hKv) | refine AWp_retR ?_); try simp (dsimp := false) only [go_sem, Nat.reduceAdd, Nat.reduceBEq, Nat.reduceEqDiff, Nat.reduceLT, Nat.reduceLeDiff, Nat.reduceMul, Int.reduceToNat, reduceCtorEq, ↓reduceIte, Tryd.ntmps19, Tryd.results19, ks_19, mu_19, nd_19, ti_ag3, ti_ag9, ti_ag33, ti_ag48, ti_ag49, ti_ag51, ti_ag78, ti_fl31_0, ti_fl51_0, ti_fl51_1, ti_fl53_0, ti_fl53_2, ti_fl53_3, ti_fl53_4, ti_fl53_5, ti_fl53_6, ti_fl53_7, ti_fl53_8, ti_fl53_9, ti_fl53_10, ti_hb21, ti_hb22, ti_hb40, ti_hb41, ti_hb42, ti_hb43, ti_hb44, ti_sb48, ti_sb49, ti_sb78, ti_sl24, ti_sl48, ti_sl49, ti_sl78, ti_sz33, ti_sz51, opD, rowD, itD, hrow, hx, t1, t2, t3, t4, t5]) | (refine AWp_condC rfl ?_; intro KA KB hKA hKB; try simp only [onB_true, onB_false, onB_dec, onB_ndec, onB_not, onB_and, onB_or]) | (refine AWp_condA rfl ?_ ?_) | with_reducible (first | refine onB_of ?_ ?_ | rfl) | omega)
        all_goals first
          | omega
          | exact keepFz hk (Fz_tu2 (.nil _) (.same _)) (by simp [Bel_tu, Bel_d])
      · have t5 : (x.k = 1) = False := eq_false hxn
        repeat' (first | with_reducible (first | refine And.intro ?_ ?_ | intro _ | refine AWp_seq ?_ | refine AWp_block ?_ | (refine hKv _ _ (AWp_nop ?_); clear hKv Kv) | (refine hKA ?_; clear hKA hKB KA KB) | (refine hKB ?_; clear hKA hKB KA KB) | refine AWp_skipN ?_ | refine AWp_exitO (by repeat (first | exact Out.hit | apply Out.thenA | apply Out.out rfl)) ?_) | (with_reducible (first | (refine hKv _ _ ?_; clear hKv Kv) | ((first | refine AWp_regC mu_19 ks_19 ?_ | refine AWp_draw nd_19 mu_19 ks_19 ti_mixed (by kernel_rfl) ?_ | refine AWp_regE mu_19 ks_19 ?_ | refine AWp_drawE nd_19 mu_19 ks_19 ti_mixed (by kernel_rfl) ?_); intro Kv hKv) | refine AWp_retR ?_); try simp (dsimp := false) only [go_sem, Nat.reduceAdd, Nat.reduceBEq, Nat.reduceEqDiff, Nat.reduceLT, Nat.reduceLeDiff, Nat.reduceMul, Int.reduceToNat, reduceCtorEq, ↓reduceIte, Tryd.ntmps19, Tryd.results19, ks_19, mu_19, nd_19, ti_ag3, ti_ag9, ti_ag33, ti_ag48, ti_ag49, ti_ag51, ti_ag78, ti_fl31_0, ti_fl51_0, ti_fl51_1, ti_fl53_0, ti_fl53_2, ti_fl53_3, ti_fl53_4, ti_fl53_5, ti_fl53_6, ti_fl53_7, ti_fl53_8, ti_fl53_9, ti_fl53_10, ti_hb21, ti_hb22, ti_hb40, ti_hb41, ti_hb42, ti_hb43, ti_hb44, ti_sb48, ti_sb49, ti_sb78, ti_sl24, ti_sl48, ti_sl49, ti_sl78, ti_sz33, ti_sz51, opD, rowD, itD, hrow, hx, t1, t2, t3, t4, t5]) | (refine AWp_condC rfl ?_; intro KA KB hKA hKB; try simp only [onB_true, onB_false, onB_dec, onB_ndec, onB_not, onB_and, onB_or]) | (refine AWp_condA rfl ?_ ?_) | with_reducible (first | refine onB_of ?_ ?_ | rfl) | omega)
        all_goals first
          | omega
          | (refine ⟨k + 1, ⟨by omega, fun z hz => ?_⟩, by omega, ?_⟩
             · rw [take_of_get hx] at hz
               rcases List.mem_append.1 hz with hz | hz
               · exact hk2 z hz
               · rw [List.mem_singleton.1 hz]; exact hxn
             · (repeat' (refine And.intro ?_ ?_)) <;> first | rfl | omega | (simp [opD]; done))
    · obtain rfl : k = row.length := by omega
      have t3 : ((row.length : Int) < (row.length : Int)) = False := eq_false (by omega)
      rw [List.take_of_length_le (Nat.le_refl _)] at hk2
      repeat' (first | with_reducible (first | refine And.intro ?_ ?_ | intro _ | refine AWp_seq ?_ | refine AWp_block ?_ | (refine hKv _ _ (AWp_nop ?_); clear hKv Kv) | (refine hKA ?_; clear hKA hKB KA KB) | (refine hKB ?_; clear hKA hKB KA KB) | refine AWp_skipN ?_ | refine AWp_exitO (by repeat (first | exact Out.hit | apply Out.thenA | apply Out.out rfl)) ?_) | (with_reducible (first | (refine hKv _ _ ?_; clear hKv Kv) | ((first | refine AWp_regC mu_19 ks_19 ?_ | refine AWp_draw nd_19 mu_19 ks_19 ti_mixed (by kernel_rfl) ?_ | refine AWp_regE mu_19 ks_19 ?_ | refine AWp_drawE nd_19 mu_19 ks_19 ti_mixed (by kernel_rfl) ?_); intro Kv hKv) | refine AWp_retR ?_); try simp (dsimp := false) only [go_sem, Nat.reduceAdd, Nat.reduceBEq, Nat.reduceEqDiff, Nat.reduceLT, Nat.reduceLeDiff, Nat.reduceMul, Int.reduceToNat, reduceCtorEq, ↓reduceIte, Tryd.ntmps19, Tryd.results19, ks_19, mu_19, nd_19, ti_ag3, ti_ag9, ti_ag33, ti_ag48, ti_ag49, ti_ag51, ti_ag78, ti_fl31_0, ti_fl51_0, ti_fl51_1, ti_fl53_0, ti_fl53_2, ti_fl53_3, ti_fl53_4, ti_fl53_5, ti_fl53_6, ti_fl53_7, ti_fl53_8, ti_fl53_9, ti_fl53_10, ti_hb21, ti_hb22, ti_hb40, ti_hb41, ti_hb42, ti_hb43, ti_hb44, ti_sb48, ti_sb49, ti_sb78, ti_sl24, ti_sl48, ti_sl49, ti_sl78, ti_sz33, ti_sz51, opD, rowD, itD, hrow, t1, t2, t3]) | (refine AWp_condC rfl ?_; intro KA KB hKA hKB; try simp only [onB_true, onB_false, onB_dec, onB_ndec, onB_not, onB_and, onB_or]) | (refine AWp_condA rfl ?_ ?_) | with_reducible (first | refine onB_of ?_ ?_ | rfl) | omega)
      all_goals first
        | omega
        | (refine ⟨i + 1, ⟨by omega, fun z hz => ?_⟩, by omega, ?_⟩
           · rw [take_of_get hrow] at hz
             rcases List.mem_append.1 hz with hz | hz
             · exact hv z hz
             · rw [List.mem_singleton.1 hz]
               exact List.any_eq_false.2 fun x hx => by simpa using hk2 x hx
           · (repeat' (refine And.intro ?_ ?_)) <;> first | rfl | omega | (simp [opD]; done))
  · obtain rfl : i = o.rel.rows.length := by omega
    have t1 : ((o.rel.rows.length : Int) < (o.rel.rows.length : Int)) = False := eq_false (by omega)
    rw [List.take_of_length_le (Nat.le_refl _)] at hv
    have hno : nodeIn o.rel = false := List.any_eq_false.2 fun row hr => by rw [hv row hr]; simp
    rw [hno, if_neg (by simp)] at hk
    replace hk := hk o.rel.cols rfl
    repeat' (first | with_reducible (first | refine And.intro ?_ ?_ | intro _ | refine AWp_seq ?_ | refine AWp_block ?_ | (refine hKv _ _ (AWp_nop ?_); clear hKv Kv) | (refine hKA ?_; clear hKA hKB KA KB) | (refine hKB ?_; clear hKA hKB KA KB) | refine AWp_skipN ?_ | refine AWp_exitO (by repeat (first | exact Out.hit | apply Out.thenA | apply Out.out rfl)) ?_) | (with_reducible (first | (refine hKv _ _ ?_; clear hKv Kv) | ((first | refine AWp_regC mu_19 ks_19 ?_ | refine AWp_draw nd_19 mu_19 ks_19 ti_mixed (by kernel_rfl) ?_ | refine AWp_regE mu_19 ks_19 ?_ | refine AWp_drawE nd_19 mu_19 ks_19 ti_mixed (by kernel_rfl) ?_); intro Kv hKv) | refine AWp_retR ?_); try simp (dsimp := false) only [go_sem, Nat.reduceAdd, Nat.reduceBEq, Nat.reduceEqDiff, Nat.reduceLT, Nat.reduceLeDiff, Nat.reduceMul, Int.reduceToNat, reduceCtorEq, ↓reduceIte, Tryd.ntmps19, Tryd.results19, ks_19, mu_19, nd_19, ti_ag3, ti_ag9, ti_ag33, ti_ag48, ti_ag49, ti_ag51, ti_ag78, ti_fl31_0, ti_fl51_0, ti_fl51_1, ti_fl53_0, ti_fl53_2, ti_fl53_3, ti_fl53_4, ti_fl53_5, ti_fl53_6, ti_fl53_7, ti_fl53_8, ti_fl53_9, ti_fl53_10, ti_hb21, ti_hb22, ti_hb40, ti_hb41, ti_hb42, ti_hb43, ti_hb44, ti_sb48, ti_sb49, ti_sb78, ti_sl24, ti_sl48, ti_sl49, ti_sl78, ti_sz33, ti_sz51, opD, strRow, t1]) | (refine AWp_condC rfl ?_; intro KA KB hKA hKB; try simp only [onB_true, onB_false, onB_dec, onB_ndec, onB_not, onB_and, onB_or]) | (refine AWp_condA rfl ?_ ?_) | with_reducible (first | refine onB_of ?_ ?_ | rfl) | omega)
    all_goals first
      | omega
      | exact keepK hk (by simp [Bel_tu, Bel_d]) rfl
end Go.Proofs.YtppalmoicjogaaaDoor
