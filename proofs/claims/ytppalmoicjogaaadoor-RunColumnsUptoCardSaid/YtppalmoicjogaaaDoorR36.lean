/- Plans: run.columns, kind 14. No condition but that the tables of package unicode/utf8 are there. -/
import Derived.Test.YtppalmoicjogaaaDoorR27
import Derived.Test.YtppalmoicjogaaaDoorR28
import Derived.Test.YtppalmoicjogaaaDoorR29
import Derived.Test.YtppalmoicjogaaaDoorR30
import Derived.Test.YtppalmoicjogaaaDoorR31
import Derived.Test.YtppalmoicjogaaaDoorR32
import Derived.Test.YtppalmoicjogaaaDoorR33
import Derived.Test.YtppalmoicjogaaaDoorR34
import Derived.Test.YtppalmoicjogaaaDoorR35
set_option linter.all false
set_option linter.unusedSimpArgs false
set_option linter.unusedVariables false
namespace Go.Proofs.YtppalmoicjogaaaDoor
open Go Go.Proofs.YtppalmoicjogaaaDoor.Ab
variable [Glo] [U8]
set_option maxHeartbeats 4000000
set_option maxRecDepth 20000
theorem columns14_A (o : Opp) (ok : OkO o) (hkind : o.kind = 14) (a b : List (List UInt8)) (ha : OkC a) (hb : OkC b) (H : Heap) (K : V → Heap → Prop) (hk : K (colsV (colsQ o a b)) H) :
    ACalls Tryd.prog 14 [opV o, .d (.sl 1 [])] H K := by
  rw [opV_k hkind]
  have hn := named_A ([sItem]) (by decide) (by decide)
  have e : colsQ o a b = namedQ (0, [sItem]) := by simp [colsQ, opCols, hkind, okC, namedQ]
  rw [e, ← namedV_eq] at hk
  refine ACalls_of Tryd.func14 rfl in_14 (Nat.le_of_ble_eq_true rfl) ?_
  intro F hF
  simp (dsimp := false) only [go_sem, Nat.reduceAdd, Nat.reduceBEq, Nat.reduceEqDiff, Nat.reduceLT, Nat.reduceLeDiff, Nat.reduceMul, Int.reduceToNat, reduceCtorEq, ↓reduceIte, Tryd.ntmps14, Tryd.results14, ks_14, mu_14, nd_14, xt_14, ti_ag3, ti_ag9, ti_ag48, ti_ag49, ti_ag51, ti_ag78, ti_ag82, ti_fl33_0, ti_fl51_0, ti_fl51_1, ti_fl53_0, ti_fl53_2, ti_fl53_3, ti_fl53_4, ti_fl53_5, ti_fl53_6, ti_fl53_7, ti_fl53_8, ti_fl53_9, ti_fl53_10, ti_hb15, ti_hb16, ti_hb30, ti_hb31, ti_hb32, ti_hb33, ti_hb34, ti_hb35, ti_hb36, ti_ky9, ti_mp82, ti_sb48, ti_sb49, ti_sl24, ti_sl48, ti_sl49, ti_sz51, ti_zv3, strRow, namedV, List.map_cons, List.map_nil, not_true_eq_false, not_false_eq_true, Bool.and_true, Bool.true_and, Bool.false_and, Bool.and_false, Bool.false_or, Bool.or_false, Bool.true_beq, Bool.false_beq, Int.reduceEq, Int.reduceLT, Int.reduceLE, sItem, in_14] at hF
  subst hF
  repeat' (first | with_reducible (first | refine And.intro ?_ ?_ | intro _ | refine AWp_seq ?_ | refine AWp_block ?_ | (refine hKv _ _ (AWp_nop ?_); clear hKv Kv) | (refine hKA ?_; clear hKA hKB KA KB) | (refine hKB ?_; clear hKA hKB KA KB) | refine AWp_skipN ?_ | refine AWp_exitO (by repeat (first | exact Out.hit | apply Out.thenA | apply Out.out rfl)) ?_) | ((first | with_reducible (first | (refine hKv _ _ ?_; clear hKv Kv) | ((first | refine AWp_regC mu_14 ks_14 ?_ | refine AWp_drawU xt_14 mu_14 ks_14 (by decide) ti_mixed (by kernel_rfl) ?_ | refine AWp_draw nd_14 mu_14 ks_14 ti_mixed (by kernel_rfl) ?_ | refine AWp_regE mu_14 ks_14 ?_ | refine AWp_drawE nd_14 mu_14 ks_14 ti_mixed (by kernel_rfl) ?_); intro Kv hKv) | refine AWp_retR ?_) | refine hn _ _ ?_ | refine QCall_of (hn _ _ (Two_intro _ _)) ?_ | refine ECall_of (hn _ _ (Two_intro _ _)) ?_); try simp (dsimp := false) only [go_sem, Nat.reduceAdd, Nat.reduceBEq, Nat.reduceEqDiff, Nat.reduceLT, Nat.reduceLeDiff, Nat.reduceMul, Int.reduceToNat, reduceCtorEq, ↓reduceIte, Tryd.ntmps14, Tryd.results14, ks_14, mu_14, nd_14, xt_14, ti_ag3, ti_ag9, ti_ag48, ti_ag49, ti_ag51, ti_ag78, ti_ag82, ti_fl33_0, ti_fl51_0, ti_fl51_1, ti_fl53_0, ti_fl53_2, ti_fl53_3, ti_fl53_4, ti_fl53_5, ti_fl53_6, ti_fl53_7, ti_fl53_8, ti_fl53_9, ti_fl53_10, ti_hb15, ti_hb16, ti_hb30, ti_hb31, ti_hb32, ti_hb33, ti_hb34, ti_hb35, ti_hb36, ti_ky9, ti_mp82, ti_sb48, ti_sb49, ti_sl24, ti_sl48, ti_sl49, ti_sz51, ti_zv3, strRow, namedV, List.map_cons, List.map_nil, not_true_eq_false, not_false_eq_true, Bool.and_true, Bool.true_and, Bool.false_and, Bool.and_false, Bool.false_or, Bool.or_false, Bool.true_beq, Bool.false_beq, Int.reduceEq, Int.reduceLT, Int.reduceLE, sItem]) | (refine AWp_condC rfl ?_; intro KA KB hKA hKB; try simp only [onB_true, onB_false, onB_dec, onB_ndec, onB_not, onB_and, onB_or]) | (refine AWp_condA rfl ?_ ?_) | with_reducible (first | refine onB_of ?_ ?_ | rfl) | omega)
  all_goals first
    | omega
    | exact keepK hk (by simp [namedV, Bel_tu, Bel_d]) rfl
    | exact keepFz hk (Fz_tu2 (.nil _) (.same _)) (by simp [namedV, Bel_tu, Bel_d])
    | exact dropF hk (Fz_tu2 (.same _) (.same _)) (by simp [namedV, Bel_tu, Bel_d])
    | exact dropF hk (Fz_tu2 (.nil _) (.same _)) (by simp [namedV, Bel_tu, Bel_d])
end Go.Proofs.YtppalmoicjogaaaDoor
namespace Go.Proofs.YtppalmoicjogaaaDoor
open Go Go.Proofs.YtppalmoicjogaaaDoor.Ab
variable [Glo] [U8]
set_option maxHeartbeats 4000000
set_option maxRecDepth 20000
theorem columns15_A (o : Opp) (ok : OkO o) (hkind : o.kind = 15) (a b : List (List UInt8)) (ha : OkC a) (hb : OkC b) (H : Heap) (K : V → Heap → Prop) (hk : K (colsV (colsQ o a b)) H) :
    ACalls Tryd.prog 14 [opV o, .d (.sl 1 [[.sl 1 (a.map strRow)]])] H K := by
  rw [opV_k hkind]
  have hn := named_A (a) ha.n ha.s
  have hh := has_A a ha.len o.cols (by have := ok.ncols; omega)
  cases h2 : hasQ a o.cols with
  | true =>
    rw [h2] at hh
    have e : colsQ o a b = namedQ (0, a) := by simp [colsQ, opCols, hkind, okC, namedQ, h2]
    rw [e, ← namedV_eq] at hk
    refine ACalls_of Tryd.func14 rfl in_14 (Nat.le_of_ble_eq_true rfl) ?_
    intro F hF
    simp (dsimp := false) only [go_sem, Nat.reduceAdd, Nat.reduceBEq, Nat.reduceEqDiff, Nat.reduceLT, Nat.reduceLeDiff, Nat.reduceMul, Int.reduceToNat, reduceCtorEq, ↓reduceIte, Tryd.ntmps14, Tryd.results14, ks_14, mu_14, nd_14, xt_14, ti_ag3, ti_ag9, ti_ag48, ti_ag49, ti_ag51, ti_ag78, ti_ag82, ti_fl33_0, ti_fl51_0, ti_fl51_1, ti_fl53_0, ti_fl53_2, ti_fl53_3, ti_fl53_4, ti_fl53_5, ti_fl53_6, ti_fl53_7, ti_fl53_8, ti_fl53_9, ti_fl53_10, ti_hb15, ti_hb16, ti_hb30, ti_hb31, ti_hb32, ti_hb33, ti_hb34, ti_hb35, ti_hb36, ti_ky9, ti_mp82, ti_sb48, ti_sb49, ti_sl24, ti_sl48, ti_sl49, ti_sz51, ti_zv3, strRow, namedV, List.map_cons, List.map_nil, not_true_eq_false, not_false_eq_true, Bool.and_true, Bool.true_and, Bool.false_and, Bool.and_false, Bool.false_or, Bool.or_false, Bool.true_beq, Bool.false_beq, Int.reduceEq, Int.reduceLT, Int.reduceLE, in_14] at hF
    subst hF
    repeat' (first | with_reducible (first | refine And.intro ?_ ?_ | intro _ | refine AWp_seq ?_ | refine AWp_block ?_ | (refine hKv _ _ (AWp_nop ?_); clear hKv Kv) | (refine hKA ?_; clear hKA hKB KA KB) | (refine hKB ?_; clear hKA hKB KA KB) | refine AWp_skipN ?_ | refine AWp_exitO (by repeat (first | exact Out.hit | apply Out.thenA | apply Out.out rfl)) ?_) | ((first | with_reducible (first | (refine hKv _ _ ?_; clear hKv Kv) | ((first | refine AWp_regC mu_14 ks_14 ?_ | refine AWp_drawU xt_14 mu_14 ks_14 (by decide) ti_mixed (by kernel_rfl) ?_ | refine AWp_draw nd_14 mu_14 ks_14 ti_mixed (by kernel_rfl) ?_ | refine AWp_regE mu_14 ks_14 ?_ | refine AWp_drawE nd_14 mu_14 ks_14 ti_mixed (by kernel_rfl) ?_); intro Kv hKv) | refine AWp_retR ?_) | refine hh _ _ ?_ | refine QCall_of (hh _ _ (Two_intro _ _)) ?_ | refine ECall_of (hh _ _ (Two_intro _ _)) ?_ | refine hn _ _ ?_ | refine QCall_of (hn _ _ (Two_intro _ _)) ?_ | refine ECall_of (hn _ _ (Two_intro _ _)) ?_); try simp (dsimp := false) only [go_sem, Nat.reduceAdd, Nat.reduceBEq, Nat.reduceEqDiff, Nat.reduceLT, Nat.reduceLeDiff, Nat.reduceMul, Int.reduceToNat, reduceCtorEq, ↓reduceIte, Tryd.ntmps14, Tryd.results14, ks_14, mu_14, nd_14, xt_14, ti_ag3, ti_ag9, ti_ag48, ti_ag49, ti_ag51, ti_ag78, ti_ag82, ti_fl33_0, ti_fl51_0, ti_fl51_1, ti_fl53_0, ti_fl53_2, ti_fl53_3, ti_fl53_4, ti_fl53_5, ti_fl53_6, ti_fl53_7, ti_fl53_8, ti_fl53_9, ti_fl53_10, ti_hb15, ti_hb16, ti_hb30, ti_hb31, ti_hb32, ti_hb33, ti_hb34, ti_hb35, ti_hb36, ti_ky9, ti_mp82, ti_sb48, ti_sb49, ti_sl24, ti_sl48, ti_sl49, ti_sz51, ti_zv3, strRow, namedV, List.map_cons, List.map_nil, not_true_eq_false, not_false_eq_true, Bool.and_true, Bool.true_and, Bool.false_and, Bool.and_false, Bool.false_or, Bool.or_false, Bool.true_beq, Bool.false_beq, Int.reduceEq, Int.reduceLT, Int.reduceLE]) | (refine AWp_condC rfl ?_; intro KA KB hKA hKB; try simp only [onB_true, onB_false, onB_dec, onB_ndec, onB_not, onB_and, onB_or]) | (refine AWp_condA rfl ?_ ?_) | with_reducible (first | refine onB_of ?_ ?_ | rfl) | omega)
    all_goals first
      | omega
      | exact keepK hk (by simp [namedV, Bel_tu, Bel_d]) rfl
      | exact keepFz hk (Fz_tu2 (.nil _) (.same _)) (by simp [namedV, Bel_tu, Bel_d])
      | exact dropF hk (Fz_tu2 (.same _) (.same _)) (by simp [namedV, Bel_tu, Bel_d])
      | exact dropF hk (Fz_tu2 (.nil _) (.same _)) (by simp [namedV, Bel_tu, Bel_d])
  | false =>
    rw [h2] at hh
    have e : colsQ o a b = (9, []) := by simp [colsQ, opCols, hkind, okC, namedQ, h2]
    rw [e, colsV, List.map_nil] at hk
    refine ACalls_of Tryd.func14 rfl in_14 (Nat.le_of_ble_eq_true rfl) ?_
    intro F hF
    simp (dsimp := false) only [go_sem, Nat.reduceAdd, Nat.reduceBEq, Nat.reduceEqDiff, Nat.reduceLT, Nat.reduceLeDiff, Nat.reduceMul, Int.reduceToNat, reduceCtorEq, ↓reduceIte, Tryd.ntmps14, Tryd.results14, ks_14, mu_14, nd_14, xt_14, ti_ag3, ti_ag9, ti_ag48, ti_ag49, ti_ag51, ti_ag78, ti_ag82, ti_fl33_0, ti_fl51_0, ti_fl51_1, ti_fl53_0, ti_fl53_2, ti_fl53_3, ti_fl53_4, ti_fl53_5, ti_fl53_6, ti_fl53_7, ti_fl53_8, ti_fl53_9, ti_fl53_10, ti_hb15, ti_hb16, ti_hb30, ti_hb31, ti_hb32, ti_hb33, ti_hb34, ti_hb35, ti_hb36, ti_ky9, ti_mp82, ti_sb48, ti_sb49, ti_sl24, ti_sl48, ti_sl49, ti_sz51, ti_zv3, strRow, namedV, List.map_cons, List.map_nil, not_true_eq_false, not_false_eq_true, Bool.and_true, Bool.true_and, Bool.false_and, Bool.and_false, Bool.false_or, Bool.or_false, Bool.true_beq, Bool.false_beq, Int.reduceEq, Int.reduceLT, Int.reduceLE, in_14] at hF
    subst hF
    repeat' (first | with_reducible (first | refine And.intro ?_ ?_ | intro _ | refine AWp_seq ?_ | refine AWp_block ?_ | (refine hKv _ _ (AWp_nop ?_); clear hKv Kv) | (refine hKA ?_; clear hKA hKB KA KB) | (refine hKB ?_; clear hKA hKB KA KB) | refine AWp_skipN ?_ | refine AWp_exitO (by repeat (first | exact Out.hit | apply Out.thenA | apply Out.out rfl)) ?_) | ((first | with_reducible (first | (refine hKv _ _ ?_; clear hKv Kv) | ((first | refine AWp_regC mu_14 ks_14 ?_ | refine AWp_drawU xt_14 mu_14 ks_14 (by decide) ti_mixed (by kernel_rfl) ?_ | refine AWp_draw nd_14 mu_14 ks_14 ti_mixed (by kernel_rfl) ?_ | refine AWp_regE mu_14 ks_14 ?_ | refine AWp_drawE nd_14 mu_14 ks_14 ti_mixed (by kernel_rfl) ?_); intro Kv hKv) | refine AWp_retR ?_) | refine hh _ _ ?_ | refine QCall_of (hh _ _ (Two_intro _ _)) ?_ | refine ECall_of (hh _ _ (Two_intro _ _)) ?_); try simp (dsimp := false) only [go_sem, Nat.reduceAdd, Nat.reduceBEq, Nat.reduceEqDiff, Nat.reduceLT, Nat.reduceLeDiff, Nat.reduceMul, Int.reduceToNat, reduceCtorEq, ↓reduceIte, Tryd.ntmps14, Tryd.results14, ks_14, mu_14, nd_14, xt_14, ti_ag3, ti_ag9, ti_ag48, ti_ag49, ti_ag51, ti_ag78, ti_ag82, ti_fl33_0, ti_fl51_0, ti_fl51_1, ti_fl53_0, ti_fl53_2, ti_fl53_3, ti_fl53_4, ti_fl53_5, ti_fl53_6, ti_fl53_7, ti_fl53_8, ti_fl53_9, ti_fl53_10, ti_hb15, ti_hb16, ti_hb30, ti_hb31, ti_hb32, ti_hb33, ti_hb34, ti_hb35, ti_hb36, ti_ky9, ti_mp82, ti_sb48, ti_sb49, ti_sl24, ti_sl48, ti_sl49, ti_sz51, ti_zv3, strRow, namedV, List.map_cons, List.map_nil, not_true_eq_false, not_false_eq_true, Bool.and_true, Bool.true_and, Bool.false_and, Bool.and_false, Bool.false_or, Bool.or_false, Bool.true_beq, Bool.false_beq, Int.reduceEq, Int.reduceLT, Int.reduceLE]) | (refine AWp_condC rfl ?_; intro KA KB hKA hKB; try simp only [onB_true, onB_false, onB_dec, onB_ndec, onB_not, onB_and, onB_or]) | (refine AWp_condA rfl ?_ ?_) | with_reducible (first | refine onB_of ?_ ?_ | rfl) | omega)
    all_goals first
      | omega
      | exact keepK hk (by simp [namedV, Bel_tu, Bel_d]) rfl
      | exact keepFz hk (Fz_tu2 (.nil _) (.same _)) (by simp [namedV, Bel_tu, Bel_d])
      | exact dropF hk (Fz_tu2 (.same _) (.same _)) (by simp [namedV, Bel_tu, Bel_d])
      | exact dropF hk (Fz_tu2 (.nil _) (.same _)) (by simp [namedV, Bel_tu, Bel_d])
end Go.Proofs.YtppalmoicjogaaaDoor
namespace Go.Proofs.YtppalmoicjogaaaDoor
open Go Go.Proofs.YtppalmoicjogaaaDoor.Ab
variable [Glo] [U8] [Ar]
set_option maxHeartbeats 4000000
set_option maxRecDepth 20000
def lsD (l : List (List UInt8)) : List D := [.sl 1 (l.map strRow)]
theorem columns_A (o : Opp) (ok : OkO o) (h1 : 1 ≤ o.kind) (h2 : o.kind ≤ 15) (a b : List (List UInt8)) (ha : OkC a) (hb : OkC b) (H : Heap) (K : V → Heap → Prop) (hk : K (colsV (colsQ o a b)) H) :
    ACalls Tryd.prog 14 [opV o, .d (.sl 1 (([a, b].take (inCnt o.kind)).map lsD))] H K := by
  have : o.kind = 1 ∨ o.kind = 2 ∨ o.kind = 3 ∨ o.kind = 4 ∨ o.kind = 5 ∨ o.kind = 6 ∨ o.kind = 7 ∨ o.kind = 8 ∨ o.kind = 9 ∨ o.kind = 10 ∨ o.kind = 11 ∨ o.kind = 12 ∨ o.kind = 13 ∨ o.kind = 14 ∨ o.kind = 15 := by omega
  rcases this with h | h | h | h | h | h | h | h | h | h | h | h | h | h | h
  · rw [h]; exact columns1_A o ok h a b _ H K hk
  · rw [h]; exact columns2_A o ok h a b ha hb H K hk
  · rw [h]; exact columns3_A o ok h a b ha hb H K hk
  · rw [h]; exact columns4_A o ok h a b ha hb H K hk
  · rw [h]; exact columns5_A o ok h a b ha hb H K hk
  · rw [h]; exact columns6_A o ok h a b ha hb H K hk
  · rw [h]; exact columns7_A o ok h a b ha hb H K hk
  · rw [h]; exact columns8_A o ok h a b ha hb H K hk
  · rw [h]; exact columns9_A o ok h a b ha hb H K hk
  · rw [h]; exact columns10_A o ok h a b ha hb H K hk
  · rw [h]; exact columns11_A o ok h a b ha hb H K hk
  · rw [h]; exact columns12_A o ok h a b ha hb H K hk
  · rw [h]; exact columns13_A o ok h a b ha hb H K hk
  · rw [h]; exact columns14_A o ok h a b ha hb H K hk
  · rw [h]; exact columns15_A o ok h a b ha hb H K hk
theorem colsGo_short : ∀ {r d : List (List UInt8)}, colsGo d r = 0 → ∀ s, s ∈ r → s.length ≤ 20
  | [], d, _, s, hs => by cases hs
  | x :: r, d, h, s, hs => by
    rw [colsGo] at h
    split at h
    · omega
    · rename_i h1
      split at h
      · omega
      · rcases List.mem_cons.1 hs with rfl | hs
        · rw [not_or] at h1; omega
        · exact colsGo_short h s hs
theorem OkC_of {l : List (List UInt8)} (h : colsFault l = 0) : OkC l := by
  refine ⟨colsFault_short h, fun s hs => ?_⟩
  unfold colsFault at h
  split at h
  · have := colsGo_short h s hs
    omega
  · omega
theorem OkC_nil : OkC [] := ⟨by simp, by simp⟩
theorem inAt_ok {out : List (List (List UInt8))} (h : ∀ l, l ∈ out → OkC l) (inn : List Int) (k : Nat) : OkC (inAt out inn k) := by
  unfold inAt
  split
  · rename_i n _
    cases hn : out[n.toNat]? with
    | none => exact OkC_nil
    | some l => exact h l (List.mem_of_getElem? hn)
  · exact OkC_nil
theorem inAt_take {out : List (List (List UInt8))} {inn : List Int} {k : Int} (h : inn.length = inCnt k) : (inn.map fun n => (out[n.toNat]?).getD []) = [inAt out inn 0, inAt out inn 1].take (inCnt k) := by
  have : inCnt k = 0 ∨ inCnt k = 1 ∨ inCnt k = 2 := by unfold inCnt; split; exact .inl rfl; split; exact .inr (.inr rfl); exact .inr (.inl rfl)
  rw [← h] at this ⊢
  rcases this with h | h | h
  · rw [List.length_eq_zero_iff.1 h]; rfl
  · obtain ⟨x, rfl⟩ := List.length_eq_one_iff.1 h; rfl
  · match inn, h with
    | [x, y], _ => rfl
theorem lsD_data (l : List (List (List UInt8))) : dsRows (l.map fun x => (lsD x).map V.d) = some (l.map lsD) := by
  have := data_rows (l.map lsD)
  rwa [List.map_map] at this
end Go.Proofs.YtppalmoicjogaaaDoor
