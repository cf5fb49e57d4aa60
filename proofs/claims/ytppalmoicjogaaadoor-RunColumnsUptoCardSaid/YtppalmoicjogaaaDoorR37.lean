/- Plans: run.Columns, walked. No condition but that the tables of package unicode/utf8, of arities and of inputs are there. -/
import Derived.Test.YtppalmoicjogaaaDoorR36
set_option linter.all false
set_option linter.unusedSimpArgs false
set_option linter.unusedVariables false
namespace Go.Proofs.YtppalmoicjogaaaDoor
open Go Go.Proofs.YtppalmoicjogaaaDoor.Ab
variable [Glo] [U8] [Ar]
set_option maxHeartbeats 4000000
set_option maxRecDepth 20000
class Inp [Glo] : Prop where
  at_ : glob 0 = some inputsRow
variable [Inp]
def lsC (l : List (List UInt8)) : List V := [.d (.sl 1 (l.map strRow))]
theorem lsC_data (l : List (List (List UInt8))) : dsRows (l.map lsC) = some (l.map lsD) := lsD_data l
theorem lsC_bel (m ver e sz : Nat) (l : List (List (List UInt8))) : ObBel m (.row ver e sz (l.map lsC)) := by
  intro row hr v hv
  obtain ⟨r, _, rfl⟩ := List.mem_map.1 hr
  rw [lsC, List.mem_singleton] at hv
  subst hv
  exact .d _
def opQ (p : List Opp) (y : Nat × List (List (List UInt8))) : Prop := y.1 ≤ p.length ∧ y.2.length = y.1 ∧ (∀ l, l ∈ y.2 → OkC l) ∧ planQ (p.drop y.1) y.2 = planQ p []
theorem stepQ_val {out : List (List (List UInt8))} {o : Opp} (h1 : 1 ≤ o.kind) (h2 : o.kind ≤ 15) (h3 : o.inn.length = inCnt o.kind) (h4 : ∀ n, n ∈ o.inn → 0 ≤ n ∧ n < out.length) : stepQ out o = colsQ o (inAt out o.inn 0) (inAt out o.inn 1) := by
  rw [stepQ, if_pos ⟨h1, h2⟩, if_pos h3, if_pos (List.all_eq_true.2 fun n hn => decide_eq_true (h4 n hn))]
theorem stepQ_rng {out : List (List (List UInt8))} {o : Opp} (h1 : 1 ≤ o.kind) (h2 : o.kind ≤ 15) (h3 : o.inn.length = inCnt o.kind) {n : Int} (h4 : n ∈ o.inn) (h5 : ¬(0 ≤ n ∧ n < out.length)) : stepQ out o = (2, []) := by
  rw [stepQ, if_pos ⟨h1, h2⟩, if_pos h3, if_neg fun h => h5 (of_decide_eq_true (List.all_eq_true.1 h n h4))]
theorem planQ_fault {p : List Opp} {i : Nat} {o : Opp} {out : List (List (List UInt8))} (h : p[i]? = some o) (hp : planQ (p.drop i) out = planQ p []) (hs : (stepQ out o).1 ≠ 0) (h0 : p ≠ []) (hl : ¬ 200000 < p.length) : columnsQ p = ((stepQ out o).1, []) := by
  rw [planQ_next h, if_neg hs] at hp
  rw [columnsQ, if_neg hl, if_neg h0, ← hp, if_neg hs]
def colsR (r : Int × List (List (List UInt8))) : V := .tu [.d (.sl 1 (r.2.map lsD)), .d (.i .i64 r.1)]
def ks_6 : Nat → List Nat
  | 0 => [0]
  | 1 => [0, 14]
  | 2 => [2, 3]
  | 3 => [0, 17]
  | 4 => [2, 3]
  | 5 => [0, 4]
  | 6 => [4, 18, 19, 20]
  | 7 => [4, 18, 19, 20, 21]
  | 8 => [4, 5, 6, 18, 19, 20]
  | 9 => [4, 5, 6, 18, 19, 20, 32]
  | 10 => [2, 3]
  | 11 => [4, 5, 6, 18, 19, 20, 40]
  | 12 => [2, 3]
  | 13 => [4, 5, 6, 7, 18, 19, 20]
  | 14 => [4, 5, 6, 7, 18, 19, 20, 42, 43, 44]
  | 15 => [4, 5, 6, 7, 18, 19, 20, 42, 43, 44, 45]
  | 16 => [4, 5, 6, 7, 9, 18, 19, 20, 42, 43, 44]
  | 17 => [4, 5, 6, 7, 9, 18, 19, 20, 42, 43, 44, 54]
  | 18 => [2, 3]
  | 19 => [4, 5, 6, 7, 18, 19, 20, 42, 43, 44]
  | 20 => [4, 5, 6, 7, 18, 19, 20, 42, 43, 44]
  | 21 => [4, 10, 11, 18, 19, 20]
  | 22 => [4, 10, 11, 18, 19, 20, 70]
  | 23 => [2, 3]
  | 24 => [4, 18, 19, 20]
  | 25 => [4, 18, 19, 20]
  | 26 => [4, 86]
  | 27 => [2, 3]
  | 28 => [2, 3]
  | _ => []
def mu_6 : List Nat := [4, 7]
def in_6 : List Nat := [0]
def ro_6 : Nat → List Nat
  | 8 => [6]
  | _ => []
def gv_6 : Nat → List Bool
  | 21 => [false, true]
  | 24 => [false, false, true]
  | _ => []
def nd_6 : Nat → Nat
  | 11 => 7
  | _ => 0
theorem runColumns_A (p : List Opp) (hlen : p.length ≤ 1048576) (ok : ∀ o, o ∈ p → OkO o) (H : Heap) (K : V → Heap → Prop) (hk : K (colsR (columnsQ p)) H) :
    ACalls Tryd.prog 6 [.d (.sl 13 (p.map opD))] H K := by
  by_cases hbig : 200000 < p.length
  · have b1 : ((200000 : Int) < (p.length : Int)) = True := eq_true (by omega)
    rw [columnsQ, if_pos hbig, colsR, List.map_nil] at hk
    refine ACalls_of Tryd.func6 rfl in_6 (Nat.le_of_ble_eq_true rfl) ?_
    intro F hF
    simp (dsimp := false) only [go_sem, Nat.reduceAdd, Nat.reduceBEq, Nat.reduceEqDiff, Nat.reduceLT, Nat.reduceLeDiff, Nat.reduceMul, Int.reduceToNat, reduceCtorEq, ↓reduceIte, Tryd.ntmps6, Tryd.results6, ks_6, mu_6, nd_6, gv_6, ro_6, ti_ag3, ti_ag47, ti_ag48, ti_ag53, ti_el54, ti_fl53_0, ti_fl53_1, ti_hb14, ti_hb15, ti_hb16, ti_sb23, ti_sb24, ti_sb47, ti_sl23, ti_sl24, ti_sl47, ti_sl48, ti_sn54, ti_sz53, ti_zr53, b1, in_6] at hF
    subst hF
    repeat' (first | with_reducible (first | refine And.intro ?_ ?_ | intro _ | refine AWp_seq ?_ | refine AWp_block ?_ | (refine hKv _ _ (AWp_nop ?_); clear hKv Kv) | (refine hKA ?_; clear hKA hKB KA KB) | (refine hKB ?_; clear hKA hKB KA KB) | refine AWp_skipN ?_ | refine AWp_exitO (by repeat (first | exact Out.hit | apply Out.thenA | apply Out.out rfl)) ?_) | (with_reducible (first | (refine hKv _ _ ?_; clear hKv Kv) | ((first | refine AWp_regG gv_6 mu_6 ks_6 (by decide) ?_ | refine AWp_regro mu_6 ks_6 ro_6 ?_ | refine AWp_regC mu_6 ks_6 ?_ | refine AWp_draw nd_6 mu_6 ks_6 ti_mixed (by kernel_rfl) ?_ | refine AWp_regE mu_6 ks_6 ?_ | refine AWp_drawE nd_6 mu_6 ks_6 ti_mixed (by kernel_rfl) ?_); intro Kv hKv) | refine AWp_retR ?_); try simp (dsimp := false) only [go_sem, Nat.reduceAdd, Nat.reduceBEq, Nat.reduceEqDiff, Nat.reduceLT, Nat.reduceLeDiff, Nat.reduceMul, Int.reduceToNat, reduceCtorEq, ↓reduceIte, Tryd.ntmps6, Tryd.results6, ks_6, mu_6, nd_6, gv_6, ro_6, ti_ag3, ti_ag47, ti_ag48, ti_ag53, ti_el54, ti_fl53_0, ti_fl53_1, ti_hb14, ti_hb15, ti_hb16, ti_sb23, ti_sb24, ti_sb47, ti_sl23, ti_sl24, ti_sl47, ti_sl48, ti_sn54, ti_sz53, ti_zr53, b1]) | (refine AWp_condC rfl ?_; intro KA KB hKA hKB; try simp only [onB_true, onB_false, onB_dec, onB_ndec, onB_not, onB_and, onB_or]) | (refine AWp_condA rfl ?_ ?_) | with_reducible (first | refine onB_of ?_ ?_ | rfl) | omega)
    all_goals first
      | omega
      | exact keepFz hk (Fz_tu2 (.nil _) (.same _)) (by simp [Bel_tu, Bel_d])
  have b1 : ((200000 : Int) < (p.length : Int)) = False := eq_false (by omega)
  by_cases hnil : p = []
  · subst hnil
    rw [columnsQ, if_neg hbig, if_pos rfl, colsR, List.map_nil] at hk
    refine ACalls_of Tryd.func6 rfl in_6 (Nat.le_of_ble_eq_true rfl) ?_
    intro F hF
    simp (dsimp := false) only [go_sem, Nat.reduceAdd, Nat.reduceBEq, Nat.reduceEqDiff, Nat.reduceLT, Nat.reduceLeDiff, Nat.reduceMul, Int.reduceToNat, reduceCtorEq, ↓reduceIte, Tryd.ntmps6, Tryd.results6, ks_6, mu_6, nd_6, gv_6, ro_6, ti_ag3, ti_ag47, ti_ag48, ti_ag53, ti_el54, ti_fl53_0, ti_fl53_1, ti_hb14, ti_hb15, ti_hb16, ti_sb23, ti_sb24, ti_sb47, ti_sl23, ti_sl24, ti_sl47, ti_sl48, ti_sn54, ti_sz53, ti_zr53, b1, List.map_nil, Int.reduceEq, Int.reduceLT, in_6] at hF
    subst hF
    repeat' (first | with_reducible (first | refine And.intro ?_ ?_ | intro _ | refine AWp_seq ?_ | refine AWp_block ?_ | (refine hKv _ _ (AWp_nop ?_); clear hKv Kv) | (refine hKA ?_; clear hKA hKB KA KB) | (refine hKB ?_; clear hKA hKB KA KB) | refine AWp_skipN ?_ | refine AWp_exitO (by repeat (first | exact Out.hit | apply Out.thenA | apply Out.out rfl)) ?_) | (with_reducible (first | (refine hKv _ _ ?_; clear hKv Kv) | ((first | refine AWp_regG gv_6 mu_6 ks_6 (by decide) ?_ | refine AWp_regro mu_6 ks_6 ro_6 ?_ | refine AWp_regC mu_6 ks_6 ?_ | refine AWp_draw nd_6 mu_6 ks_6 ti_mixed (by kernel_rfl) ?_ | refine AWp_regE mu_6 ks_6 ?_ | refine AWp_drawE nd_6 mu_6 ks_6 ti_mixed (by kernel_rfl) ?_); intro Kv hKv) | refine AWp_retR ?_); try simp (dsimp := false) only [go_sem, Nat.reduceAdd, Nat.reduceBEq, Nat.reduceEqDiff, Nat.reduceLT, Nat.reduceLeDiff, Nat.reduceMul, Int.reduceToNat, reduceCtorEq, ↓reduceIte, Tryd.ntmps6, Tryd.results6, ks_6, mu_6, nd_6, gv_6, ro_6, ti_ag3, ti_ag47, ti_ag48, ti_ag53, ti_el54, ti_fl53_0, ti_fl53_1, ti_hb14, ti_hb15, ti_hb16, ti_sb23, ti_sb24, ti_sb47, ti_sl23, ti_sl24, ti_sl47, ti_sl48, ti_sn54, ti_sz53, ti_zr53, b1, List.map_nil, Int.reduceEq, Int.reduceLT]) | (refine AWp_condC rfl ?_; intro KA KB hKA hKB; try simp only [onB_true, onB_false, onB_dec, onB_ndec, onB_not, onB_and, onB_or]) | (refine AWp_condA rfl ?_ ?_) | with_reducible (first | refine onB_of ?_ ?_ | rfl) | omega)
    all_goals first
      | omega
      | exact keepFz hk (Fz_tu2 (.nil _) (.same _)) (by simp [Bel_tu, Bel_d])
  have hpos : 0 < p.length := by cases p with | nil => exact absurd rfl hnil | cons x l => simp
  have b2 : ((p.length : Int) = 0) = False := eq_false (by omega)
  have fault : ∀ {i : Nat} {o : Opp} {out : List (List (List UInt8))}, p[i]? = some o → planQ (p.drop i) out = planQ p [] → (stepQ out o).1 ≠ 0 → K (.tu [.d (.sl 1 []), .d (.i .i64 (stepQ out o).1)]) H := fun h hp hs => by
    rw [planQ_fault h hp hs hnil hbig, colsR, List.map_nil] at hk
    exact hk
  refine ACalls_of Tryd.func6 rfl in_6 (Nat.le_of_ble_eq_true rfl) ?_
  intro F hF
  simp (dsimp := false) only [go_sem, Nat.reduceAdd, Nat.reduceBEq, Nat.reduceEqDiff, Nat.reduceLT, Nat.reduceLeDiff, Nat.reduceMul, Int.reduceToNat, reduceCtorEq, ↓reduceIte, Tryd.ntmps6, Tryd.results6, ks_6, mu_6, nd_6, gv_6, ro_6, ti_ag3, ti_ag47, ti_ag48, ti_ag53, ti_el54, ti_fl53_0, ti_fl53_1, ti_hb14, ti_hb15, ti_hb16, ti_sb23, ti_sb24, ti_sb47, ti_sl23, ti_sl24, ti_sl47, ti_sl48, ti_sn54, ti_sz53, ti_zr53, b1, b2, in_6] at hF
  subst hF
  repeat' (first | with_reducible (first | refine And.intro ?_ ?_ | intro _ | refine AWp_seq ?_ | refine AWp_block ?_ | (refine hKv _ _ (AWp_nop ?_); clear hKv Kv) | (refine hKA ?_; clear hKA hKB KA KB) | (refine hKB ?_; clear hKA hKB KA KB) | refine AWp_skipN ?_ | refine AWp_exitO (by repeat (first | exact Out.hit | apply Out.thenA | apply Out.out rfl)) ?_) | (with_reducible (first | (refine hKv _ _ ?_; clear hKv Kv) | ((first | refine AWp_regG gv_6 mu_6 ks_6 (by decide) ?_ | refine AWp_regro mu_6 ks_6 ro_6 ?_ | refine AWp_regC mu_6 ks_6 ?_ | refine AWp_draw nd_6 mu_6 ks_6 ti_mixed (by kernel_rfl) ?_ | refine AWp_regE mu_6 ks_6 ?_ | refine AWp_drawE nd_6 mu_6 ks_6 ti_mixed (by kernel_rfl) ?_); intro Kv hKv) | refine AWp_retR ?_); try simp (dsimp := false) only [go_sem, Nat.reduceAdd, Nat.reduceBEq, Nat.reduceEqDiff, Nat.reduceLT, Nat.reduceLeDiff, Nat.reduceMul, Int.reduceToNat, reduceCtorEq, ↓reduceIte, Tryd.ntmps6, Tryd.results6, ks_6, mu_6, nd_6, gv_6, ro_6, ti_ag3, ti_ag47, ti_ag48, ti_ag53, ti_el54, ti_fl53_0, ti_fl53_1, ti_hb14, ti_hb15, ti_hb16, ti_sb23, ti_sb24, ti_sb47, ti_sl23, ti_sl24, ti_sl47, ti_sl48, ti_sn54, ti_sz53, ti_zr53, b1, b2]) | (refine AWp_condC rfl ?_; intro KA KB hKA hKB; try simp only [onB_true, onB_false, onB_dec, onB_ndec, onB_not, onB_and, onB_or]) | (refine AWp_condA rfl ?_ ?_) | with_reducible (first | refine onB_of ?_ ?_ | rfl) | omega)
  refine AWp_whileD (opQ p) (fun y => [(4, .os H.length y.1), (18, .d (.sl 13 (p.map opD))), (19, .d (.i .i64 p.length)), (20, .d (.i .i64 y.1))])
    (fun y => [.row y.1 48 1 (y.2.map lsC)]) (fun y => p.length - y.1) (0, []) ⟨Nat.zero_le _, rfl, by simp, rfl⟩ ⟨[], ?_⟩ ?_ ?_ ?_
  · first | rfl | (simp; done)
  · simp (dsimp := false) only [go_sem, Nat.reduceAdd, Nat.reduceBEq, Nat.reduceEqDiff, Nat.reduceLT, Nat.reduceLeDiff, Nat.reduceMul, Int.reduceToNat, reduceCtorEq, ↓reduceIte, Tryd.ntmps6, Tryd.results6, ks_6, mu_6, nd_6, gv_6, ro_6, ti_ag3, ti_ag47, ti_ag48, ti_ag53, ti_el54, ti_fl53_0, ti_fl53_1, ti_hb14, ti_hb15, ti_hb16, ti_sb23, ti_sb24, ti_sb47, ti_sl23, ti_sl24, ti_sl47, ti_sl48, ti_sn54, ti_sz53, ti_zr53, b1, b2]
    first | done | (simp; done)
  · rintro y _ ob hob
    rw [List.mem_singleton.1 hob]
    exact lsC_bel _ _ _ _ _
  rintro ⟨i, out⟩ ⟨hi, hol, hok, hpl⟩
  simp only at hi hol hok hpl
  subst hol
  have i0 : ((0 : Int) ≤ (out.length : Int)) = True := eq_true (by omega)
  have hclo : Closed H (H ++ [.row out.length 48 1 (out.map lsC)]) := closed_app fun ob hob => by
    rw [List.mem_singleton.1 hob]
    exact lsC_bel _ _ _ _ _
  by_cases hiN : out.length < p.length
  · obtain ⟨o, ho⟩ : ∃ o, p[out.length]? = some o := ⟨p[out.length], List.getElem?_eq_getElem hiN⟩
    have hin : ((out.length : Int) < (p.length : Int)) = True := eq_true (by omega)
    have oko := ok o (List.mem_of_getElem? ho)
    by_cases k1 : o.kind < 1
    · have t1 : (o.kind < 1) = True := eq_true k1
      have hq : stepQ out o = (3, []) := by rw [stepQ, if_neg (by omega)]
      have hkk := fault ho hpl (by rw [hq]; decide)
      rw [hq] at hkk
      repeat' (first | with_reducible (first | refine And.intro ?_ ?_ | intro _ | refine AWp_seq ?_ | refine AWp_block ?_ | (refine hKv _ _ (AWp_nop ?_); clear hKv Kv) | (refine hKA ?_; clear hKA hKB KA KB) | (refine hKB ?_; clear hKA hKB KA KB) | refine AWp_skipN ?_ | refine AWp_exitO (by repeat (first | exact Out.hit | apply Out.thenA | apply Out.out rfl)) ?_) | (with_reducible (first | (refine hKv _ _ ?_; clear hKv Kv) | ((first | refine AWp_regG gv_6 mu_6 ks_6 (by decide) ?_ | refine AWp_regro mu_6 ks_6 ro_6 ?_ | refine AWp_regC mu_6 ks_6 ?_ | refine AWp_draw nd_6 mu_6 ks_6 ti_mixed (by kernel_rfl) ?_ | refine AWp_regE mu_6 ks_6 ?_ | refine AWp_drawE nd_6 mu_6 ks_6 ti_mixed (by kernel_rfl) ?_); intro Kv hKv) | refine AWp_retR ?_); try simp (dsimp := false) only [go_sem, Nat.reduceAdd, Nat.reduceBEq, Nat.reduceEqDiff, Nat.reduceLT, Nat.reduceLeDiff, Nat.reduceMul, Int.reduceToNat, reduceCtorEq, ↓reduceIte, Tryd.ntmps6, Tryd.results6, ks_6, mu_6, nd_6, gv_6, ro_6, ti_ag3, ti_ag47, ti_ag48, ti_ag53, ti_el54, ti_fl53_0, ti_fl53_1, ti_hb14, ti_hb15, ti_hb16, ti_sb23, ti_sb24, ti_sb47, ti_sl23, ti_sl24, ti_sl47, ti_sl48, ti_sn54, ti_sz53, ti_zr53, opD, hin, i0, ho, t1]) | (refine AWp_condC rfl ?_; intro KA KB hKA hKB; try simp only [onB_true, onB_false, onB_dec, onB_ndec, onB_not, onB_and, onB_or]) | (refine AWp_condA rfl ?_ ?_) | with_reducible (first | refine onB_of ?_ ?_ | rfl) | omega)
      all_goals first
        | omega
        | exact dropF hkk (Fz_tu2 (.nil _) (.same _)) (by simp [Bel_tu, Bel_d])
    have t1 : (o.kind < 1) = False := eq_false k1
    by_cases k2 : 15 < o.kind
    · have t2 : (15 < o.kind) = True := eq_true k2
      have hq : stepQ out o = (3, []) := by rw [stepQ, if_neg (by omega)]
      have hkk := fault ho hpl (by rw [hq]; decide)
      rw [hq] at hkk
      repeat' (first | with_reducible (first | refine And.intro ?_ ?_ | intro _ | refine AWp_seq ?_ | refine AWp_block ?_ | (refine hKv _ _ (AWp_nop ?_); clear hKv Kv) | (refine hKA ?_; clear hKA hKB KA KB) | (refine hKB ?_; clear hKA hKB KA KB) | refine AWp_skipN ?_ | refine AWp_exitO (by repeat (first | exact Out.hit | apply Out.thenA | apply Out.out rfl)) ?_) | (with_reducible (first | (refine hKv _ _ ?_; clear hKv Kv) | ((first | refine AWp_regG gv_6 mu_6 ks_6 (by decide) ?_ | refine AWp_regro mu_6 ks_6 ro_6 ?_ | refine AWp_regC mu_6 ks_6 ?_ | refine AWp_draw nd_6 mu_6 ks_6 ti_mixed (by kernel_rfl) ?_ | refine AWp_regE mu_6 ks_6 ?_ | refine AWp_drawE nd_6 mu_6 ks_6 ti_mixed (by kernel_rfl) ?_); intro Kv hKv) | refine AWp_retR ?_); try simp (dsimp := false) only [go_sem, Nat.reduceAdd, Nat.reduceBEq, Nat.reduceEqDiff, Nat.reduceLT, Nat.reduceLeDiff, Nat.reduceMul, Int.reduceToNat, reduceCtorEq, ↓reduceIte, Tryd.ntmps6, Tryd.results6, ks_6, mu_6, nd_6, gv_6, ro_6, ti_ag3, ti_ag47, ti_ag48, ti_ag53, ti_el54, ti_fl53_0, ti_fl53_1, ti_hb14, ti_hb15, ti_hb16, ti_sb23, ti_sb24, ti_sb47, ti_sl23, ti_sl24, ti_sl47, ti_sl48, ti_sn54, ti_sz53, ti_zr53, opD, hin, i0, ho, t1, t2]) | (refine AWp_condC rfl ?_; intro KA KB hKA hKB; try simp only [onB_true, onB_false, onB_dec, onB_ndec, onB_not, onB_and, onB_or]) | (refine AWp_condA rfl ?_ ?_) | with_reducible (first | refine onB_of ?_ ?_ | rfl) | omega)
      all_goals first
        | omega
        | exact dropF hkk (Fz_tu2 (.nil _) (.same _)) (by simp [Bel_tu, Bel_d])
    have t2 : (15 < o.kind) = False := eq_false k2
    have k1' : 1 ≤ o.kind := by omega
    have k2' : o.kind ≤ 15 := by omega
    have t3 : ((0 : Int) ≤ o.kind) = True := eq_true (by omega)
    have t4 : (o.kind < 16) = True := eq_true (by omega)
    have hgi : glob 0 = some inputsRow := Inp.at_
    have hgk : List.drop (o.kind.toNat * 1) inputsRow = .i .i64 (inCnt o.kind) :: List.drop (o.kind.toNat + 1) inputsRow := by rw [Nat.mul_one]; exact drop_of_get (inputs_get o.kind k1' k2')
    have hgl : inputsRow.length = 16 := rfl
    by_cases k3 : o.inn.length = inCnt o.kind
    case neg =>
      have t5 : ((o.inn.length : Int) = (inCnt o.kind : Int)) = False := eq_false (by omega)
      have hq : stepQ out o = (11, []) := by rw [stepQ, if_pos ⟨k1', k2'⟩, if_neg k3]
      have hkk := fault ho hpl (by rw [hq]; decide)
      rw [hq] at hkk
      repeat' (first | with_reducible (first | refine And.intro ?_ ?_ | intro _ | refine AWp_seq ?_ | refine AWp_block ?_ | (refine hKv _ _ (AWp_nop ?_); clear hKv Kv) | (refine hKA ?_; clear hKA hKB KA KB) | (refine hKB ?_; clear hKA hKB KA KB) | refine AWp_skipN ?_ | refine AWp_exitO (by repeat (first | exact Out.hit | apply Out.thenA | apply Out.out rfl)) ?_) | (with_reducible (first | (refine hKv _ _ ?_; clear hKv Kv) | ((first | refine AWp_regG gv_6 mu_6 ks_6 (by decide) ?_ | refine AWp_regro mu_6 ks_6 ro_6 ?_ | refine AWp_regC mu_6 ks_6 ?_ | refine AWp_draw nd_6 mu_6 ks_6 ti_mixed (by kernel_rfl) ?_ | refine AWp_regE mu_6 ks_6 ?_ | refine AWp_drawE nd_6 mu_6 ks_6 ti_mixed (by kernel_rfl) ?_); intro Kv hKv) | refine AWp_retR ?_); try simp (dsimp := false) only [go_sem, Nat.reduceAdd, Nat.reduceBEq, Nat.reduceEqDiff, Nat.reduceLT, Nat.reduceLeDiff, Nat.reduceMul, Int.reduceToNat, reduceCtorEq, ↓reduceIte, Tryd.ntmps6, Tryd.results6, ks_6, mu_6, nd_6, gv_6, ro_6, ti_ag3, ti_ag47, ti_ag48, ti_ag53, ti_el54, ti_fl53_0, ti_fl53_1, ti_hb14, ti_hb15, ti_hb16, ti_sb23, ti_sb24, ti_sb47, ti_sl23, ti_sl24, ti_sl47, ti_sl48, ti_sn54, ti_sz53, ti_zr53, opD, hin, i0, ho, t1, t2, t3, t4, t5, hgi, hgk, hgl, not_false_eq_true]) | (refine AWp_condC rfl ?_; intro KA KB hKA hKB; try simp only [onB_true, onB_false, onB_dec, onB_ndec, onB_not, onB_and, onB_or]) | (refine AWp_condA rfl ?_ ?_) | with_reducible (first | refine onB_of ?_ ?_ | rfl) | omega)
      all_goals first
        | omega
        | exact dropF hkk (Fz_tu2 (.nil _) (.same _)) (by simp [Bel_tu, Bel_d])
    have t5 : ((o.inn.length : Int) = (inCnt o.kind : Int)) = True := eq_true (by omega)
    repeat' (first | with_reducible (first | refine And.intro ?_ ?_ | intro _ | refine AWp_seq ?_ | refine AWp_block ?_ | (refine hKv _ _ (AWp_nop ?_); clear hKv Kv) | (refine hKA ?_; clear hKA hKB KA KB) | (refine hKB ?_; clear hKA hKB KA KB) | refine AWp_skipN ?_ | refine AWp_exitO (by repeat (first | exact Out.hit | apply Out.thenA | apply Out.out rfl)) ?_) | (with_reducible (first | (refine hKv _ _ ?_; clear hKv Kv) | ((first | refine AWp_regG gv_6 mu_6 ks_6 (by decide) ?_ | refine AWp_regro mu_6 ks_6 ro_6 ?_ | refine AWp_regC mu_6 ks_6 ?_ | refine AWp_draw nd_6 mu_6 ks_6 ti_mixed (by kernel_rfl) ?_ | refine AWp_regE mu_6 ks_6 ?_ | refine AWp_drawE nd_6 mu_6 ks_6 ti_mixed (by kernel_rfl) ?_); intro Kv hKv) | refine AWp_retR ?_); try simp (dsimp := false) only [go_sem, Nat.reduceAdd, Nat.reduceBEq, Nat.reduceEqDiff, Nat.reduceLT, Nat.reduceLeDiff, Nat.reduceMul, Int.reduceToNat, reduceCtorEq, ↓reduceIte, Tryd.ntmps6, Tryd.results6, ks_6, mu_6, nd_6, gv_6, ro_6, ti_ag3, ti_ag47, ti_ag48, ti_ag53, ti_el54, ti_fl53_0, ti_fl53_1, ti_hb14, ti_hb15, ti_hb16, ti_sb23, ti_sb24, ti_sb47, ti_sl23, ti_sl24, ti_sl47, ti_sl48, ti_sn54, ti_sz53, ti_zr53, opD, hin, i0, ho, t1, t2, t3, t4, t5, hgi, hgk, hgl, not_true_eq_false]) | (refine AWp_condC rfl ?_; intro KA KB hKA hKB; try simp only [onB_true, onB_false, onB_dec, onB_ndec, onB_not, onB_and, onB_or]) | (refine AWp_condA rfl ?_ ?_) | with_reducible (first | refine onB_of ?_ ?_ | rfl) | omega)
    all_goals first
      | omega
      | exact hclo
      | skip
    refine AWp_whileH (fun k : Nat => k ≤ o.inn.length ∧ ∀ n, n ∈ o.inn.take k → 0 ≤ n ∧ n < out.length)
      (fun k => [(4, .os H.length out.length), (5, .d (.i .i64 out.length)), (6, .rp (opD o)), (7, .os (H.length + 1) k), (18, .d (.sl 13 (p.map opD))), (19, .d (.i .i64 p.length)), (20, .d (.i .i64 out.length)), (42, .d (.sl 1 (o.inn.map inR1))), (43, .d (.i .i64 o.inn.length)), (44, .d (.i .i64 k))])
      (fun k => [.row out.length 48 1 (out.map lsC), .row k 48 1 (((o.inn.take k).map fun n => (out[n.toNat]?).getD []).map lsC)]) (fun k => o.inn.length - k) 0 ⟨Nat.zero_le _, by simp⟩ ?_ ?_ ?_ ?_
    · first | rfl | (simp; done)
    · simp (dsimp := false) only [go_sem, Nat.reduceAdd, Nat.reduceBEq, Nat.reduceEqDiff, Nat.reduceLT, Nat.reduceLeDiff, Nat.reduceMul, Int.reduceToNat, reduceCtorEq, ↓reduceIte, Tryd.ntmps6, Tryd.results6, ks_6, mu_6, nd_6, gv_6, ro_6, ti_ag3, ti_ag47, ti_ag48, ti_ag53, ti_el54, ti_fl53_0, ti_fl53_1, ti_hb14, ti_hb15, ti_hb16, ti_sb23, ti_sb24, ti_sb47, ti_sl23, ti_sl24, ti_sl47, ti_sl48, ti_sn54, ti_sz53, ti_zr53, opD, hin, i0, ho, t1, t2, t3, t4, t5, hgi, hgk, hgl, not_true_eq_false]
      first | done | (simp; done) | (simp [opD]; done)
    · rintro k _ ob hob
      simp only [List.mem_cons, List.not_mem_nil, or_false] at hob
      rcases hob with rfl | rfl <;> exact lsC_bel _ _ _ _ _
    rintro k ⟨hkl, hkr⟩
    by_cases hkN : k < o.inn.length
    · obtain ⟨n, hn⟩ : ∃ n, o.inn[k]? = some n := ⟨o.inn[k], List.getElem?_eq_getElem hkN⟩
      have hkin : ((k : Int) < (o.inn.length : Int)) = True := eq_true (by omega)
      have k0 : ((0 : Int) ≤ (k : Int)) = True := eq_true (by omega)
      have hmem := List.mem_of_getElem? hn
      have hnl := oko.ninn
      by_cases n1 : n < 0
      · have u1 : (n < 0) = True := eq_true n1
        have hq := stepQ_rng (out := out) k1' k2' k3 hmem (by omega)
        have hkk := fault ho hpl (by rw [hq]; decide)
        rw [hq] at hkk
        repeat' (first | with_reducible (first | refine And.intro ?_ ?_ | intro _ | refine AWp_seq ?_ | refine AWp_block ?_ | (refine hKv _ _ (AWp_nop ?_); clear hKv Kv) | (refine hKA ?_; clear hKA hKB KA KB) | (refine hKB ?_; clear hKA hKB KA KB) | refine AWp_skipN ?_ | refine AWp_exitO (by repeat (first | exact Out.hit | apply Out.thenA | apply Out.out rfl)) ?_) | (with_reducible (first | (refine hKv _ _ ?_; clear hKv Kv) | ((first | refine AWp_regG gv_6 mu_6 ks_6 (by decide) ?_ | refine AWp_regro mu_6 ks_6 ro_6 ?_ | refine AWp_regC mu_6 ks_6 ?_ | refine AWp_draw nd_6 mu_6 ks_6 ti_mixed (by kernel_rfl) ?_ | refine AWp_regE mu_6 ks_6 ?_ | refine AWp_drawE nd_6 mu_6 ks_6 ti_mixed (by kernel_rfl) ?_); intro Kv hKv) | refine AWp_retR ?_); try simp (dsimp := false) only [go_sem, Nat.reduceAdd, Nat.reduceBEq, Nat.reduceEqDiff, Nat.reduceLT, Nat.reduceLeDiff, Nat.reduceMul, Int.reduceToNat, reduceCtorEq, ↓reduceIte, Tryd.ntmps6, Tryd.results6, ks_6, mu_6, nd_6, gv_6, ro_6, ti_ag3, ti_ag47, ti_ag48, ti_ag53, ti_el54, ti_fl53_0, ti_fl53_1, ti_hb14, ti_hb15, ti_hb16, ti_sb23, ti_sb24, ti_sb47, ti_sl23, ti_sl24, ti_sl47, ti_sl48, ti_sn54, ti_sz53, ti_zr53, opD, inR1, hkin, k0, hn, u1]) | (refine AWp_condC rfl ?_; intro KA KB hKA hKB; try simp only [onB_true, onB_false, onB_dec, onB_ndec, onB_not, onB_and, onB_or]) | (refine AWp_condA rfl ?_ ?_) | with_reducible (first | refine onB_of ?_ ?_ | rfl) | omega)
        all_goals first
          | omega
          | exact dropF hkk (Fz_tu2 (.nil _) (.same _)) (by simp [Bel_tu, Bel_d])
      have u1 : (n < 0) = False := eq_false n1
      by_cases n2 : (out.length : Int) ≤ n
      · have u2 : ((out.length : Int) ≤ n) = True := eq_true n2
        have hq := stepQ_rng (out := out) k1' k2' k3 hmem (by omega)
        have hkk := fault ho hpl (by rw [hq]; decide)
        rw [hq] at hkk
        repeat' (first | with_reducible (first | refine And.intro ?_ ?_ | intro _ | refine AWp_seq ?_ | refine AWp_block ?_ | (refine hKv _ _ (AWp_nop ?_); clear hKv Kv) | (refine hKA ?_; clear hKA hKB KA KB) | (refine hKB ?_; clear hKA hKB KA KB) | refine AWp_skipN ?_ | refine AWp_exitO (by repeat (first | exact Out.hit | apply Out.thenA | apply Out.out rfl)) ?_) | (with_reducible (first | (refine hKv _ _ ?_; clear hKv Kv) | ((first | refine AWp_regG gv_6 mu_6 ks_6 (by decide) ?_ | refine AWp_regro mu_6 ks_6 ro_6 ?_ | refine AWp_regC mu_6 ks_6 ?_ | refine AWp_draw nd_6 mu_6 ks_6 ti_mixed (by kernel_rfl) ?_ | refine AWp_regE mu_6 ks_6 ?_ | refine AWp_drawE nd_6 mu_6 ks_6 ti_mixed (by kernel_rfl) ?_); intro Kv hKv) | refine AWp_retR ?_); try simp (dsimp := false) only [go_sem, Nat.reduceAdd, Nat.reduceBEq, Nat.reduceEqDiff, Nat.reduceLT, Nat.reduceLeDiff, Nat.reduceMul, Int.reduceToNat, reduceCtorEq, ↓reduceIte, Tryd.ntmps6, Tryd.results6, ks_6, mu_6, nd_6, gv_6, ro_6, ti_ag3, ti_ag47, ti_ag48, ti_ag53, ti_el54, ti_fl53_0, ti_fl53_1, ti_hb14, ti_hb15, ti_hb16, ti_sb23, ti_sb24, ti_sb47, ti_sl23, ti_sl24, ti_sl47, ti_sl48, ti_sn54, ti_sz53, ti_zr53, opD, inR1, hkin, k0, hn, u1, u2]) | (refine AWp_condC rfl ?_; intro KA KB hKA hKB; try simp only [onB_true, onB_false, onB_dec, onB_ndec, onB_not, onB_and, onB_or]) | (refine AWp_condA rfl ?_ ?_) | with_reducible (first | refine onB_of ?_ ?_ | rfl) | omega)
        all_goals first
          | omega
          | exact dropF hkk (Fz_tu2 (.nil _) (.same _)) (by simp [Bel_tu, Bel_d])
      have u2 : ((out.length : Int) ≤ n) = False := eq_false n2
      have u3 : (0 ≤ n) = True := eq_true (by omega)
      have u4 : (n < (out.length : Int)) = True := eq_true (by omega)
      obtain ⟨l, hl⟩ : ∃ l, out[n.toNat]? = some l := ⟨out[n.toNat]'(by omega), List.getElem?_eq_getElem (by omega)⟩
      have htk : (((o.inn.take k).map fun n => (out[n.toNat]?).getD []).map lsC).length = k := by rw [List.length_map, List.length_map, List.length_take]; omega
      have hgl2 : (out.map lsC)[n.toNat]? = some (lsC l) := by rw [List.getElem?_map, hl]; rfl
      repeat' (first | with_reducible (first | refine And.intro ?_ ?_ | intro _ | refine AWp_seq ?_ | refine AWp_block ?_ | (refine hKv _ _ (AWp_nop ?_); clear hKv Kv) | (refine hKA ?_; clear hKA hKB KA KB) | (refine hKB ?_; clear hKA hKB KA KB) | refine AWp_skipN ?_ | refine AWp_exitO (by repeat (first | exact Out.hit | apply Out.thenA | apply Out.out rfl)) ?_) | (with_reducible (first | (refine hKv _ _ ?_; clear hKv Kv) | ((first | refine AWp_regG gv_6 mu_6 ks_6 (by decide) ?_ | refine AWp_regro mu_6 ks_6 ro_6 ?_ | refine AWp_regC mu_6 ks_6 ?_ | refine AWp_draw nd_6 mu_6 ks_6 ti_mixed (by kernel_rfl) ?_ | refine AWp_regE mu_6 ks_6 ?_ | refine AWp_drawE nd_6 mu_6 ks_6 ti_mixed (by kernel_rfl) ?_); intro Kv hKv) | refine AWp_retR ?_); try simp (dsimp := false) only [go_sem, Nat.reduceAdd, Nat.reduceBEq, Nat.reduceEqDiff, Nat.reduceLT, Nat.reduceLeDiff, Nat.reduceMul, Int.reduceToNat, reduceCtorEq, ↓reduceIte, Tryd.ntmps6, Tryd.results6, ks_6, mu_6, nd_6, gv_6, ro_6, ti_ag3, ti_ag47, ti_ag48, ti_ag53, ti_el54, ti_fl53_0, ti_fl53_1, ti_hb14, ti_hb15, ti_hb16, ti_sb23, ti_sb24, ti_sb47, ti_sl23, ti_sl24, ti_sl47, ti_sl48, ti_sn54, ti_sz53, ti_zr53, opD, inR1, lsC, hkin, k0, hn, u1, u2, u3, u4, hl, hgl2, htk]) | (refine AWp_condC rfl ?_; intro KA KB hKA hKB; try simp only [onB_true, onB_false, onB_dec, onB_ndec, onB_not, onB_and, onB_or]) | (refine AWp_condA rfl ?_ ?_) | with_reducible (first | refine onB_of ?_ ?_ | rfl) | omega)
      all_goals first
        | omega
        | skip
      refine ⟨k + 1, ⟨by omega, ?_⟩, by omega, ?_, by omega, rfl, by omega, by omega⟩
      · intro m hm
        rw [take_of_get hn] at hm
        rcases List.mem_append.1 hm with hm | hm
        · exact hkr m hm
        · rw [List.mem_singleton.1 hm]; omega
      · rw [take_of_get hn, List.map_append, List.map_append]
        simp [hl, lsC]
    obtain rfl : k = o.inn.length := by omega
    have hkin : ((o.inn.length : Int) < (o.inn.length : Int)) = False := eq_false (by omega)
    rw [List.take_of_length_le (Nat.le_refl _)] at hkr ⊢
    rw [inAt_take k3]
    have hq := stepQ_val (out := out) k1' k2' k3 hkr
    have hcol := columns_A o oko k1' k2' (inAt out o.inn 0) (inAt out o.inn 1) (inAt_ok hok _ _) (inAt_ok hok _ _)
    rw [← hq] at hcol
    have hdl := lsC_data ([inAt out o.inn 0, inAt out o.inn 1].take (inCnt o.kind))
    by_cases hs : (stepQ out o).1 = 0
    case neg =>
      have s1 : ((stepQ out o).1 = 0) = False := eq_false hs
      have hkk := fault ho hpl hs
      repeat' (first | with_reducible (first | refine And.intro ?_ ?_ | intro _ | refine AWp_seq ?_ | refine AWp_block ?_ | (refine hKv _ _ (AWp_nop ?_); clear hKv Kv) | (refine hKA ?_; clear hKA hKB KA KB) | (refine hKB ?_; clear hKA hKB KA KB) | refine AWp_skipN ?_ | refine AWp_exitO (by repeat (first | exact Out.hit | apply Out.thenA | apply Out.out rfl)) ?_) | ((first | with_reducible (first | (refine hKv _ _ ?_; clear hKv Kv) | ((first | refine AWp_regG gv_6 mu_6 ks_6 (by decide) ?_ | refine AWp_regro mu_6 ks_6 ro_6 ?_ | refine AWp_regC mu_6 ks_6 ?_ | refine AWp_draw nd_6 mu_6 ks_6 ti_mixed (by kernel_rfl) ?_ | refine AWp_regE mu_6 ks_6 ?_ | refine AWp_drawE nd_6 mu_6 ks_6 ti_mixed (by kernel_rfl) ?_); intro Kv hKv) | refine AWp_retR ?_) | refine hcol _ _ ?_ | refine QCall_of (hcol _ _ (Two_intro _ _)) ?_); try simp (dsimp := false) only [go_sem, Nat.reduceAdd, Nat.reduceBEq, Nat.reduceEqDiff, Nat.reduceLT, Nat.reduceLeDiff, Nat.reduceMul, Int.reduceToNat, reduceCtorEq, ↓reduceIte, Tryd.ntmps6, Tryd.results6, ks_6, mu_6, nd_6, gv_6, ro_6, ti_ag3, ti_ag47, ti_ag48, ti_ag53, ti_el54, ti_fl53_0, ti_fl53_1, ti_hb14, ti_hb15, ti_hb16, ti_sb23, ti_sb24, ti_sb47, ti_sl23, ti_sl24, ti_sl47, ti_sl48, ti_sn54, ti_sz53, ti_zr53, opD, opV, colsV, hkin, s1, hdl]) | (refine AWp_condC rfl ?_; intro KA KB hKA hKB; try simp only [onB_true, onB_false, onB_dec, onB_ndec, onB_not, onB_and, onB_or]) | (refine AWp_condA rfl ?_ ?_) | with_reducible (first | refine onB_of ?_ ?_ | rfl) | omega)
      all_goals first
        | omega
        | exact dropF hkk (Fz_tu2 (.nil _) (.same _)) (by simp [Bel_tu, Bel_d])
    have s1 : ((stepQ out o).1 = 0) = True := eq_true hs
    have okn := OkC_of (stepQ_ok hs)
    have hle := okn.le8
    have hcl := fun H K hk => RkO.cloneStrsO_A ((stepQ out o).2.map strRow) (by rw [List.length_map]; omega) H K hk
    have hd2 : dsRows (((stepQ out o).2.map strRow).map fun r => r.map V.d) = some ((stepQ out o).2.map strRow) := data_rows _
    have h23 : H.length + 2 + 1 = H.length + 3 := rfl
    repeat' (first | with_reducible (first | refine And.intro ?_ ?_ | intro _ | refine AWp_seq ?_ | refine AWp_block ?_ | (refine hKv _ _ (AWp_nop ?_); clear hKv Kv) | (refine hKA ?_; clear hKA hKB KA KB) | (refine hKB ?_; clear hKA hKB KA KB) | refine AWp_skipN ?_ | refine AWp_exitO (by repeat (first | exact Out.hit | apply Out.thenA | apply Out.out rfl)) ?_) | ((first | with_reducible (first | (refine hKv _ _ ?_; clear hKv Kv) | ((first | refine AWp_regG gv_6 mu_6 ks_6 (by decide) ?_ | refine AWp_regro mu_6 ks_6 ro_6 ?_ | refine AWp_regC mu_6 ks_6 ?_ | refine AWp_draw nd_6 mu_6 ks_6 ti_mixed (by kernel_rfl) ?_ | refine AWp_regE mu_6 ks_6 ?_ | refine AWp_drawE nd_6 mu_6 ks_6 ti_mixed (by kernel_rfl) ?_); intro Kv hKv) | refine AWp_retR ?_) | refine hcol _ _ ?_ | refine QCall_of (hcol _ _ (Two_intro _ _)) ?_ | refine hcl _ _ ?_ | refine QCall_of (hcl _ _ (Two_intro _ _)) ?_); try simp (dsimp := false) only [go_sem, Nat.reduceAdd, Nat.reduceBEq, Nat.reduceEqDiff, Nat.reduceLT, Nat.reduceLeDiff, Nat.reduceMul, Int.reduceToNat, reduceCtorEq, ↓reduceIte, Tryd.ntmps6, Tryd.results6, ks_6, mu_6, nd_6, gv_6, ro_6, ti_ag3, ti_ag47, ti_ag48, ti_ag53, ti_el54, ti_fl53_0, ti_fl53_1, ti_hb14, ti_hb15, ti_hb16, ti_sb23, ti_sb24, ti_sb47, ti_sl23, ti_sl24, ti_sl47, ti_sl48, ti_sn54, ti_sz53, ti_zr53, opD, opV, colsV, lsC, hkin, s1, hdl, hd2, h23]) | (refine AWp_condC rfl ?_; intro KA KB hKA hKB; try simp only [onB_true, onB_false, onB_dec, onB_ndec, onB_not, onB_and, onB_or]) | (refine AWp_condA rfl ?_ ?_) | with_reducible (first | refine onB_of ?_ ?_ | rfl) | omega)
    all_goals first
      | omega
      | skip
    refine ⟨(out.length + 1, out ++ [(stepQ out o).2]), [.dead, .row 0 9 1 [], .dead], ⟨by simp only; omega, by simp, fun l hl => ?_, ?_⟩, by simp only; omega, ?_, rfl, by omega, by simp⟩
    · rcases List.mem_append.1 hl with hl | hl
      · exact hok l hl
      · rw [List.mem_singleton.1 hl]; exact okn
    · rw [planQ_next ho, if_pos hs] at hpl
      exact hpl
    · simp [lsC]
  have hol : out.length = p.length := by omega
  have hne : out ≠ [] := by intro e; subst e; simp at hol; omega
  have hin : ((out.length : Int) < (p.length : Int)) = False := eq_false (by omega)
  rw [hol, planQ_end] at hpl
  obtain ⟨last, hlast⟩ : ∃ l, out[out.length - 1]? = some l := ⟨out[out.length - 1]'(by omega), List.getElem?_eq_getElem (by omega)⟩
  have hg : out.getLastD [] = last := by
    rw [List.getLastD_eq_getLast?, List.getLast?_eq_getElem?, hlast]; rfl
  have okl := hok last (List.mem_of_getElem? hlast)
  have v1 : ((out.length : Int) - 1).toNat = out.length - 1 := by omega
  have v2 : ((0 : Int) ≤ (out.length : Int) - 1) = True := eq_true (by omega)
  have v3 : ((out.length : Int) - 1 < (out.length : Int)) = True := eq_true (by omega)
  have hg2 : (out.map lsC)[out.length - 1]? = some (lsC last) := by rw [List.getElem?_map, hlast]; rfl
  have hh : ∀ x, out[out.length - 1]? = some x → ∀ (H : Heap) (K : V → Heap → Prop), K (.d (.b (hasQ last [sPos, sItem]))) H → ACalls Tryd.prog 16 [.d (.sl 1 (x.map strRow)), .d (.sl 1 ([sPos, sItem].map strRow))] H K := fun x hx H K hk => by
    obtain rfl : last = x := Option.some.inj (hlast.symm.trans hx)
    exact has_A last okl.len [sPos, sItem] (by decide) H K hk
  have hcq : columnsQ p = if hasQ last [sPos, sItem] = true then (0, out) else (9, []) := by
    rw [columnsQ, if_neg hbig, if_neg hnil, ← hpl, if_pos rfl, hg]
  rw [hcq] at hk
  cases hc : hasQ last [sPos, sItem] with
  | true =>
    rw [hc] at hh hk
    rw [if_pos rfl, colsR] at hk
    repeat' (first | with_reducible (first | refine And.intro ?_ ?_ | intro _ | refine AWp_seq ?_ | refine AWp_block ?_ | (refine hKv _ _ (AWp_nop ?_); clear hKv Kv) | (refine hKA ?_; clear hKA hKB KA KB) | (refine hKB ?_; clear hKA hKB KA KB) | refine AWp_skipN ?_ | refine AWp_exitO (by repeat (first | exact Out.hit | apply Out.thenA | apply Out.out rfl)) ?_) | ((first | with_reducible (first | (refine hKv _ _ ?_; clear hKv Kv) | ((first | refine AWp_regG gv_6 mu_6 ks_6 (by decide) ?_ | refine AWp_regro mu_6 ks_6 ro_6 ?_ | refine AWp_regC mu_6 ks_6 ?_ | refine AWp_draw nd_6 mu_6 ks_6 ti_mixed (by kernel_rfl) ?_ | refine AWp_regE mu_6 ks_6 ?_ | refine AWp_drawE nd_6 mu_6 ks_6 ti_mixed (by kernel_rfl) ?_); intro Kv hKv) | refine AWp_retR ?_) | refine hh _ (by assumption) _ _ ?_ | refine QCall_of (hh _ (by assumption) _ _ (Two_intro _ _)) ?_); try simp (dsimp := false) only [go_sem, Nat.reduceAdd, Nat.reduceBEq, Nat.reduceEqDiff, Nat.reduceLT, Nat.reduceLeDiff, Nat.reduceMul, Int.reduceToNat, reduceCtorEq, ↓reduceIte, Tryd.ntmps6, Tryd.results6, ks_6, mu_6, nd_6, gv_6, ro_6, ti_ag3, ti_ag47, ti_ag48, ti_ag53, ti_el54, ti_fl53_0, ti_fl53_1, ti_hb14, ti_hb15, ti_hb16, ti_sb23, ti_sb24, ti_sb47, ti_sl23, ti_sl24, ti_sl47, ti_sl48, ti_sn54, ti_sz53, ti_zr53, opD, sPos, sItem, lsC, hin, v1, v2, v3, hg2]) | (refine AWp_condC rfl ?_; intro KA KB hKA hKB; try simp only [onB_true, onB_false, onB_dec, onB_ndec, onB_not, onB_and, onB_or]) | (refine AWp_condA rfl ?_ ?_) | with_reducible (first | refine onB_of ?_ ?_ | rfl) | omega)
    all_goals first
      | omega
      | (refine dropF hk (Fz_tu2 ?_ (.same _)) ?_
         · exact .os _ _ 48 1 _ _ (by omega) (get_app0 _ _) (lsC_data _)
         · simp [Bel_tu, Bel_d])
  | false =>
    rw [hc] at hh hk
    rw [if_neg (by decide), colsR, List.map_nil] at hk
    repeat' (first | with_reducible (first | refine And.intro ?_ ?_ | intro _ | refine AWp_seq ?_ | refine AWp_block ?_ | (refine hKv _ _ (AWp_nop ?_); clear hKv Kv) | (refine hKA ?_; clear hKA hKB KA KB) | (refine hKB ?_; clear hKA hKB KA KB) | refine AWp_skipN ?_ | refine AWp_exitO (by repeat (first | exact Out.hit | apply Out.thenA | apply Out.out rfl)) ?_) | ((first | with_reducible (first | (refine hKv _ _ ?_; clear hKv Kv) | ((first | refine AWp_regG gv_6 mu_6 ks_6 (by decide) ?_ | refine AWp_regro mu_6 ks_6 ro_6 ?_ | refine AWp_regC mu_6 ks_6 ?_ | refine AWp_draw nd_6 mu_6 ks_6 ti_mixed (by kernel_rfl) ?_ | refine AWp_regE mu_6 ks_6 ?_ | refine AWp_drawE nd_6 mu_6 ks_6 ti_mixed (by kernel_rfl) ?_); intro Kv hKv) | refine AWp_retR ?_) | refine hh _ (by assumption) _ _ ?_ | refine QCall_of (hh _ (by assumption) _ _ (Two_intro _ _)) ?_); try simp (dsimp := false) only [go_sem, Nat.reduceAdd, Nat.reduceBEq, Nat.reduceEqDiff, Nat.reduceLT, Nat.reduceLeDiff, Nat.reduceMul, Int.reduceToNat, reduceCtorEq, ↓reduceIte, Tryd.ntmps6, Tryd.results6, ks_6, mu_6, nd_6, gv_6, ro_6, ti_ag3, ti_ag47, ti_ag48, ti_ag53, ti_el54, ti_fl53_0, ti_fl53_1, ti_hb14, ti_hb15, ti_hb16, ti_sb23, ti_sb24, ti_sb47, ti_sl23, ti_sl24, ti_sl47, ti_sl48, ti_sn54, ti_sz53, ti_zr53, opD, sPos, sItem, lsC, hin, v1, v2, v3, hg2]) | (refine AWp_condC rfl ?_; intro KA KB hKA hKB; try simp only [onB_true, onB_false, onB_dec, onB_ndec, onB_not, onB_and, onB_or]) | (refine AWp_condA rfl ?_ ?_) | with_reducible (first | refine onB_of ?_ ?_ | rfl) | omega)
    all_goals first
      | omega
      | exact dropF hk (Fz_tu2 (.nil _) (.same _)) (by simp [Bel_tu, Bel_d])
end Go.Proofs.YtppalmoicjogaaaDoor
