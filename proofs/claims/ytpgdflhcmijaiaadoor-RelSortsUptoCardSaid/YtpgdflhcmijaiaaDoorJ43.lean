/- The program's sort of a relation. No condition but that the tables of package unicode/utf8 are there. -/
import Derived.Test.YtpgdflhcmijaiaaDoorJ42
import Derived.Test.YtpgdflhcmijaiaaDoorJ40
set_option linter.all false
set_option linter.unusedSimpArgs false
set_option linter.unusedVariables false
namespace Go.Proofs.YtpgdflhcmijaiaaDoor
open Go Go.Proofs.YtpgdflhcmijaiaaDoor.Ab
variable [Glo] [U8]
set_option maxHeartbeats 4000000
set_option maxRecDepth 20000
def sorted (r : Rl) (by_ : List (List UInt8)) : Rl × Int :=
  if relFault r = 0 then (match places r.cols by_ with | some ps => (made r.cols (srtRows ps r.rows), madeFault r.cols r.rows.length) | none => (rl0, 9)) else (rl0, relFault r)
theorem places_in {r : Rl} {by_ : List (List UInt8)} {ps : List Int} (hf : relFault r = 0) (hp : places r.cols by_ = some ps) : ps.length = by_.length ∧ ∀ row, row ∈ r.rows → ∀ i, i ∈ ps → 0 ≤ i ∧ i < row.length := by
  obtain ⟨_, hN, hall⟩ := relFault_ok hf
  obtain ⟨h1, h2⟩ := placesGo_mem by_ [] ps hp (fun i hi => by cases hi)
  refine ⟨by simpa using h2, fun row hrow i hi => ?_⟩
  have := h1 i hi
  have hl := (hall row hrow).1
  exact ⟨this.1, by omega⟩
def ks_7 : Nat → List Nat
  | 0 => [1, 2, 4]
  | 1 => [1, 2, 4, 6]
  | 2 => [1, 2, 4, 6, 15]
  | 3 => [4, 5]
  | 4 => [2, 4, 7, 8]
  | 5 => [2, 4, 7, 8, 25]
  | 6 => [4, 5]
  | 7 => [2, 4, 7, 9]
  | 8 => [2, 4, 7, 9, 29, 30, 31]
  | 9 => [2, 4, 7, 9, 29, 30, 31, 32]
  | 10 => [2, 4, 7, 9, 11, 29, 30, 31]
  | 11 => [2, 4, 7, 9, 29, 30, 31]
  | 12 => [2, 4, 7, 9, 29, 30, 31]
  | 13 => [2, 4, 9]
  | 14 => [4, 5]
  | _ => []
def mu_7 : List Nat := [9]
def in_7 : List Nat := [0, 1]
def ro_7 : Nat → List Nat
  | 4 => [7]
  | _ => []
theorem sort_A (r : Rl) (hS : ShR r) (by_ : List (List UInt8)) (hby : by_.length ≤ 1048576) (H : Heap) (K : V → Heap → Prop) (hk : K (relE (sorted r by_).1 (sorted r by_).2) H) :
    ACalls Tryd.prog 7 [rlV r, .d (.sl 1 (by_.map strRow))] H K := by
  have q1 := hS.ncols
  have q2 := hS.nrows
  by_cases hf : relFault r = 0
  · cases hp : places r.cols by_ with
    | none =>
      rw [sorted, if_pos hf, hp] at hk
      refine ACalls_of Tryd.func7 rfl in_7 (Nat.le_of_ble_eq_true rfl) ?_
      intro F hF
      simp (dsimp := false) only [go_sem, Nat.reduceAdd, Nat.reduceBEq, Nat.reduceEqDiff, Nat.reduceLT, Nat.reduceLeDiff, Nat.reduceMul, Int.reduceToNat, reduceCtorEq, ↓reduceIte, Tryd.ntmps7, Tryd.results7, ks_7, mu_7, ro_7, ti_ag22, ti_ag23, ti_ag25, ti_ag44, ti_fl25_0, ti_fl25_1, ti_hb17, ti_hb18, ti_hb19, ti_hb20, ti_hb21, ti_hb24, ti_pl25, ti_sb23, ti_sl23, ti_sz25, ti_sz35, ti_zr25, ti_zr35, itD, itV, rlV, rowD, rlD, hf, hp, Option.getD_none, Option.isSome_none, Int.reduceEq, not_false_eq_true, in_7] at hF
      subst hF
      repeat' (first | with_reducible (first | refine And.intro ?_ ?_ | intro _ | refine AWp_seq ?_ | refine AWp_block ?_ | (refine hKv _ _ (AWp_nop ?_); clear hKv Kv) | (refine hKA ?_; clear hKA hKB KA KB) | (refine hKB ?_; clear hKA hKB KA KB) | refine AWp_skipN ?_ | refine AWp_exitO (by repeat (first | exact Out.hit | apply Out.thenA | apply Out.out rfl)) ?_) | ((first | with_reducible (first | (refine hKv _ _ ?_; clear hKv Kv) | ((first | refine AWp_regro mu_7 ks_7 ro_7 ?_ | refine AWp_regC mu_7 ks_7 ?_ | refine AWp_regE mu_7 ks_7 ?_); intro Kv hKv) | refine AWp_retR ?_) | refine relCheck_A r hS _ _ ?_ | refine places_A r hS by_ hby _ _ ?_); try simp (dsimp := false) only [go_sem, Nat.reduceAdd, Nat.reduceBEq, Nat.reduceEqDiff, Nat.reduceLT, Nat.reduceLeDiff, Nat.reduceMul, Int.reduceToNat, reduceCtorEq, ↓reduceIte, Tryd.ntmps7, Tryd.results7, ks_7, mu_7, ro_7, ti_ag22, ti_ag23, ti_ag25, ti_ag44, ti_fl25_0, ti_fl25_1, ti_hb17, ti_hb18, ti_hb19, ti_hb20, ti_hb21, ti_hb24, ti_pl25, ti_sb23, ti_sl23, ti_sz25, ti_sz35, ti_zr25, ti_zr35, itD, itV, rlV, rowD, rlD, hf, hp, Option.getD_none, Option.isSome_none, Int.reduceEq, not_false_eq_true]) | (refine AWp_condC rfl ?_; intro KA KB hKA hKB; try simp only [onB_true, onB_false, onB_dec, onB_ndec, onB_not, onB_and, onB_or]) | (refine AWp_condA rfl ?_ ?_) | with_reducible (first | refine onB_of ?_ ?_ | rfl) | omega)
      all_goals first
        | exact dropF hk (fz_rl0 _ _ _) (bel_relE _ _ _)
        | exact closed_app fun ob hob => by rw [List.mem_singleton.1 hob]; exact bel_nil2 _ _ _
    | some ps =>
      rw [sorted, if_pos hf, hp] at hk
      obtain ⟨hpl, hpi⟩ := places_in hf hp
      obtain ⟨_, hN, hall⟩ := relFault_ok hf
      refine ACalls_of Tryd.func7 rfl in_7 (Nat.le_of_ble_eq_true rfl) ?_
      intro F hF
      simp (dsimp := false) only [go_sem, Nat.reduceAdd, Nat.reduceBEq, Nat.reduceEqDiff, Nat.reduceLT, Nat.reduceLeDiff, Nat.reduceMul, Int.reduceToNat, reduceCtorEq, ↓reduceIte, Tryd.ntmps7, Tryd.results7, ks_7, mu_7, ro_7, ti_ag22, ti_ag23, ti_ag25, ti_ag44, ti_fl25_0, ti_fl25_1, ti_hb17, ti_hb18, ti_hb19, ti_hb20, ti_hb21, ti_hb24, ti_pl25, ti_sb23, ti_sl23, ti_sz25, ti_sz35, ti_zr25, ti_zr35, itD, itV, rlV, rowD, rlD, hf, hp, Option.getD_some, Option.isSome_some, Int.reduceEq, not_true_eq_false, eq_self, in_7] at hF
      subst hF
      repeat' (first | with_reducible (first | refine And.intro ?_ ?_ | intro _ | refine AWp_seq ?_ | refine AWp_block ?_ | (refine hKv _ _ (AWp_nop ?_); clear hKv Kv) | (refine hKA ?_; clear hKA hKB KA KB) | (refine hKB ?_; clear hKA hKB KA KB) | refine AWp_skipN ?_ | refine AWp_exitO (by repeat (first | exact Out.hit | apply Out.thenA | apply Out.out rfl)) ?_) | ((first | with_reducible (first | (refine hKv _ _ ?_; clear hKv Kv) | ((first | refine AWp_regro mu_7 ks_7 ro_7 ?_ | refine AWp_regC mu_7 ks_7 ?_ | refine AWp_regE mu_7 ks_7 ?_); intro Kv hKv) | refine AWp_retR ?_) | refine relCheck_A r hS _ _ ?_ | refine places_A r hS by_ hby _ _ ?_); try simp (dsimp := false) only [go_sem, Nat.reduceAdd, Nat.reduceBEq, Nat.reduceEqDiff, Nat.reduceLT, Nat.reduceLeDiff, Nat.reduceMul, Int.reduceToNat, reduceCtorEq, ↓reduceIte, Tryd.ntmps7, Tryd.results7, ks_7, mu_7, ro_7, ti_ag22, ti_ag23, ti_ag25, ti_ag44, ti_fl25_0, ti_fl25_1, ti_hb17, ti_hb18, ti_hb19, ti_hb20, ti_hb21, ti_hb24, ti_pl25, ti_sb23, ti_sl23, ti_sz25, ti_sz35, ti_zr25, ti_zr35, itD, itV, rlV, rowD, rlD, hf, hp, Option.getD_some, Option.isSome_some, Int.reduceEq, not_true_eq_false, eq_self]) | (refine AWp_condC rfl ?_; intro KA KB hKA hKB; try simp only [onB_true, onB_false, onB_dec, onB_ndec, onB_not, onB_and, onB_or]) | (refine AWp_condA rfl ?_ ?_) | with_reducible (first | refine onB_of ?_ ?_ | rfl) | omega)
      · exact closed_app fun ob hob => by
          rw [List.mem_singleton.1 hob]
          exact bel_nil2 _ _ _
      refine AWp_whileH (fun i : Nat => i ≤ r.rows.length)
        (fun i => [(2, .rp (rlD r)), (4, .pt H.length 0 0 0), (7, .rp [.sl 1 (ps.map intRow)]), (9, .os (H.length + 1) i), (29, .d (.sl 1 (r.rows.map rowD))), (30, .d (.i .i64 r.rows.length)), (31, .d (.i .i64 i))])
        (fun i => [.row 0 25 2 [[.d (.c (.slice none 0 0)), .d (.c (.slice none 0 0))]], .row i 44 1 ((r.rows.take i).map rowC)]) (fun i => r.rows.length - i) 0 (Nat.zero_le _) ?_ ?_ ?_ ?_
      · first | rfl | (simp; done)
      · simp (dsimp := false) only [go_sem, Nat.reduceAdd, Nat.reduceBEq, Nat.reduceEqDiff, Nat.reduceLT, Nat.reduceLeDiff, Nat.reduceMul, Int.reduceToNat, reduceCtorEq, ↓reduceIte, Tryd.ntmps7, Tryd.results7, ks_7, mu_7, ro_7, ti_ag22, ti_ag23, ti_ag25, ti_ag44, ti_fl25_0, ti_fl25_1, ti_hb17, ti_hb18, ti_hb19, ti_hb20, ti_hb21, ti_hb24, ti_pl25, ti_sb23, ti_sl23, ti_sz25, ti_sz35, ti_zr25, ti_zr35, itD, itV, rlV, rowD, rlD, hf, hp, Option.getD_some, Option.isSome_some, Int.reduceEq, not_true_eq_false, eq_self]
        first | done | (simp; done)
      · rintro i _ ob hob
        simp only [List.mem_cons, List.not_mem_nil, or_false] at hob
        rcases hob with rfl | rfl
        · exact bel_nil2 _ _ _
        · exact obBel_rows _ _ _ _ _
      rintro i hi
      have hcl : Closed H (H ++ [Ob.row 0 25 2 [[.d (.c (.slice none 0 0)), .d (.c (.slice none 0 0))]], .row i 44 1 ((r.rows.take i).map rowC)]) := closed_app fun ob hob => by
        simp only [List.mem_cons, List.not_mem_nil, or_false] at hob
        rcases hob with rfl | rfl
        · exact bel_nil2 _ _ _
        · exact obBel_rows _ _ _ _ _
      by_cases hiN : i < r.rows.length
      · obtain ⟨row, hrow⟩ : ∃ row, r.rows[i]? = some row := ⟨r.rows[i], List.getElem?_eq_getElem hiN⟩
        have hin' : ((i : Int) < (r.rows.length : Int)) = True := eq_true (by omega)
        have ii0 : ((0 : Int) ≤ (i : Int)) = True := eq_true (by omega)
        have hrl := (hall row (List.mem_of_getElem? hrow)).1
        have htk : (r.rows.take (i + 1)).map rowC = (r.rows.take i).map rowC ++ [rowC row] := by rw [take_of_get hrow, List.map_append]; rfl
        have ec : (i : Int) + 1 = ((i + 1 : Nat) : Int) := by omega
        have hlt : ((r.rows.take i).map rowC).length = i := by rw [List.length_map, List.length_take]; omega
        repeat' (first | with_reducible (first | refine And.intro ?_ ?_ | intro _ | refine AWp_seq ?_ | refine AWp_block ?_ | (refine hKv _ _ (AWp_nop ?_); clear hKv Kv) | (refine hKA ?_; clear hKA hKB KA KB) | (refine hKB ?_; clear hKA hKB KA KB) | refine AWp_skipN ?_ | refine AWp_exitO (by repeat (first | exact Out.hit | apply Out.thenA | apply Out.out rfl)) ?_) | ((first | with_reducible (first | (refine hKv _ _ ?_; clear hKv Kv) | ((first | refine AWp_regro mu_7 ks_7 ro_7 ?_ | refine AWp_regC mu_7 ks_7 ?_ | refine AWp_regE mu_7 ks_7 ?_); intro Kv hKv) | refine AWp_retR ?_) | refine cloneIts_A _ (by rw [List.length_map]; omega) _ _ ?_); try simp (dsimp := false) only [go_sem, Nat.reduceAdd, Nat.reduceBEq, Nat.reduceEqDiff, Nat.reduceLT, Nat.reduceLeDiff, Nat.reduceMul, Int.reduceToNat, reduceCtorEq, ↓reduceIte, Tryd.ntmps7, Tryd.results7, ks_7, mu_7, ro_7, ti_ag22, ti_ag23, ti_ag25, ti_ag44, ti_fl25_0, ti_fl25_1, ti_hb17, ti_hb18, ti_hb19, ti_hb20, ti_hb21, ti_hb24, ti_pl25, ti_sb23, ti_sl23, ti_sz25, ti_sz35, ti_zr25, ti_zr35, itD, itV, rlV, rowD, rlD, hrow, hin', ii0, hlt]) | (refine AWp_condC rfl ?_; intro KA KB hKA hKB; try simp only [onB_true, onB_false, onB_dec, onB_ndec, onB_not, onB_and, onB_or]) | (refine AWp_condA rfl ?_ ?_) | with_reducible (first | refine onB_of ?_ ?_ | rfl) | omega)
        all_goals first
          | omega
          | exact hcl
          | exact ⟨i + 1, by omega, by omega, by rw [htk]; (repeat' (refine And.intro ?_ ?_)) <;> first | rfl | omega | (simp [rowC]; done) | (simp; omega)⟩
      · obtain rfl : i = r.rows.length := by omega
        have hin' : ((r.rows.length : Int) < (r.rows.length : Int)) = False := eq_false (by omega)
        rw [List.take_length]
        have hsl := srtRows_len ps r.rows
        rw [← hsl] at hk
        repeat' (first | with_reducible (first | refine And.intro ?_ ?_ | intro _ | refine AWp_seq ?_ | refine AWp_block ?_ | (refine hKv _ _ (AWp_nop ?_); clear hKv Kv) | (refine hKA ?_; clear hKA hKB KA KB) | (refine hKB ?_; clear hKA hKB KA KB) | refine AWp_skipN ?_ | refine AWp_exitO (by repeat (first | exact Out.hit | apply Out.thenA | apply Out.out rfl)) ?_) | ((first | with_reducible (first | (refine hKv _ _ ?_; clear hKv Kv) | ((first | refine AWp_regro mu_7 ks_7 ro_7 ?_ | refine AWp_regC mu_7 ks_7 ?_ | refine AWp_regE mu_7 ks_7 ?_); intro Kv hKv) | refine AWp_retR ?_) | refine sortRows_A ps (by omega) r.rows (by omega) hpi (H.length + 1) r.rows.length _ _ ((get_appk _ _ 1).trans rfl) ?_ | refine finishedO_A r.cols _ _ _ _ q1 hS.col (by rw [List.length_map]; omega) _ _ ((get_appk _ _ 1).trans rfl) ?_); try simp (dsimp := false) only [go_sem, Nat.reduceAdd, Nat.reduceBEq, Nat.reduceEqDiff, Nat.reduceLT, Nat.reduceLeDiff, Nat.reduceMul, Int.reduceToNat, reduceCtorEq, ↓reduceIte, Tryd.ntmps7, Tryd.results7, ks_7, mu_7, ro_7, ti_ag22, ti_ag23, ti_ag25, ti_ag44, ti_fl25_0, ti_fl25_1, ti_hb17, ti_hb18, ti_hb19, ti_hb20, ti_hb21, ti_hb24, ti_pl25, ti_sb23, ti_sl23, ti_sz25, ti_sz35, ti_zr25, ti_zr35, itD, itV, rlV, rowD, rlD, finQ, hin']) | (refine AWp_condC rfl ?_; intro KA KB hKA hKB; try simp only [onB_true, onB_false, onB_dec, onB_ndec, onB_not, onB_and, onB_or]) | (refine AWp_condA rfl ?_ ?_) | with_reducible (first | refine onB_of ?_ ?_ | rfl) | omega)
        all_goals first
          | exact fin_ret hk (by assumption) (by omega) (get_appk _ _ 1)
          | exact fin_bad hk rfl (by assumption)
  · rw [sorted, if_neg hf] at hk
    have hf' : (relFault r = 0) = False := eq_false hf
    refine ACalls_of Tryd.func7 rfl in_7 (Nat.le_of_ble_eq_true rfl) ?_
    intro F hF
    simp (dsimp := false) only [go_sem, Nat.reduceAdd, Nat.reduceBEq, Nat.reduceEqDiff, Nat.reduceLT, Nat.reduceLeDiff, Nat.reduceMul, Int.reduceToNat, reduceCtorEq, ↓reduceIte, Tryd.ntmps7, Tryd.results7, ks_7, mu_7, ro_7, ti_ag22, ti_ag23, ti_ag25, ti_ag44, ti_fl25_0, ti_fl25_1, ti_hb17, ti_hb18, ti_hb19, ti_hb20, ti_hb21, ti_hb24, ti_pl25, ti_sb23, ti_sl23, ti_sz25, ti_sz35, ti_zr25, ti_zr35, itD, itV, rlV, rowD, rlD, hf', not_false_eq_true, in_7] at hF
    subst hF
    repeat' (first | with_reducible (first | refine And.intro ?_ ?_ | intro _ | refine AWp_seq ?_ | refine AWp_block ?_ | (refine hKv _ _ (AWp_nop ?_); clear hKv Kv) | (refine hKA ?_; clear hKA hKB KA KB) | (refine hKB ?_; clear hKA hKB KA KB) | refine AWp_skipN ?_ | refine AWp_exitO (by repeat (first | exact Out.hit | apply Out.thenA | apply Out.out rfl)) ?_) | ((first | with_reducible (first | (refine hKv _ _ ?_; clear hKv Kv) | ((first | refine AWp_regro mu_7 ks_7 ro_7 ?_ | refine AWp_regC mu_7 ks_7 ?_ | refine AWp_regE mu_7 ks_7 ?_); intro Kv hKv) | refine AWp_retR ?_) | refine relCheck_A r hS _ _ ?_); try simp (dsimp := false) only [go_sem, Nat.reduceAdd, Nat.reduceBEq, Nat.reduceEqDiff, Nat.reduceLT, Nat.reduceLeDiff, Nat.reduceMul, Int.reduceToNat, reduceCtorEq, ↓reduceIte, Tryd.ntmps7, Tryd.results7, ks_7, mu_7, ro_7, ti_ag22, ti_ag23, ti_ag25, ti_ag44, ti_fl25_0, ti_fl25_1, ti_hb17, ti_hb18, ti_hb19, ti_hb20, ti_hb21, ti_hb24, ti_pl25, ti_sb23, ti_sl23, ti_sz25, ti_sz35, ti_zr25, ti_zr35, itD, itV, rlV, rowD, rlD, hf', not_false_eq_true]) | (refine AWp_condC rfl ?_; intro KA KB hKA hKB; try simp only [onB_true, onB_false, onB_dec, onB_ndec, onB_not, onB_and, onB_or]) | (refine AWp_condA rfl ?_ ?_) | with_reducible (first | refine onB_of ?_ ?_ | rfl) | omega)
    all_goals first
      | exact dropF hk (fz_rl0 _ _ _) (bel_relE _ _ _)
end Go.Proofs.YtpgdflhcmijaiaaDoor
