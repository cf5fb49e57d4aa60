/- Columns of a relation with new names: what the program and the reference make. No condition but that the tables of package unicode/utf8 are there. -/
import Derived.Test.YtpgdflhcmijaiaaDoorQ29
set_option linter.all false
set_option linter.unusedSimpArgs false
set_option linter.unusedVariables false
namespace Go.Proofs.YtpgdflhcmijaiaaDoor
open Go Go.Proofs.YtpgdflhcmijaiaaDoor.Ab
variable [Glo] [U8]
set_option maxHeartbeats 4000000
set_option maxRecDepth 20000
theorem obBel_its (m ver e sz : Nat) (xs : List It) : ObBel m (.row ver e sz (xs.map itC)) := obBel_map itD m ver e sz xs
def ks_23 : Nat → List Nat
  | 0 => [0, 1]
  | 1 => [0, 1, 5]
  | 2 => [0, 5, 11, 12, 13]
  | 3 => [0, 5, 11, 12, 13, 14]
  | 4 => [0, 5, 7, 11, 12, 13]
  | 5 => [0, 5, 11, 12, 13]
  | 6 => [0, 5, 11, 12, 13]
  | 7 => [4]
  | _ => []
def mu_23 : List Nat := []
def in_23 : List Nat := [0, 1]
theorem these_A (row : List It) (at_ : List Int) (hl : at_.length ≤ 1048576) (hat : ∀ i, i ∈ at_ → 0 ≤ i ∧ i < row.length) (H : Heap) (K : V → Heap → Prop) (hk : K (.d (.sl 3 ((projRow at_ row).map itD))) H) :
    ACalls Tryd.prog 23 [.d (.sl 3 (row.map itD)), .d (.sl 1 (at_.map intRow))] H K := by
  refine ACalls_of Tryd.func23 rfl in_23 (Nat.le_of_ble_eq_true rfl) ?_
  intro F hF
  simp (dsimp := false) only [go_sem, Nat.reduceAdd, Nat.reduceBEq, Nat.reduceEqDiff, Nat.reduceLT, Nat.reduceLeDiff, Nat.reduceMul, Int.reduceToNat, reduceCtorEq, ↓reduceIte, Tryd.ntmps23, Tryd.results23, ks_23, mu_23, ti_ag3, ti_ag49, ti_sb35, ti_sl35, ti_sl44, ti_sz49, ti_zr49, itD, itV, rlV, rowD, rlD, in_23] at hF
  subst hF
  repeat' (first | with_reducible (first | refine And.intro ?_ ?_ | intro _ | refine AWp_seq ?_ | refine AWp_block ?_ | (refine hKv _ _ (AWp_nop ?_); clear hKv Kv) | (refine hKA ?_; clear hKA hKB KA KB) | (refine hKB ?_; clear hKA hKB KA KB) | refine AWp_skipN ?_ | refine AWp_exitO (by repeat (first | exact Out.hit | apply Out.thenA | apply Out.out rfl)) ?_) | (with_reducible (first | (refine hKv _ _ ?_; clear hKv Kv) | ((first | refine AWp_regC mu_23 ks_23 ?_ | refine AWp_regE mu_23 ks_23 ?_); intro Kv hKv) | refine AWp_retR ?_); try simp (dsimp := false) only [go_sem, Nat.reduceAdd, Nat.reduceBEq, Nat.reduceEqDiff, Nat.reduceLT, Nat.reduceLeDiff, Nat.reduceMul, Int.reduceToNat, reduceCtorEq, ↓reduceIte, Tryd.ntmps23, Tryd.results23, ks_23, mu_23, ti_ag3, ti_ag49, ti_sb35, ti_sl35, ti_sl44, ti_sz49, ti_zr49, itD, itV, rlV, rowD, rlD]) | (refine AWp_condC rfl ?_; intro KA KB hKA hKB; try simp only [onB_true, onB_false, onB_dec, onB_ndec, onB_not, onB_and, onB_or]) | (refine AWp_condA rfl ?_ ?_) | with_reducible (first | refine onB_of ?_ ?_ | rfl) | omega)
  refine AWp_whileH (fun j : Nat => j ≤ at_.length) (fun j => [(0, .d (.sl 3 (row.map itD))), (5, .os H.length j), (11, .d (.sl 1 (at_.map intRow))), (12, .d (.i .i64 at_.length)), (13, .d (.i .i64 j))])
    (fun j => [.row j 49 3 ((projRow (at_.take j) row).map itC)]) (fun j => at_.length - j) 0 (Nat.zero_le _) ?_ ?_ ?_ ?_
  · simp [projRow]
  · simp (dsimp := false) only [go_sem, Nat.reduceAdd, Nat.reduceBEq, Nat.reduceEqDiff, Nat.reduceLT, Nat.reduceLeDiff, Nat.reduceMul, Int.reduceToNat, reduceCtorEq, ↓reduceIte, Tryd.ntmps23, Tryd.results23, ks_23, mu_23, ti_ag3, ti_ag49, ti_sb35, ti_sl35, ti_sl44, ti_sz49, ti_zr49, itD, itV, rlV, rowD, rlD]
    first | done | simp
  · intro j _ ob hob
    simp only [List.mem_cons, List.not_mem_nil, or_false] at hob
    rcases hob with rfl
    exact obBel_its _ _ _ _ _
  rintro j hj
  have hlp : (projRow (at_.take j) row).length = j := by simp [projRow]; omega
  by_cases hjN : j < at_.length
  · obtain ⟨i, hi⟩ : ∃ i, at_[j]? = some i := ⟨at_[j], List.getElem?_eq_getElem hjN⟩
    obtain ⟨h1, h2⟩ := hat i (List.mem_of_getElem? hi)
    obtain ⟨x, hx⟩ : ∃ x, row[i.toNat]? = some x := ⟨row[i.toNat]'(by omega), List.getElem?_eq_getElem (by omega)⟩
    repeat' (first | with_reducible (first | refine And.intro ?_ ?_ | intro _ | refine AWp_seq ?_ | refine AWp_block ?_ | (refine hKv _ _ (AWp_nop ?_); clear hKv Kv) | (refine hKA ?_; clear hKA hKB KA KB) | (refine hKB ?_; clear hKA hKB KA KB) | refine AWp_skipN ?_ | refine AWp_exitO (by repeat (first | exact Out.hit | apply Out.thenA | apply Out.out rfl)) ?_) | (with_reducible (first | (refine hKv _ _ ?_; clear hKv Kv) | ((first | refine AWp_regC mu_23 ks_23 ?_ | refine AWp_regE mu_23 ks_23 ?_); intro Kv hKv) | refine AWp_retR ?_); try simp (dsimp := false) only [go_sem, Nat.reduceAdd, Nat.reduceBEq, Nat.reduceEqDiff, Nat.reduceLT, Nat.reduceLeDiff, Nat.reduceMul, Int.reduceToNat, reduceCtorEq, ↓reduceIte, Tryd.ntmps23, Tryd.results23, ks_23, mu_23, ti_ag3, ti_ag49, ti_sb35, ti_sl35, ti_sl44, ti_sz49, ti_zr49, itD, itV, rlV, rowD, rlD, hi, hx]) | (refine AWp_condC rfl ?_; intro KA KB hKA hKB; try simp only [onB_true, onB_false, onB_dec, onB_ndec, onB_not, onB_and, onB_or]) | (refine AWp_condA rfl ?_ ?_) | with_reducible (first | refine onB_of ?_ ?_ | rfl) | omega)
    · refine ⟨j + 1, by omega, by omega, ?_, rfl, by omega, by omega⟩
      have e : projRow (at_.take (j + 1)) row = projRow (at_.take j) row ++ [x] := by
        rw [projRow, take_of_get hi, List.map_append]
        simp [projRow, rg_get hx]
      rw [e]
      simp [itC]
  ·
    repeat' (first | with_reducible (first | refine And.intro ?_ ?_ | intro _ | refine AWp_seq ?_ | refine AWp_block ?_ | (refine hKv _ _ (AWp_nop ?_); clear hKv Kv) | (refine hKA ?_; clear hKA hKB KA KB) | (refine hKB ?_; clear hKA hKB KA KB) | refine AWp_skipN ?_ | refine AWp_exitO (by repeat (first | exact Out.hit | apply Out.thenA | apply Out.out rfl)) ?_) | (with_reducible (first | (refine hKv _ _ ?_; clear hKv Kv) | ((first | refine AWp_regC mu_23 ks_23 ?_ | refine AWp_regE mu_23 ks_23 ?_); intro Kv hKv) | refine AWp_retR ?_); try simp (dsimp := false) only [go_sem, Nat.reduceAdd, Nat.reduceBEq, Nat.reduceEqDiff, Nat.reduceLT, Nat.reduceLeDiff, Nat.reduceMul, Int.reduceToNat, reduceCtorEq, ↓reduceIte, Tryd.ntmps23, Tryd.results23, ks_23, mu_23, ti_ag3, ti_ag49, ti_sb35, ti_sl35, ti_sl44, ti_sz49, ti_zr49, itD, itV, rlV, rowD, rlD]) | (refine AWp_condC rfl ?_; intro KA KB hKA hKB; try simp only [onB_true, onB_false, onB_dec, onB_ndec, onB_not, onB_and, onB_or]) | (refine AWp_condA rfl ?_ ?_) | with_reducible (first | refine onB_of ?_ ?_ | rfl) | omega)
    · have e : j = at_.length := by omega
      subst e
      rw [List.take_length]
      exact dropF hk (.os _ _ _ _ _ _ (by omega) (get_app0 _ _) (its_data _)) (by simp [Bel_d])
def ks_29 : Nat → List Nat
  | 0 => [0, 1]
  | 1 => [0, 1, 5]
  | 2 => [0, 1, 5, 6]
  | 3 => [0, 1, 5, 6, 10]
  | 4 => [0, 1, 5, 6]
  | 5 => [0, 1, 5, 6]
  | 6 => [4]
  | _ => []
def mu_29 : List Nat := [5]
def in_29 : List Nat := [0, 1]
theorem picks_A (row : List It) (at_ : List Int) (hl : at_.length ≤ 1048576) (hat : ∀ i, i ∈ at_ → 0 ≤ i ∧ i < row.length) (H : Heap) (K : V → Heap → Prop) (hk : K (.d (.sl 3 ((projRow at_ row).map itD))) H) :
    ACalls Tryd.prog 29 [.d (.sl 3 (row.map itD)), .d (.sl 1 (at_.map intRow))] H K := by
  refine ACalls_of Tryd.func29 rfl in_29 (Nat.le_of_ble_eq_true rfl) ?_
  intro F hF
  simp (dsimp := false) only [go_sem, Nat.reduceAdd, Nat.reduceBEq, Nat.reduceEqDiff, Nat.reduceLT, Nat.reduceLeDiff, Nat.reduceMul, Int.reduceToNat, reduceCtorEq, ↓reduceIte, Tryd.ntmps29, Tryd.results29, ks_29, mu_29, ti_ag3, ti_ag49, ti_sb35, ti_sl35, ti_sl44, ti_sz49, itD, itV, rlV, rowD, rlD, in_29] at hF
  subst hF
  repeat' (first | with_reducible (first | refine And.intro ?_ ?_ | intro _ | refine AWp_seq ?_ | refine AWp_block ?_ | (refine hKv _ _ (AWp_nop ?_); clear hKv Kv) | (refine hKA ?_; clear hKA hKB KA KB) | (refine hKB ?_; clear hKA hKB KA KB) | refine AWp_skipN ?_ | refine AWp_exitO (by repeat (first | exact Out.hit | apply Out.thenA | apply Out.out rfl)) ?_) | (with_reducible (first | (refine hKv _ _ ?_; clear hKv Kv) | ((first | refine AWp_regC mu_29 ks_29 ?_ | refine AWp_regE mu_29 ks_29 ?_); intro Kv hKv) | refine AWp_retR ?_); try simp (dsimp := false) only [go_sem, Nat.reduceAdd, Nat.reduceBEq, Nat.reduceEqDiff, Nat.reduceLT, Nat.reduceLeDiff, Nat.reduceMul, Int.reduceToNat, reduceCtorEq, ↓reduceIte, Tryd.ntmps29, Tryd.results29, ks_29, mu_29, ti_ag3, ti_ag49, ti_sb35, ti_sl35, ti_sl44, ti_sz49, itD, itV, rlV, rowD, rlD]) | (refine AWp_condC rfl ?_; intro KA KB hKA hKB; try simp only [onB_true, onB_false, onB_dec, onB_ndec, onB_not, onB_and, onB_or]) | (refine AWp_condA rfl ?_ ?_) | with_reducible (first | refine onB_of ?_ ?_ | rfl) | omega)
  refine AWp_whileH (fun j : Nat => j ≤ at_.length) (fun j => [(0, .d (.sl 3 (row.map itD))), (1, .d (.sl 1 (at_.map intRow))), (5, .os H.length j), (6, .d (.i .i64 j))])
    (fun j => [.row j 49 3 ((projRow (at_.take j) row).map itC)]) (fun j => at_.length - j) 0 (Nat.zero_le _) ?_ ?_ ?_ ?_
  · simp [projRow]
  · simp (dsimp := false) only [go_sem, Nat.reduceAdd, Nat.reduceBEq, Nat.reduceEqDiff, Nat.reduceLT, Nat.reduceLeDiff, Nat.reduceMul, Int.reduceToNat, reduceCtorEq, ↓reduceIte, Tryd.ntmps29, Tryd.results29, ks_29, mu_29, ti_ag3, ti_ag49, ti_sb35, ti_sl35, ti_sl44, ti_sz49, itD, itV, rlV, rowD, rlD]
    first | done | simp
  · intro j _ ob hob
    simp only [List.mem_cons, List.not_mem_nil, or_false] at hob
    rcases hob with rfl
    exact obBel_its _ _ _ _ _
  rintro j hj
  have hlp : (projRow (at_.take j) row).length = j := by simp [projRow]; omega
  by_cases hjN : j < at_.length
  · obtain ⟨i, hi⟩ : ∃ i, at_[j]? = some i := ⟨at_[j], List.getElem?_eq_getElem hjN⟩
    obtain ⟨h1, h2⟩ := hat i (List.mem_of_getElem? hi)
    obtain ⟨x, hx⟩ : ∃ x, row[i.toNat]? = some x := ⟨row[i.toNat]'(by omega), List.getElem?_eq_getElem (by omega)⟩
    repeat' (first | with_reducible (first | refine And.intro ?_ ?_ | intro _ | refine AWp_seq ?_ | refine AWp_block ?_ | (refine hKv _ _ (AWp_nop ?_); clear hKv Kv) | (refine hKA ?_; clear hKA hKB KA KB) | (refine hKB ?_; clear hKA hKB KA KB) | refine AWp_skipN ?_ | refine AWp_exitO (by repeat (first | exact Out.hit | apply Out.thenA | apply Out.out rfl)) ?_) | (with_reducible (first | (refine hKv _ _ ?_; clear hKv Kv) | ((first | refine AWp_regC mu_29 ks_29 ?_ | refine AWp_regE mu_29 ks_29 ?_); intro Kv hKv) | refine AWp_retR ?_); try simp (dsimp := false) only [go_sem, Nat.reduceAdd, Nat.reduceBEq, Nat.reduceEqDiff, Nat.reduceLT, Nat.reduceLeDiff, Nat.reduceMul, Int.reduceToNat, reduceCtorEq, ↓reduceIte, Tryd.ntmps29, Tryd.results29, ks_29, mu_29, ti_ag3, ti_ag49, ti_sb35, ti_sl35, ti_sl44, ti_sz49, itD, itV, rlV, rowD, rlD, hi, hx]) | (refine AWp_condC rfl ?_; intro KA KB hKA hKB; try simp only [onB_true, onB_false, onB_dec, onB_ndec, onB_not, onB_and, onB_or]) | (refine AWp_condA rfl ?_ ?_) | with_reducible (first | refine onB_of ?_ ?_ | rfl) | omega)
    · refine ⟨j + 1, by omega, by omega, ?_, rfl, by omega, by omega⟩
      have e : projRow (at_.take (j + 1)) row = projRow (at_.take j) row ++ [x] := by
        rw [projRow, take_of_get hi, List.map_append]
        simp [projRow, rg_get hx]
      rw [e]
      simp [itC]
  ·
    repeat' (first | with_reducible (first | refine And.intro ?_ ?_ | intro _ | refine AWp_seq ?_ | refine AWp_block ?_ | (refine hKv _ _ (AWp_nop ?_); clear hKv Kv) | (refine hKA ?_; clear hKA hKB KA KB) | (refine hKB ?_; clear hKA hKB KA KB) | refine AWp_skipN ?_ | refine AWp_exitO (by repeat (first | exact Out.hit | apply Out.thenA | apply Out.out rfl)) ?_) | (with_reducible (first | (refine hKv _ _ ?_; clear hKv Kv) | ((first | refine AWp_regC mu_29 ks_29 ?_ | refine AWp_regE mu_29 ks_29 ?_); intro Kv hKv) | refine AWp_retR ?_); try simp (dsimp := false) only [go_sem, Nat.reduceAdd, Nat.reduceBEq, Nat.reduceEqDiff, Nat.reduceLT, Nat.reduceLeDiff, Nat.reduceMul, Int.reduceToNat, reduceCtorEq, ↓reduceIte, Tryd.ntmps29, Tryd.results29, ks_29, mu_29, ti_ag3, ti_ag49, ti_sb35, ti_sl35, ti_sl44, ti_sz49, itD, itV, rlV, rowD, rlD]) | (refine AWp_condC rfl ?_; intro KA KB hKA hKB; try simp only [onB_true, onB_false, onB_dec, onB_ndec, onB_not, onB_and, onB_or]) | (refine AWp_condA rfl ?_ ?_) | with_reducible (first | refine onB_of ?_ ?_ | rfl) | omega)
    · have e : j = at_.length := by omega
      subst e
      rw [List.take_length]
      exact dropF hk (.os _ _ _ _ _ _ (by omega) (get_app0 _ _) (its_data _)) (by simp [Bel_d])
def ks_26 : Nat → List Nat
  | 0 => [1, 2]
  | 1 => [1, 2, 6]
  | 2 => [1, 2, 6, 7]
  | 3 => [1, 2, 6, 7, 12]
  | 4 => [1, 2, 6, 7]
  | 5 => [1, 2, 6, 7, 8]
  | 6 => [1, 2, 6, 7, 8, 22]
  | 7 => [4, 5]
  | 8 => [1, 2, 6, 7]
  | 9 => [4, 5]
  | _ => []
def mu_26 : List Nat := [6]
def in_26 : List Nat := [0, 1]
def nd_26 : Nat → Nat
  | 5 => 6
  | _ => 0
theorem colsAt_A (r : Rl) (hS : ShR r) (l : List (List UInt8)) (hlen : l.length ≤ 1048576) (H : Heap) (K : V → Heap → Prop)
    (hk : K (.tu [.d (.sl 1 (((places r.cols l).getD []).map intRow)), .d (.b (places r.cols l).isSome)]) H) :
    ACalls Tryd.prog 26 [rlV r, .d (.sl 1 (l.map strRow))] H K := by
  have q1 := hS.ncols
  refine ACalls_of Tryd.func26 rfl in_26 (Nat.le_of_ble_eq_true rfl) ?_
  intro F hF
  simp (dsimp := false) only [go_sem, Nat.reduceAdd, Nat.reduceBEq, Nat.reduceEqDiff, Nat.reduceLT, Nat.reduceLeDiff, Nat.reduceMul, Int.reduceToNat, reduceCtorEq, ↓reduceIte, Tryd.ntmps26, Tryd.results26, ks_26, mu_26, nd_26, ti_ag9, ti_ag25, ti_hb38, ti_sb22, ti_sl22, ti_sl35, ti_sz25, itD, itV, rlV, rowD, rlD, in_26] at hF
  subst hF
  repeat' (first | with_reducible (first | refine And.intro ?_ ?_ | intro _ | refine AWp_seq ?_ | refine AWp_block ?_ | (refine hKv _ _ (AWp_nop ?_); clear hKv Kv) | (refine hKA ?_; clear hKA hKB KA KB) | (refine hKB ?_; clear hKA hKB KA KB) | refine AWp_skipN ?_ | refine AWp_exitO (by repeat (first | exact Out.hit | apply Out.thenA | apply Out.out rfl)) ?_) | (with_reducible (first | (refine hKv _ _ ?_; clear hKv Kv) | ((first | refine AWp_regC mu_26 ks_26 ?_ | refine AWp_draw nd_26 mu_26 ks_26 ti_mixed (by kernel_rfl) ?_ | refine AWp_regE mu_26 ks_26 ?_ | refine AWp_drawE nd_26 mu_26 ks_26 ti_mixed (by kernel_rfl) ?_); intro Kv hKv) | refine AWp_retR ?_); try simp (dsimp := false) only [go_sem, Nat.reduceAdd, Nat.reduceBEq, Nat.reduceEqDiff, Nat.reduceLT, Nat.reduceLeDiff, Nat.reduceMul, Int.reduceToNat, reduceCtorEq, ↓reduceIte, Tryd.ntmps26, Tryd.results26, ks_26, mu_26, nd_26, ti_ag9, ti_ag25, ti_hb38, ti_sb22, ti_sl22, ti_sl35, ti_sz25, itD, itV, rlV, rowD, rlD]) | (refine AWp_condC rfl ?_; intro KA KB hKA hKB; try simp only [onB_true, onB_false, onB_dec, onB_ndec, onB_not, onB_and, onB_or]) | (refine AWp_condA rfl ?_ ?_) | with_reducible (first | refine onB_of ?_ ?_ | rfl) | omega)
  refine AWp_whileH (fun y : Nat × List Int => y.1 ≤ l.length ∧ y.2.length = y.1 ∧ placesGo r.cols (l.drop y.1) y.2 = places r.cols l)
    (fun y => [(1, .d (.sl 1 (l.map strRow))), (2, .rp (rlD r)), (6, .os H.length y.1), (7, .d (.i .i64 y.1))])
    (fun y => [.row y.1 3 1 (y.2.map intCells)]) (fun y => l.length - y.1) (0, []) ⟨Nat.zero_le _, rfl, rfl⟩ rfl ?_ ?_ ?_
  · simp (dsimp := false) only [go_sem, Nat.reduceAdd, Nat.reduceBEq, Nat.reduceEqDiff, Nat.reduceLT, Nat.reduceLeDiff, Nat.reduceMul, Int.reduceToNat, reduceCtorEq, ↓reduceIte, Tryd.ntmps26, Tryd.results26, ks_26, mu_26, nd_26, ti_ag9, ti_ag25, ti_hb38, ti_sb22, ti_sl22, ti_sl35, ti_sz25, itD, itV, rlV, rowD, rlD]
    first | done | simp
  · rintro ⟨i, acc⟩ _ ob hob
    simp only [List.mem_cons, List.not_mem_nil, or_false] at hob
    rcases hob with rfl
    exact obBel_map intRow _ _ _ _ _
  rintro ⟨i, acc⟩ ⟨h1, h2, h3⟩
  simp only [] at h1 h2 h3 ⊢
  repeat' (first | with_reducible (first | refine And.intro ?_ ?_ | intro _ | refine AWp_seq ?_ | refine AWp_block ?_ | (refine hKv _ _ (AWp_nop ?_); clear hKv Kv) | (refine hKA ?_; clear hKA hKB KA KB) | (refine hKB ?_; clear hKA hKB KA KB) | refine AWp_skipN ?_ | refine AWp_exitO (by repeat (first | exact Out.hit | apply Out.thenA | apply Out.out rfl)) ?_) | ((first | with_reducible (first | (refine hKv _ _ ?_; clear hKv Kv) | ((first | refine AWp_regC mu_26 ks_26 ?_ | refine AWp_draw nd_26 mu_26 ks_26 ti_mixed (by kernel_rfl) ?_ | refine AWp_regE mu_26 ks_26 ?_ | refine AWp_drawE nd_26 mu_26 ks_26 ti_mixed (by kernel_rfl) ?_); intro Kv hKv) | refine AWp_retR ?_) | refine colAt_A r hS _ _ _ ?_ | refine QCall_of (colAt_A r hS _ _ _ (Two_intro _ _)) ?_); try simp (dsimp := false) only [go_sem, Nat.reduceAdd, Nat.reduceBEq, Nat.reduceEqDiff, Nat.reduceLT, Nat.reduceLeDiff, Nat.reduceMul, Int.reduceToNat, reduceCtorEq, ↓reduceIte, Tryd.ntmps26, Tryd.results26, ks_26, mu_26, nd_26, ti_ag9, ti_ag25, ti_hb38, ti_sb22, ti_sl22, ti_sl35, ti_sz25, itD, itV, rlV, rowD, rlD]) | (refine AWp_condC rfl ?_; intro KA KB hKA hKB; try simp only [onB_true, onB_false, onB_dec, onB_ndec, onB_not, onB_and, onB_or]) | (refine AWp_condA rfl ?_ ?_) | with_reducible (first | refine onB_of ?_ ?_ | rfl) | omega)
  · rename_i g1 x hx hlt
    rw [placesGo_next hx, if_pos hlt] at h3
    rw [← h3] at hk
    exact dropF hk (Fz_tu2 (.nil _) (.same _)) (by simp [Bel_tu, Bel_d])
  · rename_i g1 x hx hlt
    rw [placesGo_next hx, if_neg hlt] at h3
    exact ⟨(i + 1, acc ++ [txtAt r.cols x]), ⟨by show i + 1 ≤ l.length; omega, by simp [h2], h3⟩, by show l.length - (i + 1) < l.length - i; omega, by simp [intCells], rfl, by omega, by simp⟩
  · have e : i = l.length := by omega
    subst e
    rw [List.drop_length, placesGo] at h3
    rw [← h3] at hk
    exact dropF hk (Fz_tu2 (.os _ _ 3 1 _ _ (by omega) (get_app0 _ _) (ints_data _)) (.same _)) (by simp [Bel_tu, Bel_d])
end Go.Proofs.YtpgdflhcmijaiaaDoor
