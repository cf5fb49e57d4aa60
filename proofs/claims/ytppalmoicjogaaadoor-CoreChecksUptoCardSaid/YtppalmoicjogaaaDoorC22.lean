/- Relations: what the program and the reference find of them; a copy of a relation. No condition but that the tables of package unicode/utf8 are there. -/
import Derived.Test.YtppalmoicjogaaaDoorC21
import Derived.Test.YtppalmoicjogaaaDoorC14
set_option linter.all false
set_option linter.unusedSimpArgs false
set_option linter.unusedVariables false
namespace Go.Proofs.YtppalmoicjogaaaDoor
open Go Go.Proofs.YtppalmoicjogaaaDoor.Ab
variable [Glo] [U8]
set_option maxHeartbeats 4000000
set_option maxRecDepth 20000
def ks_77 : Nat → List Nat
  | 0 => [1]
  | 1 => [2]
  | _ => []
def mu_77 : List Nat := []
def in_77 : List Nat := [0]
theorem check1_A (x : It) (hs : x.s.length ≤ 9223372036854775807) (H : Heap) (K : V → Heap → Prop) (hk : K (.d (.b (!itemB x))) H) : ACalls Tryd.prog 77 [itV x] H K := by
  refine ACalls_of Tryd.func77 rfl in_77 (Nat.le_of_ble_eq_true rfl) ?_
  intro F hF
  simp (dsimp := false) only [go_sem, Nat.reduceAdd, Nat.reduceBEq, Nat.reduceEqDiff, Nat.reduceLT, Nat.reduceLeDiff, Nat.reduceMul, Int.reduceToNat, reduceCtorEq, ↓reduceIte, Tryd.ntmps77, Tryd.results77, ks_77, mu_77, ti_ag31, ti_hb78, ti_sz31, itD, itV, rlV, rowD, in_77] at hF
  subst hF
  repeat' (first | with_reducible (first | refine And.intro ?_ ?_ | intro _ | refine AWp_seq ?_ | refine AWp_block ?_ | (refine hKv _ _ (AWp_nop ?_); clear hKv Kv) | (refine hKA ?_; clear hKA hKB KA KB) | (refine hKB ?_; clear hKA hKB KA KB) | refine AWp_skipN ?_ | refine AWp_exitO (by repeat (first | exact Out.hit | apply Out.thenA | apply Out.out rfl)) ?_) | ((first | with_reducible (first | (refine hKv _ _ ?_; clear hKv Kv) | ((first | refine AWp_regC mu_77 ks_77 ?_ | refine AWp_regE mu_77 ks_77 ?_); intro Kv hKv) | refine AWp_retR ?_) | refine item_A _ hs _ _ ?_); try simp (dsimp := false) only [go_sem, Nat.reduceAdd, Nat.reduceBEq, Nat.reduceEqDiff, Nat.reduceLT, Nat.reduceLeDiff, Nat.reduceMul, Int.reduceToNat, reduceCtorEq, ↓reduceIte, Tryd.ntmps77, Tryd.results77, ks_77, mu_77, ti_ag31, ti_hb78, ti_sz31, itD, itV, rlV, rowD]) | (refine AWp_condC rfl ?_; intro KA KB hKA hKB; try simp only [onB_true, onB_false, onB_dec, onB_ndec, onB_not, onB_and, onB_or]) | (refine AWp_condA rfl ?_ ?_) | with_reducible (first | refine onB_of ?_ ?_ | rfl) | omega)
  all_goals exact keepD hk rfl
def ks_79 : Nat → List Nat
  | 0 => [0, 1]
  | 1 => [0, 1, 7, 8]
  | 2 => [0, 1, 7, 8, 9]
  | 3 => [0, 1, 5, 7, 8]
  | 4 => [0, 1, 5, 7, 8, 16]
  | 5 => [4]
  | 6 => [0, 1, 7, 8]
  | 7 => [4]
  | _ => []
def mu_79 : List Nat := []
def in_79 : List Nat := [0, 1]
theorem indexFunc_A (l : List It) (hlen : l.length ≤ 9223372036854775807) (hS : ∀ x, x ∈ l → x.s.length ≤ 9223372036854775807) (H : Heap) (K : V → Heap → Prop) (hk : K (.d (.i .i64 (fidx (fun x => !itemB x) l))) H) :
    ACalls Tryd.prog 79 [.d (.sl 3 (l.map itD)), .fn 77 []] H K := by
  refine ACalls_of Tryd.func79 rfl in_79 (Nat.le_of_ble_eq_true rfl) ?_
  intro F hF
  simp (dsimp := false) only [go_sem, Nat.reduceAdd, Nat.reduceBEq, Nat.reduceEqDiff, Nat.reduceLT, Nat.reduceLeDiff, Nat.reduceMul, Int.reduceToNat, reduceCtorEq, ↓reduceIte, Tryd.ntmps79, Tryd.results79, ks_79, mu_79, ti_ag31, ti_sb78, ti_sl78, ti_sz31, itD, itV, rlV, rowD, ti_hb77, Bel_fn, in_79] at hF
  subst hF
  repeat' (first | with_reducible (first | refine And.intro ?_ ?_ | intro _ | refine AWp_seq ?_ | refine AWp_block ?_ | (refine hKv _ _ (AWp_nop ?_); clear hKv Kv) | (refine hKA ?_; clear hKA hKB KA KB) | (refine hKB ?_; clear hKA hKB KA KB) | refine AWp_skipN ?_ | refine AWp_exitO (by repeat (first | exact Out.hit | apply Out.thenA | apply Out.out rfl)) ?_) | (with_reducible (first | (refine hKv _ _ ?_; clear hKv Kv) | ((first | refine AWp_regC mu_79 ks_79 ?_ | refine AWp_regE mu_79 ks_79 ?_); intro Kv hKv) | refine AWp_retR ?_); try simp (dsimp := false) only [go_sem, Nat.reduceAdd, Nat.reduceBEq, Nat.reduceEqDiff, Nat.reduceLT, Nat.reduceLeDiff, Nat.reduceMul, Int.reduceToNat, reduceCtorEq, ↓reduceIte, Tryd.ntmps79, Tryd.results79, ks_79, mu_79, ti_ag31, ti_sb78, ti_sl78, ti_sz31, itD, itV, rlV, rowD, ti_hb77, Bel_fn]) | (refine AWp_condC rfl ?_; intro KA KB hKA hKB; try simp only [onB_true, onB_false, onB_dec, onB_ndec, onB_not, onB_and, onB_or]) | (refine AWp_condA rfl ?_ ?_) | with_reducible (first | refine onB_of ?_ ?_ | rfl) | omega)
  refine AWp_while0 (fun i : Nat => i ≤ l.length ∧ fidxGo (fun x => !itemB x) (l.drop i) i = fidx (fun x => !itemB x) l) (fun i => [(0, .d (.sl 3 (l.map itD))), (1, .fn 77 []), (7, .d (.i .i64 l.length)), (8, .d (.i .i64 i))]) (fun i => l.length - i) 0 ⟨Nat.zero_le _, rfl⟩ ?_ ?_
  · simp (dsimp := false) only [go_sem, Nat.reduceAdd, Nat.reduceBEq, Nat.reduceEqDiff, Nat.reduceLT, Nat.reduceLeDiff, Nat.reduceMul, Int.reduceToNat, reduceCtorEq, ↓reduceIte, Tryd.ntmps79, Tryd.results79, ks_79, mu_79, ti_ag31, ti_sb78, ti_sl78, ti_sz31, itD, itV, rlV, rowD, ti_hb77, Bel_fn]
    first | done | simp [Bel_fn]
  rintro i ⟨hi, hv⟩
  repeat' (first | with_reducible (first | refine And.intro ?_ ?_ | intro _ | refine AWp_seq ?_ | refine AWp_block ?_ | (refine hKv _ _ (AWp_nop ?_); clear hKv Kv) | (refine hKA ?_; clear hKA hKB KA KB) | (refine hKB ?_; clear hKA hKB KA KB) | refine AWp_skipN ?_ | refine AWp_exitO (by repeat (first | exact Out.hit | apply Out.thenA | apply Out.out rfl)) ?_) | ((first | with_reducible (first | (refine hKv _ _ ?_; clear hKv Kv) | ((first | refine AWp_regC mu_79 ks_79 ?_ | refine AWp_regE mu_79 ks_79 ?_); intro Kv hKv) | refine AWp_retR ?_) | refine check1_A _ (hS _ (List.mem_of_getElem? (by assumption))) _ _ ?_); try simp (dsimp := false) only [go_sem, Nat.reduceAdd, Nat.reduceBEq, Nat.reduceEqDiff, Nat.reduceLT, Nat.reduceLeDiff, Nat.reduceMul, Int.reduceToNat, reduceCtorEq, ↓reduceIte, Tryd.ntmps79, Tryd.results79, ks_79, mu_79, ti_ag31, ti_sb78, ti_sl78, ti_sz31, itD, itV, rlV, rowD, ti_hb77, Bel_fn]) | (refine AWp_condC rfl ?_; intro KA KB hKA hKB; try simp only [onB_true, onB_false, onB_dec, onB_ndec, onB_not, onB_and, onB_or]) | (refine AWp_condA rfl ?_ ?_) | with_reducible (first | refine onB_of ?_ ?_ | rfl) | omega)
  · rename_i h1 x hx h
    rw [fidxGo_next hx, if_neg (by simpa using h)] at hv
    exact ⟨i + 1, ⟨by omega, hv⟩, by omega, by first | omega | (simp; omega)⟩
  · rename_i h1 x hx h
    rw [fidxGo_next hx, if_pos (by simpa using h)] at hv
    exact keepD hk (by rw [hv])
  · have e : i = l.length := by omega
    subst e
    rw [fidxGo_end] at hv
    exact keepD hk (by rw [hv])
def ks_31 : Nat → List Nat
  | 0 => [0, 1]
  | 1 => [4]
  | _ => []
def mu_31 : List Nat := []
def in_31 : List Nat := [0, 1]
theorem containsFunc_A (l : List It) (hlen : l.length ≤ 9223372036854775807) (hS : ∀ x, x ∈ l → x.s.length ≤ 9223372036854775807) (H : Heap) (K : V → Heap → Prop) (hk : K (.d (.b (!l.all itemB))) H) :
    ACalls Tryd.prog 31 [.d (.sl 3 (l.map itD)), .fn 77 []] H K := by
  refine ACalls_of Tryd.func31 rfl in_31 (Nat.le_of_ble_eq_true rfl) ?_
  intro F hF
  simp (dsimp := false) only [go_sem, Nat.reduceAdd, Nat.reduceBEq, Nat.reduceEqDiff, Nat.reduceLT, Nat.reduceLeDiff, Nat.reduceMul, Int.reduceToNat, reduceCtorEq, ↓reduceIte, Tryd.ntmps31, Tryd.results31, ks_31, mu_31, ti_hb79, itD, itV, rlV, rowD, ti_hb77, Bel_fn, in_31] at hF
  subst hF
  repeat' (first | with_reducible (first | refine And.intro ?_ ?_ | intro _ | refine AWp_seq ?_ | refine AWp_block ?_ | (refine hKv _ _ (AWp_nop ?_); clear hKv Kv) | (refine hKA ?_; clear hKA hKB KA KB) | (refine hKB ?_; clear hKA hKB KA KB) | refine AWp_skipN ?_ | refine AWp_exitO (by repeat (first | exact Out.hit | apply Out.thenA | apply Out.out rfl)) ?_) | ((first | with_reducible (first | (refine hKv _ _ ?_; clear hKv Kv) | ((first | refine AWp_regC mu_31 ks_31 ?_ | refine AWp_regE mu_31 ks_31 ?_); intro Kv hKv) | refine AWp_retR ?_) | refine indexFunc_A _ hlen hS _ _ ?_); try simp (dsimp := false) only [go_sem, Nat.reduceAdd, Nat.reduceBEq, Nat.reduceEqDiff, Nat.reduceLT, Nat.reduceLeDiff, Nat.reduceMul, Int.reduceToNat, reduceCtorEq, ↓reduceIte, Tryd.ntmps31, Tryd.results31, ks_31, mu_31, ti_hb79, itD, itV, rlV, rowD, ti_hb77, Bel_fn]) | (refine AWp_condC rfl ?_; intro KA KB hKA hKB; try simp only [onB_true, onB_false, onB_dec, onB_ndec, onB_not, onB_and, onB_or]) | (refine AWp_condA rfl ?_ ?_) | with_reducible (first | refine onB_of ?_ ?_ | rfl) | omega)
  exact keepD hk (by rw [fidx_ge, List.not_all_eq_any_not])
def ks_30 : Nat → List Nat
  | 0 => [1]
  | 1 => [1, 3]
  | 2 => [1, 3, 10]
  | 3 => [2]
  | 4 => [1, 15]
  | 5 => [2]
  | 6 => [1, 17, 18, 19]
  | 7 => [1, 17, 18, 19, 20]
  | 8 => [1, 5, 17, 18, 19]
  | 9 => [1, 5, 17, 18, 19, 28]
  | 10 => [2]
  | 11 => [1, 17, 18, 19, 30]
  | 12 => [2]
  | 13 => [1, 17, 18, 19]
  | 14 => [2]
  | _ => []
def mu_30 : List Nat := []
def in_30 : List Nat := [0]
theorem relCheck_A (r : Rl) (hS : ShR r) (H : Heap) (K : V → Heap → Prop) (hk : K (.d (.i .i64 (relFault r))) H) :
    ACalls Tryd.prog 30 [rlV r] H K := by
  have q1 := hS.ncols
  have q2 := hS.nrows
  refine ACalls_of Tryd.func30 rfl in_30 (Nat.le_of_ble_eq_true rfl) ?_
  intro F hF
  simp (dsimp := false) only [go_sem, Nat.reduceAdd, Nat.reduceBEq, Nat.reduceEqDiff, Nat.reduceLT, Nat.reduceLeDiff, Nat.reduceMul, Int.reduceToNat, reduceCtorEq, ↓reduceIte, Tryd.ntmps30, Tryd.results30, ks_30, mu_30, ti_ag48, ti_ag49, ti_ag78, ti_fl51_0, ti_fl51_1, ti_hb31, ti_hb76, ti_hb77, ti_sb48, ti_sb49, ti_sb78, ti_sl49, itD, itV, rlV, rowD, ti_hb77, Bel_fn, in_30] at hF
  subst hF
  repeat' (first | with_reducible (first | refine And.intro ?_ ?_ | intro _ | refine AWp_seq ?_ | refine AWp_block ?_ | (refine hKv _ _ (AWp_nop ?_); clear hKv Kv) | (refine hKA ?_; clear hKA hKB KA KB) | (refine hKB ?_; clear hKA hKB KA KB) | refine AWp_skipN ?_ | refine AWp_exitO (by repeat (first | exact Out.hit | apply Out.thenA | apply Out.out rfl)) ?_) | ((first | with_reducible (first | (refine hKv _ _ ?_; clear hKv Kv) | ((first | refine AWp_regC mu_30 ks_30 ?_ | refine AWp_regE mu_30 ks_30 ?_); intro Kv hKv) | refine AWp_retR ?_) | refine names_A _ (by omega) (fun s hs => by have := hS.col s hs; omega) _ _ ?_); try simp (dsimp := false) only [go_sem, Nat.reduceAdd, Nat.reduceBEq, Nat.reduceEqDiff, Nat.reduceLT, Nat.reduceLeDiff, Nat.reduceMul, Int.reduceToNat, reduceCtorEq, ↓reduceIte, Tryd.ntmps30, Tryd.results30, ks_30, mu_30, ti_ag48, ti_ag49, ti_ag78, ti_fl51_0, ti_fl51_1, ti_hb31, ti_hb76, ti_hb77, ti_sb48, ti_sb49, ti_sb78, ti_sl49, itD, itV, rlV, rowD, ti_hb77, Bel_fn]) | (refine AWp_condC rfl ?_; intro KA KB hKA hKB; try simp only [onB_true, onB_false, onB_dec, onB_ndec, onB_not, onB_and, onB_or]) | (refine AWp_condA rfl ?_ ?_) | with_reducible (first | refine onB_of ?_ ?_ | rfl) | omega)
  · exact keepD hk (by rw [relFault, if_pos (by assumption), if_neg (by omega)])
  rotate_left
  · exact keepD hk (by rw [relFault, if_neg (by assumption)])
  rename_i hc hN
  have hc' : colsFault r.cols = 0 := by omega
  refine AWp_while0 (fun i : Nat => i ≤ r.rows.length ∧ rowsFault r.cols.length (r.rows.drop i) = relFault r) (fun i => [(1, .rp (rlD r)), (17, .d (.sl 1 (r.rows.map rowD))), (18, .d (.i .i64 r.rows.length)), (19, .d (.i .i64 i))]) (fun i => r.rows.length - i) 0 ⟨Nat.zero_le _, ?_⟩ ?_ ?_
  · rw [relFault, if_pos hc', if_pos (by omega), List.drop_zero]
  · simp (dsimp := false) only [go_sem, Nat.reduceAdd, Nat.reduceBEq, Nat.reduceEqDiff, Nat.reduceLT, Nat.reduceLeDiff, Nat.reduceMul, Int.reduceToNat, reduceCtorEq, ↓reduceIte, Tryd.ntmps30, Tryd.results30, ks_30, mu_30, ti_ag48, ti_ag49, ti_ag78, ti_fl51_0, ti_fl51_1, ti_hb31, ti_hb76, ti_hb77, ti_sb48, ti_sb49, ti_sb78, ti_sl49, itD, itV, rlV, rowD, ti_hb77, Bel_fn, rlD]
    first | done | simp
  rintro i ⟨hi, hv⟩
  repeat' (first | with_reducible (first | refine And.intro ?_ ?_ | intro _ | refine AWp_seq ?_ | refine AWp_block ?_ | (refine hKv _ _ (AWp_nop ?_); clear hKv Kv) | (refine hKA ?_; clear hKA hKB KA KB) | (refine hKB ?_; clear hKA hKB KA KB) | refine AWp_skipN ?_ | refine AWp_exitO (by repeat (first | exact Out.hit | apply Out.thenA | apply Out.out rfl)) ?_) | ((first | with_reducible (first | (refine hKv _ _ ?_; clear hKv Kv) | ((first | refine AWp_regC mu_30 ks_30 ?_ | refine AWp_regE mu_30 ks_30 ?_); intro Kv hKv) | refine AWp_retR ?_) | refine containsFunc_A _ (by have := (hS.get (by assumption)).1; omega) (fun x hx => by have := (hS.get (by assumption)).2 x hx; omega) _ _ ?_); try simp (dsimp := false) only [go_sem, Nat.reduceAdd, Nat.reduceBEq, Nat.reduceEqDiff, Nat.reduceLT, Nat.reduceLeDiff, Nat.reduceMul, Int.reduceToNat, reduceCtorEq, ↓reduceIte, Tryd.ntmps30, Tryd.results30, ks_30, mu_30, ti_ag48, ti_ag49, ti_ag78, ti_fl51_0, ti_fl51_1, ti_hb31, ti_hb76, ti_hb77, ti_sb48, ti_sb49, ti_sb78, ti_sl49, itD, itV, rlV, rowD, rlD]) | (refine AWp_condC rfl ?_; intro KA KB hKA hKB; try simp only [onB_true, onB_false, onB_dec, onB_ndec, onB_not, onB_and, onB_or]) | (refine AWp_condA rfl ?_ ?_) | with_reducible (first | refine onB_of ?_ ?_ | rfl) | omega)
  · rename_i h1 row hrow hl ha
    have h0 : rowFault r.cols.length row = 0 := by rw [rowFault, if_pos (by omega), if_pos ha]
    rw [rowsFault_next hrow, if_pos h0] at hv
    exact ⟨i + 1, ⟨by omega, hv⟩, by omega, by omega⟩
  · rename_i h1 row hrow hl ha
    have h0 : rowFault r.cols.length row = 12 := by rw [rowFault, if_pos (by omega), if_neg (by simp [ha])]
    rw [rowsFault_next hrow, if_neg (by omega), h0] at hv
    exact keepD hk (by rw [hv])
  · rename_i h1 row hrow hl
    have h0 : rowFault r.cols.length row = 9 := by rw [rowFault, if_neg (by omega)]
    rw [rowsFault_next hrow, if_neg (by omega), h0] at hv
    exact keepD hk (by rw [hv])
  · have e : i = r.rows.length := by omega
    subst e
    rw [List.drop_length] at hv
    exact keepD hk (by rw [← hv]; rfl)
def ks_40 : Nat → List Nat
  | 0 => [1]
  | 1 => [1, 3]
  | 2 => [1, 3, 10]
  | 3 => [2]
  | 4 => [1, 15]
  | 5 => [2]
  | 6 => [1, 4]
  | 7 => [1, 4, 20]
  | 8 => [1, 4]
  | 9 => [1, 4, 32]
  | 10 => [2]
  | 11 => [1, 4, 5]
  | 12 => [1, 4, 5, 40]
  | 13 => [1, 4, 5]
  | 14 => [1, 4, 5, 52]
  | 15 => [2]
  | 16 => [2]
  | _ => []
def mu_40 : List Nat := []
def in_40 : List Nat := [0]
def nd_40 : Nat → Nat
  | 9 => 9
  | _ => 0
theorem relFault_A (r : Rl) (hS : ShR r) (H : Heap) (K : V → Heap → Prop) (hk : K (.d (.i .i64 (relFault r))) H) :
    ACalls Tryd.prog 40 [rlV r] H K := by
  have q1 := hS.ncols
  have q2 := hS.nrows
  refine ACalls_of Tryd.func40 rfl in_40 (Nat.le_of_ble_eq_true rfl) ?_
  intro F hF
  simp (dsimp := false) only [go_sem, Nat.reduceAdd, Nat.reduceBEq, Nat.reduceEqDiff, Nat.reduceLT, Nat.reduceLeDiff, Nat.reduceMul, Int.reduceToNat, reduceCtorEq, ↓reduceIte, Tryd.ntmps40, Tryd.results40, ks_40, mu_40, nd_40, ti_ag31, ti_ag48, ti_ag49, ti_ag78, ti_fl51_0, ti_fl51_1, ti_hb20, ti_hb48, ti_sb48, ti_sb49, ti_sb78, ti_sl49, ti_sl78, ti_sz31, itD, itV, rlV, rowD, rlD, in_40] at hF
  subst hF
  repeat' (first | with_reducible (first | refine And.intro ?_ ?_ | intro _ | refine AWp_seq ?_ | refine AWp_block ?_ | (refine hKv _ _ (AWp_nop ?_); clear hKv Kv) | (refine hKA ?_; clear hKA hKB KA KB) | (refine hKB ?_; clear hKA hKB KA KB) | refine AWp_skipN ?_ | refine AWp_exitO (by repeat (first | exact Out.hit | apply Out.thenA | apply Out.out rfl)) ?_) | ((first | with_reducible (first | (refine hKv _ _ ?_; clear hKv Kv) | ((first | refine AWp_regC mu_40 ks_40 ?_ | refine AWp_draw nd_40 mu_40 ks_40 ti_mixed (by kernel_rfl) ?_ | refine AWp_regE mu_40 ks_40 ?_ | refine AWp_drawE nd_40 mu_40 ks_40 ti_mixed (by kernel_rfl) ?_); intro Kv hKv) | refine AWp_retR ?_) | refine colsFault_A _ (by omega) (fun s hs => by have := hS.col s hs; omega) _ _ ?_ | refine QCall_of (colsFault_A _ (by omega) (fun s hs => by have := hS.col s hs; omega) _ _ (Two_intro _ _)) ?_); try simp (dsimp := false) only [go_sem, Nat.reduceAdd, Nat.reduceBEq, Nat.reduceEqDiff, Nat.reduceLT, Nat.reduceLeDiff, Nat.reduceMul, Int.reduceToNat, reduceCtorEq, ↓reduceIte, Tryd.ntmps40, Tryd.results40, ks_40, mu_40, nd_40, ti_ag31, ti_ag48, ti_ag49, ti_ag78, ti_fl51_0, ti_fl51_1, ti_hb20, ti_hb48, ti_sb48, ti_sb49, ti_sb78, ti_sl49, ti_sl78, ti_sz31, itD, itV, rlV, rowD, rlD]) | (refine AWp_condC rfl ?_; intro KA KB hKA hKB; try simp only [onB_true, onB_false, onB_dec, onB_ndec, onB_not, onB_and, onB_or]) | (refine AWp_condA rfl ?_ ?_) | with_reducible (first | refine onB_of ?_ ?_ | rfl) | omega)
  · exact keepD hk (by rw [relFault, if_pos (by assumption), if_neg (by omega)])
  rotate_left
  · exact keepD hk (by rw [relFault, if_neg (by assumption)])
  rename_i hc hN
  have hc' : colsFault r.cols = 0 := by omega
  refine AWp_while0 (fun i : Nat => i ≤ r.rows.length ∧ rowsFault r.cols.length (r.rows.drop i) = relFault r) (fun i => [(1, .rp (rlD r)), (4, .d (.i .i64 i))]) (fun i => r.rows.length - i) 0 ⟨Nat.zero_le _, ?_⟩ ?_ ?_
  · rw [relFault, if_pos hc', if_pos (by omega), List.drop_zero]
  · simp (dsimp := false) only [go_sem, Nat.reduceAdd, Nat.reduceBEq, Nat.reduceEqDiff, Nat.reduceLT, Nat.reduceLeDiff, Nat.reduceMul, Int.reduceToNat, reduceCtorEq, ↓reduceIte, Tryd.ntmps40, Tryd.results40, ks_40, mu_40, nd_40, ti_ag31, ti_ag48, ti_ag49, ti_ag78, ti_fl51_0, ti_fl51_1, ti_hb20, ti_hb48, ti_sb48, ti_sb49, ti_sb78, ti_sl49, ti_sl78, ti_sz31, itD, itV, rlV, rowD, rlD]
    first | done | simp
  rintro i ⟨hi, hv⟩
  repeat' (first | with_reducible (first | refine And.intro ?_ ?_ | intro _ | refine AWp_seq ?_ | refine AWp_block ?_ | (refine hKv _ _ (AWp_nop ?_); clear hKv Kv) | (refine hKA ?_; clear hKA hKB KA KB) | (refine hKB ?_; clear hKA hKB KA KB) | refine AWp_skipN ?_ | refine AWp_exitO (by repeat (first | exact Out.hit | apply Out.thenA | apply Out.out rfl)) ?_) | (with_reducible (first | (refine hKv _ _ ?_; clear hKv Kv) | ((first | refine AWp_regC mu_40 ks_40 ?_ | refine AWp_draw nd_40 mu_40 ks_40 ti_mixed (by kernel_rfl) ?_ | refine AWp_regE mu_40 ks_40 ?_ | refine AWp_drawE nd_40 mu_40 ks_40 ti_mixed (by kernel_rfl) ?_); intro Kv hKv) | refine AWp_retR ?_); try simp (dsimp := false) only [go_sem, Nat.reduceAdd, Nat.reduceBEq, Nat.reduceEqDiff, Nat.reduceLT, Nat.reduceLeDiff, Nat.reduceMul, Int.reduceToNat, reduceCtorEq, ↓reduceIte, Tryd.ntmps40, Tryd.results40, ks_40, mu_40, nd_40, ti_ag31, ti_ag48, ti_ag49, ti_ag78, ti_fl51_0, ti_fl51_1, ti_hb20, ti_hb48, ti_sb48, ti_sb49, ti_sb78, ti_sl49, ti_sl78, ti_sz31, itD, itV, rlV, rowD, rlD]) | (refine AWp_condC rfl ?_; intro KA KB hKA hKB; try simp only [onB_true, onB_false, onB_dec, onB_ndec, onB_not, onB_and, onB_or]) | (refine AWp_condA rfl ?_ ?_) | with_reducible (first | refine onB_of ?_ ?_ | rfl) | omega)
  · rename_i h1 row hrow hl
    have hlr := (hS.get hrow).1
    refine AWp_while0 (fun k : Nat => k ≤ row.length ∧ (row.drop k).all itemB = row.all itemB) (fun k => [(1, .rp (rlD r)), (4, .d (.i .i64 i)), (5, .d (.i .i64 k))]) (fun k => row.length - k) 0 ⟨Nat.zero_le _, by rw [List.drop_zero]⟩ ?_ ?_
    · simp (dsimp := false) only [go_sem, Nat.reduceAdd, Nat.reduceBEq, Nat.reduceEqDiff, Nat.reduceLT, Nat.reduceLeDiff, Nat.reduceMul, Int.reduceToNat, reduceCtorEq, ↓reduceIte, Tryd.ntmps40, Tryd.results40, ks_40, mu_40, nd_40, ti_ag31, ti_ag48, ti_ag49, ti_ag78, ti_fl51_0, ti_fl51_1, ti_hb20, ti_hb48, ti_sb48, ti_sb49, ti_sb78, ti_sl49, ti_sl78, ti_sz31, itD, itV, rlV, rowD, rlD]
      first | done | simp
    rintro k ⟨hk1, hk2⟩
    repeat' (first | with_reducible (first | refine And.intro ?_ ?_ | intro _ | refine AWp_seq ?_ | refine AWp_block ?_ | (refine hKv _ _ (AWp_nop ?_); clear hKv Kv) | (refine hKA ?_; clear hKA hKB KA KB) | (refine hKB ?_; clear hKA hKB KA KB) | refine AWp_skipN ?_ | refine AWp_exitO (by repeat (first | exact Out.hit | apply Out.thenA | apply Out.out rfl)) ?_) | ((first | with_reducible (first | (refine hKv _ _ ?_; clear hKv Kv) | ((first | refine AWp_regC mu_40 ks_40 ?_ | refine AWp_draw nd_40 mu_40 ks_40 ti_mixed (by kernel_rfl) ?_ | refine AWp_regE mu_40 ks_40 ?_ | refine AWp_drawE nd_40 mu_40 ks_40 ti_mixed (by kernel_rfl) ?_); intro Kv hKv) | refine AWp_retR ?_) | refine itemMay_A _ (by have := (hS.get hrow).2 _ (List.mem_of_getElem? (by assumption)); omega) _ _ ?_ | refine QCall_of (itemMay_A _ (by have := (hS.get hrow).2 _ (List.mem_of_getElem? (by assumption)); omega) _ _ (Two_intro _ _)) ?_); try simp (dsimp := false) only [go_sem, Nat.reduceAdd, Nat.reduceBEq, Nat.reduceEqDiff, Nat.reduceLT, Nat.reduceLeDiff, Nat.reduceMul, Int.reduceToNat, reduceCtorEq, ↓reduceIte, Tryd.ntmps40, Tryd.results40, ks_40, mu_40, nd_40, ti_ag31, ti_ag48, ti_ag49, ti_ag78, ti_fl51_0, ti_fl51_1, ti_hb20, ti_hb48, ti_sb48, ti_sb49, ti_sb78, ti_sl49, ti_sl78, ti_sz31, itD, itV, rlV, rowD, rlD, hrow]) | (refine AWp_condC rfl ?_; intro KA KB hKA hKB; try simp only [onB_true, onB_false, onB_dec, onB_ndec, onB_not, onB_and, onB_or]) | (refine AWp_condA rfl ?_ ?_) | with_reducible (first | refine onB_of ?_ ?_ | rfl) | omega)
    · rename_i g1 x hx hb
      rw [all_drop _ hx, hb, Bool.true_and] at hk2
      exact ⟨k + 1, ⟨by omega, hk2⟩, by omega, by omega⟩
    · rename_i g1 x hx hb
      rw [all_drop _ hx, hb, Bool.false_and] at hk2
      have h0 : rowFault r.cols.length row = 12 := by rw [rowFault, if_pos (by omega), if_neg (by simp [← hk2])]
      rw [rowsFault_next hrow, if_neg (by omega), h0] at hv
      exact keepD hk (by rw [hv])
    · have e : k = row.length := by omega
      subst e
      rw [List.drop_length, List.all_nil] at hk2
      have h0 : rowFault r.cols.length row = 0 := by rw [rowFault, if_pos (by omega), if_pos hk2.symm]
      rw [rowsFault_next hrow, if_pos h0] at hv
      exact ⟨i + 1, ⟨by omega, hv⟩, by omega, by omega⟩
  · rename_i h1 row hrow hl
    have h0 : rowFault r.cols.length row = 9 := by rw [rowFault, if_neg (by omega)]
    rw [rowsFault_next hrow, if_neg (by omega), h0] at hv
    exact keepD hk (by rw [hv])
  · have e : i = r.rows.length := by omega
    subst e
    rw [List.drop_length] at hv
    exact keepD hk (by rw [← hv]; rfl)
def rowC (l : List It) : List V := [.d (.sl 3 (l.map itD))]
theorem rows_data (rs : List (List It)) : dsRows (rs.map rowC) = some (rs.map rowD) := by
  induction rs with
  | nil => rfl
  | cons x rs ih => simp [dsRows, rowC, rowD, dsOf, asD, ih]
end Go.Proofs.YtppalmoicjogaaaDoor
