/- Relations: what the program and the reference find of them; a copy of a relation. No condition but that the tables of package unicode/utf8 are there. -/
import Derived.Test.YtmalccaijjcepaaDoorRl0
import Derived.Test.YtmalccaijjcepaaDoorAb15
set_option linter.all false
set_option linter.unusedSimpArgs false
set_option linter.unusedVariables false
namespace Go.Proofs.YtmalccaijjcepaaDoor
open Go Go.Proofs.YtmalccaijjcepaaDoor.Ab
variable [Glo] [U8]
set_option maxHeartbeats 4000000
set_option maxRecDepth 20000

/- the live slots of pleacher/rel.Check$1 -/
def ks_39 : Nat → List Nat
  | 0 => [1]
  | 1 => [2]
  | _ => []
def mu_39 : List Nat := []
def in_39 : List Nat := [0]
theorem check1_A (x : It) (hs : x.s.length ≤ 9223372036854775807) (H : Heap) (K : V → Heap → Prop) (hk : K (.d (.b (!itemB x))) H) : ACalls Tryd.prog 39 [itV x] H K := by
  refine ACalls_of Tryd.func39 rfl in_39 (Nat.le_of_ble_eq_true rfl) ?_
  intro F hF
  simp (dsimp := false) only [go_sem, Nat.reduceAdd, Nat.reduceBEq, Nat.reduceEqDiff, Nat.reduceLT, Nat.reduceLeDiff, Nat.reduceMul, Int.reduceToNat, reduceCtorEq, ↓reduceIte, Tryd.ntmps39, Tryd.results39, ks_39, mu_39, ti_ag26, ti_hb32, ti_sz26, itD, itV, rlV, rowD, in_39] at hF
  subst hF
  repeat' (first | with_reducible (first | refine And.intro ?_ ?_ | intro _ | refine AWp_seq ?_ | refine AWp_block ?_ | (refine hKv _ _ (AWp_nop ?_); clear hKv Kv) | (refine hKA ?_; clear hKA hKB KA KB) | (refine hKB ?_; clear hKA hKB KA KB) | refine AWp_skipN ?_ | refine AWp_exitO (by repeat (first | exact Out.hit | apply Out.thenA | apply Out.out rfl)) ?_) | ((first | with_reducible (first | (refine hKv _ _ ?_; clear hKv Kv) | ((first | refine AWp_regC mu_39 ks_39 ?_ | refine AWp_regE mu_39 ks_39 ?_); intro Kv hKv) | refine AWp_retR ?_) | refine item_A _ hs _ _ ?_); try simp (dsimp := false) only [go_sem, Nat.reduceAdd, Nat.reduceBEq, Nat.reduceEqDiff, Nat.reduceLT, Nat.reduceLeDiff, Nat.reduceMul, Int.reduceToNat, reduceCtorEq, ↓reduceIte, Tryd.ntmps39, Tryd.results39, ks_39, mu_39, ti_ag26, ti_hb32, ti_sz26, itD, itV, rlV, rowD]) | (refine AWp_condC rfl ?_; intro KA KB hKA hKB; try simp only [onB_true, onB_false, onB_dec, onB_ndec, onB_not, onB_and, onB_or]) | (refine AWp_condA rfl ?_ ?_) | with_reducible (first | refine onB_of ?_ ?_ | rfl) | omega)
  all_goals exact keepD hk rfl

/- the live slots of slices.IndexFunc[[]pleacher/api.Item,pleacher/api.Item] -/
def ks_64 : Nat → List Nat
  | 0 => [0, 1]
  | 1 => [0, 1, 7, 8]
  | 2 => [0, 1, 7, 8, 9]
  | 3 => [0, 1, 5, 7, 8]
  | 4 => [0, 1, 5, 7, 8, 16]
  | 5 => [4]
  | 6 => [0, 1, 7, 8]
  | 7 => [4]
  | _ => []
def mu_64 : List Nat := []
def in_64 : List Nat := [0, 1]
theorem indexFunc_A (l : List It) (hlen : l.length ≤ 9223372036854775807) (hS : ∀ x, x ∈ l → x.s.length ≤ 9223372036854775807) (H : Heap) (K : V → Heap → Prop) (hk : K (.d (.i .i64 (fidx (fun x => !itemB x) l))) H) :
    ACalls Tryd.prog 64 [.d (.sl 3 (l.map itD)), .fn 39 []] H K := by
  refine ACalls_of Tryd.func64 rfl in_64 (Nat.le_of_ble_eq_true rfl) ?_
  intro F hF
  simp (dsimp := false) only [go_sem, Nat.reduceAdd, Nat.reduceBEq, Nat.reduceEqDiff, Nat.reduceLT, Nat.reduceLeDiff, Nat.reduceMul, Int.reduceToNat, reduceCtorEq, ↓reduceIte, Tryd.ntmps64, Tryd.results64, ks_64, mu_64, ti_ag26, ti_sb61, ti_sl61, ti_sz26, itD, itV, rlV, rowD, ti_hb39, Bel_fn, in_64] at hF
  subst hF
  repeat' (first | with_reducible (first | refine And.intro ?_ ?_ | intro _ | refine AWp_seq ?_ | refine AWp_block ?_ | (refine hKv _ _ (AWp_nop ?_); clear hKv Kv) | (refine hKA ?_; clear hKA hKB KA KB) | (refine hKB ?_; clear hKA hKB KA KB) | refine AWp_skipN ?_ | refine AWp_exitO (by repeat (first | exact Out.hit | apply Out.thenA | apply Out.out rfl)) ?_) | (with_reducible (first | (refine hKv _ _ ?_; clear hKv Kv) | ((first | refine AWp_regC mu_64 ks_64 ?_ | refine AWp_regE mu_64 ks_64 ?_); intro Kv hKv) | refine AWp_retR ?_); try simp (dsimp := false) only [go_sem, Nat.reduceAdd, Nat.reduceBEq, Nat.reduceEqDiff, Nat.reduceLT, Nat.reduceLeDiff, Nat.reduceMul, Int.reduceToNat, reduceCtorEq, ↓reduceIte, Tryd.ntmps64, Tryd.results64, ks_64, mu_64, ti_ag26, ti_sb61, ti_sl61, ti_sz26, itD, itV, rlV, rowD, ti_hb39, Bel_fn]) | (refine AWp_condC rfl ?_; intro KA KB hKA hKB; try simp only [onB_true, onB_false, onB_dec, onB_ndec, onB_not, onB_and, onB_or]) | (refine AWp_condA rfl ?_ ?_) | with_reducible (first | refine onB_of ?_ ?_ | rfl) | omega)
  refine AWp_while0 (fun i : Nat => i ≤ l.length ∧ fidxGo (fun x => !itemB x) (l.drop i) i = fidx (fun x => !itemB x) l) (fun i => [(0, .d (.sl 3 (l.map itD))), (1, .fn 39 []), (7, .d (.i .i64 l.length)), (8, .d (.i .i64 i))]) (fun i => l.length - i) 0 ⟨Nat.zero_le _, rfl⟩ ?_ ?_
  · simp (dsimp := false) only [go_sem, Nat.reduceAdd, Nat.reduceBEq, Nat.reduceEqDiff, Nat.reduceLT, Nat.reduceLeDiff, Nat.reduceMul, Int.reduceToNat, reduceCtorEq, ↓reduceIte, Tryd.ntmps64, Tryd.results64, ks_64, mu_64, ti_ag26, ti_sb61, ti_sl61, ti_sz26, itD, itV, rlV, rowD, ti_hb39, Bel_fn]
    first | done | simp [Bel_fn]
  rintro i ⟨hi, hv⟩
  repeat' (first | with_reducible (first | refine And.intro ?_ ?_ | intro _ | refine AWp_seq ?_ | refine AWp_block ?_ | (refine hKv _ _ (AWp_nop ?_); clear hKv Kv) | (refine hKA ?_; clear hKA hKB KA KB) | (refine hKB ?_; clear hKA hKB KA KB) | refine AWp_skipN ?_ | refine AWp_exitO (by repeat (first | exact Out.hit | apply Out.thenA | apply Out.out rfl)) ?_) | ((first | with_reducible (first | (refine hKv _ _ ?_; clear hKv Kv) | ((first | refine AWp_regC mu_64 ks_64 ?_ | refine AWp_regE mu_64 ks_64 ?_); intro Kv hKv) | refine AWp_retR ?_) | refine check1_A _ (hS _ (List.mem_of_getElem? (by assumption))) _ _ ?_); try simp (dsimp := false) only [go_sem, Nat.reduceAdd, Nat.reduceBEq, Nat.reduceEqDiff, Nat.reduceLT, Nat.reduceLeDiff, Nat.reduceMul, Int.reduceToNat, reduceCtorEq, ↓reduceIte, Tryd.ntmps64, Tryd.results64, ks_64, mu_64, ti_ag26, ti_sb61, ti_sl61, ti_sz26, itD, itV, rlV, rowD, ti_hb39, Bel_fn]) | (refine AWp_condC rfl ?_; intro KA KB hKA hKB; try simp only [onB_true, onB_false, onB_dec, onB_ndec, onB_not, onB_and, onB_or]) | (refine AWp_condA rfl ?_ ?_) | with_reducible (first | refine onB_of ?_ ?_ | rfl) | omega)
  · rename_i h1 x hx h
    rw [fidxGo_next hx, if_neg (by simpa using h)] at hv
    exact ⟨i + 1, ⟨by omega, hv⟩, by omega, by first | omega | (simp; omega)⟩
  · rename_i h1 x hx h
    rw [fidxGo_next hx, if_pos (by simpa using h)] at hv
    exact keepD hk (by rw [hv])
  · have e : i = l.length := by omega
    subst e
    rw [fidxGo_end] at hv
    exact keepD hk (by rw [hv])
/- the live slots of slices.ContainsFunc[[]pleacher/api.Item,pleacher/api.Item] -/
def ks_38 : Nat → List Nat
  | 0 => [0, 1]
  | 1 => [4]
  | _ => []
def mu_38 : List Nat := []
def in_38 : List Nat := [0, 1]
theorem containsFunc_A (l : List It) (hlen : l.length ≤ 9223372036854775807) (hS : ∀ x, x ∈ l → x.s.length ≤ 9223372036854775807) (H : Heap) (K : V → Heap → Prop) (hk : K (.d (.b (!l.all itemB))) H) :
    ACalls Tryd.prog 38 [.d (.sl 3 (l.map itD)), .fn 39 []] H K := by
  refine ACalls_of Tryd.func38 rfl in_38 (Nat.le_of_ble_eq_true rfl) ?_
  intro F hF
  simp (dsimp := false) only [go_sem, Nat.reduceAdd, Nat.reduceBEq, Nat.reduceEqDiff, Nat.reduceLT, Nat.reduceLeDiff, Nat.reduceMul, Int.reduceToNat, reduceCtorEq, ↓reduceIte, Tryd.ntmps38, Tryd.results38, ks_38, mu_38, ti_hb64, itD, itV, rlV, rowD, ti_hb39, Bel_fn, in_38] at hF
  subst hF
  repeat' (first | with_reducible (first | refine And.intro ?_ ?_ | intro _ | refine AWp_seq ?_ | refine AWp_block ?_ | (refine hKv _ _ (AWp_nop ?_); clear hKv Kv) | (refine hKA ?_; clear hKA hKB KA KB) | (refine hKB ?_; clear hKA hKB KA KB) | refine AWp_skipN ?_ | refine AWp_exitO (by repeat (first | exact Out.hit | apply Out.thenA | apply Out.out rfl)) ?_) | ((first | with_reducible (first | (refine hKv _ _ ?_; clear hKv Kv) | ((first | refine AWp_regC mu_38 ks_38 ?_ | refine AWp_regE mu_38 ks_38 ?_); intro Kv hKv) | refine AWp_retR ?_) | refine indexFunc_A _ hlen hS _ _ ?_); try simp (dsimp := false) only [go_sem, Nat.reduceAdd, Nat.reduceBEq, Nat.reduceEqDiff, Nat.reduceLT, Nat.reduceLeDiff, Nat.reduceMul, Int.reduceToNat, reduceCtorEq, ↓reduceIte, Tryd.ntmps38, Tryd.results38, ks_38, mu_38, ti_hb64, itD, itV, rlV, rowD, ti_hb39, Bel_fn]) | (refine AWp_condC rfl ?_; intro KA KB hKA hKB; try simp only [onB_true, onB_false, onB_dec, onB_ndec, onB_not, onB_and, onB_or]) | (refine AWp_condA rfl ?_ ?_) | with_reducible (first | refine onB_of ?_ ?_ | rfl) | omega)
  exact keepD hk (by rw [fidx_ge, List.not_all_eq_any_not])
/- the live slots of pleacher/rel.Check -/
def ks_18 : Nat → List Nat
  | 0 => [1]
  | 1 => [1, 3]
  | 2 => [1, 3, 10]
  | 3 => [2]
  | 4 => [1, 15]
  | 5 => [2]
  | 6 => [1, 17, 18, 19]
  | 7 => [1, 17, 18, 19, 20]
  | 8 => [1, 5, 17, 18, 19]
  | 9 => [1, 5, 17, 18, 19, 28]
  | 10 => [2]
  | 11 => [1, 17, 18, 19, 30]
  | 12 => [2]
  | 13 => [1, 17, 18, 19]
  | 14 => [2]
  | _ => []
def mu_18 : List Nat := []
def in_18 : List Nat := [0]
theorem relCheck_A (r : Rl) (hS : ShR r) (H : Heap) (K : V → Heap → Prop) (hk : K (.d (.i .i64 (relFault r))) H) :
    ACalls Tryd.prog 18 [rlV r] H K := by
  have q1 := hS.ncols
  have q2 := hS.nrows
  refine ACalls_of Tryd.func18 rfl in_18 (Nat.le_of_ble_eq_true rfl) ?_
  intro F hF
  simp (dsimp := false) only [go_sem, Nat.reduceAdd, Nat.reduceBEq, Nat.reduceEqDiff, Nat.reduceLT, Nat.reduceLeDiff, Nat.reduceMul, Int.reduceToNat, reduceCtorEq, ↓reduceIte, Tryd.ntmps18, Tryd.results18, ks_18, mu_18, ti_ag33, ti_ag34, ti_ag61, ti_fl36_0, ti_fl36_1, ti_hb37, ti_hb38, ti_hb39, ti_sb33, ti_sb34, ti_sb61, ti_sl34, itD, itV, rlV, rowD, ti_hb39, Bel_fn, in_18] at hF
  subst hF
  repeat' (first | with_reducible (first | refine And.intro ?_ ?_ | intro _ | refine AWp_seq ?_ | refine AWp_block ?_ | (refine hKv _ _ (AWp_nop ?_); clear hKv Kv) | (refine hKA ?_; clear hKA hKB KA KB) | (refine hKB ?_; clear hKA hKB KA KB) | refine AWp_skipN ?_ | refine AWp_exitO (by repeat (first | exact Out.hit | apply Out.thenA | apply Out.out rfl)) ?_) | ((first | with_reducible (first | (refine hKv _ _ ?_; clear hKv Kv) | ((first | refine AWp_regC mu_18 ks_18 ?_ | refine AWp_regE mu_18 ks_18 ?_); intro Kv hKv) | refine AWp_retR ?_) | refine names_A _ (by omega) (fun s hs => by have := hS.col s hs; omega) _ _ ?_); try simp (dsimp := false) only [go_sem, Nat.reduceAdd, Nat.reduceBEq, Nat.reduceEqDiff, Nat.reduceLT, Nat.reduceLeDiff, Nat.reduceMul, Int.reduceToNat, reduceCtorEq, ↓reduceIte, Tryd.ntmps18, Tryd.results18, ks_18, mu_18, ti_ag33, ti_ag34, ti_ag61, ti_fl36_0, ti_fl36_1, ti_hb37, ti_hb38, ti_hb39, ti_sb33, ti_sb34, ti_sb61, ti_sl34, itD, itV, rlV, rowD, ti_hb39, Bel_fn]) | (refine AWp_condC rfl ?_; intro KA KB hKA hKB; try simp only [onB_true, onB_false, onB_dec, onB_ndec, onB_not, onB_and, onB_or]) | (refine AWp_condA rfl ?_ ?_) | with_reducible (first | refine onB_of ?_ ?_ | rfl) | omega)
  · exact keepD hk (by rw [relFault, if_pos (by assumption), if_neg (by omega)])
  rotate_left
  · exact keepD hk (by rw [relFault, if_neg (by assumption)])
  rename_i hc hN
  have hc' : colsFault r.cols = 0 := by omega
  refine AWp_while0 (fun i : Nat => i ≤ r.rows.length ∧ rowsFault r.cols.length (r.rows.drop i) = relFault r) (fun i => [(1, .rp (rlD r)), (17, .d (.sl 1 (r.rows.map rowD))), (18, .d (.i .i64 r.rows.length)), (19, .d (.i .i64 i))]) (fun i => r.rows.length - i) 0 ⟨Nat.zero_le _, ?_⟩ ?_ ?_
  · rw [relFault, if_pos hc', if_pos (by omega), List.drop_zero]
  · simp (dsimp := false) only [go_sem, Nat.reduceAdd, Nat.reduceBEq, Nat.reduceEqDiff, Nat.reduceLT, Nat.reduceLeDiff, Nat.reduceMul, Int.reduceToNat, reduceCtorEq, ↓reduceIte, Tryd.ntmps18, Tryd.results18, ks_18, mu_18, ti_ag33, ti_ag34, ti_ag61, ti_fl36_0, ti_fl36_1, ti_hb37, ti_hb38, ti_hb39, ti_sb33, ti_sb34, ti_sb61, ti_sl34, itD, itV, rlV, rowD, ti_hb39, Bel_fn, rlD]
    first | done | simp
  rintro i ⟨hi, hv⟩
  
  repeat' (first | with_reducible (first | refine And.intro ?_ ?_ | intro _ | refine AWp_seq ?_ | refine AWp_block ?_ | (refine hKv _ _ (AWp_nop ?_); clear hKv Kv) | (refine hKA ?_; clear hKA hKB KA KB) | (refine hKB ?_; clear hKA hKB KA KB) | refine AWp_skipN ?_ | refine AWp_exitO (by repeat (first | exact Out.hit | apply Out.thenA | apply Out.out rfl)) ?_) | ((first | with_reducible (first | (refine hKv _ _ ?_; clear hKv Kv) | ((first | refine AWp_regC mu_18 ks_18 ?_ | refine AWp_regE mu_18 ks_18 ?_); intro Kv hKv) | refine AWp_retR ?_) | refine containsFunc_A _ (by have := (hS.get (by assumption)).1; omega) (fun x hx => by have := (hS.get (by assumption)).2 x hx; omega) _ _ ?_); try simp (dsimp := false) only [go_sem, Nat.reduceAdd, Nat.reduceBEq, Nat.reduceEqDiff, Nat.reduceLT, Nat.reduceLeDiff, Nat.reduceMul, Int.reduceToNat, reduceCtorEq, ↓reduceIte, Tryd.ntmps18, Tryd.results18, ks_18, mu_18, ti_ag33, ti_ag34, ti_ag61, ti_fl36_0, ti_fl36_1, ti_hb37, ti_hb38, ti_hb39, ti_sb33, ti_sb34, ti_sb61, ti_sl34, itD, itV, rlV, rowD, rlD]) | (refine AWp_condC rfl ?_; intro KA KB hKA hKB; try simp only [onB_true, onB_false, onB_dec, onB_ndec, onB_not, onB_and, onB_or]) | (refine AWp_condA rfl ?_ ?_) | with_reducible (first | refine onB_of ?_ ?_ | rfl) | omega)
  · rename_i h1 row hrow hl ha
    have h0 : rowFault r.cols.length row = 0 := by rw [rowFault, if_pos (by omega), if_pos ha]
    rw [rowsFault_next hrow, if_pos h0] at hv
    exact ⟨i + 1, ⟨by omega, hv⟩, by omega, by omega⟩
  · rename_i h1 row hrow hl ha
    have h0 : rowFault r.cols.length row = 12 := by rw [rowFault, if_pos (by omega), if_neg (by simp [ha])]
    rw [rowsFault_next hrow, if_neg (by omega), h0] at hv
    exact keepD hk (by rw [hv])
  · rename_i h1 row hrow hl
    have h0 : rowFault r.cols.length row = 9 := by rw [rowFault, if_neg (by omega)]
    rw [rowsFault_next hrow, if_neg (by omega), h0] at hv
    exact keepD hk (by rw [hv])
  · have e : i = r.rows.length := by omega
    subst e
    rw [List.drop_length] at hv
    exact keepD hk (by rw [← hv]; rfl)

/- the live slots of pleacher/pleacherref.RelFault -/
def ks_20 : Nat → List Nat
  | 0 => [1]
  | 1 => [1, 3]
  | 2 => [1, 3, 10]
  | 3 => [2]
  | 4 => [1, 15]
  | 5 => [2]
  | 6 => [1, 4]
  | 7 => [1, 4, 20]
  | 8 => [1, 4]
  | 9 => [1, 4, 32]
  | 10 => [2]
  | 11 => [1, 4, 5]
  | 12 => [1, 4, 5, 40]
  | 13 => [1, 4, 5]
  | 14 => [1, 4, 5, 52]
  | 15 => [2]
  | 16 => [2]
  | _ => []
def mu_20 : List Nat := []
def in_20 : List Nat := [0]
def nd_20 : Nat → Nat
  | 9 => 9
  | _ => 0
theorem relFault_A (r : Rl) (hS : ShR r) (H : Heap) (K : V → Heap → Prop) (hk : K (.d (.i .i64 (relFault r))) H) :
    ACalls Tryd.prog 20 [rlV r] H K := by
  have q1 := hS.ncols
  have q2 := hS.nrows
  refine ACalls_of Tryd.func20 rfl in_20 (Nat.le_of_ble_eq_true rfl) ?_
  intro F hF
  simp (dsimp := false) only [go_sem, Nat.reduceAdd, Nat.reduceBEq, Nat.reduceEqDiff, Nat.reduceLT, Nat.reduceLeDiff, Nat.reduceMul, Int.reduceToNat, reduceCtorEq, ↓reduceIte, Tryd.ntmps20, Tryd.results20, ks_20, mu_20, nd_20, ti_ag26, ti_ag33, ti_ag34, ti_ag61, ti_fl36_0, ti_fl36_1, ti_hb33, ti_hb40, ti_sb33, ti_sb34, ti_sb61, ti_sl34, ti_sl61, ti_sz26, itD, itV, rlV, rowD, rlD, in_20] at hF
  subst hF
  repeat' (first | with_reducible (first | refine And.intro ?_ ?_ | intro _ | refine AWp_seq ?_ | refine AWp_block ?_ | (refine hKv _ _ (AWp_nop ?_); clear hKv Kv) | (refine hKA ?_; clear hKA hKB KA KB) | (refine hKB ?_; clear hKA hKB KA KB) | refine AWp_skipN ?_ | refine AWp_exitO (by repeat (first | exact Out.hit | apply Out.thenA | apply Out.out rfl)) ?_) | ((first | with_reducible (first | (refine hKv _ _ ?_; clear hKv Kv) | ((first | refine AWp_regC mu_20 ks_20 ?_ | refine AWp_draw nd_20 mu_20 ks_20 ti_mixed (by kernel_rfl) ?_ | refine AWp_regE mu_20 ks_20 ?_ | refine AWp_drawE nd_20 mu_20 ks_20 ti_mixed (by kernel_rfl) ?_); intro Kv hKv) | refine AWp_retR ?_) | refine colsFault_A _ (by omega) (fun s hs => by have := hS.col s hs; omega) _ _ ?_ | refine QCall_of (colsFault_A _ (by omega) (fun s hs => by have := hS.col s hs; omega) _ _ (Two_intro _ _)) ?_); try simp (dsimp := false) only [go_sem, Nat.reduceAdd, Nat.reduceBEq, Nat.reduceEqDiff, Nat.reduceLT, Nat.reduceLeDiff, Nat.reduceMul, Int.reduceToNat, reduceCtorEq, ↓reduceIte, Tryd.ntmps20, Tryd.results20, ks_20, mu_20, nd_20, ti_ag26, ti_ag33, ti_ag34, ti_ag61, ti_fl36_0, ti_fl36_1, ti_hb33, ti_hb40, ti_sb33, ti_sb34, ti_sb61, ti_sl34, ti_sl61, ti_sz26, itD, itV, rlV, rowD, rlD]) | (refine AWp_condC rfl ?_; intro KA KB hKA hKB; try simp only [onB_true, onB_false, onB_dec, onB_ndec, onB_not, onB_and, onB_or]) | (refine AWp_condA rfl ?_ ?_) | with_reducible (first | refine onB_of ?_ ?_ | rfl) | omega)
  · exact keepD hk (by rw [relFault, if_pos (by assumption), if_neg (by omega)])
  rotate_left
  · exact keepD hk (by rw [relFault, if_neg (by assumption)])
  rename_i hc hN
  have hc' : colsFault r.cols = 0 := by omega
  refine AWp_while0 (fun i : Nat => i ≤ r.rows.length ∧ rowsFault r.cols.length (r.rows.drop i) = relFault r) (fun i => [(1, .rp (rlD r)), (4, .d (.i .i64 i))]) (fun i => r.rows.length - i) 0 ⟨Nat.zero_le _, ?_⟩ ?_ ?_
  · rw [relFault, if_pos hc', if_pos (by omega), List.drop_zero]
  · simp (dsimp := false) only [go_sem, Nat.reduceAdd, Nat.reduceBEq, Nat.reduceEqDiff, Nat.reduceLT, Nat.reduceLeDiff, Nat.reduceMul, Int.reduceToNat, reduceCtorEq, ↓reduceIte, Tryd.ntmps20, Tryd.results20, ks_20, mu_20, nd_20, ti_ag26, ti_ag33, ti_ag34, ti_ag61, ti_fl36_0, ti_fl36_1, ti_hb33, ti_hb40, ti_sb33, ti_sb34, ti_sb61, ti_sl34, ti_sl61, ti_sz26, itD, itV, rlV, rowD, rlD]
    first | done | simp
  rintro i ⟨hi, hv⟩
  repeat' (first | with_reducible (first | refine And.intro ?_ ?_ | intro _ | refine AWp_seq ?_ | refine AWp_block ?_ | (refine hKv _ _ (AWp_nop ?_); clear hKv Kv) | (refine hKA ?_; clear hKA hKB KA KB) | (refine hKB ?_; clear hKA hKB KA KB) | refine AWp_skipN ?_ | refine AWp_exitO (by repeat (first | exact Out.hit | apply Out.thenA | apply Out.out rfl)) ?_) | (with_reducible (first | (refine hKv _ _ ?_; clear hKv Kv) | ((first | refine AWp_regC mu_20 ks_20 ?_ | refine AWp_draw nd_20 mu_20 ks_20 ti_mixed (by kernel_rfl) ?_ | refine AWp_regE mu_20 ks_20 ?_ | refine AWp_drawE nd_20 mu_20 ks_20 ti_mixed (by kernel_rfl) ?_); intro Kv hKv) | refine AWp_retR ?_); try simp (dsimp := false) only [go_sem, Nat.reduceAdd, Nat.reduceBEq, Nat.reduceEqDiff, Nat.reduceLT, Nat.reduceLeDiff, Nat.reduceMul, Int.reduceToNat, reduceCtorEq, ↓reduceIte, Tryd.ntmps20, Tryd.results20, ks_20, mu_20, nd_20, ti_ag26, ti_ag33, ti_ag34, ti_ag61, ti_fl36_0, ti_fl36_1, ti_hb33, ti_hb40, ti_sb33, ti_sb34, ti_sb61, ti_sl34, ti_sl61, ti_sz26, itD, itV, rlV, rowD, rlD]) | (refine AWp_condC rfl ?_; intro KA KB hKA hKB; try simp only [onB_true, onB_false, onB_dec, onB_ndec, onB_not, onB_and, onB_or]) | (refine AWp_condA rfl ?_ ?_) | with_reducible (first | refine onB_of ?_ ?_ | rfl) | omega)
  · rename_i h1 row hrow hl
    have hlr := (hS.get hrow).1
    refine AWp_while0 (fun k : Nat => k ≤ row.length ∧ (row.drop k).all itemB = row.all itemB) (fun k => [(1, .rp (rlD r)), (4, .d (.i .i64 i)), (5, .d (.i .i64 k))]) (fun k => row.length - k) 0 ⟨Nat.zero_le _, by rw [List.drop_zero]⟩ ?_ ?_
    · simp (dsimp := false) only [go_sem, Nat.reduceAdd, Nat.reduceBEq, Nat.reduceEqDiff, Nat.reduceLT, Nat.reduceLeDiff, Nat.reduceMul, Int.reduceToNat, reduceCtorEq, ↓reduceIte, Tryd.ntmps20, Tryd.results20, ks_20, mu_20, nd_20, ti_ag26, ti_ag33, ti_ag34, ti_ag61, ti_fl36_0, ti_fl36_1, ti_hb33, ti_hb40, ti_sb33, ti_sb34, ti_sb61, ti_sl34, ti_sl61, ti_sz26, itD, itV, rlV, rowD, rlD]
      first | done | simp
    rintro k ⟨hk1, hk2⟩
    
    repeat' (first | with_reducible (first | refine And.intro ?_ ?_ | intro _ | refine AWp_seq ?_ | refine AWp_block ?_ | (refine hKv _ _ (AWp_nop ?_); clear hKv Kv) | (refine hKA ?_; clear hKA hKB KA KB) | (refine hKB ?_; clear hKA hKB KA KB) | refine AWp_skipN ?_ | refine AWp_exitO (by repeat (first | exact Out.hit | apply Out.thenA | apply Out.out rfl)) ?_) | ((first | with_reducible (first | (refine hKv _ _ ?_; clear hKv Kv) | ((first | refine AWp_regC mu_20 ks_20 ?_ | refine AWp_draw nd_20 mu_20 ks_20 ti_mixed (by kernel_rfl) ?_ | refine AWp_regE mu_20 ks_20 ?_ | refine AWp_drawE nd_20 mu_20 ks_20 ti_mixed (by kernel_rfl) ?_); intro Kv hKv) | refine AWp_retR ?_) | refine itemMay_A _ (by have := (hS.get hrow).2 _ (List.mem_of_getElem? (by assumption)); omega) _ _ ?_ | refine QCall_of (itemMay_A _ (by have := (hS.get hrow).2 _ (List.mem_of_getElem? (by assumption)); omega) _ _ (Two_intro _ _)) ?_); try simp (dsimp := false) only [go_sem, Nat.reduceAdd, Nat.reduceBEq, Nat.reduceEqDiff, Nat.reduceLT, Nat.reduceLeDiff, Nat.reduceMul, Int.reduceToNat, reduceCtorEq, ↓reduceIte, Tryd.ntmps20, Tryd.results20, ks_20, mu_20, nd_20, ti_ag26, ti_ag33, ti_ag34, ti_ag61, ti_fl36_0, ti_fl36_1, ti_hb33, ti_hb40, ti_sb33, ti_sb34, ti_sb61, ti_sl34, ti_sl61, ti_sz26, itD, itV, rlV, rowD, rlD, hrow]) | (refine AWp_condC rfl ?_; intro KA KB hKA hKB; try simp only [onB_true, onB_false, onB_dec, onB_ndec, onB_not, onB_and, onB_or]) | (refine AWp_condA rfl ?_ ?_) | with_reducible (first | refine onB_of ?_ ?_ | rfl) | omega)
    · rename_i g1 x hx hb
      rw [all_drop _ hx, hb, Bool.true_and] at hk2
      exact ⟨k + 1, ⟨by omega, hk2⟩, by omega, by omega⟩
    · rename_i g1 x hx hb
      rw [all_drop _ hx, hb, Bool.false_and] at hk2
      have h0 : rowFault r.cols.length row = 12 := by rw [rowFault, if_pos (by omega), if_neg (by simp [← hk2])]
      rw [rowsFault_next hrow, if_neg (by omega), h0] at hv
      exact keepD hk (by rw [hv])
    · have e : k = row.length := by omega
      subst e
      rw [List.drop_length, List.all_nil] at hk2
      have h0 : rowFault r.cols.length row = 0 := by rw [rowFault, if_pos (by omega), if_pos hk2.symm]
      rw [rowsFault_next hrow, if_pos h0] at hv
      exact ⟨i + 1, ⟨by omega, hv⟩, by omega, by omega⟩
  · rename_i h1 row hrow hl
    have h0 : rowFault r.cols.length row = 9 := by rw [rowFault, if_neg (by omega)]
    rw [rowsFault_next hrow, if_neg (by omega), h0] at hv
    exact keepD hk (by rw [hv])
  · have e : i = r.rows.length := by omega
    subst e
    rw [List.drop_length] at hv
    exact keepD hk (by rw [← hv]; rfl)
def rowC (l : List It) : List V := [.d (.sl 3 (l.map itD))]
theorem rows_data (rs : List (List It)) : dsRows (rs.map rowC) = some (rs.map rowD) := by
  induction rs with
  | nil => rfl
  | cons x rs ih => simp [dsRows, rowC, rowD, dsOf, asD, ih]

/- the live slots of pleacher/pleacherlaw.rels -/
def ks_19 : Nat → List Nat
  | 0 => [1, 2]
  | 1 => [1, 2, 3]
  | 2 => [1, 2, 3, 4]
  | 3 => [1, 2, 3, 4, 13]
  | 4 => [1, 2, 3, 4]
  | 5 => [1, 2, 3, 4]
  | 6 => [2]
  | _ => []
def mu_19 : List Nat := []
def in_19 : List Nat := [0]
def nd_19 : Nat → Nat
  | 5 => 9
  | _ => 0
theorem rels_A (r : Rl) (hS : ShR r) (H : Heap) (K : V → Heap → Prop) (hk : K (rlV r) H) :
    ACalls Tryd.prog 19 [rlV r] H K := by
  have q1 := hS.ncols
  have q2 := hS.nrows
  refine ACalls_of Tryd.func19 rfl in_19 (Nat.le_of_ble_eq_true rfl) ?_
  intro F hF
  simp (dsimp := false) only [go_sem, Nat.reduceAdd, Nat.reduceBEq, Nat.reduceEqDiff, Nat.reduceLT, Nat.reduceLeDiff, Nat.reduceMul, Int.reduceToNat, reduceCtorEq, ↓reduceIte, Tryd.ntmps19, Tryd.results19, ks_19, mu_19, nd_19, ti_ag33, ti_ag34, ti_ag36, ti_ag61, ti_fl36_0, ti_fl36_1, ti_pl36, ti_sb34, ti_sl33, ti_sl34, ti_sl61, ti_sz34, ti_sz36, ti_zr36, itD, itV, rlV, rowD, rlD, rowC, in_19] at hF
  subst hF
  repeat' (first | with_reducible (first | refine And.intro ?_ ?_ | intro _ | refine AWp_seq ?_ | refine AWp_block ?_ | (refine hKv _ _ (AWp_nop ?_); clear hKv Kv) | (refine hKA ?_; clear hKA hKB KA KB) | (refine hKB ?_; clear hKA hKB KA KB) | refine AWp_skipN ?_ | refine AWp_exitO (by repeat (first | exact Out.hit | apply Out.thenA | apply Out.out rfl)) ?_) | (with_reducible (first | (refine hKv _ _ ?_; clear hKv Kv) | ((first | refine AWp_regC mu_19 ks_19 ?_ | refine AWp_draw nd_19 mu_19 ks_19 ti_mixed (by kernel_rfl) ?_ | refine AWp_regE mu_19 ks_19 ?_ | refine AWp_drawE nd_19 mu_19 ks_19 ti_mixed (by kernel_rfl) ?_); intro Kv hKv) | refine AWp_retR ?_); try simp (dsimp := false) only [go_sem, Nat.reduceAdd, Nat.reduceBEq, Nat.reduceEqDiff, Nat.reduceLT, Nat.reduceLeDiff, Nat.reduceMul, Int.reduceToNat, reduceCtorEq, ↓reduceIte, Tryd.ntmps19, Tryd.results19, ks_19, mu_19, nd_19, ti_ag33, ti_ag34, ti_ag36, ti_ag61, ti_fl36_0, ti_fl36_1, ti_pl36, ti_sb34, ti_sl33, ti_sl34, ti_sl61, ti_sz34, ti_sz36, ti_zr36, itD, itV, rlV, rowD, rlD, rowC]) | (refine AWp_condC rfl ?_; intro KA KB hKA hKB; try simp only [onB_true, onB_false, onB_dec, onB_ndec, onB_not, onB_and, onB_or]) | (refine AWp_condA rfl ?_ ?_) | with_reducible (first | refine onB_of ?_ ?_ | rfl) | omega)
  refine AWp_prm (H.length + 1) 0 1 61 1 ((get_appk _ _ 1).trans rfl) rfl rfl (h := ?_)
  refine AWp_whileH (fun i : Nat => i ≤ r.rows.length) (fun i => [(1, .rp (rlD r)), (2, .pt H.length 0 0 0), (3, .pt (H.length + 1) 0 0 0), (4, .d (.i .i64 i))])
    (fun i => [.row 0 36 2 [[.d (.c (.slice none 0 0)), .d (.c (.slice none 0 0))]], .row 0 36 2 [[.d (.sl 1 (r.cols.map strRow)), .os (H.length + 2) i]], .row i 61 1 ((r.rows.take i).map rowC)])
    (fun i => r.rows.length - i) 0 (Nat.zero_le _) ?_ ?_ ?_ ?_
  · simp
  · simp (dsimp := false) only [go_sem, Nat.reduceAdd, Nat.reduceBEq, Nat.reduceEqDiff, Nat.reduceLT, Nat.reduceLeDiff, Nat.reduceMul, Int.reduceToNat, reduceCtorEq, ↓reduceIte, Tryd.ntmps19, Tryd.results19, ks_19, mu_19, nd_19, ti_ag33, ti_ag34, ti_ag36, ti_ag61, ti_fl36_0, ti_fl36_1, ti_pl36, ti_sb34, ti_sl33, ti_sl34, ti_sl61, ti_sz34, ti_sz36, ti_zr36, itD, itV, rlV, rowD, rlD, rowC]
    first | done | simp
  · intro i hi ob hob
    simp only [List.mem_cons, List.not_mem_nil, or_false] at hob
    rcases hob with rfl | rfl | rfl
    · intro row hr v hv
      simp at hr; subst hr; simp at hv; subst hv; exact .d _
    · intro row hr v hv
      simp at hr; subst hr; simp at hv
      rcases hv with rfl | rfl
      · exact .d _
      · exact .os _ _ (by simp)
    · exact obBel_map rowD _ _ _ _ _
  rintro i hi
  have hl : (r.rows.take i).length = i := by simp; omega
  repeat' (first | with_reducible (first | refine And.intro ?_ ?_ | intro _ | refine AWp_seq ?_ | refine AWp_block ?_ | (refine hKv _ _ (AWp_nop ?_); clear hKv Kv) | (refine hKA ?_; clear hKA hKB KA KB) | (refine hKB ?_; clear hKA hKB KA KB) | refine AWp_skipN ?_ | refine AWp_exitO (by repeat (first | exact Out.hit | apply Out.thenA | apply Out.out rfl)) ?_) | (with_reducible (first | (refine hKv _ _ ?_; clear hKv Kv) | ((first | refine AWp_regC mu_19 ks_19 ?_ | refine AWp_draw nd_19 mu_19 ks_19 ti_mixed (by kernel_rfl) ?_ | refine AWp_regE mu_19 ks_19 ?_ | refine AWp_drawE nd_19 mu_19 ks_19 ti_mixed (by kernel_rfl) ?_); intro Kv hKv) | refine AWp_retR ?_); try simp (dsimp := false) only [go_sem, Nat.reduceAdd, Nat.reduceBEq, Nat.reduceEqDiff, Nat.reduceLT, Nat.reduceLeDiff, Nat.reduceMul, Int.reduceToNat, reduceCtorEq, ↓reduceIte, Tryd.ntmps19, Tryd.results19, ks_19, mu_19, nd_19, ti_ag33, ti_ag34, ti_ag36, ti_ag61, ti_fl36_0, ti_fl36_1, ti_pl36, ti_sb34, ti_sl33, ti_sl34, ti_sl61, ti_sz34, ti_sz36, ti_zr36, itD, itV, rlV, rowD, rlD, rowC]) | (refine AWp_condC rfl ?_; intro KA KB hKA hKB; try simp only [onB_true, onB_false, onB_dec, onB_ndec, onB_not, onB_and, onB_or]) | (refine AWp_condA rfl ?_ ?_) | with_reducible (first | refine onB_of ?_ ?_ | rfl) | omega)
  · have := (hS.get (by assumption)).1
    omega
  · have := (hS.get (by assumption)).1
    omega
  · rename_i h1 row hrow
    exact ⟨i + 1, by omega, by omega, by rw [take_of_get hrow, List.map_append]; rfl, by omega, by omega, by omega⟩
  · have e : i = r.rows.length := by omega
    subst e
    rw [List.take_length]
    exact dropF hk (Fz_ag2 (.same _) (.os _ _ 61 1 _ _ (by omega) (get_appk _ _ 2) (rows_data _))) (by rw [rlV, Bel_ag]; simp [Bel_d])
end Go.Proofs.YtmalccaijjcepaaDoor
