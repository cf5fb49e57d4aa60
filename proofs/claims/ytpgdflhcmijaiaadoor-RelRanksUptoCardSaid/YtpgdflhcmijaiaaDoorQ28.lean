/- What the program and the reference make of relations alike: places of columns, copies, what is finished; relations held against each other. No condition but that the tables of package unicode/utf8 are there. -/
import Derived.Test.YtpgdflhcmijaiaaDoorQ27
set_option linter.all false
set_option linter.unusedSimpArgs false
set_option linter.unusedVariables false
namespace Go.Proofs.YtpgdflhcmijaiaaDoor
open Go Go.Proofs.YtpgdflhcmijaiaaDoor.Ab
variable [Glo] [U8]
set_option maxHeartbeats 4000000
set_option maxRecDepth 20000
def placesGo (cols : List (List UInt8)) : List (List UInt8) → List Int → Option (List Int)
  | [], acc => some acc
  | s :: l, acc => if txtAt cols s < 0 then none else placesGo cols l (acc ++ [txtAt cols s])
def places (cols l : List (List UInt8)) : Option (List Int) := placesGo cols l []
theorem placesGo_next {cols l : List (List UInt8)} {i : Nat} {s : List UInt8} {acc : List Int} (h : l[i]? = some s) : placesGo cols (l.drop i) acc = if txtAt cols s < 0 then none else placesGo cols (l.drop (i + 1)) (acc ++ [txtAt cols s]) := by
  rw [drop_of_get h, placesGo]
def madeFault (cols : List (List UInt8)) (n : Nat) : Int := if colsFault cols = 0 then (if n ≤ 1000000 then 0 else 1) else colsFault cols
def made (cols : List (List UInt8)) (rows : List (List It)) : Rl := if madeFault cols rows.length = 0 then ⟨cols, rows⟩ else rl0
def relE (r : Rl) (e : Int) : V := .tu [rlV r, .d (.i .i64 e)]
theorem fz_rl0 (m : Nat) (H : Heap) (e : Int) : Fz m H (.tu [.ag [.d (.c (.slice none 0 0)), .d (.c (.slice none 0 0))], .d (.i .i64 e)]) (relE rl0 e) := Fz_tu2 (Fz_ag2 (.nil _) (.nil _)) (.same _)
theorem bel_relE (m : Nat) (r : Rl) (e : Int) : Bel m (relE r e) := by simp [relE, rlV, Bel_tu, Bel_ag, Bel_d]
def intD (x : Int) : List D := [.i .i64 x]
theorem ints_data (l : List Int) : dsRows (l.map intCells) = some (l.map intRow) := by
  induction l with
  | nil => rfl
  | cons x rs ih => simp [dsRows, intCells, intRow, dsOf, asD, ih]
theorem strs_data (l : List (List UInt8)) : dsRows (l.map fun s => [V.d (.s s)]) = some (l.map strRow) := by
  induction l with
  | nil => rfl
  | cons x rs ih => simp [dsRows, strRow, dsOf, asD, ih]
def itC (x : It) : List V := [.d (.i .i64 x.k), .d (.i .i64 x.n), .d (.s x.s)]
theorem its_data (l : List It) : dsRows (l.map itC) = some (l.map itD) := by
  induction l with
  | nil => rfl
  | cons x rs ih => simp [dsRows, itC, itD, dsOf, asD, ih]
def strC (s : List UInt8) : List V := [.d (.s s)]
theorem strsC_data (l : List (List UInt8)) : dsRows (l.map strC) = some (l.map strRow) := strs_data l
theorem data_rows (R : List (List D)) : dsRows (R.map fun r => r.map V.d) = some R := by
  have h1 : ∀ r : List D, dsOf (r.map V.d) = some r := fun r => by
    induction r with
    | nil => rfl
    | cons x r ih => simp [dsOf, asD, ih]
  induction R with
  | nil => rfl
  | cons r R ih => simp [dsRows, h1, ih]
def ks_19 : Nat → List Nat
  | 0 => [0]
  | 1 => [0, 4]
  | 2 => [2]
  | 3 => [2]
  | _ => []
def mu_19 : List Nat := [5]
def in_19 : List Nat := [0]
theorem cloneIts_nil (H : Heap) (K : V → Heap → Prop) (hk : K (.d (.sl 3 [])) H) : ACalls Tryd.prog 19 [.d (.sl 3 [])] H K := by
  refine ACalls_of Tryd.func19 rfl in_19 (Nat.le_of_ble_eq_true rfl) ?_
  intro F hF
  simp (dsimp := false) only [go_sem, Nat.reduceAdd, Nat.reduceBEq, Nat.reduceEqDiff, Nat.reduceLT, Nat.reduceLeDiff, Nat.reduceMul, Int.reduceToNat, reduceCtorEq, ↓reduceIte, Tryd.ntmps19, Tryd.results19, ks_19, mu_19, ti_sb44, ti_sl44, itD, itV, rlV, rowD, rlD, in_19] at hF
  subst hF
  repeat' (first | with_reducible (first | refine And.intro ?_ ?_ | intro _ | refine AWp_seq ?_ | refine AWp_block ?_ | (refine hKv _ _ (AWp_nop ?_); clear hKv Kv) | (refine hKA ?_; clear hKA hKB KA KB) | (refine hKB ?_; clear hKA hKB KA KB) | refine AWp_skipN ?_ | refine AWp_exitO (by repeat (first | exact Out.hit | apply Out.thenA | apply Out.out rfl)) ?_) | (with_reducible (first | (refine hKv _ _ ?_; clear hKv Kv) | ((first | refine AWp_regC mu_19 ks_19 ?_ | refine AWp_regE mu_19 ks_19 ?_); intro Kv hKv) | refine AWp_retR ?_); try simp (dsimp := false) only [go_sem, Nat.reduceAdd, Nat.reduceBEq, Nat.reduceEqDiff, Nat.reduceLT, Nat.reduceLeDiff, Nat.reduceMul, Int.reduceToNat, reduceCtorEq, ↓reduceIte, Tryd.ntmps19, Tryd.results19, ks_19, mu_19, ti_sb44, ti_sl44, itD, itV, rlV, rowD, rlD]) | (refine AWp_condC rfl ?_; intro KA KB hKA hKB; try simp only [onB_true, onB_false, onB_dec, onB_ndec, onB_not, onB_and, onB_or]) | (refine AWp_condA rfl ?_ ?_) | with_reducible (first | refine onB_of ?_ ?_ | rfl) | omega)
  all_goals first
    | exact keepFz hk (.nil _) (by simp [Bel_d])
    | exact dropF hk (.os _ _ _ _ _ _ (by omega) (get_app0 _ _) rfl) (by simp [Bel_d])
theorem cloneIts_cons (r : List D) (R : List (List D)) (hlen : (R.length + 1) * 32 ≤ 140737488355328) (H : Heap) (K : V → Heap → Prop) (hk : K (.d (.sl 3 (r :: R))) H) : ACalls Tryd.prog 19 [.d (.sl 3 (r :: R))] H K := by
  refine ACalls_of Tryd.func19 rfl in_19 (Nat.le_of_ble_eq_true rfl) ?_
  intro F hF
  simp (dsimp := false) only [go_sem, Nat.reduceAdd, Nat.reduceBEq, Nat.reduceEqDiff, Nat.reduceLT, Nat.reduceLeDiff, Nat.reduceMul, Int.reduceToNat, reduceCtorEq, ↓reduceIte, Tryd.ntmps19, Tryd.results19, ks_19, mu_19, ti_sb44, ti_sl44, itD, itV, rlV, rowD, rlD, in_19] at hF
  subst hF
  repeat' (first | with_reducible (first | refine And.intro ?_ ?_ | intro _ | refine AWp_seq ?_ | refine AWp_block ?_ | (refine hKv _ _ (AWp_nop ?_); clear hKv Kv) | (refine hKA ?_; clear hKA hKB KA KB) | (refine hKB ?_; clear hKA hKB KA KB) | refine AWp_skipN ?_ | refine AWp_exitO (by repeat (first | exact Out.hit | apply Out.thenA | apply Out.out rfl)) ?_) | (with_reducible (first | (refine hKv _ _ ?_; clear hKv Kv) | ((first | refine AWp_regC mu_19 ks_19 ?_ | refine AWp_regE mu_19 ks_19 ?_); intro Kv hKv) | refine AWp_retR ?_); try simp (dsimp := false) only [go_sem, Nat.reduceAdd, Nat.reduceBEq, Nat.reduceEqDiff, Nat.reduceLT, Nat.reduceLeDiff, Nat.reduceMul, Int.reduceToNat, reduceCtorEq, ↓reduceIte, Tryd.ntmps19, Tryd.results19, ks_19, mu_19, ti_sb44, ti_sl44, itD, itV, rlV, rowD, rlD]) | (refine AWp_condC rfl ?_; intro KA KB hKA hKB; try simp only [onB_true, onB_false, onB_dec, onB_ndec, onB_not, onB_and, onB_or]) | (refine AWp_condA rfl ?_ ?_) | with_reducible (first | refine onB_of ?_ ?_ | rfl) | omega)
  exact dropF hk (.os _ _ _ _ _ _ (by omega) (get_app0 _ _) (data_rows (r :: R))) (by simp [Bel_d])
theorem cloneIts_A (R : List (List D)) (hlen : R.length * 32 ≤ 140737488355328) (H : Heap) (K : V → Heap → Prop) (hk : K (.d (.sl 3 R)) H) : ACalls Tryd.prog 19 [.d (.sl 3 R)] H K := by
  cases R with
  | nil => exact cloneIts_nil H K hk
  | cons r R => exact cloneIts_cons r R (by simpa using hlen) H K hk
def ks_37 : Nat → List Nat
  | 0 => [0]
  | 1 => [0, 4]
  | 2 => [2]
  | 3 => [2]
  | _ => []
def mu_37 : List Nat := [5]
def in_37 : List Nat := [0]
theorem cloneStrs_nil (H : Heap) (K : V → Heap → Prop) (hk : K (.d (.sl 1 [])) H) : ACalls Tryd.prog 37 [.d (.sl 1 [])] H K := by
  refine ACalls_of Tryd.func37 rfl in_37 (Nat.le_of_ble_eq_true rfl) ?_
  intro F hF
  simp (dsimp := false) only [go_sem, Nat.reduceAdd, Nat.reduceBEq, Nat.reduceEqDiff, Nat.reduceLT, Nat.reduceLeDiff, Nat.reduceMul, Int.reduceToNat, reduceCtorEq, ↓reduceIte, Tryd.ntmps37, Tryd.results37, ks_37, mu_37, ti_sb22, ti_sl22, itD, itV, rlV, rowD, rlD, in_37] at hF
  subst hF
  repeat' (first | with_reducible (first | refine And.intro ?_ ?_ | intro _ | refine AWp_seq ?_ | refine AWp_block ?_ | (refine hKv _ _ (AWp_nop ?_); clear hKv Kv) | (refine hKA ?_; clear hKA hKB KA KB) | (refine hKB ?_; clear hKA hKB KA KB) | refine AWp_skipN ?_ | refine AWp_exitO (by repeat (first | exact Out.hit | apply Out.thenA | apply Out.out rfl)) ?_) | (with_reducible (first | (refine hKv _ _ ?_; clear hKv Kv) | ((first | refine AWp_regC mu_37 ks_37 ?_ | refine AWp_regE mu_37 ks_37 ?_); intro Kv hKv) | refine AWp_retR ?_); try simp (dsimp := false) only [go_sem, Nat.reduceAdd, Nat.reduceBEq, Nat.reduceEqDiff, Nat.reduceLT, Nat.reduceLeDiff, Nat.reduceMul, Int.reduceToNat, reduceCtorEq, ↓reduceIte, Tryd.ntmps37, Tryd.results37, ks_37, mu_37, ti_sb22, ti_sl22, itD, itV, rlV, rowD, rlD]) | (refine AWp_condC rfl ?_; intro KA KB hKA hKB; try simp only [onB_true, onB_false, onB_dec, onB_ndec, onB_not, onB_and, onB_or]) | (refine AWp_condA rfl ?_ ?_) | with_reducible (first | refine onB_of ?_ ?_ | rfl) | omega)
  all_goals first
    | exact keepFz hk (.nil _) (by simp [Bel_d])
    | exact dropF hk (.os _ _ _ _ _ _ (by omega) (get_app0 _ _) rfl) (by simp [Bel_d])
theorem cloneStrs_cons (r : List D) (R : List (List D)) (hlen : (R.length + 1) * 16 ≤ 140737488355328) (H : Heap) (K : V → Heap → Prop) (hk : K (.d (.sl 1 (r :: R))) H) : ACalls Tryd.prog 37 [.d (.sl 1 (r :: R))] H K := by
  refine ACalls_of Tryd.func37 rfl in_37 (Nat.le_of_ble_eq_true rfl) ?_
  intro F hF
  simp (dsimp := false) only [go_sem, Nat.reduceAdd, Nat.reduceBEq, Nat.reduceEqDiff, Nat.reduceLT, Nat.reduceLeDiff, Nat.reduceMul, Int.reduceToNat, reduceCtorEq, ↓reduceIte, Tryd.ntmps37, Tryd.results37, ks_37, mu_37, ti_sb22, ti_sl22, itD, itV, rlV, rowD, rlD, in_37] at hF
  subst hF
  repeat' (first | with_reducible (first | refine And.intro ?_ ?_ | intro _ | refine AWp_seq ?_ | refine AWp_block ?_ | (refine hKv _ _ (AWp_nop ?_); clear hKv Kv) | (refine hKA ?_; clear hKA hKB KA KB) | (refine hKB ?_; clear hKA hKB KA KB) | refine AWp_skipN ?_ | refine AWp_exitO (by repeat (first | exact Out.hit | apply Out.thenA | apply Out.out rfl)) ?_) | (with_reducible (first | (refine hKv _ _ ?_; clear hKv Kv) | ((first | refine AWp_regC mu_37 ks_37 ?_ | refine AWp_regE mu_37 ks_37 ?_); intro Kv hKv) | refine AWp_retR ?_); try simp (dsimp := false) only [go_sem, Nat.reduceAdd, Nat.reduceBEq, Nat.reduceEqDiff, Nat.reduceLT, Nat.reduceLeDiff, Nat.reduceMul, Int.reduceToNat, reduceCtorEq, ↓reduceIte, Tryd.ntmps37, Tryd.results37, ks_37, mu_37, ti_sb22, ti_sl22, itD, itV, rlV, rowD, rlD]) | (refine AWp_condC rfl ?_; intro KA KB hKA hKB; try simp only [onB_true, onB_false, onB_dec, onB_ndec, onB_not, onB_and, onB_or]) | (refine AWp_condA rfl ?_ ?_) | with_reducible (first | refine onB_of ?_ ?_ | rfl) | omega)
  exact dropF hk (.os _ _ _ _ _ _ (by omega) (get_app0 _ _) (data_rows (r :: R))) (by simp [Bel_d])
theorem cloneStrs_A (R : List (List D)) (hlen : R.length * 16 ≤ 140737488355328) (H : Heap) (K : V → Heap → Prop) (hk : K (.d (.sl 1 R)) H) : ACalls Tryd.prog 37 [.d (.sl 1 R)] H K := by
  cases R with
  | nil => exact cloneStrs_nil H K hk
  | cons r R => exact cloneStrs_cons r R (by simpa using hlen) H K hk
def ks_18 : Nat → List Nat
  | 0 => [1, 2]
  | 1 => [1, 2, 6]
  | 2 => [2, 6, 10, 11, 12]
  | 3 => [2, 6, 10, 11, 12, 13]
  | 4 => [2, 6, 8, 10, 11, 12]
  | 5 => [2, 6, 9, 10, 11, 12]
  | 6 => [2, 6, 9, 10, 11, 12, 21]
  | 7 => [4, 5]
  | 8 => [2, 6, 10, 11, 12]
  | 9 => [2, 6, 10, 11, 12]
  | 10 => [4, 5]
  | _ => []
def mu_18 : List Nat := [6]
def in_18 : List Nat := [0, 1]
theorem places_A (r : Rl) (hS : ShR r) (l : List (List UInt8)) (hlen : l.length ≤ 1048576) (H : Heap) (K : V → Heap → Prop)
    (hk : K (.tu [.d (.sl 1 (((places r.cols l).getD []).map intRow)), .d (.i .i64 (if (places r.cols l).isSome = true then 0 else 9))]) H) :
    ACalls Tryd.prog 18 [rlV r, .d (.sl 1 (l.map strRow))] H K := by
  have q1 := hS.ncols
  refine ACalls_of Tryd.func18 rfl in_18 (Nat.le_of_ble_eq_true rfl) ?_
  intro F hF
  simp (dsimp := false) only [go_sem, Nat.reduceAdd, Nat.reduceBEq, Nat.reduceEqDiff, Nat.reduceLT, Nat.reduceLeDiff, Nat.reduceMul, Int.reduceToNat, reduceCtorEq, ↓reduceIte, Tryd.ntmps18, Tryd.results18, ks_18, mu_18, ti_ag9, ti_ag22, ti_fl25_0, ti_hb61, ti_sb22, ti_sl22, ti_sl35, itD, itV, rlV, rowD, rlD, in_18] at hF
  subst hF
  repeat' (first | with_reducible (first | refine And.intro ?_ ?_ | intro _ | refine AWp_seq ?_ | refine AWp_block ?_ | (refine hKv _ _ (AWp_nop ?_); clear hKv Kv) | (refine hKA ?_; clear hKA hKB KA KB) | (refine hKB ?_; clear hKA hKB KA KB) | refine AWp_skipN ?_ | refine AWp_exitO (by repeat (first | exact Out.hit | apply Out.thenA | apply Out.out rfl)) ?_) | (with_reducible (first | (refine hKv _ _ ?_; clear hKv Kv) | ((first | refine AWp_regC mu_18 ks_18 ?_ | refine AWp_regE mu_18 ks_18 ?_); intro Kv hKv) | refine AWp_retR ?_); try simp (dsimp := false) only [go_sem, Nat.reduceAdd, Nat.reduceBEq, Nat.reduceEqDiff, Nat.reduceLT, Nat.reduceLeDiff, Nat.reduceMul, Int.reduceToNat, reduceCtorEq, ↓reduceIte, Tryd.ntmps18, Tryd.results18, ks_18, mu_18, ti_ag9, ti_ag22, ti_fl25_0, ti_hb61, ti_sb22, ti_sl22, ti_sl35, itD, itV, rlV, rowD, rlD]) | (refine AWp_condC rfl ?_; intro KA KB hKA hKB; try simp only [onB_true, onB_false, onB_dec, onB_ndec, onB_not, onB_and, onB_or]) | (refine AWp_condA rfl ?_ ?_) | with_reducible (first | refine onB_of ?_ ?_ | rfl) | omega)
  refine AWp_whileH (fun y : Nat × List Int => y.1 ≤ l.length ∧ y.2.length = y.1 ∧ placesGo r.cols (l.drop y.1) y.2 = places r.cols l)
    (fun y => [(2, .rp (rlD r)), (6, .os H.length y.1), (10, .d (.sl 1 (l.map strRow))), (11, .d (.i .i64 l.length)), (12, .d (.i .i64 y.1))])
    (fun y => [.row y.1 3 1 (y.2.map intCells)]) (fun y => l.length - y.1) (0, []) ⟨Nat.zero_le _, rfl, rfl⟩ rfl ?_ ?_ ?_
  · simp (dsimp := false) only [go_sem, Nat.reduceAdd, Nat.reduceBEq, Nat.reduceEqDiff, Nat.reduceLT, Nat.reduceLeDiff, Nat.reduceMul, Int.reduceToNat, reduceCtorEq, ↓reduceIte, Tryd.ntmps18, Tryd.results18, ks_18, mu_18, ti_ag9, ti_ag22, ti_fl25_0, ti_hb61, ti_sb22, ti_sl22, ti_sl35, itD, itV, rlV, rowD, rlD]
    first | done | simp
  · rintro ⟨i, acc⟩ _ ob hob
    simp only [List.mem_cons, List.not_mem_nil, or_false] at hob
    rcases hob with rfl
    exact obBel_map intRow _ _ _ _ _
  rintro ⟨i, acc⟩ ⟨h1, h2, h3⟩
  simp only [] at h1 h2 h3 ⊢
  repeat' (first | with_reducible (first | refine And.intro ?_ ?_ | intro _ | refine AWp_seq ?_ | refine AWp_block ?_ | (refine hKv _ _ (AWp_nop ?_); clear hKv Kv) | (refine hKA ?_; clear hKA hKB KA KB) | (refine hKB ?_; clear hKA hKB KA KB) | refine AWp_skipN ?_ | refine AWp_exitO (by repeat (first | exact Out.hit | apply Out.thenA | apply Out.out rfl)) ?_) | ((first | with_reducible (first | (refine hKv _ _ ?_; clear hKv Kv) | ((first | refine AWp_regC mu_18 ks_18 ?_ | refine AWp_regE mu_18 ks_18 ?_); intro Kv hKv) | refine AWp_retR ?_) | refine index_A _ _ (by omega) _ _ ?_); try simp (dsimp := false) only [go_sem, Nat.reduceAdd, Nat.reduceBEq, Nat.reduceEqDiff, Nat.reduceLT, Nat.reduceLeDiff, Nat.reduceMul, Int.reduceToNat, reduceCtorEq, ↓reduceIte, Tryd.ntmps18, Tryd.results18, ks_18, mu_18, ti_ag9, ti_ag22, ti_fl25_0, ti_hb61, ti_sb22, ti_sl22, ti_sl35, itD, itV, rlV, rowD, rlD]) | (refine AWp_condC rfl ?_; intro KA KB hKA hKB; try simp only [onB_true, onB_false, onB_dec, onB_ndec, onB_not, onB_and, onB_or]) | (refine AWp_condA rfl ?_ ?_) | with_reducible (first | refine onB_of ?_ ?_ | rfl) | omega)
  · rename_i g1 x hx hlt
    rw [placesGo_next hx, if_pos hlt] at h3
    rw [← h3] at hk
    exact dropF hk (Fz_tu2 (.nil _) (.same _)) (by simp [Bel_tu, Bel_d])
  · rename_i g1 x hx hlt
    rw [placesGo_next hx, if_neg hlt] at h3
    exact ⟨(i + 1, acc ++ [txtAt r.cols x]), ⟨by show i + 1 ≤ l.length; omega, by simp [h2], h3⟩, by show l.length - (i + 1) < l.length - i; omega, by simp [intCells], rfl, by omega, by simp⟩
  · have e : i = l.length := by omega
    subst e
    rw [List.drop_length, placesGo] at h3
    rw [← h3] at hk
    exact dropF hk (Fz_tu2 (.os _ _ 3 1 _ _ (by omega) (get_app0 _ _) (ints_data _)) (.same _)) (by simp [Bel_tu, Bel_d])
def ks_24 : Nat → List Nat
  | 0 => [0, 1, 4]
  | 1 => [0, 1, 4, 6]
  | 2 => [0, 1, 4, 6, 10]
  | 3 => [4, 5]
  | 4 => [0, 1, 4, 15]
  | 5 => [4, 5]
  | 6 => [4, 5]
  | _ => []
def mu_24 : List Nat := []
def in_24 : List Nat := [0, 1]
theorem finished_A (cols : List (List UInt8)) (rows : List (List It)) (hc : cols.length ≤ 1048576) (hcs : ∀ s, s ∈ cols → s.length ≤ 1048576) (hr : rows.length ≤ 9223372036854775807) (H : Heap) (K : V → Heap → Prop)
    (hk : K (relE (made cols rows) (madeFault cols rows.length)) H) :
    ACalls Tryd.prog 24 [.d (.sl 1 (cols.map strRow)), .d (.sl 1 (rows.map rowD))] H K := by
  refine ACalls_of Tryd.func24 rfl in_24 (Nat.le_of_ble_eq_true rfl) ?_
  intro F hF
  simp (dsimp := false) only [go_sem, Nat.reduceAdd, Nat.reduceBEq, Nat.reduceEqDiff, Nat.reduceLT, Nat.reduceLeDiff, Nat.reduceMul, Int.reduceToNat, reduceCtorEq, ↓reduceIte, Tryd.ntmps24, Tryd.results24, ks_24, mu_24, ti_ag25, ti_hb37, ti_hb57, ti_pl25, ti_sb23, ti_sz25, ti_zr25, itD, itV, rlV, rowD, rlD, in_24] at hF
  subst hF
  repeat' (first | with_reducible (first | refine And.intro ?_ ?_ | intro _ | refine AWp_seq ?_ | refine AWp_block ?_ | (refine hKv _ _ (AWp_nop ?_); clear hKv Kv) | (refine hKA ?_; clear hKA hKB KA KB) | (refine hKB ?_; clear hKA hKB KA KB) | refine AWp_skipN ?_ | refine AWp_exitO (by repeat (first | exact Out.hit | apply Out.thenA | apply Out.out rfl)) ?_) | ((first | with_reducible (first | (refine hKv _ _ ?_; clear hKv Kv) | ((first | refine AWp_regC mu_24 ks_24 ?_ | refine AWp_regE mu_24 ks_24 ?_); intro Kv hKv) | refine AWp_retR ?_) | refine names_A _ (by omega) (fun s hs => by have := hcs s hs; omega) _ _ ?_ | refine cloneStrs_A _ (by rw [List.length_map]; omega) _ _ ?_); try simp (dsimp := false) only [go_sem, Nat.reduceAdd, Nat.reduceBEq, Nat.reduceEqDiff, Nat.reduceLT, Nat.reduceLeDiff, Nat.reduceMul, Int.reduceToNat, reduceCtorEq, ↓reduceIte, Tryd.ntmps24, Tryd.results24, ks_24, mu_24, ti_ag25, ti_hb37, ti_hb57, ti_pl25, ti_sb23, ti_sz25, ti_zr25, itD, itV, rlV, rowD, rlD]) | (refine AWp_condC rfl ?_; intro KA KB hKA hKB; try simp only [onB_true, onB_false, onB_dec, onB_ndec, onB_not, onB_and, onB_or]) | (refine AWp_condA rfl ?_ ?_) | with_reducible (first | refine onB_of ?_ ?_ | rfl) | omega)
  · rename_i h1 h2
    have e : madeFault cols rows.length = 1 := by rw [madeFault, if_pos h1, if_neg (by omega)]
    rw [made, if_neg (by omega), e] at hk
    exact dropF hk (fz_rl0 _ _ _) (bel_relE _ _ _)
  · rename_i h1 h2
    have e : madeFault cols rows.length = 0 := by rw [madeFault, if_pos h1, if_pos (by omega)]
    rw [made, if_pos e, e] at hk
    exact dropF hk (.same _) (bel_relE _ _ _)
  · rename_i h1
    have e : madeFault cols rows.length = colsFault cols := by rw [madeFault, if_neg h1]
    rw [made, if_neg (by omega), e] at hk
    exact dropF hk (fz_rl0 _ _ _) (bel_relE _ _ _)
def ks_38 : Nat → List Nat
  | 0 => [1, 2]
  | 1 => [1, 2, 5]
  | 2 => [1, 2, 5, 10]
  | 3 => [1, 2, 5]
  | 4 => [1, 2, 5, 19]
  | 5 => [4]
  | 6 => [4]
  | _ => []
def mu_38 : List Nat := []
def in_38 : List Nat := [0, 1]
theorem colAt_A (r : Rl) (hS : ShR r) (s : List UInt8) (H : Heap) (K : V → Heap → Prop) (hk : K (.d (.i .i64 (txtAt r.cols s))) H) :
    ACalls Tryd.prog 38 [rlV r, .d (.s s)] H K := by
  have q1 := hS.ncols
  refine ACalls_of Tryd.func38 rfl in_38 (Nat.le_of_ble_eq_true rfl) ?_
  intro F hF
  simp (dsimp := false) only [go_sem, Nat.reduceAdd, Nat.reduceBEq, Nat.reduceEqDiff, Nat.reduceLT, Nat.reduceLeDiff, Nat.reduceMul, Int.reduceToNat, reduceCtorEq, ↓reduceIte, Tryd.ntmps38, Tryd.results38, ks_38, mu_38, ti_ag9, ti_ag22, ti_fl25_0, ti_sb22, ti_sl22, itD, itV, rlV, rowD, rlD, in_38] at hF
  subst hF
  repeat' (first | with_reducible (first | refine And.intro ?_ ?_ | intro _ | refine AWp_seq ?_ | refine AWp_block ?_ | (refine hKv _ _ (AWp_nop ?_); clear hKv Kv) | (refine hKA ?_; clear hKA hKB KA KB) | (refine hKB ?_; clear hKA hKB KA KB) | refine AWp_skipN ?_ | refine AWp_exitO (by repeat (first | exact Out.hit | apply Out.thenA | apply Out.out rfl)) ?_) | (with_reducible (first | (refine hKv _ _ ?_; clear hKv Kv) | ((first | refine AWp_regC mu_38 ks_38 ?_ | refine AWp_regE mu_38 ks_38 ?_); intro Kv hKv) | refine AWp_retR ?_); try simp (dsimp := false) only [go_sem, Nat.reduceAdd, Nat.reduceBEq, Nat.reduceEqDiff, Nat.reduceLT, Nat.reduceLeDiff, Nat.reduceMul, Int.reduceToNat, reduceCtorEq, ↓reduceIte, Tryd.ntmps38, Tryd.results38, ks_38, mu_38, ti_ag9, ti_ag22, ti_fl25_0, ti_sb22, ti_sl22, itD, itV, rlV, rowD, rlD]) | (refine AWp_condC rfl ?_; intro KA KB hKA hKB; try simp only [onB_true, onB_false, onB_dec, onB_ndec, onB_not, onB_and, onB_or]) | (refine AWp_condA rfl ?_ ?_) | with_reducible (first | refine onB_of ?_ ?_ | rfl) | omega)
  refine AWp_while0 (fun i : Nat => i ≤ r.cols.length ∧ fidxGo (fun x => decide (s = x)) (r.cols.drop i) i = txtAt r.cols s) (fun i => [(1, .d (.s s)), (2, .rp (rlD r)), (5, .d (.i .i64 i))]) (fun i => r.cols.length - i) 0 ⟨Nat.zero_le _, rfl⟩ ?_ ?_
  · simp (dsimp := false) only [go_sem, Nat.reduceAdd, Nat.reduceBEq, Nat.reduceEqDiff, Nat.reduceLT, Nat.reduceLeDiff, Nat.reduceMul, Int.reduceToNat, reduceCtorEq, ↓reduceIte, Tryd.ntmps38, Tryd.results38, ks_38, mu_38, ti_ag9, ti_ag22, ti_fl25_0, ti_sb22, ti_sl22, itD, itV, rlV, rowD, rlD]
    first | done | simp
  rintro i ⟨hi, hv⟩
  repeat' (first | with_reducible (first | refine And.intro ?_ ?_ | intro _ | refine AWp_seq ?_ | refine AWp_block ?_ | (refine hKv _ _ (AWp_nop ?_); clear hKv Kv) | (refine hKA ?_; clear hKA hKB KA KB) | (refine hKB ?_; clear hKA hKB KA KB) | refine AWp_skipN ?_ | refine AWp_exitO (by repeat (first | exact Out.hit | apply Out.thenA | apply Out.out rfl)) ?_) | (with_reducible (first | (refine hKv _ _ ?_; clear hKv Kv) | ((first | refine AWp_regC mu_38 ks_38 ?_ | refine AWp_regE mu_38 ks_38 ?_); intro Kv hKv) | refine AWp_retR ?_); try simp (dsimp := false) only [go_sem, Nat.reduceAdd, Nat.reduceBEq, Nat.reduceEqDiff, Nat.reduceLT, Nat.reduceLeDiff, Nat.reduceMul, Int.reduceToNat, reduceCtorEq, ↓reduceIte, Tryd.ntmps38, Tryd.results38, ks_38, mu_38, ti_ag9, ti_ag22, ti_fl25_0, ti_sb22, ti_sl22, itD, itV, rlV, rowD, rlD]) | (refine AWp_condC rfl ?_; intro KA KB hKA hKB; try simp only [onB_true, onB_false, onB_dec, onB_ndec, onB_not, onB_and, onB_or]) | (refine AWp_condA rfl ?_ ?_) | with_reducible (first | refine onB_of ?_ ?_ | rfl) | omega)
  · rename_i h1 x hx h
    rw [fidxGo_next hx, if_pos (by simpa using h.symm)] at hv
    exact keepD hk (by rw [hv])
  · rename_i h1 x hx h
    rw [fidxGo_next hx, if_neg (by simpa using fun e => h e.symm)] at hv
    exact ⟨i + 1, ⟨by omega, hv⟩, by omega, by omega⟩
  · have e : i = r.cols.length := by omega
    subst e
    rw [fidxGo_end] at hv
    exact keepD hk (by rw [hv])
def ks_27 : Nat → List Nat
  | 0 => [0]
  | 1 => [0, 3]
  | 2 => [0, 3, 4]
  | 3 => [0, 3, 4, 9]
  | 4 => [0, 3, 4]
  | 5 => [0, 3, 4, 5]
  | 6 => [0, 3, 4, 5, 18]
  | 7 => [0, 3, 4, 5]
  | 8 => [0, 3, 4, 5]
  | 9 => [2]
  | _ => []
def mu_27 : List Nat := [3]
def in_27 : List Nat := [0]
theorem items_A (ls : List (List It)) (hlen : ls.length ≤ 1048576) (hl : ∀ l, l ∈ ls → l.length ≤ 1048576) (hj : ls.flatten.length ≤ 100000000000) (H : Heap) (K : V → Heap → Prop) (hk : K (.d (.sl 3 (ls.flatten.map itD))) H) :
    ACalls Tryd.prog 27 [.d (.sl 1 (ls.map rowD))] H K := by
  refine ACalls_of Tryd.func27 rfl in_27 (Nat.le_of_ble_eq_true rfl) ?_
  intro F hF
  simp (dsimp := false) only [go_sem, Nat.reduceAdd, Nat.reduceBEq, Nat.reduceEqDiff, Nat.reduceLT, Nat.reduceLeDiff, Nat.reduceMul, Int.reduceToNat, reduceCtorEq, ↓reduceIte, Tryd.ntmps27, Tryd.results27, ks_27, mu_27, ti_ag44, ti_ag49, ti_sb23, ti_sb44, ti_sl23, ti_sl44, ti_sz49, itD, itV, rlV, rowD, rlD, in_27] at hF
  subst hF
  repeat' (first | with_reducible (first | refine And.intro ?_ ?_ | intro _ | refine AWp_seq ?_ | refine AWp_block ?_ | (refine hKv _ _ (AWp_nop ?_); clear hKv Kv) | (refine hKA ?_; clear hKA hKB KA KB) | (refine hKB ?_; clear hKA hKB KA KB) | refine AWp_skipN ?_ | refine AWp_exitO (by repeat (first | exact Out.hit | apply Out.thenA | apply Out.out rfl)) ?_) | (with_reducible (first | (refine hKv _ _ ?_; clear hKv Kv) | ((first | refine AWp_regC mu_27 ks_27 ?_ | refine AWp_regE mu_27 ks_27 ?_); intro Kv hKv) | refine AWp_retR ?_); try simp (dsimp := false) only [go_sem, Nat.reduceAdd, Nat.reduceBEq, Nat.reduceEqDiff, Nat.reduceLT, Nat.reduceLeDiff, Nat.reduceMul, Int.reduceToNat, reduceCtorEq, ↓reduceIte, Tryd.ntmps27, Tryd.results27, ks_27, mu_27, ti_ag44, ti_ag49, ti_sb23, ti_sb44, ti_sl23, ti_sl44, ti_sz49, itD, itV, rlV, rowD, rlD]) | (refine AWp_condC rfl ?_; intro KA KB hKA hKB; try simp only [onB_true, onB_false, onB_dec, onB_ndec, onB_not, onB_and, onB_or]) | (refine AWp_condA rfl ?_ ?_) | with_reducible (first | refine onB_of ?_ ?_ | rfl) | omega)
  refine AWp_whileH (fun i : Nat => i ≤ ls.length) (fun i => [(0, .d (.sl 1 (ls.map rowD))), (3, .os H.length (ls.take i).flatten.length), (4, .d (.i .i64 i))])
    (fun i => [.row (ls.take i).flatten.length 49 3 ((ls.take i).flatten.map itC)]) (fun i => ls.length - i) 0 (Nat.zero_le _) rfl ?_ ?_ ?_
  · simp (dsimp := false) only [go_sem, Nat.reduceAdd, Nat.reduceBEq, Nat.reduceEqDiff, Nat.reduceLT, Nat.reduceLeDiff, Nat.reduceMul, Int.reduceToNat, reduceCtorEq, ↓reduceIte, Tryd.ntmps27, Tryd.results27, ks_27, mu_27, ti_ag44, ti_ag49, ti_sb23, ti_sb44, ti_sl23, ti_sl44, ti_sz49, itD, itV, rlV, rowD, rlD]
    first | done | simp
  · intro i _ ob hob
    simp only [List.mem_cons, List.not_mem_nil, or_false] at hob
    rcases hob with rfl
    exact obBel_map itD _ _ _ _ _
  rintro i hi
  repeat' (first | with_reducible (first | refine And.intro ?_ ?_ | intro _ | refine AWp_seq ?_ | refine AWp_block ?_ | (refine hKv _ _ (AWp_nop ?_); clear hKv Kv) | (refine hKA ?_; clear hKA hKB KA KB) | (refine hKB ?_; clear hKA hKB KA KB) | refine AWp_skipN ?_ | refine AWp_exitO (by repeat (first | exact Out.hit | apply Out.thenA | apply Out.out rfl)) ?_) | (with_reducible (first | (refine hKv _ _ ?_; clear hKv Kv) | ((first | refine AWp_regC mu_27 ks_27 ?_ | refine AWp_regE mu_27 ks_27 ?_); intro Kv hKv) | refine AWp_retR ?_); try simp (dsimp := false) only [go_sem, Nat.reduceAdd, Nat.reduceBEq, Nat.reduceEqDiff, Nat.reduceLT, Nat.reduceLeDiff, Nat.reduceMul, Int.reduceToNat, reduceCtorEq, ↓reduceIte, Tryd.ntmps27, Tryd.results27, ks_27, mu_27, ti_ag44, ti_ag49, ti_sb23, ti_sb44, ti_sl23, ti_sl44, ti_sz49, itD, itV, rlV, rowD, rlD]) | (refine AWp_condC rfl ?_; intro KA KB hKA hKB; try simp only [onB_true, onB_false, onB_dec, onB_ndec, onB_not, onB_and, onB_or]) | (refine AWp_condA rfl ?_ ?_) | with_reducible (first | refine onB_of ?_ ?_ | rfl) | omega)
  · rename_i h1
    obtain ⟨l, hx⟩ : ∃ l, ls[i]? = some l := ⟨ls[i]'(by omega), List.getElem?_eq_getElem (by omega)⟩
    have hll := hl l (List.mem_of_getElem? hx)
    have hfl : (ls.take i).flatten.length + l.length ≤ 100000000000 := by
      have e : ls.flatten = (ls.take i).flatten ++ (l ++ (ls.drop (i + 1)).flatten) := by
        rw [← List.flatten_cons, ← drop_of_get hx, ← List.flatten_append, List.take_append_drop]
      rw [e] at hj
      simp only [List.length_append] at hj
      omega
    refine AWp_whileH (fun k : Nat => k ≤ l.length) (fun k => [(0, .d (.sl 1 (ls.map rowD))), (3, .os H.length ((ls.take i).flatten ++ l.take k).length), (4, .d (.i .i64 i)), (5, .d (.i .i64 k))])
      (fun k => [.row ((ls.take i).flatten ++ l.take k).length 49 3 (((ls.take i).flatten ++ l.take k).map itC)]) (fun k => l.length - k) 0 (Nat.zero_le _) ?_ ?_ ?_ ?_
    · simp
    · simp (dsimp := false) only [go_sem, Nat.reduceAdd, Nat.reduceBEq, Nat.reduceEqDiff, Nat.reduceLT, Nat.reduceLeDiff, Nat.reduceMul, Int.reduceToNat, reduceCtorEq, ↓reduceIte, Tryd.ntmps27, Tryd.results27, ks_27, mu_27, ti_ag44, ti_ag49, ti_sb23, ti_sb44, ti_sl23, ti_sl44, ti_sz49, itD, itV, rlV, rowD, rlD]
      first | done | simp
    · intro k _ ob hob
      simp only [List.mem_cons, List.not_mem_nil, or_false] at hob
      rcases hob with rfl
      exact obBel_map itD _ _ _ _ _
    rintro k hk1
    have hlo : ((ls.take i).flatten ++ l.take k).length ≤ 100000000000 := by
      rw [List.length_append, List.length_take]
      omega
    generalize hout : (ls.take i).flatten ++ l.take k = out at hlo ⊢
    repeat' (first | with_reducible (first | refine And.intro ?_ ?_ | intro _ | refine AWp_seq ?_ | refine AWp_block ?_ | (refine hKv _ _ (AWp_nop ?_); clear hKv Kv) | (refine hKA ?_; clear hKA hKB KA KB) | (refine hKB ?_; clear hKA hKB KA KB) | refine AWp_skipN ?_ | refine AWp_exitO (by repeat (first | exact Out.hit | apply Out.thenA | apply Out.out rfl)) ?_) | (with_reducible (first | (refine hKv _ _ ?_; clear hKv Kv) | ((first | refine AWp_regC mu_27 ks_27 ?_ | refine AWp_regE mu_27 ks_27 ?_); intro Kv hKv) | refine AWp_retR ?_); try simp (dsimp := false) only [go_sem, Nat.reduceAdd, Nat.reduceBEq, Nat.reduceEqDiff, Nat.reduceLT, Nat.reduceLeDiff, Nat.reduceMul, Int.reduceToNat, reduceCtorEq, ↓reduceIte, Tryd.ntmps27, Tryd.results27, ks_27, mu_27, ti_ag44, ti_ag49, ti_sb23, ti_sb44, ti_sl23, ti_sl44, ti_sz49, itD, itV, rlV, rowD, rlD, hx]) | (refine AWp_condC rfl ?_; intro KA KB hKA hKB; try simp only [onB_true, onB_false, onB_dec, onB_ndec, onB_not, onB_and, onB_or]) | (refine AWp_condA rfl ?_ ?_) | with_reducible (first | refine onB_of ?_ ?_ | rfl) | omega)
    · rename_i g1 x hxk
      have e1 : out ++ [x] = (ls.take i).flatten ++ l.take (k + 1) := by rw [take_of_get hxk, ← List.append_assoc, hout]
      have e2 : out.length + 1 = (ls.take i).flatten.length + (l.take (k + 1)).length := by
        have := congrArg List.length e1
        simpa using this
      refine ⟨k + 1, by omega, by omega, ?_, by rw [e2], by omega, by omega⟩
      rw [← e2, ← e1]
      simp [itC]
    · have e : k = l.length := by omega
      subst e
      have e1 : out = (ls.take (i + 1)).flatten := by rw [take_of_get hx, List.flatten_append, ← hout, List.take_length]; simp
      exact ⟨i + 1, by omega, by omega, by rw [← e1], by rw [← e1], by omega, by omega⟩
  · have e : i = ls.length := by omega
    subst e
    rw [List.take_length]
    exact dropF hk (.os _ _ _ _ _ _ (by omega) (get_app0 _ _) (its_data _)) (by simp [Bel_d])
def ks_39 : Nat → List Nat
  | 0 => [0]
  | 1 => [0, 3]
  | 2 => [0, 3, 4]
  | 3 => [0, 3, 4, 9]
  | 4 => [0, 3, 4]
  | 5 => [0, 3, 4, 5]
  | 6 => [0, 3, 4, 5, 18]
  | 7 => [0, 3, 4, 5]
  | 8 => [0, 3, 4, 5]
  | 9 => [2]
  | _ => []
def mu_39 : List Nat := [3]
def in_39 : List Nat := [0]
theorem texts_A (ls : List (List (List UInt8))) (hlen : ls.length ≤ 1048576) (hl : ∀ l, l ∈ ls → l.length ≤ 1048576) (hj : ls.flatten.length ≤ 100000000000) (H : Heap) (K : V → Heap → Prop) (hk : K (.d (.sl 1 (ls.flatten.map strRow))) H) :
    ACalls Tryd.prog 39 [.d (.sl 1 (ls.map fun l => [D.sl 1 (l.map strRow)]))] H K := by
  refine ACalls_of Tryd.func39 rfl in_39 (Nat.le_of_ble_eq_true rfl) ?_
  intro F hF
  simp (dsimp := false) only [go_sem, Nat.reduceAdd, Nat.reduceBEq, Nat.reduceEqDiff, Nat.reduceLT, Nat.reduceLeDiff, Nat.reduceMul, Int.reduceToNat, reduceCtorEq, ↓reduceIte, Tryd.ntmps39, Tryd.results39, ks_39, mu_39, ti_ag9, ti_ag22, ti_sb22, ti_sb99, ti_sl22, ti_sl99, itD, itV, rlV, rowD, rlD, in_39] at hF
  subst hF
  repeat' (first | with_reducible (first | refine And.intro ?_ ?_ | intro _ | refine AWp_seq ?_ | refine AWp_block ?_ | (refine hKv _ _ (AWp_nop ?_); clear hKv Kv) | (refine hKA ?_; clear hKA hKB KA KB) | (refine hKB ?_; clear hKA hKB KA KB) | refine AWp_skipN ?_ | refine AWp_exitO (by repeat (first | exact Out.hit | apply Out.thenA | apply Out.out rfl)) ?_) | (with_reducible (first | (refine hKv _ _ ?_; clear hKv Kv) | ((first | refine AWp_regC mu_39 ks_39 ?_ | refine AWp_regE mu_39 ks_39 ?_); intro Kv hKv) | refine AWp_retR ?_); try simp (dsimp := false) only [go_sem, Nat.reduceAdd, Nat.reduceBEq, Nat.reduceEqDiff, Nat.reduceLT, Nat.reduceLeDiff, Nat.reduceMul, Int.reduceToNat, reduceCtorEq, ↓reduceIte, Tryd.ntmps39, Tryd.results39, ks_39, mu_39, ti_ag9, ti_ag22, ti_sb22, ti_sb99, ti_sl22, ti_sl99, itD, itV, rlV, rowD, rlD]) | (refine AWp_condC rfl ?_; intro KA KB hKA hKB; try simp only [onB_true, onB_false, onB_dec, onB_ndec, onB_not, onB_and, onB_or]) | (refine AWp_condA rfl ?_ ?_) | with_reducible (first | refine onB_of ?_ ?_ | rfl) | omega)
  refine AWp_whileH (fun i : Nat => i ≤ ls.length) (fun i => [(0, .d (.sl 1 (ls.map fun l => [D.sl 1 (l.map strRow)]))), (3, .os H.length (ls.take i).flatten.length), (4, .d (.i .i64 i))])
    (fun i => [.row (ls.take i).flatten.length 9 1 ((ls.take i).flatten.map strC)]) (fun i => ls.length - i) 0 (Nat.zero_le _) rfl ?_ ?_ ?_
  · simp (dsimp := false) only [go_sem, Nat.reduceAdd, Nat.reduceBEq, Nat.reduceEqDiff, Nat.reduceLT, Nat.reduceLeDiff, Nat.reduceMul, Int.reduceToNat, reduceCtorEq, ↓reduceIte, Tryd.ntmps39, Tryd.results39, ks_39, mu_39, ti_ag9, ti_ag22, ti_sb22, ti_sb99, ti_sl22, ti_sl99, itD, itV, rlV, rowD, rlD]
    first | done | simp
  · intro i _ ob hob
    simp only [List.mem_cons, List.not_mem_nil, or_false] at hob
    rcases hob with rfl
    exact obBel_map strRow _ _ _ _ _
  rintro i hi
  repeat' (first | with_reducible (first | refine And.intro ?_ ?_ | intro _ | refine AWp_seq ?_ | refine AWp_block ?_ | (refine hKv _ _ (AWp_nop ?_); clear hKv Kv) | (refine hKA ?_; clear hKA hKB KA KB) | (refine hKB ?_; clear hKA hKB KA KB) | refine AWp_skipN ?_ | refine AWp_exitO (by repeat (first | exact Out.hit | apply Out.thenA | apply Out.out rfl)) ?_) | (with_reducible (first | (refine hKv _ _ ?_; clear hKv Kv) | ((first | refine AWp_regC mu_39 ks_39 ?_ | refine AWp_regE mu_39 ks_39 ?_); intro Kv hKv) | refine AWp_retR ?_); try simp (dsimp := false) only [go_sem, Nat.reduceAdd, Nat.reduceBEq, Nat.reduceEqDiff, Nat.reduceLT, Nat.reduceLeDiff, Nat.reduceMul, Int.reduceToNat, reduceCtorEq, ↓reduceIte, Tryd.ntmps39, Tryd.results39, ks_39, mu_39, ti_ag9, ti_ag22, ti_sb22, ti_sb99, ti_sl22, ti_sl99, itD, itV, rlV, rowD, rlD]) | (refine AWp_condC rfl ?_; intro KA KB hKA hKB; try simp only [onB_true, onB_false, onB_dec, onB_ndec, onB_not, onB_and, onB_or]) | (refine AWp_condA rfl ?_ ?_) | with_reducible (first | refine onB_of ?_ ?_ | rfl) | omega)
  · rename_i h1
    obtain ⟨l, hx⟩ : ∃ l, ls[i]? = some l := ⟨ls[i]'(by omega), List.getElem?_eq_getElem (by omega)⟩
    have hll := hl l (List.mem_of_getElem? hx)
    have hfl : (ls.take i).flatten.length + l.length ≤ 100000000000 := by
      have e : ls.flatten = (ls.take i).flatten ++ (l ++ (ls.drop (i + 1)).flatten) := by
        rw [← List.flatten_cons, ← drop_of_get hx, ← List.flatten_append, List.take_append_drop]
      rw [e] at hj
      simp only [List.length_append] at hj
      omega
    refine AWp_whileH (fun k : Nat => k ≤ l.length) (fun k => [(0, .d (.sl 1 (ls.map fun l => [D.sl 1 (l.map strRow)]))), (3, .os H.length ((ls.take i).flatten ++ l.take k).length), (4, .d (.i .i64 i)), (5, .d (.i .i64 k))])
      (fun k => [.row ((ls.take i).flatten ++ l.take k).length 9 1 (((ls.take i).flatten ++ l.take k).map strC)]) (fun k => l.length - k) 0 (Nat.zero_le _) ?_ ?_ ?_ ?_
    · simp
    · simp (dsimp := false) only [go_sem, Nat.reduceAdd, Nat.reduceBEq, Nat.reduceEqDiff, Nat.reduceLT, Nat.reduceLeDiff, Nat.reduceMul, Int.reduceToNat, reduceCtorEq, ↓reduceIte, Tryd.ntmps39, Tryd.results39, ks_39, mu_39, ti_ag9, ti_ag22, ti_sb22, ti_sb99, ti_sl22, ti_sl99, itD, itV, rlV, rowD, rlD]
      first | done | simp
    · intro k _ ob hob
      simp only [List.mem_cons, List.not_mem_nil, or_false] at hob
      rcases hob with rfl
      exact obBel_map strRow _ _ _ _ _
    rintro k hk1
    have hlo : ((ls.take i).flatten ++ l.take k).length ≤ 100000000000 := by
      rw [List.length_append, List.length_take]
      omega
    generalize hout : (ls.take i).flatten ++ l.take k = out at hlo ⊢
    repeat' (first | with_reducible (first | refine And.intro ?_ ?_ | intro _ | refine AWp_seq ?_ | refine AWp_block ?_ | (refine hKv _ _ (AWp_nop ?_); clear hKv Kv) | (refine hKA ?_; clear hKA hKB KA KB) | (refine hKB ?_; clear hKA hKB KA KB) | refine AWp_skipN ?_ | refine AWp_exitO (by repeat (first | exact Out.hit | apply Out.thenA | apply Out.out rfl)) ?_) | (with_reducible (first | (refine hKv _ _ ?_; clear hKv Kv) | ((first | refine AWp_regC mu_39 ks_39 ?_ | refine AWp_regE mu_39 ks_39 ?_); intro Kv hKv) | refine AWp_retR ?_); try simp (dsimp := false) only [go_sem, Nat.reduceAdd, Nat.reduceBEq, Nat.reduceEqDiff, Nat.reduceLT, Nat.reduceLeDiff, Nat.reduceMul, Int.reduceToNat, reduceCtorEq, ↓reduceIte, Tryd.ntmps39, Tryd.results39, ks_39, mu_39, ti_ag9, ti_ag22, ti_sb22, ti_sb99, ti_sl22, ti_sl99, itD, itV, rlV, rowD, rlD, hx]) | (refine AWp_condC rfl ?_; intro KA KB hKA hKB; try simp only [onB_true, onB_false, onB_dec, onB_ndec, onB_not, onB_and, onB_or]) | (refine AWp_condA rfl ?_ ?_) | with_reducible (first | refine onB_of ?_ ?_ | rfl) | omega)
    · rename_i g1 x hxk
      have e1 : out ++ [x] = (ls.take i).flatten ++ l.take (k + 1) := by rw [take_of_get hxk, ← List.append_assoc, hout]
      have e2 : out.length + 1 = (ls.take i).flatten.length + (l.take (k + 1)).length := by
        have := congrArg List.length e1
        simpa using this
      refine ⟨k + 1, by omega, by omega, ?_, by rw [e2], by omega, by omega⟩
      rw [← e2, ← e1]
      simp [strC]
    · have e : k = l.length := by omega
      subst e
      have e1 : out = (ls.take (i + 1)).flatten := by rw [take_of_get hx, List.flatten_append, ← hout, List.take_length]; simp
      exact ⟨i + 1, by omega, by omega, by rw [← e1], by rw [← e1], by omega, by omega⟩
  · have e : i = ls.length := by omega
    subst e
    rw [List.take_length]
    exact dropF hk (.os _ _ _ _ _ _ (by omega) (get_app0 _ _) (strsC_data _)) (by simp [Bel_d])
def ks_30 : Nat → List Nat
  | 0 => [0, 1, 4]
  | 1 => [0, 1, 4, 6]
  | 2 => [0, 1, 4, 6, 15]
  | 3 => [0, 1, 4, 6]
  | 4 => [0, 1, 4, 6, 17]
  | 5 => [4, 5]
  | 6 => [4, 5]
  | _ => []
def mu_30 : List Nat := []
def in_30 : List Nat := [0, 1]
theorem relOf_A (cols : List (List UInt8)) (rows : List (List It)) (hc : cols.length ≤ 1048576) (hcs : ∀ s, s ∈ cols → s.length ≤ 1048576) (hr : rows.length ≤ 9223372036854775807) (H : Heap) (K : V → Heap → Prop)
    (hk : K (relE (made cols rows) (madeFault cols rows.length)) H) :
    ACalls Tryd.prog 30 [.d (.sl 1 (cols.map strRow)), .d (.sl 1 (rows.map rowD))] H K := by
  refine ACalls_of Tryd.func30 rfl in_30 (Nat.le_of_ble_eq_true rfl) ?_
  intro F hF
  simp (dsimp := false) only [go_sem, Nat.reduceAdd, Nat.reduceBEq, Nat.reduceEqDiff, Nat.reduceLT, Nat.reduceLeDiff, Nat.reduceMul, Int.reduceToNat, reduceCtorEq, ↓reduceIte, Tryd.ntmps30, Tryd.results30, ks_30, mu_30, ti_ag25, ti_hb39, ti_hb65, ti_pl25, ti_sb23, ti_sl99, ti_sz25, ti_zr25, itD, itV, rlV, rowD, rlD, in_30] at hF
  subst hF
  repeat' (first | with_reducible (first | refine And.intro ?_ ?_ | intro _ | refine AWp_seq ?_ | refine AWp_block ?_ | (refine hKv _ _ (AWp_nop ?_); clear hKv Kv) | (refine hKA ?_; clear hKA hKB KA KB) | (refine hKB ?_; clear hKA hKB KA KB) | refine AWp_skipN ?_ | refine AWp_exitO (by repeat (first | exact Out.hit | apply Out.thenA | apply Out.out rfl)) ?_) | ((first | with_reducible (first | (refine hKv _ _ ?_; clear hKv Kv) | ((first | refine AWp_regC mu_30 ks_30 ?_ | refine AWp_regE mu_30 ks_30 ?_); intro Kv hKv) | refine AWp_retR ?_) | refine colsFault_A _ (by omega) (fun s hs => by have := hcs s hs; omega) _ _ ?_ | refine texts_A [cols] (by simp) (by simpa using hc) (by simp; omega) _ _ ?_); try simp (dsimp := false) only [go_sem, Nat.reduceAdd, Nat.reduceBEq, Nat.reduceEqDiff, Nat.reduceLT, Nat.reduceLeDiff, Nat.reduceMul, Int.reduceToNat, reduceCtorEq, ↓reduceIte, Tryd.ntmps30, Tryd.results30, ks_30, mu_30, ti_ag25, ti_hb39, ti_hb65, ti_pl25, ti_sb23, ti_sl99, ti_sz25, ti_zr25, itD, itV, rlV, rowD, rlD]) | (refine AWp_condC rfl ?_; intro KA KB hKA hKB; try simp only [onB_true, onB_false, onB_dec, onB_ndec, onB_not, onB_and, onB_or]) | (refine AWp_condA rfl ?_ ?_) | with_reducible (first | refine onB_of ?_ ?_ | rfl) | omega)
  all_goals try rw [show [cols].flatten = cols by simp]
  all_goals first
    | (have e : madeFault cols rows.length = 1 := by rw [madeFault, if_pos (by assumption), if_neg (by omega)]
       rw [made, if_neg (by omega), e] at hk
       exact dropF hk (fz_rl0 _ _ _) (bel_relE _ _ _))
    | (have e : madeFault cols rows.length = 0 := by rw [madeFault, if_pos (by assumption), if_pos (by omega)]
       rw [made, if_pos e, e] at hk
       exact dropF hk (.same _) (bel_relE _ _ _))
    | (have e : madeFault cols rows.length = colsFault cols := by rw [madeFault, if_neg (by assumption)]
       rw [made, if_neg (by omega), e] at hk
       exact dropF hk (fz_rl0 _ _ _) (bel_relE _ _ _))
def finQ (cols : List (List UInt8)) (id ver n : Nat) (K : V → Heap → Prop) (H : Heap) : Prop :=
  onB (decide (madeFault cols n = 0)) (K (.tu [.ag [.d (.sl 1 (cols.map strRow)), .os id ver], .d (.i .i64 0)]) H) (K (.tu [.ag [.d (.sl 1 []), .d (.sl 1 [])], .d (.i .i64 (madeFault cols n))]) H)
theorem fz_rl1 (m : Nat) (H : Heap) (e : Int) : Fz m H (.tu [.ag [.d (.c (.slice none 0 0)), .d (.c (.slice none 0 0))], .d (.i .i64 e)]) (.tu [.ag [.d (.sl 1 []), .d (.sl 1 [])], .d (.i .i64 e)]) := Fz_tu2 (Fz_ag2 (.nil _) (.nil _)) (.same _)
theorem finishedO_A (cols : List (List UInt8)) (id ver e : Nat) (rows : List (List V)) (hc : cols.length ≤ 1048576) (hcs : ∀ s, s ∈ cols → s.length ≤ 1048576) (hrl : rows.length ≤ 9223372036854775807) (H : Heap) (K : V → Heap → Prop)
    (hr : H[id]? = some (.row ver e 1 rows)) (hk : finQ cols id ver rows.length K H) :
    ACalls Tryd.prog 24 [.d (.sl 1 (cols.map strRow)), .os id ver] H K := by
  have hid := (List.getElem?_eq_some_iff.1 hr).1
  have hr1 : ∀ x, (H ++ x)[id]? = some (.row ver e 1 rows) := fun x => by rw [List.getElem?_append_left hid]; exact hr
  refine ACalls_of Tryd.func24 rfl in_24 (Nat.le_of_ble_eq_true rfl) ?_
  intro F hF
  simp (dsimp := false) only [go_sem, Nat.reduceAdd, Nat.reduceBEq, Nat.reduceEqDiff, Nat.reduceLT, Nat.reduceLeDiff, Nat.reduceMul, Int.reduceToNat, reduceCtorEq, ↓reduceIte, Tryd.ntmps24, Tryd.results24, ks_24, mu_24, ti_ag25, ti_hb37, ti_hb57, ti_pl25, ti_sb23, ti_sz25, ti_zr25, itD, itV, rlV, rowD, rlD, hr, hr1, in_24] at hF
  subst hF
  repeat' (first | with_reducible (first | refine And.intro ?_ ?_ | intro _ | refine AWp_seq ?_ | refine AWp_block ?_ | (refine hKv _ _ (AWp_nop ?_); clear hKv Kv) | (refine hKA ?_; clear hKA hKB KA KB) | (refine hKB ?_; clear hKA hKB KA KB) | refine AWp_skipN ?_ | refine AWp_exitO (by repeat (first | exact Out.hit | apply Out.thenA | apply Out.out rfl)) ?_) | ((first | with_reducible (first | (refine hKv _ _ ?_; clear hKv Kv) | ((first | refine AWp_regC mu_24 ks_24 ?_ | refine AWp_regE mu_24 ks_24 ?_); intro Kv hKv) | refine AWp_retR ?_) | refine names_A _ (by omega) (fun s hs => by have := hcs s hs; omega) _ _ ?_ | refine cloneStrs_A _ (by rw [List.length_map]; omega) _ _ ?_); try simp (dsimp := false) only [go_sem, Nat.reduceAdd, Nat.reduceBEq, Nat.reduceEqDiff, Nat.reduceLT, Nat.reduceLeDiff, Nat.reduceMul, Int.reduceToNat, reduceCtorEq, ↓reduceIte, Tryd.ntmps24, Tryd.results24, ks_24, mu_24, ti_ag25, ti_hb37, ti_hb57, ti_pl25, ti_sb23, ti_sz25, ti_zr25, itD, itV, rlV, rowD, rlD, hr, hr1]) | (refine AWp_condC rfl ?_; intro KA KB hKA hKB; try simp only [onB_true, onB_false, onB_dec, onB_ndec, onB_not, onB_and, onB_or]) | (refine AWp_condA rfl ?_ ?_) | with_reducible (first | refine onB_of ?_ ?_ | rfl) | omega)
  all_goals try rw [show [cols].flatten = cols by simp]
  all_goals first
    | (have e : madeFault cols rows.length = 1 := by rw [madeFault, if_pos (by assumption), if_neg (by omega)]
       have hk := hk.2 (decide_eq_false (by omega))
       rw [e] at hk
       exact dropF hk (fz_rl1 _ _ _) (by simp [Bel_tu, Bel_ag, Bel_d]))
    | (have e : madeFault cols rows.length = 0 := by rw [madeFault, if_pos (by assumption), if_pos (by omega)]
       have hk := hk.1 (decide_eq_true e)
       exact dropK hk (by simp [Bel_tu, Bel_ag, Bel_d, Bel_os, hid]) rfl)
    | (have e : madeFault cols rows.length = colsFault cols := by rw [madeFault, if_neg (by assumption)]
       have hk := hk.2 (decide_eq_false (by omega))
       rw [e] at hk
       exact dropF hk (fz_rl1 _ _ _) (by simp [Bel_tu, Bel_ag, Bel_d]))
theorem relOfO_A (cols : List (List UInt8)) (id ver e : Nat) (rows : List (List V)) (hc : cols.length ≤ 1048576) (hcs : ∀ s, s ∈ cols → s.length ≤ 1048576) (hrl : rows.length ≤ 9223372036854775807) (H : Heap) (K : V → Heap → Prop)
    (hr : H[id]? = some (.row ver e 1 rows)) (hk : finQ cols id ver rows.length K H) :
    ACalls Tryd.prog 30 [.d (.sl 1 (cols.map strRow)), .os id ver] H K := by
  have hid := (List.getElem?_eq_some_iff.1 hr).1
  have hr1 : ∀ x, (H ++ x)[id]? = some (.row ver e 1 rows) := fun x => by rw [List.getElem?_append_left hid]; exact hr
  refine ACalls_of Tryd.func30 rfl in_30 (Nat.le_of_ble_eq_true rfl) ?_
  intro F hF
  simp (dsimp := false) only [go_sem, Nat.reduceAdd, Nat.reduceBEq, Nat.reduceEqDiff, Nat.reduceLT, Nat.reduceLeDiff, Nat.reduceMul, Int.reduceToNat, reduceCtorEq, ↓reduceIte, Tryd.ntmps30, Tryd.results30, ks_30, mu_30, ti_ag25, ti_hb39, ti_hb65, ti_pl25, ti_sb23, ti_sl99, ti_sz25, ti_zr25, itD, itV, rlV, rowD, rlD, hr, hr1, in_30] at hF
  subst hF
  repeat' (first | with_reducible (first | refine And.intro ?_ ?_ | intro _ | refine AWp_seq ?_ | refine AWp_block ?_ | (refine hKv _ _ (AWp_nop ?_); clear hKv Kv) | (refine hKA ?_; clear hKA hKB KA KB) | (refine hKB ?_; clear hKA hKB KA KB) | refine AWp_skipN ?_ | refine AWp_exitO (by repeat (first | exact Out.hit | apply Out.thenA | apply Out.out rfl)) ?_) | ((first | with_reducible (first | (refine hKv _ _ ?_; clear hKv Kv) | ((first | refine AWp_regC mu_30 ks_30 ?_ | refine AWp_regE mu_30 ks_30 ?_); intro Kv hKv) | refine AWp_retR ?_) | refine colsFault_A _ (by omega) (fun s hs => by have := hcs s hs; omega) _ _ ?_ | refine texts_A [cols] (by simp) (by simpa using hc) (by simp; omega) _ _ ?_); try simp (dsimp := false) only [go_sem, Nat.reduceAdd, Nat.reduceBEq, Nat.reduceEqDiff, Nat.reduceLT, Nat.reduceLeDiff, Nat.reduceMul, Int.reduceToNat, reduceCtorEq, ↓reduceIte, Tryd.ntmps30, Tryd.results30, ks_30, mu_30, ti_ag25, ti_hb39, ti_hb65, ti_pl25, ti_sb23, ti_sl99, ti_sz25, ti_zr25, itD, itV, rlV, rowD, rlD, hr, hr1]) | (refine AWp_condC rfl ?_; intro KA KB hKA hKB; try simp only [onB_true, onB_false, onB_dec, onB_ndec, onB_not, onB_and, onB_or]) | (refine AWp_condA rfl ?_ ?_) | with_reducible (first | refine onB_of ?_ ?_ | rfl) | omega)
  all_goals try rw [show [cols].flatten = cols by simp]
  all_goals first
    | (have e : madeFault cols rows.length = 1 := by rw [madeFault, if_pos (by assumption), if_neg (by omega)]
       have hk := hk.2 (decide_eq_false (by omega))
       rw [e] at hk
       exact dropF hk (fz_rl1 _ _ _) (by simp [Bel_tu, Bel_ag, Bel_d]))
    | (have e : madeFault cols rows.length = 0 := by rw [madeFault, if_pos (by assumption), if_pos (by omega)]
       have hk := hk.1 (decide_eq_true e)
       exact dropK hk (by simp [Bel_tu, Bel_ag, Bel_d, Bel_os, hid]) rfl)
    | (have e : madeFault cols rows.length = colsFault cols := by rw [madeFault, if_neg (by assumption)]
       have hk := hk.2 (decide_eq_false (by omega))
       rw [e] at hk
       exact dropF hk (fz_rl1 _ _ _) (by simp [Bel_tu, Bel_ag, Bel_d]))
def ks_31 : Nat → List Nat
  | 0 => [0, 1]
  | 1 => [0, 1, 10]
  | 2 => [4]
  | 3 => [0, 1, 5]
  | 4 => [0, 1, 5, 14]
  | 5 => [0, 1, 5]
  | 6 => [0, 1, 5, 25]
  | 7 => [4]
  | 8 => [4]
  | _ => []
def mu_31 : List Nat := []
def in_31 : List Nat := [0, 1]
def nd_31 : Nat → Nat
  | 6 => 8
  | _ => 0
theorem sameTexts_A (l : List (List UInt8)) (hlen : l.length ≤ 9223372036854775807) (H : Heap) (K : V → Heap → Prop) (hk : K (.d (.b true)) H) :
    ACalls Tryd.prog 31 [.d (.sl 1 (l.map strRow)), .d (.sl 1 (l.map strRow))] H K := by
  refine ACalls_of Tryd.func31 rfl in_31 (Nat.le_of_ble_eq_true rfl) ?_
  intro F hF
  simp (dsimp := false) only [go_sem, Nat.reduceAdd, Nat.reduceBEq, Nat.reduceEqDiff, Nat.reduceLT, Nat.reduceLeDiff, Nat.reduceMul, Int.reduceToNat, reduceCtorEq, ↓reduceIte, Tryd.ntmps31, Tryd.results31, ks_31, mu_31, nd_31, ti_ag9, ti_sb22, ti_sl22, itD, itV, rlV, rowD, rlD, in_31] at hF
  subst hF
  repeat' (first | with_reducible (first | refine And.intro ?_ ?_ | intro _ | refine AWp_seq ?_ | refine AWp_block ?_ | (refine hKv _ _ (AWp_nop ?_); clear hKv Kv) | (refine hKA ?_; clear hKA hKB KA KB) | (refine hKB ?_; clear hKA hKB KA KB) | refine AWp_skipN ?_ | refine AWp_exitO (by repeat (first | exact Out.hit | apply Out.thenA | apply Out.out rfl)) ?_) | (with_reducible (first | (refine hKv _ _ ?_; clear hKv Kv) | ((first | refine AWp_regC mu_31 ks_31 ?_ | refine AWp_draw nd_31 mu_31 ks_31 ti_mixed (by kernel_rfl) ?_ | refine AWp_regE mu_31 ks_31 ?_ | refine AWp_drawE nd_31 mu_31 ks_31 ti_mixed (by kernel_rfl) ?_); intro Kv hKv) | refine AWp_retR ?_); try simp (dsimp := false) only [go_sem, Nat.reduceAdd, Nat.reduceBEq, Nat.reduceEqDiff, Nat.reduceLT, Nat.reduceLeDiff, Nat.reduceMul, Int.reduceToNat, reduceCtorEq, ↓reduceIte, Tryd.ntmps31, Tryd.results31, ks_31, mu_31, nd_31, ti_ag9, ti_sb22, ti_sl22, itD, itV, rlV, rowD, rlD]) | (refine AWp_condC rfl ?_; intro KA KB hKA hKB; try simp only [onB_true, onB_false, onB_dec, onB_ndec, onB_not, onB_and, onB_or]) | (refine AWp_condA rfl ?_ ?_) | with_reducible (first | refine onB_of ?_ ?_ | rfl) | omega)
  refine AWp_while0 (fun i : Nat => i ≤ l.length) (fun i => [(0, .d (.sl 1 (l.map strRow))), (1, .d (.sl 1 (l.map strRow))), (5, .d (.i .i64 i))]) (fun i => l.length - i) 0 (Nat.zero_le _) ?_ ?_
  · simp (dsimp := false) only [go_sem, Nat.reduceAdd, Nat.reduceBEq, Nat.reduceEqDiff, Nat.reduceLT, Nat.reduceLeDiff, Nat.reduceMul, Int.reduceToNat, reduceCtorEq, ↓reduceIte, Tryd.ntmps31, Tryd.results31, ks_31, mu_31, nd_31, ti_ag9, ti_sb22, ti_sl22, itD, itV, rlV, rowD, rlD]
    first | done | simp
  rintro i hi
  repeat' (first | with_reducible (first | refine And.intro ?_ ?_ | intro _ | refine AWp_seq ?_ | refine AWp_block ?_ | (refine hKv _ _ (AWp_nop ?_); clear hKv Kv) | (refine hKA ?_; clear hKA hKB KA KB) | (refine hKB ?_; clear hKA hKB KA KB) | refine AWp_skipN ?_ | refine AWp_exitO (by repeat (first | exact Out.hit | apply Out.thenA | apply Out.out rfl)) ?_) | (with_reducible (first | (refine hKv _ _ ?_; clear hKv Kv) | ((first | refine AWp_regC mu_31 ks_31 ?_ | refine AWp_draw nd_31 mu_31 ks_31 ti_mixed (by kernel_rfl) ?_ | refine AWp_regE mu_31 ks_31 ?_ | refine AWp_drawE nd_31 mu_31 ks_31 ti_mixed (by kernel_rfl) ?_); intro Kv hKv) | refine AWp_retR ?_); try simp (dsimp := false) only [go_sem, Nat.reduceAdd, Nat.reduceBEq, Nat.reduceEqDiff, Nat.reduceLT, Nat.reduceLeDiff, Nat.reduceMul, Int.reduceToNat, reduceCtorEq, ↓reduceIte, Tryd.ntmps31, Tryd.results31, ks_31, mu_31, nd_31, ti_ag9, ti_sb22, ti_sl22, itD, itV, rlV, rowD, rlD]) | (refine AWp_condC rfl ?_; intro KA KB hKA hKB; try simp only [onB_true, onB_false, onB_dec, onB_ndec, onB_not, onB_and, onB_or]) | (refine AWp_condA rfl ?_ ?_) | with_reducible (first | refine onB_of ?_ ?_ | rfl) | omega)
  all_goals first
    | exact ⟨i + 1, by omega, by omega, by omega⟩
    | exact keepD hk rfl
    | (exfalso; simp_all)
def ks_32 : Nat → List Nat
  | 0 => [0, 1]
  | 1 => [0, 1, 10]
  | 2 => [4]
  | 3 => [0, 1, 5]
  | 4 => [0, 1, 5, 14]
  | 5 => [0, 1, 5]
  | 6 => [0, 1, 5, 25]
  | 7 => [4]
  | 8 => [4]
  | _ => []
def mu_32 : List Nat := []
def in_32 : List Nat := [0, 1]
def nd_32 : Nat → Nat
  | 6 => 8
  | _ => 0
theorem sameItems_A (l : List It) (hlen : l.length ≤ 9223372036854775807) (H : Heap) (K : V → Heap → Prop) (hk : K (.d (.b true)) H) :
    ACalls Tryd.prog 32 [.d (.sl 3 (l.map itD)), .d (.sl 3 (l.map itD))] H K := by
  refine ACalls_of Tryd.func32 rfl in_32 (Nat.le_of_ble_eq_true rfl) ?_
  intro F hF
  simp (dsimp := false) only [go_sem, Nat.reduceAdd, Nat.reduceBEq, Nat.reduceEqDiff, Nat.reduceLT, Nat.reduceLeDiff, Nat.reduceMul, Int.reduceToNat, reduceCtorEq, ↓reduceIte, Tryd.ntmps32, Tryd.results32, ks_32, mu_32, nd_32, ti_ag49, ti_fe49, ti_sb44, ti_sl44, ti_sz49, itD, itV, rlV, rowD, rlD, in_32] at hF
  subst hF
  repeat' (first | with_reducible (first | refine And.intro ?_ ?_ | intro _ | refine AWp_seq ?_ | refine AWp_block ?_ | (refine hKv _ _ (AWp_nop ?_); clear hKv Kv) | (refine hKA ?_; clear hKA hKB KA KB) | (refine hKB ?_; clear hKA hKB KA KB) | refine AWp_skipN ?_ | refine AWp_exitO (by repeat (first | exact Out.hit | apply Out.thenA | apply Out.out rfl)) ?_) | (with_reducible (first | (refine hKv _ _ ?_; clear hKv Kv) | ((first | refine AWp_regC mu_32 ks_32 ?_ | refine AWp_draw nd_32 mu_32 ks_32 ti_mixed (by kernel_rfl) ?_ | refine AWp_regE mu_32 ks_32 ?_ | refine AWp_drawE nd_32 mu_32 ks_32 ti_mixed (by kernel_rfl) ?_); intro Kv hKv) | refine AWp_retR ?_); try simp (dsimp := false) only [go_sem, Nat.reduceAdd, Nat.reduceBEq, Nat.reduceEqDiff, Nat.reduceLT, Nat.reduceLeDiff, Nat.reduceMul, Int.reduceToNat, reduceCtorEq, ↓reduceIte, Tryd.ntmps32, Tryd.results32, ks_32, mu_32, nd_32, ti_ag49, ti_fe49, ti_sb44, ti_sl44, ti_sz49, itD, itV, rlV, rowD, rlD]) | (refine AWp_condC rfl ?_; intro KA KB hKA hKB; try simp only [onB_true, onB_false, onB_dec, onB_ndec, onB_not, onB_and, onB_or]) | (refine AWp_condA rfl ?_ ?_) | with_reducible (first | refine onB_of ?_ ?_ | rfl) | omega)
  refine AWp_while0 (fun i : Nat => i ≤ l.length) (fun i => [(0, .d (.sl 3 (l.map itD))), (1, .d (.sl 3 (l.map itD))), (5, .d (.i .i64 i))]) (fun i => l.length - i) 0 (Nat.zero_le _) ?_ ?_
  · simp (dsimp := false) only [go_sem, Nat.reduceAdd, Nat.reduceBEq, Nat.reduceEqDiff, Nat.reduceLT, Nat.reduceLeDiff, Nat.reduceMul, Int.reduceToNat, reduceCtorEq, ↓reduceIte, Tryd.ntmps32, Tryd.results32, ks_32, mu_32, nd_32, ti_ag49, ti_fe49, ti_sb44, ti_sl44, ti_sz49, itD, itV, rlV, rowD, rlD]
    first | done | simp
  rintro i hi
  repeat' (first | with_reducible (first | refine And.intro ?_ ?_ | intro _ | refine AWp_seq ?_ | refine AWp_block ?_ | (refine hKv _ _ (AWp_nop ?_); clear hKv Kv) | (refine hKA ?_; clear hKA hKB KA KB) | (refine hKB ?_; clear hKA hKB KA KB) | refine AWp_skipN ?_ | refine AWp_exitO (by repeat (first | exact Out.hit | apply Out.thenA | apply Out.out rfl)) ?_) | (with_reducible (first | (refine hKv _ _ ?_; clear hKv Kv) | ((first | refine AWp_regC mu_32 ks_32 ?_ | refine AWp_draw nd_32 mu_32 ks_32 ti_mixed (by kernel_rfl) ?_ | refine AWp_regE mu_32 ks_32 ?_ | refine AWp_drawE nd_32 mu_32 ks_32 ti_mixed (by kernel_rfl) ?_); intro Kv hKv) | refine AWp_retR ?_); try simp (dsimp := false) only [go_sem, Nat.reduceAdd, Nat.reduceBEq, Nat.reduceEqDiff, Nat.reduceLT, Nat.reduceLeDiff, Nat.reduceMul, Int.reduceToNat, reduceCtorEq, ↓reduceIte, Tryd.ntmps32, Tryd.results32, ks_32, mu_32, nd_32, ti_ag49, ti_fe49, ti_sb44, ti_sl44, ti_sz49, itD, itV, rlV, rowD, rlD]) | (refine AWp_condC rfl ?_; intro KA KB hKA hKB; try simp only [onB_true, onB_false, onB_dec, onB_ndec, onB_not, onB_and, onB_or]) | (refine AWp_condA rfl ?_ ?_) | with_reducible (first | refine onB_of ?_ ?_ | rfl) | omega)
  all_goals first
    | exact ⟨i + 1, by omega, by omega, by omega⟩
    | exact keepD hk rfl
    | (exfalso; simp_all)
def ks_9 : Nat → List Nat
  | 0 => [2, 3]
  | 1 => [2, 3, 20]
  | 2 => [4]
  | 3 => [2, 3, 5]
  | 4 => [2, 3, 5, 25]
  | 5 => [2, 3, 5]
  | 6 => [2, 3, 5, 39]
  | 7 => [4]
  | 8 => [4]
  | _ => []
def mu_9 : List Nat := []
def in_9 : List Nat := [0, 1]
def nd_9 : Nat → Nat
  | 6 => 11
  | _ => 0
theorem sameRel_A (r : Rl) (hc : r.cols.length ≤ 9223372036854775807) (hr : r.rows.length ≤ 9223372036854775807) (hrow : ∀ l, l ∈ r.rows → l.length ≤ 9223372036854775807) (H : Heap) (K : V → Heap → Prop) (hk : K (.d (.b true)) H) :
    ACalls Tryd.prog 9 [rlV r, rlV r] H K := by
  refine ACalls_of Tryd.func9 rfl in_9 (Nat.le_of_ble_eq_true rfl) ?_
  intro F hF
  simp (dsimp := false) only [go_sem, Nat.reduceAdd, Nat.reduceBEq, Nat.reduceEqDiff, Nat.reduceLT, Nat.reduceLeDiff, Nat.reduceMul, Int.reduceToNat, reduceCtorEq, ↓reduceIte, Tryd.ntmps9, Tryd.results9, ks_9, mu_9, nd_9, ti_ag22, ti_ag23, ti_ag44, ti_fl25_0, ti_fl25_1, ti_hb31, ti_hb32, ti_sb23, ti_sl23, itD, itV, rlV, rowD, rlD, in_9] at hF
  subst hF
  repeat' (first | with_reducible (first | refine And.intro ?_ ?_ | intro _ | refine AWp_seq ?_ | refine AWp_block ?_ | (refine hKv _ _ (AWp_nop ?_); clear hKv Kv) | (refine hKA ?_; clear hKA hKB KA KB) | (refine hKB ?_; clear hKA hKB KA KB) | refine AWp_skipN ?_ | refine AWp_exitO (by repeat (first | exact Out.hit | apply Out.thenA | apply Out.out rfl)) ?_) | ((first | with_reducible (first | (refine hKv _ _ ?_; clear hKv Kv) | ((first | refine AWp_regC mu_9 ks_9 ?_ | refine AWp_draw nd_9 mu_9 ks_9 ti_mixed (by kernel_rfl) ?_ | refine AWp_regE mu_9 ks_9 ?_ | refine AWp_drawE nd_9 mu_9 ks_9 ti_mixed (by kernel_rfl) ?_); intro Kv hKv) | refine AWp_retR ?_) | refine sameTexts_A _ hc _ _ ?_ | refine QCall_of (sameTexts_A _ hc _ _ (Two_intro _ _)) ?_); try simp (dsimp := false) only [go_sem, Nat.reduceAdd, Nat.reduceBEq, Nat.reduceEqDiff, Nat.reduceLT, Nat.reduceLeDiff, Nat.reduceMul, Int.reduceToNat, reduceCtorEq, ↓reduceIte, Tryd.ntmps9, Tryd.results9, ks_9, mu_9, nd_9, ti_ag22, ti_ag23, ti_ag44, ti_fl25_0, ti_fl25_1, ti_hb31, ti_hb32, ti_sb23, ti_sl23, itD, itV, rlV, rowD, rlD]) | (refine AWp_condC rfl ?_; intro KA KB hKA hKB; try simp only [onB_true, onB_false, onB_dec, onB_ndec, onB_not, onB_and, onB_or]) | (refine AWp_condA rfl ?_ ?_) | with_reducible (first | refine onB_of ?_ ?_ | rfl) | omega)
  · refine AWp_while0 (fun i : Nat => i ≤ r.rows.length) (fun i => [(2, .rp (rlD r)), (3, .rp (rlD r)), (5, .d (.i .i64 i))]) (fun i => r.rows.length - i) 0 (Nat.zero_le _) ?_ ?_
    · simp (dsimp := false) only [go_sem, Nat.reduceAdd, Nat.reduceBEq, Nat.reduceEqDiff, Nat.reduceLT, Nat.reduceLeDiff, Nat.reduceMul, Int.reduceToNat, reduceCtorEq, ↓reduceIte, Tryd.ntmps9, Tryd.results9, ks_9, mu_9, nd_9, ti_ag22, ti_ag23, ti_ag44, ti_fl25_0, ti_fl25_1, ti_hb31, ti_hb32, ti_sb23, ti_sl23, itD, itV, rlV, rowD, rlD]
      first | done | simp
    rintro i hi
    by_cases hiN : i < r.rows.length
    · obtain ⟨l, hl⟩ : ∃ l, r.rows[i]? = some l := ⟨r.rows[i], List.getElem?_eq_getElem hiN⟩
      repeat' (first | with_reducible (first | refine And.intro ?_ ?_ | intro _ | refine AWp_seq ?_ | refine AWp_block ?_ | (refine hKv _ _ (AWp_nop ?_); clear hKv Kv) | (refine hKA ?_; clear hKA hKB KA KB) | (refine hKB ?_; clear hKA hKB KA KB) | refine AWp_skipN ?_ | refine AWp_exitO (by repeat (first | exact Out.hit | apply Out.thenA | apply Out.out rfl)) ?_) | ((first | with_reducible (first | (refine hKv _ _ ?_; clear hKv Kv) | ((first | refine AWp_regC mu_9 ks_9 ?_ | refine AWp_draw nd_9 mu_9 ks_9 ti_mixed (by kernel_rfl) ?_ | refine AWp_regE mu_9 ks_9 ?_ | refine AWp_drawE nd_9 mu_9 ks_9 ti_mixed (by kernel_rfl) ?_); intro Kv hKv) | refine AWp_retR ?_) | refine sameItems_A _ (hrow _ (List.mem_of_getElem? hl)) _ _ ?_ | refine QCall_of (sameItems_A _ (hrow _ (List.mem_of_getElem? hl)) _ _ (Two_intro _ _)) ?_); try simp (dsimp := false) only [go_sem, Nat.reduceAdd, Nat.reduceBEq, Nat.reduceEqDiff, Nat.reduceLT, Nat.reduceLeDiff, Nat.reduceMul, Int.reduceToNat, reduceCtorEq, ↓reduceIte, Tryd.ntmps9, Tryd.results9, ks_9, mu_9, nd_9, ti_ag22, ti_ag23, ti_ag44, ti_fl25_0, ti_fl25_1, ti_hb31, ti_hb32, ti_sb23, ti_sl23, itD, itV, rlV, rowD, rlD, hl]) | (refine AWp_condC rfl ?_; intro KA KB hKA hKB; try simp only [onB_true, onB_false, onB_dec, onB_ndec, onB_not, onB_and, onB_or]) | (refine AWp_condA rfl ?_ ?_) | with_reducible (first | refine onB_of ?_ ?_ | rfl) | omega)
      all_goals first
        | exact ⟨i + 1, by omega, by omega, by omega⟩
        | exact keepD hk rfl
    ·
      repeat' (first | with_reducible (first | refine And.intro ?_ ?_ | intro _ | refine AWp_seq ?_ | refine AWp_block ?_ | (refine hKv _ _ (AWp_nop ?_); clear hKv Kv) | (refine hKA ?_; clear hKA hKB KA KB) | (refine hKB ?_; clear hKA hKB KA KB) | refine AWp_skipN ?_ | refine AWp_exitO (by repeat (first | exact Out.hit | apply Out.thenA | apply Out.out rfl)) ?_) | (with_reducible (first | (refine hKv _ _ ?_; clear hKv Kv) | ((first | refine AWp_regC mu_9 ks_9 ?_ | refine AWp_draw nd_9 mu_9 ks_9 ti_mixed (by kernel_rfl) ?_ | refine AWp_regE mu_9 ks_9 ?_ | refine AWp_drawE nd_9 mu_9 ks_9 ti_mixed (by kernel_rfl) ?_); intro Kv hKv) | refine AWp_retR ?_); try simp (dsimp := false) only [go_sem, Nat.reduceAdd, Nat.reduceBEq, Nat.reduceEqDiff, Nat.reduceLT, Nat.reduceLeDiff, Nat.reduceMul, Int.reduceToNat, reduceCtorEq, ↓reduceIte, Tryd.ntmps9, Tryd.results9, ks_9, mu_9, nd_9, ti_ag22, ti_ag23, ti_ag44, ti_fl25_0, ti_fl25_1, ti_hb31, ti_hb32, ti_sb23, ti_sl23, itD, itV, rlV, rowD, rlD]) | (refine AWp_condC rfl ?_; intro KA KB hKA hKB; try simp only [onB_true, onB_false, onB_dec, onB_ndec, onB_not, onB_and, onB_or]) | (refine AWp_condA rfl ?_ ?_) | with_reducible (first | refine onB_of ?_ ?_ | rfl) | omega)
      all_goals exact keepD hk rfl
end Go.Proofs.YtpgdflhcmijaiaaDoor
