/- What the program and the reference make of relations alike: places of columns, copies, what is finished; relations held against each other. No condition but that the tables of package unicode/utf8 are there. -/
import Derived.Test.YtppalmoicjogaaaDoorR21
set_option linter.all false
set_option linter.unusedSimpArgs false
set_option linter.unusedVariables false
namespace Go.Proofs.YtppalmoicjogaaaDoor
open Go Go.Proofs.YtppalmoicjogaaaDoor.Ab
variable [Glo] [U8]
set_option maxHeartbeats 4000000
set_option maxRecDepth 20000
def placesGo (cols : List (List UInt8)) : List (List UInt8) → List Int → Option (List Int)
  | [], acc => some acc
  | s :: l, acc => if txtAt cols s < 0 then none else placesGo cols l (acc ++ [txtAt cols s])
def places (cols l : List (List UInt8)) : Option (List Int) := placesGo cols l []
theorem placesGo_next {cols l : List (List UInt8)} {i : Nat} {s : List UInt8} {acc : List Int} (h : l[i]? = some s) : placesGo cols (l.drop i) acc = if txtAt cols s < 0 then none else placesGo cols (l.drop (i + 1)) (acc ++ [txtAt cols s]) := by
  rw [drop_of_get h, placesGo]
def madeFault (cols : List (List UInt8)) (n : Nat) : Int := if colsFault cols = 0 then (if n ≤ 1000000 then 0 else 1) else colsFault cols
def made (cols : List (List UInt8)) (rows : List (List It)) : Rl := if madeFault cols rows.length = 0 then ⟨cols, rows⟩ else rl0
def relE (r : Rl) (e : Int) : V := .tu [rlV r, .d (.i .i64 e)]
theorem fz_rl0 (m : Nat) (H : Heap) (e : Int) : Fz m H (.tu [.ag [.d (.c (.slice none 0 0)), .d (.c (.slice none 0 0))], .d (.i .i64 e)]) (relE rl0 e) := Fz_tu2 (Fz_ag2 (.nil _) (.nil _)) (.same _)
theorem bel_relE (m : Nat) (r : Rl) (e : Int) : Bel m (relE r e) := by simp [relE, rlV, Bel_tu, Bel_ag, Bel_d]
def intD (x : Int) : List D := [.i .i64 x]
theorem ints_data (l : List Int) : dsRows (l.map intCells) = some (l.map intRow) := by
  induction l with
  | nil => rfl
  | cons x rs ih => simp [dsRows, intCells, intRow, dsOf, asD, ih]
theorem strs_data (l : List (List UInt8)) : dsRows (l.map fun s => [V.d (.s s)]) = some (l.map strRow) := by
  induction l with
  | nil => rfl
  | cons x rs ih => simp [dsRows, strRow, dsOf, asD, ih]
def itC (x : It) : List V := [.d (.i .i64 x.k), .d (.i .i64 x.n), .d (.s x.s)]
theorem its_data (l : List It) : dsRows (l.map itC) = some (l.map itD) := by
  induction l with
  | nil => rfl
  | cons x rs ih => simp [dsRows, itC, itD, dsOf, asD, ih]
def strC (s : List UInt8) : List V := [.d (.s s)]
theorem strsC_data (l : List (List UInt8)) : dsRows (l.map strC) = some (l.map strRow) := strs_data l
theorem data_rows (R : List (List D)) : dsRows (R.map fun r => r.map V.d) = some R := by
  have h1 : ∀ r : List D, dsOf (r.map V.d) = some r := fun r => by
    induction r with
    | nil => rfl
    | cons x r ih => simp [dsOf, asD, ih]
  induction R with
  | nil => rfl
  | cons r R ih => simp [dsRows, h1, ih]
def ks_15 : Nat → List Nat
  | 0 => [0]
  | 1 => [0, 4]
  | 2 => [2]
  | 3 => [2]
  | _ => []
def mu_15 : List Nat := [5]
def in_15 : List Nat := [0]
theorem cloneStrs_nil (H : Heap) (K : V → Heap → Prop) (hk : K (.d (.sl 1 [])) H) : ACalls Tryd.prog 15 [.d (.sl 1 [])] H K := by
  refine ACalls_of Tryd.func15 rfl in_15 (Nat.le_of_ble_eq_true rfl) ?_
  intro F hF
  simp (dsimp := false) only [go_sem, Nat.reduceAdd, Nat.reduceBEq, Nat.reduceEqDiff, Nat.reduceLT, Nat.reduceLeDiff, Nat.reduceMul, Int.reduceToNat, reduceCtorEq, ↓reduceIte, Tryd.ntmps15, Tryd.results15, ks_15, mu_15, ti_sb48, ti_sl48, itD, itV, rlV, rowD, rlD, in_15] at hF
  subst hF
  repeat' (first | with_reducible (first | refine And.intro ?_ ?_ | intro _ | refine AWp_seq ?_ | refine AWp_block ?_ | (refine hKv _ _ (AWp_nop ?_); clear hKv Kv) | (refine hKA ?_; clear hKA hKB KA KB) | (refine hKB ?_; clear hKA hKB KA KB) | refine AWp_skipN ?_ | refine AWp_exitO (by repeat (first | exact Out.hit | apply Out.thenA | apply Out.out rfl)) ?_) | (with_reducible (first | (refine hKv _ _ ?_; clear hKv Kv) | ((first | refine AWp_regC mu_15 ks_15 ?_ | refine AWp_regE mu_15 ks_15 ?_); intro Kv hKv) | refine AWp_retR ?_); try simp (dsimp := false) only [go_sem, Nat.reduceAdd, Nat.reduceBEq, Nat.reduceEqDiff, Nat.reduceLT, Nat.reduceLeDiff, Nat.reduceMul, Int.reduceToNat, reduceCtorEq, ↓reduceIte, Tryd.ntmps15, Tryd.results15, ks_15, mu_15, ti_sb48, ti_sl48, itD, itV, rlV, rowD, rlD]) | (refine AWp_condC rfl ?_; intro KA KB hKA hKB; try simp only [onB_true, onB_false, onB_dec, onB_ndec, onB_not, onB_and, onB_or]) | (refine AWp_condA rfl ?_ ?_) | with_reducible (first | refine onB_of ?_ ?_ | rfl) | omega)
  all_goals first
    | exact keepFz hk (.nil _) (by simp [Bel_d])
    | exact dropF hk (.os _ _ _ _ _ _ (by omega) (get_app0 _ _) rfl) (by simp [Bel_d])
theorem cloneStrs_cons (r : List D) (R : List (List D)) (hlen : (R.length + 1) * 16 ≤ 140737488355328) (H : Heap) (K : V → Heap → Prop) (hk : K (.d (.sl 1 (r :: R))) H) : ACalls Tryd.prog 15 [.d (.sl 1 (r :: R))] H K := by
  refine ACalls_of Tryd.func15 rfl in_15 (Nat.le_of_ble_eq_true rfl) ?_
  intro F hF
  simp (dsimp := false) only [go_sem, Nat.reduceAdd, Nat.reduceBEq, Nat.reduceEqDiff, Nat.reduceLT, Nat.reduceLeDiff, Nat.reduceMul, Int.reduceToNat, reduceCtorEq, ↓reduceIte, Tryd.ntmps15, Tryd.results15, ks_15, mu_15, ti_sb48, ti_sl48, itD, itV, rlV, rowD, rlD, in_15] at hF
  subst hF
  repeat' (first | with_reducible (first | refine And.intro ?_ ?_ | intro _ | refine AWp_seq ?_ | refine AWp_block ?_ | (refine hKv _ _ (AWp_nop ?_); clear hKv Kv) | (refine hKA ?_; clear hKA hKB KA KB) | (refine hKB ?_; clear hKA hKB KA KB) | refine AWp_skipN ?_ | refine AWp_exitO (by repeat (first | exact Out.hit | apply Out.thenA | apply Out.out rfl)) ?_) | (with_reducible (first | (refine hKv _ _ ?_; clear hKv Kv) | ((first | refine AWp_regC mu_15 ks_15 ?_ | refine AWp_regE mu_15 ks_15 ?_); intro Kv hKv) | refine AWp_retR ?_); try simp (dsimp := false) only [go_sem, Nat.reduceAdd, Nat.reduceBEq, Nat.reduceEqDiff, Nat.reduceLT, Nat.reduceLeDiff, Nat.reduceMul, Int.reduceToNat, reduceCtorEq, ↓reduceIte, Tryd.ntmps15, Tryd.results15, ks_15, mu_15, ti_sb48, ti_sl48, itD, itV, rlV, rowD, rlD]) | (refine AWp_condC rfl ?_; intro KA KB hKA hKB; try simp only [onB_true, onB_false, onB_dec, onB_ndec, onB_not, onB_and, onB_or]) | (refine AWp_condA rfl ?_ ?_) | with_reducible (first | refine onB_of ?_ ?_ | rfl) | omega)
  exact dropF hk (.os _ _ _ _ _ _ (by omega) (get_app0 _ _) (data_rows (r :: R))) (by simp [Bel_d])
theorem cloneStrs_A (R : List (List D)) (hlen : R.length * 16 ≤ 140737488355328) (H : Heap) (K : V → Heap → Prop) (hk : K (.d (.sl 1 R)) H) : ACalls Tryd.prog 15 [.d (.sl 1 R)] H K := by
  cases R with
  | nil => exact cloneStrs_nil H K hk
  | cons r R => exact cloneStrs_cons r R (by simpa using hlen) H K hk
def ks_21 : Nat → List Nat
  | 0 => [0]
  | 1 => [0, 3]
  | 2 => [0, 3, 4]
  | 3 => [0, 3, 4, 9]
  | 4 => [0, 3, 4]
  | 5 => [0, 3, 4, 5]
  | 6 => [0, 3, 4, 5, 18]
  | 7 => [0, 3, 4, 5]
  | 8 => [0, 3, 4, 5]
  | 9 => [2]
  | _ => []
def mu_21 : List Nat := [3]
def in_21 : List Nat := [0]
theorem texts_A (ls : List (List (List UInt8))) (hlen : ls.length ≤ 1048576) (hl : ∀ l, l ∈ ls → l.length ≤ 1048576) (hj : ls.flatten.length ≤ 100000000000) (H : Heap) (K : V → Heap → Prop) (hk : K (.d (.sl 1 (ls.flatten.map strRow))) H) :
    ACalls Tryd.prog 21 [.d (.sl 1 (ls.map fun l => [D.sl 1 (l.map strRow)]))] H K := by
  refine ACalls_of Tryd.func21 rfl in_21 (Nat.le_of_ble_eq_true rfl) ?_
  intro F hF
  simp (dsimp := false) only [go_sem, Nat.reduceAdd, Nat.reduceBEq, Nat.reduceEqDiff, Nat.reduceLT, Nat.reduceLeDiff, Nat.reduceMul, Int.reduceToNat, reduceCtorEq, ↓reduceIte, Tryd.ntmps21, Tryd.results21, ks_21, mu_21, ti_ag9, ti_ag48, ti_sb24, ti_sb48, ti_sl24, ti_sl48, itD, itV, rlV, rowD, rlD, in_21] at hF
  subst hF
  repeat' (first | with_reducible (first | refine And.intro ?_ ?_ | intro _ | refine AWp_seq ?_ | refine AWp_block ?_ | (refine hKv _ _ (AWp_nop ?_); clear hKv Kv) | (refine hKA ?_; clear hKA hKB KA KB) | (refine hKB ?_; clear hKA hKB KA KB) | refine AWp_skipN ?_ | refine AWp_exitO (by repeat (first | exact Out.hit | apply Out.thenA | apply Out.out rfl)) ?_) | (with_reducible (first | (refine hKv _ _ ?_; clear hKv Kv) | ((first | refine AWp_regC mu_21 ks_21 ?_ | refine AWp_regE mu_21 ks_21 ?_); intro Kv hKv) | refine AWp_retR ?_); try simp (dsimp := false) only [go_sem, Nat.reduceAdd, Nat.reduceBEq, Nat.reduceEqDiff, Nat.reduceLT, Nat.reduceLeDiff, Nat.reduceMul, Int.reduceToNat, reduceCtorEq, ↓reduceIte, Tryd.ntmps21, Tryd.results21, ks_21, mu_21, ti_ag9, ti_ag48, ti_sb24, ti_sb48, ti_sl24, ti_sl48, itD, itV, rlV, rowD, rlD]) | (refine AWp_condC rfl ?_; intro KA KB hKA hKB; try simp only [onB_true, onB_false, onB_dec, onB_ndec, onB_not, onB_and, onB_or]) | (refine AWp_condA rfl ?_ ?_) | with_reducible (first | refine onB_of ?_ ?_ | rfl) | omega)
  refine AWp_whileH (fun i : Nat => i ≤ ls.length) (fun i => [(0, .d (.sl 1 (ls.map fun l => [D.sl 1 (l.map strRow)]))), (3, .os H.length (ls.take i).flatten.length), (4, .d (.i .i64 i))])
    (fun i => [.row (ls.take i).flatten.length 9 1 ((ls.take i).flatten.map strC)]) (fun i => ls.length - i) 0 (Nat.zero_le _) rfl ?_ ?_ ?_
  · simp (dsimp := false) only [go_sem, Nat.reduceAdd, Nat.reduceBEq, Nat.reduceEqDiff, Nat.reduceLT, Nat.reduceLeDiff, Nat.reduceMul, Int.reduceToNat, reduceCtorEq, ↓reduceIte, Tryd.ntmps21, Tryd.results21, ks_21, mu_21, ti_ag9, ti_ag48, ti_sb24, ti_sb48, ti_sl24, ti_sl48, itD, itV, rlV, rowD, rlD]
    first | done | simp
  · intro i _ ob hob
    simp only [List.mem_cons, List.not_mem_nil, or_false] at hob
    rcases hob with rfl
    exact obBel_map strRow _ _ _ _ _
  rintro i hi
  repeat' (first | with_reducible (first | refine And.intro ?_ ?_ | intro _ | refine AWp_seq ?_ | refine AWp_block ?_ | (refine hKv _ _ (AWp_nop ?_); clear hKv Kv) | (refine hKA ?_; clear hKA hKB KA KB) | (refine hKB ?_; clear hKA hKB KA KB) | refine AWp_skipN ?_ | refine AWp_exitO (by repeat (first | exact Out.hit | apply Out.thenA | apply Out.out rfl)) ?_) | (with_reducible (first | (refine hKv _ _ ?_; clear hKv Kv) | ((first | refine AWp_regC mu_21 ks_21 ?_ | refine AWp_regE mu_21 ks_21 ?_); intro Kv hKv) | refine AWp_retR ?_); try simp (dsimp := false) only [go_sem, Nat.reduceAdd, Nat.reduceBEq, Nat.reduceEqDiff, Nat.reduceLT, Nat.reduceLeDiff, Nat.reduceMul, Int.reduceToNat, reduceCtorEq, ↓reduceIte, Tryd.ntmps21, Tryd.results21, ks_21, mu_21, ti_ag9, ti_ag48, ti_sb24, ti_sb48, ti_sl24, ti_sl48, itD, itV, rlV, rowD, rlD]) | (refine AWp_condC rfl ?_; intro KA KB hKA hKB; try simp only [onB_true, onB_false, onB_dec, onB_ndec, onB_not, onB_and, onB_or]) | (refine AWp_condA rfl ?_ ?_) | with_reducible (first | refine onB_of ?_ ?_ | rfl) | omega)
  · rename_i h1
    obtain ⟨l, hx⟩ : ∃ l, ls[i]? = some l := ⟨ls[i]'(by omega), List.getElem?_eq_getElem (by omega)⟩
    have hll := hl l (List.mem_of_getElem? hx)
    have hfl : (ls.take i).flatten.length + l.length ≤ 100000000000 := by
      have e : ls.flatten = (ls.take i).flatten ++ (l ++ (ls.drop (i + 1)).flatten) := by
        rw [← List.flatten_cons, ← drop_of_get hx, ← List.flatten_append, List.take_append_drop]
      rw [e] at hj
      simp only [List.length_append] at hj
      omega
    refine AWp_whileH (fun k : Nat => k ≤ l.length) (fun k => [(0, .d (.sl 1 (ls.map fun l => [D.sl 1 (l.map strRow)]))), (3, .os H.length ((ls.take i).flatten ++ l.take k).length), (4, .d (.i .i64 i)), (5, .d (.i .i64 k))])
      (fun k => [.row ((ls.take i).flatten ++ l.take k).length 9 1 (((ls.take i).flatten ++ l.take k).map strC)]) (fun k => l.length - k) 0 (Nat.zero_le _) ?_ ?_ ?_ ?_
    · simp
    · simp (dsimp := false) only [go_sem, Nat.reduceAdd, Nat.reduceBEq, Nat.reduceEqDiff, Nat.reduceLT, Nat.reduceLeDiff, Nat.reduceMul, Int.reduceToNat, reduceCtorEq, ↓reduceIte, Tryd.ntmps21, Tryd.results21, ks_21, mu_21, ti_ag9, ti_ag48, ti_sb24, ti_sb48, ti_sl24, ti_sl48, itD, itV, rlV, rowD, rlD]
      first | done | simp
    · intro k _ ob hob
      simp only [List.mem_cons, List.not_mem_nil, or_false] at hob
      rcases hob with rfl
      exact obBel_map strRow _ _ _ _ _
    rintro k hk1
    have hlo : ((ls.take i).flatten ++ l.take k).length ≤ 100000000000 := by
      rw [List.length_append, List.length_take]
      omega
    generalize hout : (ls.take i).flatten ++ l.take k = out at hlo ⊢
    repeat' (first | with_reducible (first | refine And.intro ?_ ?_ | intro _ | refine AWp_seq ?_ | refine AWp_block ?_ | (refine hKv _ _ (AWp_nop ?_); clear hKv Kv) | (refine hKA ?_; clear hKA hKB KA KB) | (refine hKB ?_; clear hKA hKB KA KB) | refine AWp_skipN ?_ | refine AWp_exitO (by repeat (first | exact Out.hit | apply Out.thenA | apply Out.out rfl)) ?_) | (with_reducible (first | (refine hKv _ _ ?_; clear hKv Kv) | ((first | refine AWp_regC mu_21 ks_21 ?_ | refine AWp_regE mu_21 ks_21 ?_); intro Kv hKv) | refine AWp_retR ?_); try simp (dsimp := false) only [go_sem, Nat.reduceAdd, Nat.reduceBEq, Nat.reduceEqDiff, Nat.reduceLT, Nat.reduceLeDiff, Nat.reduceMul, Int.reduceToNat, reduceCtorEq, ↓reduceIte, Tryd.ntmps21, Tryd.results21, ks_21, mu_21, ti_ag9, ti_ag48, ti_sb24, ti_sb48, ti_sl24, ti_sl48, itD, itV, rlV, rowD, rlD, hx]) | (refine AWp_condC rfl ?_; intro KA KB hKA hKB; try simp only [onB_true, onB_false, onB_dec, onB_ndec, onB_not, onB_and, onB_or]) | (refine AWp_condA rfl ?_ ?_) | with_reducible (first | refine onB_of ?_ ?_ | rfl) | omega)
    · rename_i g1 x hxk
      have e1 : out ++ [x] = (ls.take i).flatten ++ l.take (k + 1) := by rw [take_of_get hxk, ← List.append_assoc, hout]
      have e2 : out.length + 1 = (ls.take i).flatten.length + (l.take (k + 1)).length := by
        have := congrArg List.length e1
        simpa using this
      refine ⟨k + 1, by omega, by omega, ?_, by rw [e2], by omega, by omega⟩
      rw [← e2, ← e1]
      simp [strC]
    · have e : k = l.length := by omega
      subst e
      have e1 : out = (ls.take (i + 1)).flatten := by rw [take_of_get hx, List.flatten_append, ← hout, List.take_length]; simp
      exact ⟨i + 1, by omega, by omega, by rw [← e1], by rw [← e1], by omega, by omega⟩
  · have e : i = ls.length := by omega
    subst e
    rw [List.take_length]
    exact dropF hk (.os _ _ _ _ _ _ (by omega) (get_app0 _ _) (strsC_data _)) (by simp [Bel_d])
def finQ (cols : List (List UInt8)) (id ver n : Nat) (K : V → Heap → Prop) (H : Heap) : Prop :=
  onB (decide (madeFault cols n = 0)) (K (.tu [.ag [.d (.sl 1 (cols.map strRow)), .os id ver], .d (.i .i64 0)]) H) (K (.tu [.ag [.d (.sl 1 []), .d (.sl 1 [])], .d (.i .i64 (madeFault cols n))]) H)
theorem fz_rl1 (m : Nat) (H : Heap) (e : Int) : Fz m H (.tu [.ag [.d (.c (.slice none 0 0)), .d (.c (.slice none 0 0))], .d (.i .i64 e)]) (.tu [.ag [.d (.sl 1 []), .d (.sl 1 [])], .d (.i .i64 e)]) := Fz_tu2 (Fz_ag2 (.nil _) (.nil _)) (.same _)
def ks_23 : Nat → List Nat
  | 0 => [0, 1]
  | 1 => [0, 1, 10]
  | 2 => [4]
  | 3 => [0, 1, 5]
  | 4 => [0, 1, 5, 14]
  | 5 => [0, 1, 5]
  | 6 => [0, 1, 5, 25]
  | 7 => [4]
  | 8 => [4]
  | _ => []
def mu_23 : List Nat := []
def in_23 : List Nat := [0, 1]
def nd_23 : Nat → Nat
  | 6 => 8
  | _ => 0
theorem sameTexts_A (l : List (List UInt8)) (hlen : l.length ≤ 9223372036854775807) (H : Heap) (K : V → Heap → Prop) (hk : K (.d (.b true)) H) :
    ACalls Tryd.prog 23 [.d (.sl 1 (l.map strRow)), .d (.sl 1 (l.map strRow))] H K := by
  refine ACalls_of Tryd.func23 rfl in_23 (Nat.le_of_ble_eq_true rfl) ?_
  intro F hF
  simp (dsimp := false) only [go_sem, Nat.reduceAdd, Nat.reduceBEq, Nat.reduceEqDiff, Nat.reduceLT, Nat.reduceLeDiff, Nat.reduceMul, Int.reduceToNat, reduceCtorEq, ↓reduceIte, Tryd.ntmps23, Tryd.results23, ks_23, mu_23, nd_23, ti_ag9, ti_sb48, ti_sl48, itD, itV, rlV, rowD, rlD, in_23] at hF
  subst hF
  repeat' (first | with_reducible (first | refine And.intro ?_ ?_ | intro _ | refine AWp_seq ?_ | refine AWp_block ?_ | (refine hKv _ _ (AWp_nop ?_); clear hKv Kv) | (refine hKA ?_; clear hKA hKB KA KB) | (refine hKB ?_; clear hKA hKB KA KB) | refine AWp_skipN ?_ | refine AWp_exitO (by repeat (first | exact Out.hit | apply Out.thenA | apply Out.out rfl)) ?_) | (with_reducible (first | (refine hKv _ _ ?_; clear hKv Kv) | ((first | refine AWp_regC mu_23 ks_23 ?_ | refine AWp_draw nd_23 mu_23 ks_23 ti_mixed (by kernel_rfl) ?_ | refine AWp_regE mu_23 ks_23 ?_ | refine AWp_drawE nd_23 mu_23 ks_23 ti_mixed (by kernel_rfl) ?_); intro Kv hKv) | refine AWp_retR ?_); try simp (dsimp := false) only [go_sem, Nat.reduceAdd, Nat.reduceBEq, Nat.reduceEqDiff, Nat.reduceLT, Nat.reduceLeDiff, Nat.reduceMul, Int.reduceToNat, reduceCtorEq, ↓reduceIte, Tryd.ntmps23, Tryd.results23, ks_23, mu_23, nd_23, ti_ag9, ti_sb48, ti_sl48, itD, itV, rlV, rowD, rlD]) | (refine AWp_condC rfl ?_; intro KA KB hKA hKB; try simp only [onB_true, onB_false, onB_dec, onB_ndec, onB_not, onB_and, onB_or]) | (refine AWp_condA rfl ?_ ?_) | with_reducible (first | refine onB_of ?_ ?_ | rfl) | omega)
  refine AWp_while0 (fun i : Nat => i ≤ l.length) (fun i => [(0, .d (.sl 1 (l.map strRow))), (1, .d (.sl 1 (l.map strRow))), (5, .d (.i .i64 i))]) (fun i => l.length - i) 0 (Nat.zero_le _) ?_ ?_
  · simp (dsimp := false) only [go_sem, Nat.reduceAdd, Nat.reduceBEq, Nat.reduceEqDiff, Nat.reduceLT, Nat.reduceLeDiff, Nat.reduceMul, Int.reduceToNat, reduceCtorEq, ↓reduceIte, Tryd.ntmps23, Tryd.results23, ks_23, mu_23, nd_23, ti_ag9, ti_sb48, ti_sl48, itD, itV, rlV, rowD, rlD]
    first | done | simp
  rintro i hi
  repeat' (first | with_reducible (first | refine And.intro ?_ ?_ | intro _ | refine AWp_seq ?_ | refine AWp_block ?_ | (refine hKv _ _ (AWp_nop ?_); clear hKv Kv) | (refine hKA ?_; clear hKA hKB KA KB) | (refine hKB ?_; clear hKA hKB KA KB) | refine AWp_skipN ?_ | refine AWp_exitO (by repeat (first | exact Out.hit | apply Out.thenA | apply Out.out rfl)) ?_) | (with_reducible (first | (refine hKv _ _ ?_; clear hKv Kv) | ((first | refine AWp_regC mu_23 ks_23 ?_ | refine AWp_draw nd_23 mu_23 ks_23 ti_mixed (by kernel_rfl) ?_ | refine AWp_regE mu_23 ks_23 ?_ | refine AWp_drawE nd_23 mu_23 ks_23 ti_mixed (by kernel_rfl) ?_); intro Kv hKv) | refine AWp_retR ?_); try simp (dsimp := false) only [go_sem, Nat.reduceAdd, Nat.reduceBEq, Nat.reduceEqDiff, Nat.reduceLT, Nat.reduceLeDiff, Nat.reduceMul, Int.reduceToNat, reduceCtorEq, ↓reduceIte, Tryd.ntmps23, Tryd.results23, ks_23, mu_23, nd_23, ti_ag9, ti_sb48, ti_sl48, itD, itV, rlV, rowD, rlD]) | (refine AWp_condC rfl ?_; intro KA KB hKA hKB; try simp only [onB_true, onB_false, onB_dec, onB_ndec, onB_not, onB_and, onB_or]) | (refine AWp_condA rfl ?_ ?_) | with_reducible (first | refine onB_of ?_ ?_ | rfl) | omega)
  all_goals first
    | exact ⟨i + 1, by omega, by omega, by omega⟩
    | exact keepD hk rfl
    | (exfalso; simp_all)
end Go.Proofs.YtppalmoicjogaaaDoor
namespace Go.Proofs.YtppalmoicjogaaaDoor
open Go Go.Proofs.YtppalmoicjogaaaDoor.Ab
variable [Glo] [U8]
def it0 : It := ⟨0, 0, []⟩
def rg (l : List It) (c : Nat) : It := (l[c]?).getD it0
theorem rg_get {l : List It} {c : Nat} {x : It} (h : l[c]? = some x) : rg l c = x := by simp [rg, h]
theorem places_one (cols : List (List UInt8)) (s : List UInt8) : places cols [s] = if txtAt cols s < 0 then none else some [txtAt cols s] := by
  unfold places placesGo placesGo
  rfl
theorem obBel_rows (m ver e sz : Nat) (xs : List (List It)) : ObBel m (.row ver e sz (xs.map rowC)) := obBel_map rowD m ver e sz xs
theorem bel_nil2 (m : Nat) (ver e : Nat) : ObBel m (.row ver e 2 [[.d (.c (.slice none 0 0)), .d (.c (.slice none 0 0))]]) := by
  intro row hr v hv
  simp at hr
  subst hr
  simp at hv
  subst hv
  exact .d _
theorem fin_ret {H G : Heap} {K : V → Heap → Prop} {cols : List (List UInt8)} {acc : List (List It)} {id ver e : Nat} (hk : K (relE (made cols acc) (madeFault cols acc.length)) H) (hf : madeFault cols acc.length = 0) (hid : H.length ≤ id) (hr : (H ++ G)[id]? = some (.row ver e 1 (acc.map rowC))) :
    RetK H K (.tu [.ag [.d (.sl 1 (cols.map strRow)), .os id ver], .d (.i .i64 0)]) (H ++ G) := by
  rw [made, if_pos hf, hf] at hk
  exact dropF hk (Fz_tu2 (Fz_ag2 (.same _) (.os _ _ _ _ _ _ hid hr (rows_data _))) (.same _)) (bel_relE _ _ _)
theorem fin_bad {H G : Heap} {K : V → Heap → Prop} {cols : List (List UInt8)} {n : Nat} {acc : List (List It)} (hk : K (relE (made cols acc) (madeFault cols acc.length)) H) (hn : acc.length = n) (hf : ¬ madeFault cols n = 0) :
    RetK H K (.tu [.ag [.d (.sl 1 []), .d (.sl 1 [])], .d (.i .i64 (madeFault cols n))]) (H ++ G) := by
  subst hn
  rw [made, if_neg hf] at hk
  exact dropF hk (.same _) (bel_relE _ _ _)
theorem made_sh {cols : List (List UInt8)} {rows : List (List It)} (h1 : cols.length ≤ 9223372036854775807) (h2 : rows.length ≤ 9223372036854775807) (h3 : ∀ l, l ∈ rows → l.length ≤ 9223372036854775807) :
    (made cols rows).cols.length ≤ 9223372036854775807 ∧ (made cols rows).rows.length ≤ 9223372036854775807 ∧ ∀ l, l ∈ (made cols rows).rows → l.length ≤ 9223372036854775807 := by
  unfold made
  split
  · exact ⟨h1, h2, h3⟩
  · simp [rl0]
theorem rl0_sh : rl0.cols.length ≤ 9223372036854775807 ∧ rl0.rows.length ≤ 9223372036854775807 ∧ ∀ l, l ∈ rl0.rows → l.length ≤ 9223372036854775807 := by simp [rl0]
end Go.Proofs.YtppalmoicjogaaaDoor
namespace Go.Proofs.YtppalmoicjogaaaDoor
open Go Go.Proofs.YtppalmoicjogaaaDoor.Ab
variable [Glo] [U8]
set_option maxHeartbeats 4000000
set_option maxRecDepth 20000
def cells (l : List (List D)) : List (List V) := l.map fun r => r.map V.d
theorem cells_data (l : List (List D)) : dsRows (cells l) = some l := data_rows l
theorem obBel_cells (m ver e sz : Nat) (xs : List (List D)) : ObBel m (.row ver e sz (cells xs)) := obBel_data m ver e sz xs
theorem flat_take {α : Type} {ls : List (List α)} {i : Nat} {l : List α} (h : ls[i]? = some l) : (ls.take (i + 1)).flatten = (ls.take i).flatten ++ l := by
  rw [take_of_get h, List.flatten_append]; simp
theorem flat_le {α : Type} {ls : List (List α)} (i : Nat) : (ls.take i).flatten.length ≤ ls.flatten.length := by
  have e : ls.flatten = (ls.take i).flatten ++ (ls.drop i).flatten := by rw [← List.flatten_append, List.take_append_drop]
  rw [e, List.length_append]
  omega
def slD (z : Nat) (l : List (List D)) : List D := [.sl z l]
def ks_80 : Nat → List Nat
  | 0 => [0, 1]
  | 1 => [0, 1, 6]
  | 2 => [0, 1]
  | 3 => [0, 1]
  | 4 => [0, 1, 16]
  | 5 => [0]
  | 6 => [4]
  | _ => []
def mu_80 : List Nat := [22]
def in_80 : List Nat := [0, 1]
theorem growStr_A (n : Int) (h0 : 0 ≤ n) (hn : n ≤ 1000000000000) (H : Heap) (K : V → Heap → Prop) (hk : (n = 0 → K (.d (.c (.slice none 0 0))) H) ∧ (0 < n → K (.os H.length 1) (H ++ [.row 1 9 1 []]))) :
    ACalls Tryd.prog 80 [.d (.c (.slice none 0 0)), .d (.i .i64 n)] H K := by
  refine ACalls_of Tryd.func80 rfl in_80 (Nat.le_of_ble_eq_true rfl) ?_
  intro F hF
  simp (dsimp := false) only [go_sem, Nat.reduceAdd, Nat.reduceBEq, Nat.reduceEqDiff, Nat.reduceLT, Nat.reduceLeDiff, Nat.reduceMul, Int.reduceToNat, reduceCtorEq, ↓reduceIte, Tryd.ntmps80, Tryd.results80, ks_80, mu_80, ti_in3, ti_sb48, ti_sl48, ti_zr9, List.take_zero, Option.isSome_some, in_80] at hF
  subst hF
  repeat' (first | with_reducible (first | refine And.intro ?_ ?_ | intro _ | refine AWp_seq ?_ | refine AWp_block ?_ | (refine hKv _ _ (AWp_nop ?_); clear hKv Kv) | (refine hKA ?_; clear hKA hKB KA KB) | (refine hKB ?_; clear hKA hKB KA KB) | refine AWp_skipN ?_ | refine AWp_exitO (by repeat (first | exact Out.hit | apply Out.thenA | apply Out.out rfl)) ?_) | (with_reducible (first | (refine hKv _ _ ?_; clear hKv Kv) | ((first | refine AWp_regC mu_80 ks_80 ?_ | refine AWp_regE mu_80 ks_80 ?_); intro Kv hKv) | refine AWp_retR ?_); try simp (dsimp := false) only [go_sem, Nat.reduceAdd, Nat.reduceBEq, Nat.reduceEqDiff, Nat.reduceLT, Nat.reduceLeDiff, Nat.reduceMul, Int.reduceToNat, reduceCtorEq, ↓reduceIte, Tryd.ntmps80, Tryd.results80, ks_80, mu_80, ti_in3, ti_sb48, ti_sl48, ti_zr9, List.take_zero, Option.isSome_some]) | (refine AWp_condC rfl ?_; intro KA KB hKA hKB; try simp only [onB_true, onB_false, onB_dec, onB_ndec, onB_not, onB_and, onB_or]) | (refine AWp_condA rfl ?_ ?_) | with_reducible (first | refine onB_of ?_ ?_ | rfl) | omega)
  all_goals first
    | (refine keepO (hk.2 (by omega)) (fun ob hob => ?_) (by simp [Bel_os])
       simp only [List.mem_cons, List.not_mem_nil, or_false] at hob
       rcases hob with rfl
       exact obBel_cells _ _ _ _ [])
    | exact keepK (hk.1 (by omega)) (by simp [Bel_d]) rfl
def ks_33 : Nat → List Nat
  | 0 => [0]
  | 1 => [0, 3]
  | 2 => [0, 3, 9, 10, 11]
  | 3 => [0, 3, 9, 10, 11, 12]
  | 4 => [0, 3, 5, 9, 10, 11]
  | 5 => [0, 3, 9, 10, 11]
  | 6 => [0, 3, 9, 10, 11, 20]
  | 7 => [0, 3, 9, 10, 11]
  | 8 => [0, 3, 9, 10, 11]
  | 9 => [0, 6]
  | 10 => [6, 25, 26, 27]
  | 11 => [6, 25, 26, 27, 28]
  | 12 => [6, 8, 25, 26, 27]
  | 13 => [6, 25, 26, 27]
  | 14 => [6, 25, 26, 27]
  | 15 => [2]
  | _ => []
def mu_33 : List Nat := [6]
def in_33 : List Nat := [0]
theorem concatStr_A (ls : List (List (List D))) (hlen : ls.length ≤ 1048576) (hj : ls.flatten.length ≤ 1000000000000) (H : Heap) (K : V → Heap → Prop) (hk : K (.d (.sl 1 ls.flatten)) H) :
    ACalls Tryd.prog 33 [.d (.sl 1 (ls.map (slD 1)))] H K := by
  refine ACalls_of Tryd.func33 rfl in_33 (Nat.le_of_ble_eq_true rfl) ?_
  intro F hF
  simp (dsimp := false) only [go_sem, Nat.reduceAdd, Nat.reduceBEq, Nat.reduceEqDiff, Nat.reduceLT, Nat.reduceLeDiff, Nat.reduceMul, Int.reduceToNat, reduceCtorEq, ↓reduceIte, Tryd.ntmps33, Tryd.results33, ks_33, mu_33, ti_ag48, ti_hb80, ti_sb24, ti_sb48, ti_sl24, ti_sl48, slD, in_33] at hF
  subst hF
  repeat' (first | with_reducible (first | refine And.intro ?_ ?_ | intro _ | refine AWp_seq ?_ | refine AWp_block ?_ | (refine hKv _ _ (AWp_nop ?_); clear hKv Kv) | (refine hKA ?_; clear hKA hKB KA KB) | (refine hKB ?_; clear hKA hKB KA KB) | refine AWp_skipN ?_ | refine AWp_exitO (by repeat (first | exact Out.hit | apply Out.thenA | apply Out.out rfl)) ?_) | (with_reducible (first | (refine hKv _ _ ?_; clear hKv Kv) | ((first | refine AWp_regC mu_33 ks_33 ?_ | refine AWp_regE mu_33 ks_33 ?_); intro Kv hKv) | refine AWp_retR ?_); try simp (dsimp := false) only [go_sem, Nat.reduceAdd, Nat.reduceBEq, Nat.reduceEqDiff, Nat.reduceLT, Nat.reduceLeDiff, Nat.reduceMul, Int.reduceToNat, reduceCtorEq, ↓reduceIte, Tryd.ntmps33, Tryd.results33, ks_33, mu_33, ti_ag48, ti_hb80, ti_sb24, ti_sb48, ti_sl24, ti_sl48, slD]) | (refine AWp_condC rfl ?_; intro KA KB hKA hKB; try simp only [onB_true, onB_false, onB_dec, onB_ndec, onB_not, onB_and, onB_or]) | (refine AWp_condA rfl ?_ ?_) | with_reducible (first | refine onB_of ?_ ?_ | rfl) | omega)
  refine AWp_while0 (fun i : Nat => i ≤ ls.length) (fun i => [(0, .d (.sl 1 (ls.map (slD 1)))), (3, .d (.i .i64 (ls.take i).flatten.length)), (9, .d (.sl 1 (ls.map (slD 1)))), (10, .d (.i .i64 ls.length)), (11, .d (.i .i64 i))]) (fun i => ls.length - i) 0 (Nat.zero_le _) ?_ ?_
  · simp (dsimp := false) only [go_sem, Nat.reduceAdd, Nat.reduceBEq, Nat.reduceEqDiff, Nat.reduceLT, Nat.reduceLeDiff, Nat.reduceMul, Int.reduceToNat, reduceCtorEq, ↓reduceIte, Tryd.ntmps33, Tryd.results33, ks_33, mu_33, ti_ag48, ti_hb80, ti_sb24, ti_sb48, ti_sl24, ti_sl48, slD]
    first | done | simp
  rintro i hi
  by_cases hiN : i < ls.length
  · obtain ⟨l, hl⟩ : ∃ l, ls[i]? = some l := ⟨ls[i], List.getElem?_eq_getElem hiN⟩
    have hle := flat_le (ls := ls) (i + 1)
    have he := congrArg List.length (flat_take hl)
    rw [List.length_append] at he
    repeat' (first | with_reducible (first | refine And.intro ?_ ?_ | intro _ | refine AWp_seq ?_ | refine AWp_block ?_ | (refine hKv _ _ (AWp_nop ?_); clear hKv Kv) | (refine hKA ?_; clear hKA hKB KA KB) | (refine hKB ?_; clear hKA hKB KA KB) | refine AWp_skipN ?_ | refine AWp_exitO (by repeat (first | exact Out.hit | apply Out.thenA | apply Out.out rfl)) ?_) | (with_reducible (first | (refine hKv _ _ ?_; clear hKv Kv) | ((first | refine AWp_regC mu_33 ks_33 ?_ | refine AWp_regE mu_33 ks_33 ?_); intro Kv hKv) | refine AWp_retR ?_); try simp (dsimp := false) only [go_sem, Nat.reduceAdd, Nat.reduceBEq, Nat.reduceEqDiff, Nat.reduceLT, Nat.reduceLeDiff, Nat.reduceMul, Int.reduceToNat, reduceCtorEq, ↓reduceIte, Tryd.ntmps33, Tryd.results33, ks_33, mu_33, ti_ag48, ti_hb80, ti_sb24, ti_sb48, ti_sl24, ti_sl48, slD, hl]) | (refine AWp_condC rfl ?_; intro KA KB hKA hKB; try simp only [onB_true, onB_false, onB_dec, onB_ndec, onB_not, onB_and, onB_or]) | (refine AWp_condA rfl ?_ ?_) | with_reducible (first | refine onB_of ?_ ?_ | rfl) | omega)
    all_goals first
      | exact ⟨i + 1, by omega, by omega, by omega, by omega⟩
  have e : i = ls.length := by omega
  subst e
  rw [List.take_length]
  repeat' (first | with_reducible (first | refine And.intro ?_ ?_ | intro _ | refine AWp_seq ?_ | refine AWp_block ?_ | (refine hKv _ _ (AWp_nop ?_); clear hKv Kv) | (refine hKA ?_; clear hKA hKB KA KB) | (refine hKB ?_; clear hKA hKB KA KB) | refine AWp_skipN ?_ | refine AWp_exitO (by repeat (first | exact Out.hit | apply Out.thenA | apply Out.out rfl)) ?_) | ((first | with_reducible (first | (refine hKv _ _ ?_; clear hKv Kv) | ((first | refine AWp_regC mu_33 ks_33 ?_ | refine AWp_regE mu_33 ks_33 ?_); intro Kv hKv) | refine AWp_retR ?_) | refine growStr_A _ (by omega) (by omega) _ _ ?_); try simp (dsimp := false) only [go_sem, Nat.reduceAdd, Nat.reduceBEq, Nat.reduceEqDiff, Nat.reduceLT, Nat.reduceLeDiff, Nat.reduceMul, Int.reduceToNat, reduceCtorEq, ↓reduceIte, Tryd.ntmps33, Tryd.results33, ks_33, mu_33, ti_ag48, ti_hb80, ti_sb24, ti_sb48, ti_sl24, ti_sl48, slD]) | (refine AWp_condC rfl ?_; intro KA KB hKA hKB; try simp only [onB_true, onB_false, onB_dec, onB_ndec, onB_not, onB_and, onB_or]) | (refine AWp_condA rfl ?_ ?_) | with_reducible (first | refine onB_of ?_ ?_ | rfl) | omega)
  all_goals
    first
    | refine AWp_whileH (fun y : Nat × Nat => y.2 ≤ ls.length) (fun y => [(6, .os H.length y.1), (25, .d (.sl 1 (ls.map (slD 1)))), (26, .d (.i .i64 ls.length)), (27, .d (.i .i64 y.2))]) (fun y => [.row y.1 9 1 (cells (ls.take y.2).flatten)]) (fun y => ls.length - y.2) (0, 0) (Nat.zero_le _) rfl ?_ ?_ ?_
    | refine AWp_whileH (fun y : Nat × Nat => y.2 ≤ ls.length) (fun y => [(6, .os H.length y.1), (25, .d (.sl 1 (ls.map (slD 1)))), (26, .d (.i .i64 ls.length)), (27, .d (.i .i64 y.2))]) (fun y => [.row y.1 9 1 (cells (ls.take y.2).flatten)]) (fun y => ls.length - y.2) (1, 0) (Nat.zero_le _) rfl ?_ ?_ ?_
    · simp (dsimp := false) only [go_sem, Nat.reduceAdd, Nat.reduceBEq, Nat.reduceEqDiff, Nat.reduceLT, Nat.reduceLeDiff, Nat.reduceMul, Int.reduceToNat, reduceCtorEq, ↓reduceIte, Tryd.ntmps33, Tryd.results33, ks_33, mu_33, ti_ag48, ti_hb80, ti_sb24, ti_sb48, ti_sl24, ti_sl48, slD]
      simp
    · rintro ⟨v, i⟩ _ ob hob
      simp only [List.mem_cons, List.not_mem_nil, or_false] at hob
      rcases hob with rfl
      exact obBel_cells _ _ _ _ _
    rintro ⟨v, i⟩ hi
    simp only [] at hi ⊢
    by_cases hiN : i < ls.length
    · obtain ⟨l, hl⟩ : ∃ l, ls[i]? = some l := ⟨ls[i], List.getElem?_eq_getElem hiN⟩
      have hle := flat_le (ls := ls) (i + 1)
      have he := congrArg List.length (flat_take hl)
      rw [List.length_append] at he
      have hcl : (cells (ls.take i).flatten).length = (ls.take i).flatten.length := by rw [cells, List.length_map]
      repeat' (first | with_reducible (first | refine And.intro ?_ ?_ | intro _ | refine AWp_seq ?_ | refine AWp_block ?_ | (refine hKv _ _ (AWp_nop ?_); clear hKv Kv) | (refine hKA ?_; clear hKA hKB KA KB) | (refine hKB ?_; clear hKA hKB KA KB) | refine AWp_skipN ?_ | refine AWp_exitO (by repeat (first | exact Out.hit | apply Out.thenA | apply Out.out rfl)) ?_) | (with_reducible (first | (refine hKv _ _ ?_; clear hKv Kv) | ((first | refine AWp_regC mu_33 ks_33 ?_ | refine AWp_regE mu_33 ks_33 ?_); intro Kv hKv) | refine AWp_retR ?_); try simp (dsimp := false) only [go_sem, Nat.reduceAdd, Nat.reduceBEq, Nat.reduceEqDiff, Nat.reduceLT, Nat.reduceLeDiff, Nat.reduceMul, Int.reduceToNat, reduceCtorEq, ↓reduceIte, Tryd.ntmps33, Tryd.results33, ks_33, mu_33, ti_ag48, ti_hb80, ti_sb24, ti_sb48, ti_sl24, ti_sl48, slD, hl]) | (refine AWp_condC rfl ?_; intro KA KB hKA hKB; try simp only [onB_true, onB_false, onB_dec, onB_ndec, onB_not, onB_and, onB_or]) | (refine AWp_condA rfl ?_ ?_) | with_reducible (first | refine onB_of ?_ ?_ | rfl) | omega)
      all_goals first
        | exact ⟨(v + 1, i + 1), by show i + 1 ≤ ls.length; omega, by show ls.length - (i + 1) < ls.length - i; omega, by rw [flat_take hl]; simp [cells], rfl, by omega, by simp⟩
    · have e : i = ls.length := by omega
      subst e
      rw [List.take_length]
      repeat' (first | with_reducible (first | refine And.intro ?_ ?_ | intro _ | refine AWp_seq ?_ | refine AWp_block ?_ | (refine hKv _ _ (AWp_nop ?_); clear hKv Kv) | (refine hKA ?_; clear hKA hKB KA KB) | (refine hKB ?_; clear hKA hKB KA KB) | refine AWp_skipN ?_ | refine AWp_exitO (by repeat (first | exact Out.hit | apply Out.thenA | apply Out.out rfl)) ?_) | (with_reducible (first | (refine hKv _ _ ?_; clear hKv Kv) | ((first | refine AWp_regC mu_33 ks_33 ?_ | refine AWp_regE mu_33 ks_33 ?_); intro Kv hKv) | refine AWp_retR ?_); try simp (dsimp := false) only [go_sem, Nat.reduceAdd, Nat.reduceBEq, Nat.reduceEqDiff, Nat.reduceLT, Nat.reduceLeDiff, Nat.reduceMul, Int.reduceToNat, reduceCtorEq, ↓reduceIte, Tryd.ntmps33, Tryd.results33, ks_33, mu_33, ti_ag48, ti_hb80, ti_sb24, ti_sb48, ti_sl24, ti_sl48, slD]) | (refine AWp_condC rfl ?_; intro KA KB hKA hKB; try simp only [onB_true, onB_false, onB_dec, onB_ndec, onB_not, onB_and, onB_or]) | (refine AWp_condA rfl ?_ ?_) | with_reducible (first | refine onB_of ?_ ?_ | rfl) | omega)
      all_goals first
        | exact dropF hk (.os _ _ _ _ _ _ (by omega) (get_app0 _ _) (cells_data _)) (by simp [Bel_d])
end Go.Proofs.YtppalmoicjogaaaDoor
