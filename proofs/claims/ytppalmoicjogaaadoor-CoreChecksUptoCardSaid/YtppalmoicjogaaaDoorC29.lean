/- What the program and the reference make of relations alike: places of columns, copies, what is finished; relations held against each other. No condition but that the tables of package unicode/utf8 are there. -/
import Derived.Test.YtppalmoicjogaaaDoorC22
import Derived.Test.YtppalmoicjogaaaDoorC25
import Derived.Test.YtppalmoicjogaaaDoorC28
import Derived.Test.YtppalmoicjogaaaDoorC16
set_option linter.all false
set_option linter.unusedSimpArgs false
set_option linter.unusedVariables false
namespace Go.Proofs.YtppalmoicjogaaaDoor
open Go Go.Proofs.YtppalmoicjogaaaDoor.Ab
variable [Glo] [U8]
set_option maxHeartbeats 4000000
set_option maxRecDepth 20000
def placesGo (cols : List (List UInt8)) : List (List UInt8) → List Int → Option (List Int)
  | [], acc => some acc
  | s :: l, acc => if txtAt cols s < 0 then none else placesGo cols l (acc ++ [txtAt cols s])
def places (cols l : List (List UInt8)) : Option (List Int) := placesGo cols l []
theorem placesGo_next {cols l : List (List UInt8)} {i : Nat} {s : List UInt8} {acc : List Int} (h : l[i]? = some s) : placesGo cols (l.drop i) acc = if txtAt cols s < 0 then none else placesGo cols (l.drop (i + 1)) (acc ++ [txtAt cols s]) := by
  rw [drop_of_get h, placesGo]
def madeFault (cols : List (List UInt8)) (n : Nat) : Int := if colsFault cols = 0 then (if n ≤ 1000000 then 0 else 1) else colsFault cols
def made (cols : List (List UInt8)) (rows : List (List It)) : Rl := if madeFault cols rows.length = 0 then ⟨cols, rows⟩ else rl0
def relE (r : Rl) (e : Int) : V := .tu [rlV r, .d (.i .i64 e)]
theorem fz_rl0 (m : Nat) (H : Heap) (e : Int) : Fz m H (.tu [.ag [.d (.c (.slice none 0 0)), .d (.c (.slice none 0 0))], .d (.i .i64 e)]) (relE rl0 e) := Fz_tu2 (Fz_ag2 (.nil _) (.nil _)) (.same _)
theorem bel_relE (m : Nat) (r : Rl) (e : Int) : Bel m (relE r e) := by simp [relE, rlV, Bel_tu, Bel_ag, Bel_d]
def intD (x : Int) : List D := [.i .i64 x]
theorem ints_data (l : List Int) : dsRows (l.map intCells) = some (l.map intRow) := by
  induction l with
  | nil => rfl
  | cons x rs ih => simp [dsRows, intCells, intRow, dsOf, asD, ih]
theorem strs_data (l : List (List UInt8)) : dsRows (l.map fun s => [V.d (.s s)]) = some (l.map strRow) := by
  induction l with
  | nil => rfl
  | cons x rs ih => simp [dsRows, strRow, dsOf, asD, ih]
def itC (x : It) : List V := [.d (.i .i64 x.k), .d (.i .i64 x.n), .d (.s x.s)]
theorem its_data (l : List It) : dsRows (l.map itC) = some (l.map itD) := by
  induction l with
  | nil => rfl
  | cons x rs ih => simp [dsRows, itC, itD, dsOf, asD, ih]
def strC (s : List UInt8) : List V := [.d (.s s)]
theorem strsC_data (l : List (List UInt8)) : dsRows (l.map strC) = some (l.map strRow) := strs_data l
theorem data_rows (R : List (List D)) : dsRows (R.map fun r => r.map V.d) = some R := by
  have h1 : ∀ r : List D, dsOf (r.map V.d) = some r := fun r => by
    induction r with
    | nil => rfl
    | cons x r ih => simp [dsOf, asD, ih]
  induction R with
  | nil => rfl
  | cons r R ih => simp [dsRows, h1, ih]
def ks_15 : Nat → List Nat
  | 0 => [0]
  | 1 => [0, 4]
  | 2 => [2]
  | 3 => [2]
  | _ => []
def mu_15 : List Nat := [5]
def in_15 : List Nat := [0]
theorem cloneStrs_nil (H : Heap) (K : V → Heap → Prop) (hk : K (.d (.sl 1 [])) H) : ACalls Tryd.prog 15 [.d (.sl 1 [])] H K := by
  refine ACalls_of Tryd.func15 rfl in_15 (Nat.le_of_ble_eq_true rfl) ?_
  intro F hF
  simp (dsimp := false) only [go_sem, Nat.reduceAdd, Nat.reduceBEq, Nat.reduceEqDiff, Nat.reduceLT, Nat.reduceLeDiff, Nat.reduceMul, Int.reduceToNat, reduceCtorEq, ↓reduceIte, Tryd.ntmps15, Tryd.results15, ks_15, mu_15, ti_sb48, ti_sl48, itD, itV, rlV, rowD, rlD, in_15] at hF
  subst hF
  repeat' (first | with_reducible (first | refine And.intro ?_ ?_ | intro _ | refine AWp_seq ?_ | refine AWp_block ?_ | (refine hKv _ _ (AWp_nop ?_); clear hKv Kv) | (refine hKA ?_; clear hKA hKB KA KB) | (refine hKB ?_; clear hKA hKB KA KB) | refine AWp_skipN ?_ | refine AWp_exitO (by repeat (first | exact Out.hit | apply Out.thenA | apply Out.out rfl)) ?_) | (with_reducible (first | (refine hKv _ _ ?_; clear hKv Kv) | ((first | refine AWp_regC mu_15 ks_15 ?_ | refine AWp_regE mu_15 ks_15 ?_); intro Kv hKv) | refine AWp_retR ?_); try simp (dsimp := false) only [go_sem, Nat.reduceAdd, Nat.reduceBEq, Nat.reduceEqDiff, Nat.reduceLT, Nat.reduceLeDiff, Nat.reduceMul, Int.reduceToNat, reduceCtorEq, ↓reduceIte, Tryd.ntmps15, Tryd.results15, ks_15, mu_15, ti_sb48, ti_sl48, itD, itV, rlV, rowD, rlD]) | (refine AWp_condC rfl ?_; intro KA KB hKA hKB; try simp only [onB_true, onB_false, onB_dec, onB_ndec, onB_not, onB_and, onB_or]) | (refine AWp_condA rfl ?_ ?_) | with_reducible (first | refine onB_of ?_ ?_ | rfl) | omega)
  all_goals first
    | exact keepFz hk (.nil _) (by simp [Bel_d])
    | exact dropF hk (.os _ _ _ _ _ _ (by omega) (get_app0 _ _) rfl) (by simp [Bel_d])
theorem cloneStrs_cons (r : List D) (R : List (List D)) (hlen : (R.length + 1) * 16 ≤ 140737488355328) (H : Heap) (K : V → Heap → Prop) (hk : K (.d (.sl 1 (r :: R))) H) : ACalls Tryd.prog 15 [.d (.sl 1 (r :: R))] H K := by
  refine ACalls_of Tryd.func15 rfl in_15 (Nat.le_of_ble_eq_true rfl) ?_
  intro F hF
  simp (dsimp := false) only [go_sem, Nat.reduceAdd, Nat.reduceBEq, Nat.reduceEqDiff, Nat.reduceLT, Nat.reduceLeDiff, Nat.reduceMul, Int.reduceToNat, reduceCtorEq, ↓reduceIte, Tryd.ntmps15, Tryd.results15, ks_15, mu_15, ti_sb48, ti_sl48, itD, itV, rlV, rowD, rlD, in_15] at hF
  subst hF
  repeat' (first | with_reducible (first | refine And.intro ?_ ?_ | intro _ | refine AWp_seq ?_ | refine AWp_block ?_ | (refine hKv _ _ (AWp_nop ?_); clear hKv Kv) | (refine hKA ?_; clear hKA hKB KA KB) | (refine hKB ?_; clear hKA hKB KA KB) | refine AWp_skipN ?_ | refine AWp_exitO (by repeat (first | exact Out.hit | apply Out.thenA | apply Out.out rfl)) ?_) | (with_reducible (first | (refine hKv _ _ ?_; clear hKv Kv) | ((first | refine AWp_regC mu_15 ks_15 ?_ | refine AWp_regE mu_15 ks_15 ?_); intro Kv hKv) | refine AWp_retR ?_); try simp (dsimp := false) only [go_sem, Nat.reduceAdd, Nat.reduceBEq, Nat.reduceEqDiff, Nat.reduceLT, Nat.reduceLeDiff, Nat.reduceMul, Int.reduceToNat, reduceCtorEq, ↓reduceIte, Tryd.ntmps15, Tryd.results15, ks_15, mu_15, ti_sb48, ti_sl48, itD, itV, rlV, rowD, rlD]) | (refine AWp_condC rfl ?_; intro KA KB hKA hKB; try simp only [onB_true, onB_false, onB_dec, onB_ndec, onB_not, onB_and, onB_or]) | (refine AWp_condA rfl ?_ ?_) | with_reducible (first | refine onB_of ?_ ?_ | rfl) | omega)
  exact dropF hk (.os _ _ _ _ _ _ (by omega) (get_app0 _ _) (data_rows (r :: R))) (by simp [Bel_d])
theorem cloneStrs_A (R : List (List D)) (hlen : R.length * 16 ≤ 140737488355328) (H : Heap) (K : V → Heap → Prop) (hk : K (.d (.sl 1 R)) H) : ACalls Tryd.prog 15 [.d (.sl 1 R)] H K := by
  cases R with
  | nil => exact cloneStrs_nil H K hk
  | cons r R => exact cloneStrs_cons r R (by simpa using hlen) H K hk
def ks_21 : Nat → List Nat
  | 0 => [0]
  | 1 => [0, 3]
  | 2 => [0, 3, 4]
  | 3 => [0, 3, 4, 9]
  | 4 => [0, 3, 4]
  | 5 => [0, 3, 4, 5]
  | 6 => [0, 3, 4, 5, 18]
  | 7 => [0, 3, 4, 5]
  | 8 => [0, 3, 4, 5]
  | 9 => [2]
  | _ => []
def mu_21 : List Nat := [3]
def in_21 : List Nat := [0]
theorem texts_A (ls : List (List (List UInt8))) (hlen : ls.length ≤ 1048576) (hl : ∀ l, l ∈ ls → l.length ≤ 1048576) (hj : ls.flatten.length ≤ 100000000000) (H : Heap) (K : V → Heap → Prop) (hk : K (.d (.sl 1 (ls.flatten.map strRow))) H) :
    ACalls Tryd.prog 21 [.d (.sl 1 (ls.map fun l => [D.sl 1 (l.map strRow)]))] H K := by
  refine ACalls_of Tryd.func21 rfl in_21 (Nat.le_of_ble_eq_true rfl) ?_
  intro F hF
  simp (dsimp := false) only [go_sem, Nat.reduceAdd, Nat.reduceBEq, Nat.reduceEqDiff, Nat.reduceLT, Nat.reduceLeDiff, Nat.reduceMul, Int.reduceToNat, reduceCtorEq, ↓reduceIte, Tryd.ntmps21, Tryd.results21, ks_21, mu_21, ti_ag9, ti_ag48, ti_sb24, ti_sb48, ti_sl24, ti_sl48, itD, itV, rlV, rowD, rlD, in_21] at hF
  subst hF
  repeat' (first | with_reducible (first | refine And.intro ?_ ?_ | intro _ | refine AWp_seq ?_ | refine AWp_block ?_ | (refine hKv _ _ (AWp_nop ?_); clear hKv Kv) | (refine hKA ?_; clear hKA hKB KA KB) | (refine hKB ?_; clear hKA hKB KA KB) | refine AWp_skipN ?_ | refine AWp_exitO (by repeat (first | exact Out.hit | apply Out.thenA | apply Out.out rfl)) ?_) | (with_reducible (first | (refine hKv _ _ ?_; clear hKv Kv) | ((first | refine AWp_regC mu_21 ks_21 ?_ | refine AWp_regE mu_21 ks_21 ?_); intro Kv hKv) | refine AWp_retR ?_); try simp (dsimp := false) only [go_sem, Nat.reduceAdd, Nat.reduceBEq, Nat.reduceEqDiff, Nat.reduceLT, Nat.reduceLeDiff, Nat.reduceMul, Int.reduceToNat, reduceCtorEq, ↓reduceIte, Tryd.ntmps21, Tryd.results21, ks_21, mu_21, ti_ag9, ti_ag48, ti_sb24, ti_sb48, ti_sl24, ti_sl48, itD, itV, rlV, rowD, rlD]) | (refine AWp_condC rfl ?_; intro KA KB hKA hKB; try simp only [onB_true, onB_false, onB_dec, onB_ndec, onB_not, onB_and, onB_or]) | (refine AWp_condA rfl ?_ ?_) | with_reducible (first | refine onB_of ?_ ?_ | rfl) | omega)
  refine AWp_whileH (fun i : Nat => i ≤ ls.length) (fun i => [(0, .d (.sl 1 (ls.map fun l => [D.sl 1 (l.map strRow)]))), (3, .os H.length (ls.take i).flatten.length), (4, .d (.i .i64 i))])
    (fun i => [.row (ls.take i).flatten.length 9 1 ((ls.take i).flatten.map strC)]) (fun i => ls.length - i) 0 (Nat.zero_le _) rfl ?_ ?_ ?_
  · simp (dsimp := false) only [go_sem, Nat.reduceAdd, Nat.reduceBEq, Nat.reduceEqDiff, Nat.reduceLT, Nat.reduceLeDiff, Nat.reduceMul, Int.reduceToNat, reduceCtorEq, ↓reduceIte, Tryd.ntmps21, Tryd.results21, ks_21, mu_21, ti_ag9, ti_ag48, ti_sb24, ti_sb48, ti_sl24, ti_sl48, itD, itV, rlV, rowD, rlD]
    first | done | simp
  · intro i _ ob hob
    simp only [List.mem_cons, List.not_mem_nil, or_false] at hob
    rcases hob with rfl
    exact obBel_map strRow _ _ _ _ _
  rintro i hi
  repeat' (first | with_reducible (first | refine And.intro ?_ ?_ | intro _ | refine AWp_seq ?_ | refine AWp_block ?_ | (refine hKv _ _ (AWp_nop ?_); clear hKv Kv) | (refine hKA ?_; clear hKA hKB KA KB) | (refine hKB ?_; clear hKA hKB KA KB) | refine AWp_skipN ?_ | refine AWp_exitO (by repeat (first | exact Out.hit | apply Out.thenA | apply Out.out rfl)) ?_) | (with_reducible (first | (refine hKv _ _ ?_; clear hKv Kv) | ((first | refine AWp_regC mu_21 ks_21 ?_ | refine AWp_regE mu_21 ks_21 ?_); intro Kv hKv) | refine AWp_retR ?_); try simp (dsimp := false) only [go_sem, Nat.reduceAdd, Nat.reduceBEq, Nat.reduceEqDiff, Nat.reduceLT, Nat.reduceLeDiff, Nat.reduceMul, Int.reduceToNat, reduceCtorEq, ↓reduceIte, Tryd.ntmps21, Tryd.results21, ks_21, mu_21, ti_ag9, ti_ag48, ti_sb24, ti_sb48, ti_sl24, ti_sl48, itD, itV, rlV, rowD, rlD]) | (refine AWp_condC rfl ?_; intro KA KB hKA hKB; try simp only [onB_true, onB_false, onB_dec, onB_ndec, onB_not, onB_and, onB_or]) | (refine AWp_condA rfl ?_ ?_) | with_reducible (first | refine onB_of ?_ ?_ | rfl) | omega)
  · rename_i h1
    obtain ⟨l, hx⟩ : ∃ l, ls[i]? = some l := ⟨ls[i]'(by omega), List.getElem?_eq_getElem (by omega)⟩
    have hll := hl l (List.mem_of_getElem? hx)
    have hfl : (ls.take i).flatten.length + l.length ≤ 100000000000 := by
      have e : ls.flatten = (ls.take i).flatten ++ (l ++ (ls.drop (i + 1)).flatten) := by
        rw [← List.flatten_cons, ← drop_of_get hx, ← List.flatten_append, List.take_append_drop]
      rw [e] at hj
      simp only [List.length_append] at hj
      omega
    refine AWp_whileH (fun k : Nat => k ≤ l.length) (fun k => [(0, .d (.sl 1 (ls.map fun l => [D.sl 1 (l.map strRow)]))), (3, .os H.length ((ls.take i).flatten ++ l.take k).length), (4, .d (.i .i64 i)), (5, .d (.i .i64 k))])
      (fun k => [.row ((ls.take i).flatten ++ l.take k).length 9 1 (((ls.take i).flatten ++ l.take k).map strC)]) (fun k => l.length - k) 0 (Nat.zero_le _) ?_ ?_ ?_ ?_
    · simp
    · simp (dsimp := false) only [go_sem, Nat.reduceAdd, Nat.reduceBEq, Nat.reduceEqDiff, Nat.reduceLT, Nat.reduceLeDiff, Nat.reduceMul, Int.reduceToNat, reduceCtorEq, ↓reduceIte, Tryd.ntmps21, Tryd.results21, ks_21, mu_21, ti_ag9, ti_ag48, ti_sb24, ti_sb48, ti_sl24, ti_sl48, itD, itV, rlV, rowD, rlD]
      first | done | simp
    · intro k _ ob hob
      simp only [List.mem_cons, List.not_mem_nil, or_false] at hob
      rcases hob with rfl
      exact obBel_map strRow _ _ _ _ _
    rintro k hk1
    have hlo : ((ls.take i).flatten ++ l.take k).length ≤ 100000000000 := by
      rw [List.length_append, List.length_take]
      omega
    generalize hout : (ls.take i).flatten ++ l.take k = out at hlo ⊢
    repeat' (first | with_reducible (first | refine And.intro ?_ ?_ | intro _ | refine AWp_seq ?_ | refine AWp_block ?_ | (refine hKv _ _ (AWp_nop ?_); clear hKv Kv) | (refine hKA ?_; clear hKA hKB KA KB) | (refine hKB ?_; clear hKA hKB KA KB) | refine AWp_skipN ?_ | refine AWp_exitO (by repeat (first | exact Out.hit | apply Out.thenA | apply Out.out rfl)) ?_) | (with_reducible (first | (refine hKv _ _ ?_; clear hKv Kv) | ((first | refine AWp_regC mu_21 ks_21 ?_ | refine AWp_regE mu_21 ks_21 ?_); intro Kv hKv) | refine AWp_retR ?_); try simp (dsimp := false) only [go_sem, Nat.reduceAdd, Nat.reduceBEq, Nat.reduceEqDiff, Nat.reduceLT, Nat.reduceLeDiff, Nat.reduceMul, Int.reduceToNat, reduceCtorEq, ↓reduceIte, Tryd.ntmps21, Tryd.results21, ks_21, mu_21, ti_ag9, ti_ag48, ti_sb24, ti_sb48, ti_sl24, ti_sl48, itD, itV, rlV, rowD, rlD, hx]) | (refine AWp_condC rfl ?_; intro KA KB hKA hKB; try simp only [onB_true, onB_false, onB_dec, onB_ndec, onB_not, onB_and, onB_or]) | (refine AWp_condA rfl ?_ ?_) | with_reducible (first | refine onB_of ?_ ?_ | rfl) | omega)
    · rename_i g1 x hxk
      have e1 : out ++ [x] = (ls.take i).flatten ++ l.take (k + 1) := by rw [take_of_get hxk, ← List.append_assoc, hout]
      have e2 : out.length + 1 = (ls.take i).flatten.length + (l.take (k + 1)).length := by
        have := congrArg List.length e1
        simpa using this
      refine ⟨k + 1, by omega, by omega, ?_, by rw [e2], by omega, by omega⟩
      rw [← e2, ← e1]
      simp [strC]
    · have e : k = l.length := by omega
      subst e
      have e1 : out = (ls.take (i + 1)).flatten := by rw [take_of_get hx, List.flatten_append, ← hout, List.take_length]; simp
      exact ⟨i + 1, by omega, by omega, by rw [← e1], by rw [← e1], by omega, by omega⟩
  · have e : i = ls.length := by omega
    subst e
    rw [List.take_length]
    exact dropF hk (.os _ _ _ _ _ _ (by omega) (get_app0 _ _) (strsC_data _)) (by simp [Bel_d])
def finQ (cols : List (List UInt8)) (id ver n : Nat) (K : V → Heap → Prop) (H : Heap) : Prop :=
  onB (decide (madeFault cols n = 0)) (K (.tu [.ag [.d (.sl 1 (cols.map strRow)), .os id ver], .d (.i .i64 0)]) H) (K (.tu [.ag [.d (.sl 1 []), .d (.sl 1 [])], .d (.i .i64 (madeFault cols n))]) H)
theorem fz_rl1 (m : Nat) (H : Heap) (e : Int) : Fz m H (.tu [.ag [.d (.c (.slice none 0 0)), .d (.c (.slice none 0 0))], .d (.i .i64 e)]) (.tu [.ag [.d (.sl 1 []), .d (.sl 1 [])], .d (.i .i64 e)]) := Fz_tu2 (Fz_ag2 (.nil _) (.nil _)) (.same _)
def ks_23 : Nat → List Nat
  | 0 => [0, 1]
  | 1 => [0, 1, 10]
  | 2 => [4]
  | 3 => [0, 1, 5]
  | 4 => [0, 1, 5, 14]
  | 5 => [0, 1, 5]
  | 6 => [0, 1, 5, 25]
  | 7 => [4]
  | 8 => [4]
  | _ => []
def mu_23 : List Nat := []
def in_23 : List Nat := [0, 1]
def nd_23 : Nat → Nat
  | 6 => 8
  | _ => 0
theorem sameTexts_A (l : List (List UInt8)) (hlen : l.length ≤ 9223372036854775807) (H : Heap) (K : V → Heap → Prop) (hk : K (.d (.b true)) H) :
    ACalls Tryd.prog 23 [.d (.sl 1 (l.map strRow)), .d (.sl 1 (l.map strRow))] H K := by
  refine ACalls_of Tryd.func23 rfl in_23 (Nat.le_of_ble_eq_true rfl) ?_
  intro F hF
  simp (dsimp := false) only [go_sem, Nat.reduceAdd, Nat.reduceBEq, Nat.reduceEqDiff, Nat.reduceLT, Nat.reduceLeDiff, Nat.reduceMul, Int.reduceToNat, reduceCtorEq, ↓reduceIte, Tryd.ntmps23, Tryd.results23, ks_23, mu_23, nd_23, ti_ag9, ti_sb48, ti_sl48, itD, itV, rlV, rowD, rlD, in_23] at hF
  subst hF
  repeat' (first | with_reducible (first | refine And.intro ?_ ?_ | intro _ | refine AWp_seq ?_ | refine AWp_block ?_ | (refine hKv _ _ (AWp_nop ?_); clear hKv Kv) | (refine hKA ?_; clear hKA hKB KA KB) | (refine hKB ?_; clear hKA hKB KA KB) | refine AWp_skipN ?_ | refine AWp_exitO (by repeat (first | exact Out.hit | apply Out.thenA | apply Out.out rfl)) ?_) | (with_reducible (first | (refine hKv _ _ ?_; clear hKv Kv) | ((first | refine AWp_regC mu_23 ks_23 ?_ | refine AWp_draw nd_23 mu_23 ks_23 ti_mixed (by kernel_rfl) ?_ | refine AWp_regE mu_23 ks_23 ?_ | refine AWp_drawE nd_23 mu_23 ks_23 ti_mixed (by kernel_rfl) ?_); intro Kv hKv) | refine AWp_retR ?_); try simp (dsimp := false) only [go_sem, Nat.reduceAdd, Nat.reduceBEq, Nat.reduceEqDiff, Nat.reduceLT, Nat.reduceLeDiff, Nat.reduceMul, Int.reduceToNat, reduceCtorEq, ↓reduceIte, Tryd.ntmps23, Tryd.results23, ks_23, mu_23, nd_23, ti_ag9, ti_sb48, ti_sl48, itD, itV, rlV, rowD, rlD]) | (refine AWp_condC rfl ?_; intro KA KB hKA hKB; try simp only [onB_true, onB_false, onB_dec, onB_ndec, onB_not, onB_and, onB_or]) | (refine AWp_condA rfl ?_ ?_) | with_reducible (first | refine onB_of ?_ ?_ | rfl) | omega)
  refine AWp_while0 (fun i : Nat => i ≤ l.length) (fun i => [(0, .d (.sl 1 (l.map strRow))), (1, .d (.sl 1 (l.map strRow))), (5, .d (.i .i64 i))]) (fun i => l.length - i) 0 (Nat.zero_le _) ?_ ?_
  · simp (dsimp := false) only [go_sem, Nat.reduceAdd, Nat.reduceBEq, Nat.reduceEqDiff, Nat.reduceLT, Nat.reduceLeDiff, Nat.reduceMul, Int.reduceToNat, reduceCtorEq, ↓reduceIte, Tryd.ntmps23, Tryd.results23, ks_23, mu_23, nd_23, ti_ag9, ti_sb48, ti_sl48, itD, itV, rlV, rowD, rlD]
    first | done | simp
  rintro i hi
  repeat' (first | with_reducible (first | refine And.intro ?_ ?_ | intro _ | refine AWp_seq ?_ | refine AWp_block ?_ | (refine hKv _ _ (AWp_nop ?_); clear hKv Kv) | (refine hKA ?_; clear hKA hKB KA KB) | (refine hKB ?_; clear hKA hKB KA KB) | refine AWp_skipN ?_ | refine AWp_exitO (by repeat (first | exact Out.hit | apply Out.thenA | apply Out.out rfl)) ?_) | (with_reducible (first | (refine hKv _ _ ?_; clear hKv Kv) | ((first | refine AWp_regC mu_23 ks_23 ?_ | refine AWp_draw nd_23 mu_23 ks_23 ti_mixed (by kernel_rfl) ?_ | refine AWp_regE mu_23 ks_23 ?_ | refine AWp_drawE nd_23 mu_23 ks_23 ti_mixed (by kernel_rfl) ?_); intro Kv hKv) | refine AWp_retR ?_); try simp (dsimp := false) only [go_sem, Nat.reduceAdd, Nat.reduceBEq, Nat.reduceEqDiff, Nat.reduceLT, Nat.reduceLeDiff, Nat.reduceMul, Int.reduceToNat, reduceCtorEq, ↓reduceIte, Tryd.ntmps23, Tryd.results23, ks_23, mu_23, nd_23, ti_ag9, ti_sb48, ti_sl48, itD, itV, rlV, rowD, rlD]) | (refine AWp_condC rfl ?_; intro KA KB hKA hKB; try simp only [onB_true, onB_false, onB_dec, onB_ndec, onB_not, onB_and, onB_or]) | (refine AWp_condA rfl ?_ ?_) | with_reducible (first | refine onB_of ?_ ?_ | rfl) | omega)
  all_goals first
    | exact ⟨i + 1, by omega, by omega, by omega⟩
    | exact keepD hk rfl
    | (exfalso; simp_all)
end Go.Proofs.YtppalmoicjogaaaDoor
namespace Go.Proofs.YtppalmoicjogaaaDoor
open Go Go.Proofs.YtppalmoicjogaaaDoor.Ab
variable [Glo] [U8]
def it0 : It := ⟨0, 0, []⟩
def rg (l : List It) (c : Nat) : It := (l[c]?).getD it0
theorem rg_get {l : List It} {c : Nat} {x : It} (h : l[c]? = some x) : rg l c = x := by simp [rg, h]
theorem places_one (cols : List (List UInt8)) (s : List UInt8) : places cols [s] = if txtAt cols s < 0 then none else some [txtAt cols s] := by
  unfold places placesGo placesGo
  rfl
theorem obBel_rows (m ver e sz : Nat) (xs : List (List It)) : ObBel m (.row ver e sz (xs.map rowC)) := obBel_map rowD m ver e sz xs
theorem bel_nil2 (m : Nat) (ver e : Nat) : ObBel m (.row ver e 2 [[.d (.c (.slice none 0 0)), .d (.c (.slice none 0 0))]]) := by
  intro row hr v hv
  simp at hr
  subst hr
  simp at hv
  subst hv
  exact .d _
theorem fin_ret {H G : Heap} {K : V → Heap → Prop} {cols : List (List UInt8)} {acc : List (List It)} {id ver e : Nat} (hk : K (relE (made cols acc) (madeFault cols acc.length)) H) (hf : madeFault cols acc.length = 0) (hid : H.length ≤ id) (hr : (H ++ G)[id]? = some (.row ver e 1 (acc.map rowC))) :
    RetK H K (.tu [.ag [.d (.sl 1 (cols.map strRow)), .os id ver], .d (.i .i64 0)]) (H ++ G) := by
  rw [made, if_pos hf, hf] at hk
  exact dropF hk (Fz_tu2 (Fz_ag2 (.same _) (.os _ _ _ _ _ _ hid hr (rows_data _))) (.same _)) (bel_relE _ _ _)
theorem fin_bad {H G : Heap} {K : V → Heap → Prop} {cols : List (List UInt8)} {n : Nat} {acc : List (List It)} (hk : K (relE (made cols acc) (madeFault cols acc.length)) H) (hn : acc.length = n) (hf : ¬ madeFault cols n = 0) :
    RetK H K (.tu [.ag [.d (.sl 1 []), .d (.sl 1 [])], .d (.i .i64 (madeFault cols n))]) (H ++ G) := by
  subst hn
  rw [made, if_neg hf] at hk
  exact dropF hk (.same _) (bel_relE _ _ _)
theorem made_sh {cols : List (List UInt8)} {rows : List (List It)} (h1 : cols.length ≤ 9223372036854775807) (h2 : rows.length ≤ 9223372036854775807) (h3 : ∀ l, l ∈ rows → l.length ≤ 9223372036854775807) :
    (made cols rows).cols.length ≤ 9223372036854775807 ∧ (made cols rows).rows.length ≤ 9223372036854775807 ∧ ∀ l, l ∈ (made cols rows).rows → l.length ≤ 9223372036854775807 := by
  unfold made
  split
  · exact ⟨h1, h2, h3⟩
  · simp [rl0]
theorem rl0_sh : rl0.cols.length ≤ 9223372036854775807 ∧ rl0.rows.length ≤ 9223372036854775807 ∧ ∀ l, l ∈ rl0.rows → l.length ≤ 9223372036854775807 := by simp [rl0]
end Go.Proofs.YtppalmoicjogaaaDoor
namespace Go.Proofs.YtppalmoicjogaaaDoor
open Go Go.Proofs.YtppalmoicjogaaaDoor.Ab
variable [Glo] [U8]
set_option maxHeartbeats 4000000
set_option maxRecDepth 20000
def exInner (h : Xh) (sc : List (List UInt8)) : List (List UInt8) := if h.k = 4 ∨ h.k = 5 ∨ h.k = 6 then (if h.k ≠ 4 ∧ h.at_ ≠ [] then sc ++ [h.nm, h.at_] else sc ++ [h.nm]) else sc
theorem exInner_len (h : Xh) (sc : List (List UInt8)) : (exInner h sc).length ≤ sc.length + 2 := by
  unfold exInner
  repeat' split
  all_goals simp
mutual
def efQ : Ex → List (List UInt8) → Int
  | .mk h l, sc => if ¬(1 ≤ h.k ∧ h.k ≤ 11) then 3 else if 0 ≤ coreMany h.k ∧ coreMany h.k ≠ (l.length : Int) then 11 else if exOwn h l.length sc = 0 then efL l sc (exInner h sc) else exOwn h l.length sc
def efL : List Ex → List (List UInt8) → List (List UInt8) → Int
  | [], _, _ => 0
  | x :: l, sc, inn => if efQ x sc = 0 then efL l inn inn else efQ x sc
end
theorem efQ_eq {h : Xh} {l : List Ex} {sc : List (List UInt8)} (h1 : 1 ≤ h.k ∧ h.k ≤ 11) (h2 : coreMany h.k < 0 ∨ coreMany h.k = (l.length : Int)) : efQ (.mk h l) sc = if exOwn h l.length sc = 0 then efL l sc (exInner h sc) else exOwn h l.length sc := by
  rw [efQ, if_neg (by simpa using h1), if_neg (by omega)]
theorem efL_nil (sc inn : List (List UInt8)) : efL [] sc inn = 0 := by rw [efL]
theorem efL_cons (x : Ex) (l : List Ex) (sc inn : List (List UInt8)) : efL (x :: l) sc inn = if efQ x sc = 0 then efL l inn inn else efQ x sc := by rw [efL]
theorem exD_1 (x : Ex) : exD x = [.i .i64 x.h.k, .i .i64 x.h.it.k, .i .i64 x.h.it.n, .s x.h.it.s, .s x.h.nm, .s x.h.at_, .i .i64 x.h.n, .i .i64 x.h.ax, .i .i64 x.h.tk, .s x.h.tn, .sl 11 (x.args.map exD)] := by
  rw [exD_eq]; rfl
theorem coreArE_pos {s : List UInt8} {n : Int} (h : lookE coreArE s = some n) : 1 ≤ n := by
  rcases coreArE_in _ ((lookE_iff coreArE_nodup).1 h) with h | h | h <;> have := h.2 <;> simp only at this <;> omega
def ks_51 : Nat → List Nat
  | 0 => [0, 1]
  | 1 => [4]
  | _ => []
def mu_51 : List Nat := []
def in_51 : List Nat := [0, 1]
theorem plus_A (a b : List (List UInt8)) (ha : a.length ≤ 1000000) (hb : b.length ≤ 100) (H : Heap) (K : V → Heap → Prop) (hk : K (.d (.sl 1 ((a ++ b).map strRow))) H) :
    ACalls Tryd.prog 51 [.d (.sl 1 (a.map strRow)), .d (.sl 1 (b.map strRow))] H K := by
  have ht := fun H K hk => texts_A [a, b] (by simp) (by intro l hl; simp only [List.mem_cons, List.not_mem_nil, or_false] at hl; rcases hl with rfl | rfl <;> omega) (by simp; omega) H K hk
  simp only [List.flatten_cons, List.flatten_nil, List.append_nil, List.map_cons, List.map_nil] at ht
  refine ACalls_of Tryd.func51 rfl in_51 (Nat.le_of_ble_eq_true rfl) ?_
  intro F hF
  simp (dsimp := false) only [go_sem, Nat.reduceAdd, Nat.reduceBEq, Nat.reduceEqDiff, Nat.reduceLT, Nat.reduceLeDiff, Nat.reduceMul, Int.reduceToNat, reduceCtorEq, ↓reduceIte, Tryd.ntmps51, Tryd.results51, ks_51, mu_51, ti_hb21, ti_sl24, strRow, in_51] at hF
  subst hF
  repeat' (first | with_reducible (first | refine And.intro ?_ ?_ | intro _ | refine AWp_seq ?_ | refine AWp_block ?_ | (refine hKv _ _ (AWp_nop ?_); clear hKv Kv) | (refine hKA ?_; clear hKA hKB KA KB) | (refine hKB ?_; clear hKA hKB KA KB) | refine AWp_skipN ?_ | refine AWp_exitO (by repeat (first | exact Out.hit | apply Out.thenA | apply Out.out rfl)) ?_) | ((first | with_reducible (first | (refine hKv _ _ ?_; clear hKv Kv) | ((first | refine AWp_regC mu_51 ks_51 ?_ | refine AWp_regE mu_51 ks_51 ?_); intro Kv hKv) | refine AWp_retR ?_) | refine ht _ _ ?_); try simp (dsimp := false) only [go_sem, Nat.reduceAdd, Nat.reduceBEq, Nat.reduceEqDiff, Nat.reduceLT, Nat.reduceLeDiff, Nat.reduceMul, Int.reduceToNat, reduceCtorEq, ↓reduceIte, Tryd.ntmps51, Tryd.results51, ks_51, mu_51, ti_hb21, ti_sl24, strRow]) | (refine AWp_condC rfl ?_; intro KA KB hKA hKB; try simp only [onB_true, onB_false, onB_dec, onB_ndec, onB_not, onB_and, onB_or]) | (refine AWp_condA rfl ?_ ?_) | with_reducible (first | refine onB_of ?_ ?_ | rfl) | omega)
  all_goals first
    | exact keepD hk rfl
def ks_25 : Nat → List Nat
  | 0 => [1, 2]
  | 1 => [1, 2, 12]
  | 2 => [4]
  | 3 => [1, 2, 25]
  | 4 => [4]
  | 5 => [1, 2, 5]
  | 6 => [1, 2, 5, 6]
  | 7 => [1, 2, 5, 6, 39]
  | 8 => [1, 2, 5, 6]
  | 9 => [1, 2, 5, 6, 55]
  | 10 => [1, 2, 5, 6]
  | 11 => [1, 2, 5, 6, 66]
  | 12 => [1, 2, 5, 6]
  | 13 => [1, 2, 5, 6, 76]
  | 14 => [1, 2, 5, 6]
  | 15 => [1, 2, 5, 6, 86]
  | 16 => [1, 2, 5, 6]
  | 17 => [1, 2, 5, 6, 99]
  | 18 => [1, 2, 5, 6]
  | 19 => [1, 2, 5, 6, 111]
  | 20 => [1, 2, 5, 6]
  | 21 => [1, 2, 5, 6, 7]
  | 22 => [1, 2, 6, 7, 121]
  | 23 => [1, 2, 6, 7]
  | 24 => [1, 2, 6, 7, 134]
  | 25 => [1, 2, 6, 7]
  | 26 => [1, 2, 6, 7, 8]
  | 27 => [1, 2, 6, 7, 8, 148]
  | 28 => [1, 2, 6, 7, 8]
  | 29 => [1, 2, 7, 8, 152]
  | 30 => [1, 2, 6, 7, 8]
  | 31 => [1, 2, 6, 7, 8]
  | 32 => [4]
  | _ => []
def mu_25 : List Nat := []
def in_25 : List Nat := [0, 1]
def nd_25 : Nat → Nat
  | 3 => 12
  | 15 => 12
  | _ => 0
end Go.Proofs.YtppalmoicjogaaaDoor
namespace Go.Proofs.YtppalmoicjogaaaDoor
open Go Go.Proofs.YtppalmoicjogaaaDoor.Ab
variable [Glo]
set_option maxHeartbeats 4000000
set_option maxRecDepth 20000
end Go.Proofs.YtppalmoicjogaaaDoor
namespace Go.Proofs.YtppalmoicjogaaaDoor.RkO
open Go Go.Proofs.YtppalmoicjogaaaDoor Go.Proofs.YtppalmoicjogaaaDoor.Ab
variable [Glo]
theorem cellsD_bel (m v e sz : Nat) (R : List (List D)) : ObBel m (.row v e sz (R.map fun r => r.map V.d)) := by
  intro row hr v hv
  obtain ⟨r, _, rfl⟩ := List.mem_map.1 hr
  obtain ⟨d, _, rfl⟩ := List.mem_map.1 hv
  exact .d _
def ks_15 : Nat → List Nat
  | 0 => [0]
  | 1 => [0, 4]
  | 2 => [2]
  | 3 => [2]
  | _ => []
def mu_15 : List Nat := [2, 5]
def in_15 : List Nat := [0]
theorem cloneStrsO_A (R : List (List D)) (hlen : R.length * 16 ≤ 140737488355328) (H : Heap) (K : V → Heap → Prop) (hk : K (.os (H.length + 1) 1) (H ++ [.row 0 9 1 [], .row 1 9 1 (R.map fun r => r.map .d)])) : ACalls Tryd.prog 15 [.d (.sl 1 R)] H K := by
  have hc : Closed H (H ++ [.row 0 9 1 [], .row 1 9 1 (R.map fun r => r.map .d)]) := closed_app fun ob hob => by
    simp only [List.mem_cons, List.not_mem_nil, or_false] at hob
    rcases hob with rfl | rfl
    · exact cellsD_bel _ _ _ _ []
    · exact cellsD_bel _ _ _ _ _
  cases R with
  | nil =>
    refine ACalls_of Tryd.func15 rfl in_15 (Nat.le_of_ble_eq_true rfl) ?_
    intro F hF
    simp (dsimp := false) only [go_sem, Nat.reduceAdd, Nat.reduceBEq, Nat.reduceEqDiff, Nat.reduceLT, Nat.reduceLeDiff, Nat.reduceMul, Int.reduceToNat, reduceCtorEq, ↓reduceIte, Tryd.ntmps15, Tryd.results15, ks_15, mu_15, ti_sb48, ti_sl48, in_15] at hF
    subst hF
    repeat' (first | (refine AWp_bump 2 (H.length + 1) 0 rfl ((get_appk _ _ 1).trans rfl) ?_) | with_reducible (first | refine And.intro ?_ ?_ | intro _ | refine AWp_seq ?_ | refine AWp_block ?_ | (refine hKv _ _ (AWp_nop ?_); clear hKv Kv) | (refine hKA ?_; clear hKA hKB KA KB) | (refine hKB ?_; clear hKA hKB KA KB) | refine AWp_skipN ?_ | refine AWp_exitO (by repeat (first | exact Out.hit | apply Out.thenA | apply Out.out rfl)) ?_) | (with_reducible (first | (refine hKv _ _ ?_; clear hKv Kv) | ((first | refine AWp_regC mu_15 ks_15 ?_ | refine AWp_regE mu_15 ks_15 ?_); intro Kv hKv) | refine AWp_retR ?_); try simp (dsimp := false) only [go_sem, Nat.reduceAdd, Nat.reduceBEq, Nat.reduceEqDiff, Nat.reduceLT, Nat.reduceLeDiff, Nat.reduceMul, Int.reduceToNat, reduceCtorEq, ↓reduceIte, Tryd.ntmps15, Tryd.results15, ks_15, mu_15, ti_sb48, ti_sl48]) | (refine AWp_condC rfl ?_; intro KA KB hKA hKB; try simp only [onB_true, onB_false, onB_dec, onB_ndec, onB_not, onB_and, onB_or]) | (refine AWp_condA rfl ?_ ?_) | with_reducible (first | refine onB_of ?_ ?_ | rfl) | omega)
    all_goals first
      | omega
      | exact keepS hk (by simp) hc (.os _ _ (by simp))
  | cons r R =>
    simp only [List.length_cons] at hlen
    refine ACalls_of Tryd.func15 rfl in_15 (Nat.le_of_ble_eq_true rfl) ?_
    intro F hF
    simp (dsimp := false) only [go_sem, Nat.reduceAdd, Nat.reduceBEq, Nat.reduceEqDiff, Nat.reduceLT, Nat.reduceLeDiff, Nat.reduceMul, Int.reduceToNat, reduceCtorEq, ↓reduceIte, Tryd.ntmps15, Tryd.results15, ks_15, mu_15, ti_sb48, ti_sl48, in_15] at hF
    subst hF
    repeat' (first | with_reducible (first | refine And.intro ?_ ?_ | intro _ | refine AWp_seq ?_ | refine AWp_block ?_ | (refine hKv _ _ (AWp_nop ?_); clear hKv Kv) | (refine hKA ?_; clear hKA hKB KA KB) | (refine hKB ?_; clear hKA hKB KA KB) | refine AWp_skipN ?_ | refine AWp_exitO (by repeat (first | exact Out.hit | apply Out.thenA | apply Out.out rfl)) ?_) | (with_reducible (first | (refine hKv _ _ ?_; clear hKv Kv) | ((first | refine AWp_regC mu_15 ks_15 ?_ | refine AWp_regE mu_15 ks_15 ?_); intro Kv hKv) | refine AWp_retR ?_); try simp (dsimp := false) only [go_sem, Nat.reduceAdd, Nat.reduceBEq, Nat.reduceEqDiff, Nat.reduceLT, Nat.reduceLeDiff, Nat.reduceMul, Int.reduceToNat, reduceCtorEq, ↓reduceIte, Tryd.ntmps15, Tryd.results15, ks_15, mu_15, ti_sb48, ti_sl48]) | (refine AWp_condC rfl ?_; intro KA KB hKA hKB; try simp only [onB_true, onB_false, onB_dec, onB_ndec, onB_not, onB_and, onB_or]) | (refine AWp_condA rfl ?_ ?_) | with_reducible (first | refine onB_of ?_ ?_ | rfl) | omega)
    all_goals first
      | omega
      | exact keepS hk (by simp) hc (.os _ _ (by simp))
end Go.Proofs.YtppalmoicjogaaaDoor.RkO
namespace Go.Proofs.YtppalmoicjogaaaDoor
open Go Go.Proofs.YtppalmoicjogaaaDoor.Ab
variable [Glo] [U8] [CAr]
set_option maxHeartbeats 4000000
set_option maxRecDepth 20000
def cntC (a b c : Int) : Ob := .row 0 67 3 [[.d (.i .i64 a), .d (.i .i64 b), .d (.i .i64 c)]]
theorem cntC_bel (m : Nat) (a b c : Int) : ObBel m (cntC a b c) := by
  intro row hr v hv
  simp at hr
  subst hr
  simp at hv
  rcases hv with rfl | rfl | rfl <;> exact .d _
structure CntOk (a b c : Int) (n : Nat) : Prop where
  a0 : 0 ≤ a
  b0 : 0 ≤ b
  c0 : 0 ≤ c
  a1 : a + n ≤ 100000000
  b1 : b + n ≤ 100000000
  c1 : c + n ≤ 100000000
def ChkAt (id : Nat) (x : Ex) (sc : List (List UInt8)) : Prop := ∀ (a b c : Int) (H : Heap) (K : V → Heap → Prop), H[id]? = some (cntC a b c) → CntOk a b c (exN x) →
  (∀ a' b' c', (efQ x sc = 0 → a' = a + exHow 5 6 x ∧ b' = b + exHow 10 10 x ∧ c' = c + exN x) → K (.d (.i .i64 (efQ x sc))) (H.set id (cntC a' b' c'))) →
  ACalls Tryd.prog 24 [exV x.h x.args, .d (.sl 1 (sc.map strRow)), .pt id 0 0 0] H K
theorem chk_at {id : Nat} {x : Ex} {sc : List (List UInt8)} (h : ChkAt id x sc) {H : Heap} {o : Ob} (hr : H[id]? = some o) (a b c : Int) (hB : CntOk a b c (exN x)) (G : Heap) (K : V → Heap → Prop)
    (hK : ∀ a' b' c', (efQ x sc = 0 → a' = a + exHow 5 6 x ∧ b' = b + exHow 10 10 x ∧ c' = c + exN x) → K (.d (.i .i64 (efQ x sc))) (H.set id (cntC a' b' c') ++ G)) :
    ACalls Tryd.prog 24 [exV x.h x.args, .d (.sl 1 (sc.map strRow)), .pt id 0 0 0] (H.set id (cntC a b c) ++ G) K := by
  have hid := lt_of_get hr
  refine h a b c _ K (by rw [List.getElem?_append_left (by simpa using hid)]; exact get_self hr _) hB fun a' b' c' hh => ?_
  have := hK a' b' c' hh
  rw [List.set_append_left _ _ (by simpa using hid), List.set_set]
  exact this
theorem chk_at0 {id : Nat} {x : Ex} {sc : List (List UInt8)} (h : ChkAt id x sc) {H : Heap} {o : Ob} (hr : H[id]? = some o) (a b c : Int) (hB : CntOk a b c (exN x)) (K : V → Heap → Prop)
    (hK : ∀ a' b' c', (efQ x sc = 0 → a' = a + exHow 5 6 x ∧ b' = b + exHow 10 10 x ∧ c' = c + exN x) → K (.d (.i .i64 (efQ x sc))) (H.set id (cntC a' b' c'))) :
    ACalls Tryd.prog 24 [exV x.h x.args, .d (.sl 1 (sc.map strRow)), .pt id 0 0 0] (H.set id (cntC a b c)) K := by
  refine h a b c _ K (get_self hr _) hB fun a' b' c' hh => ?_
  have := hK a' b' c' hh
  rw [List.set_set]
  exact this
theorem inR_i64' {n : Int} (h1 : -9223372036854775808 ≤ n) (h2 : n ≤ 9223372036854775807) : inR .i64 n := by rw [inR_i64]; exact ⟨h1, h2⟩
def ks_24 : Nat → List Nat
  | 0 => [1, 2, 3]
  | 1 => [1, 2, 3, 20]
  | 2 => [6]
  | 3 => [1, 2, 3]
  | 4 => [1, 2, 3, 7]
  | 5 => [1, 2, 3, 39]
  | 6 => [6]
  | 7 => [1, 2, 3, 8]
  | 8 => [1, 2, 3, 8, 44]
  | 9 => [6]
  | 10 => [1, 2, 3, 47]
  | 11 => [1, 2, 3, 47, 48]
  | 12 => [1, 2, 3, 47, 48]
  | 13 => [1, 2, 3]
  | 14 => [1, 2, 3, 58]
  | 15 => [1, 2, 3]
  | 16 => [1, 2, 3, 68, 69, 70]
  | 17 => [1, 2, 3, 68, 69, 70, 71]
  | 18 => [1, 2, 3, 9, 10, 68, 69, 70]
  | 19 => [1, 2, 3, 9, 10, 11, 68, 69, 70]
  | 20 => [1, 2, 3, 10, 11, 68, 69, 70, 92]
  | 21 => [1, 2, 3, 10, 11, 68, 69, 70]
  | 22 => [1, 2, 3, 10, 11, 68, 69, 70, 106]
  | 23 => [1, 2, 3, 10, 11, 68, 69, 70]
  | 24 => [1, 2, 3, 12, 68, 69, 70]
  | 25 => [1, 2, 3, 12, 68, 69, 70, 117]
  | 26 => [6]
  | 27 => [1, 2, 3, 68, 69, 70]
  | 28 => [6]
  | _ => []
def mu_24 : List Nat := []
def in_24 : List Nat := [0, 1, 2]
def ro_24 : Nat → List Nat
  | 18 => [10]
  | _ => []
def xt_24 : Nat → Nat × List Cd
  | 21 => (6, [.q 0 0, .t, .q 1 0, .q 1 0, .q 1 0, .t])
  | _ => (0, [])
def gv_24 : Nat → List Bool
  | 24 => [false, true]
  | _ => []
end Go.Proofs.YtppalmoicjogaaaDoor
