/- Plans: the reference's small functions, walked. No condition but that the tables of package unicode/utf8 are there. -/
import Derived.Test.YtppalmoicjogaaaDoorR40
import Derived.Test.YtppalmoicjogaaaDoorR27
set_option linter.all false
set_option linter.unusedSimpArgs false
set_option linter.unusedVariables false
namespace Go.Proofs.YtppalmoicjogaaaDoor
open Go Go.Proofs.YtppalmoicjogaaaDoor.Ab
variable [Glo] [U8]
set_option maxHeartbeats 4000000
set_option maxRecDepth 20000
def runOnes : List (List UInt8) := [[100, 97, 116, 97], [105, 110, 116, 101, 103, 101, 114], [108, 101, 110, 103, 116, 104], [110, 97, 109, 101], [110, 101, 103], [110, 111, 100, 101], [110, 111, 116], [111, 110, 101], [115, 116, 114, 105, 110, 103]]
def runTwos : List (List UInt8) := [[33, 61], [42], [43], [45], [60], [60, 60], [60, 61], [61], [62], [62, 61], [62, 62], [97, 110, 100], [99, 111, 110, 99, 97, 116], [99, 111, 110, 116, 97, 105, 110, 115], [100, 105, 118], [101, 98, 118], [105, 115], [109, 111, 100], [111, 114], [115, 112, 97, 110], [115, 116, 97, 114, 116, 115]]
def runThrees : List (List UInt8) := [[104, 111, 108, 100, 115], [115, 117, 98, 115, 116, 114, 105, 110, 103]]
theorem arE_in : ∀ p, p ∈ arE → (p.1 ∈ runOnes ∧ p.2 = 1) ∨ (p.1 ∈ runTwos ∧ p.2 = 2) ∨ (p.1 ∈ runThrees ∧ p.2 = 3) := by decide
theorem runOnes_in : ∀ s, s ∈ runOnes → (s, 1) ∈ arE := by decide
theorem runTwos_in : ∀ s, s ∈ runTwos → (s, 2) ∈ arE := by decide
theorem runThrees_in : ∀ s, s ∈ runThrees → (s, 3) ∈ arE := by decide
def fnQ (s : List UInt8) : Int := match lookE arE s with | some n => n | none => -1
theorem fnQ_eq (s : List UInt8) : fnQ s = if s ∈ runOnes then 1 else if s ∈ runTwos then 2 else if s ∈ runThrees then 3 else -1 := by
  by_cases h1 : s ∈ runOnes
  · rw [if_pos h1, fnQ, (lookE_iff arE_nodup).2 (runOnes_in s h1)]
  by_cases h2 : s ∈ runTwos
  · rw [if_neg h1, if_pos h2, fnQ, (lookE_iff arE_nodup).2 (runTwos_in s h2)]
  by_cases h3 : s ∈ runThrees
  · rw [if_neg h1, if_neg h2, if_pos h3, fnQ, (lookE_iff arE_nodup).2 (runThrees_in s h3)]
  rw [if_neg h1, if_neg h2, if_neg h3]
  have : lookE arE s = none := by
    cases hl : lookE arE s with
    | none => rfl
    | some n =>
      rcases arE_in _ ((lookE_iff arE_nodup).1 hl) with h | h | h
      · exact absurd h.1 h1
      · exact absurd h.1 h2
      · exact absurd h.1 h3
  rw [fnQ, this]
theorem lookE_pos {s : List UInt8} {n : Int} (h : lookE arE s = some n) : 1 ≤ n := by
  rcases arE_in _ ((lookE_iff arE_nodup).1 h) with h | h | h <;> have := h.2 <;> simp only at this <;> omega
def ks_42 : Nat → List Nat
  | 0 => [0]
  | 1 => [3]
  | 2 => [3, 4]
  | 3 => [3, 4]
  | 4 => [3, 4]
  | 5 => [3, 4]
  | 6 => [3, 4]
  | 7 => [3, 4]
  | 8 => [3, 4]
  | 9 => [3, 4]
  | 10 => [3, 4]
  | 11 => [2]
  | 12 => [3, 14]
  | 13 => [3, 14]
  | 14 => [3, 14]
  | 15 => [3, 14]
  | 16 => [3, 14]
  | 17 => [3, 14]
  | 18 => [3, 14]
  | 19 => [3, 14]
  | 20 => [3, 14]
  | 21 => [3, 14]
  | 22 => [3, 14]
  | 23 => [3, 14]
  | 24 => [3, 14]
  | 25 => [3, 14]
  | 26 => [3, 14]
  | 27 => [3, 14]
  | 28 => [3, 14]
  | 29 => [3, 14]
  | 30 => [3, 14]
  | 31 => [3, 14]
  | 32 => [3, 14]
  | 33 => [2]
  | 34 => [3, 36]
  | 35 => [36]
  | 36 => [2]
  | 37 => [2]
  | _ => []
def mu_42 : List Nat := []
def in_42 : List Nat := [0]
theorem fnArgs_A (s : List UInt8) (H : Heap) (K : V → Heap → Prop) (hk : K (.d (.i .i64 (fnQ s))) H) : ACalls Tryd.prog 42 [.d (.s s)] H K := by
  refine ACalls_of Tryd.func42 rfl in_42 (Nat.le_of_ble_eq_true rfl) ?_
  intro F hF
  simp (dsimp := false) only [go_sem, Nat.reduceAdd, Nat.reduceBEq, Nat.reduceEqDiff, Nat.reduceLT, Nat.reduceLeDiff, Nat.reduceMul, Int.reduceToNat, reduceCtorEq, ↓reduceIte, Tryd.ntmps42, Tryd.results42, ks_42, mu_42, in_42] at hF
  subst hF
  repeat' (first | (refine hKA ?_; clear hKA hKB KA KB; rename_i hq; simp only [hq, decide_true]) | (refine hKB ?_; clear hKA hKB KA KB; rename_i hq; simp only [hq, decide_false]) | with_reducible (first | refine And.intro ?_ ?_ | intro _ | refine AWp_seq ?_ | refine AWp_block ?_ | (refine hKv _ _ (AWp_nop ?_); clear hKv Kv) | (refine hKA ?_; clear hKA hKB KA KB) | (refine hKB ?_; clear hKA hKB KA KB) | refine AWp_skipN ?_ | refine AWp_exitO (by repeat (first | exact Out.hit | apply Out.thenA | apply Out.out rfl)) ?_) | (with_reducible (first | (refine hKv _ _ ?_; clear hKv Kv) | ((first | refine AWp_regC mu_42 ks_42 ?_ | refine AWp_regE mu_42 ks_42 ?_); intro Kv hKv) | refine AWp_retR ?_); try simp (dsimp := false) only [go_sem, Nat.reduceAdd, Nat.reduceBEq, Nat.reduceEqDiff, Nat.reduceLT, Nat.reduceLeDiff, Nat.reduceMul, Int.reduceToNat, reduceCtorEq, ↓reduceIte, Tryd.ntmps42, Tryd.results42, ks_42, mu_42]) | (refine AWp_condC rfl ?_; intro KA KB hKA hKB; try simp only [onB_true, onB_false, onB_dec, onB_ndec, onB_not, onB_and, onB_or]) | (refine AWp_condA rfl ?_ ?_) | with_reducible (first | refine onB_of ?_ ?_ | rfl) | omega)
  all_goals first
    | exact keepD hk (by rename_i hq; rw [hq]; rfl)
    | exact keepD hk (by rw [fnQ_eq]; simp [runOnes, runTwos, runThrees, *])
def ks_18 : Nat → List Nat
  | 0 => [0]
  | 1 => [3]
  | 2 => [3, 4]
  | 3 => [3, 4]
  | 4 => [2]
  | 5 => [3, 7]
  | 6 => [3, 7]
  | 7 => [3, 7]
  | 8 => [3, 7]
  | 9 => [7]
  | 10 => [2]
  | 11 => [2]
  | _ => []
def mu_18 : List Nat := []
def in_18 : List Nat := [0]
theorem inCount_A (k : Int) (H : Heap) (K : V → Heap → Prop) (hk : K (.d (.i .i64 (inCnt k))) H) : ACalls Tryd.prog 18 [.d (.i .i64 k)] H K := by
  refine ACalls_of Tryd.func18 rfl in_18 (Nat.le_of_ble_eq_true rfl) ?_
  intro F hF
  simp (dsimp := false) only [go_sem, Nat.reduceAdd, Nat.reduceBEq, Nat.reduceEqDiff, Nat.reduceLT, Nat.reduceLeDiff, Nat.reduceMul, Int.reduceToNat, reduceCtorEq, ↓reduceIte, Tryd.ntmps18, Tryd.results18, ks_18, mu_18, in_18] at hF
  subst hF
  repeat' (first | (refine hKA ?_; clear hKA hKB KA KB; rename_i hq; simp only [hq, decide_true]) | (refine hKB ?_; clear hKA hKB KA KB; rename_i hq; simp only [hq, decide_false]) | with_reducible (first | refine And.intro ?_ ?_ | intro _ | refine AWp_seq ?_ | refine AWp_block ?_ | (refine hKv _ _ (AWp_nop ?_); clear hKv Kv) | (refine hKA ?_; clear hKA hKB KA KB) | (refine hKB ?_; clear hKA hKB KA KB) | refine AWp_skipN ?_ | refine AWp_exitO (by repeat (first | exact Out.hit | apply Out.thenA | apply Out.out rfl)) ?_) | (with_reducible (first | (refine hKv _ _ ?_; clear hKv Kv) | ((first | refine AWp_regC mu_18 ks_18 ?_ | refine AWp_regE mu_18 ks_18 ?_); intro Kv hKv) | refine AWp_retR ?_); try simp (dsimp := false) only [go_sem, Nat.reduceAdd, Nat.reduceBEq, Nat.reduceEqDiff, Nat.reduceLT, Nat.reduceLeDiff, Nat.reduceMul, Int.reduceToNat, reduceCtorEq, ↓reduceIte, Tryd.ntmps18, Tryd.results18, ks_18, mu_18]) | (refine AWp_condC rfl ?_; intro KA KB hKA hKB; try simp only [onB_true, onB_false, onB_dec, onB_ndec, onB_not, onB_and, onB_or]) | (refine AWp_condA rfl ?_ ?_) | with_reducible (first | refine onB_of ?_ ?_ | rfl) | omega)
  all_goals first
    | exact keepD hk (by rename_i hq; rw [hq]; rfl)
    | exact keepD hk (by simp [inCnt, *])
theorem hasQ_cons (cols : List (List UInt8)) (s : List UInt8) (l : List (List UInt8)) : hasQ cols (s :: l) = (decide (s ∈ cols) && hasQ cols l) := rfl
def ks_22 : Nat → List Nat
  | 0 => [0, 1]
  | 1 => [0, 1, 5]
  | 2 => [0, 1, 5, 9]
  | 3 => [0, 1, 5]
  | 4 => [0, 1, 5, 18]
  | 5 => [4]
  | 6 => [4]
  | _ => []
def mu_22 : List Nat := []
def in_22 : List Nat := [0, 1]
theorem allThere_A (cols l : List (List UInt8)) (hc : cols.length ≤ 9223372036854775807) (hl : l.length ≤ 9223372036854775807) (H : Heap) (K : V → Heap → Prop) (hk : K (.d (.b (hasQ cols l))) H) :
    ACalls Tryd.prog 22 [.d (.sl 1 (cols.map strRow)), .d (.sl 1 (l.map strRow))] H K := by
  refine ACalls_of Tryd.func22 rfl in_22 (Nat.le_of_ble_eq_true rfl) ?_
  intro F hF
  simp (dsimp := false) only [go_sem, Nat.reduceAdd, Nat.reduceBEq, Nat.reduceEqDiff, Nat.reduceLT, Nat.reduceLeDiff, Nat.reduceMul, Int.reduceToNat, reduceCtorEq, ↓reduceIte, Tryd.ntmps22, Tryd.results22, ks_22, mu_22, ti_ag9, ti_hb41, ti_sb48, ti_sl48, strRow, in_22] at hF
  subst hF
  repeat' (first | with_reducible (first | refine And.intro ?_ ?_ | intro _ | refine AWp_seq ?_ | refine AWp_block ?_ | (refine hKv _ _ (AWp_nop ?_); clear hKv Kv) | (refine hKA ?_; clear hKA hKB KA KB) | (refine hKB ?_; clear hKA hKB KA KB) | refine AWp_skipN ?_ | refine AWp_exitO (by repeat (first | exact Out.hit | apply Out.thenA | apply Out.out rfl)) ?_) | (with_reducible (first | (refine hKv _ _ ?_; clear hKv Kv) | ((first | refine AWp_regC mu_22 ks_22 ?_ | refine AWp_regE mu_22 ks_22 ?_); intro Kv hKv) | refine AWp_retR ?_); try simp (dsimp := false) only [go_sem, Nat.reduceAdd, Nat.reduceBEq, Nat.reduceEqDiff, Nat.reduceLT, Nat.reduceLeDiff, Nat.reduceMul, Int.reduceToNat, reduceCtorEq, ↓reduceIte, Tryd.ntmps22, Tryd.results22, ks_22, mu_22, ti_ag9, ti_hb41, ti_sb48, ti_sl48, strRow]) | (refine AWp_condC rfl ?_; intro KA KB hKA hKB; try simp only [onB_true, onB_false, onB_dec, onB_ndec, onB_not, onB_and, onB_or]) | (refine AWp_condA rfl ?_ ?_) | with_reducible (first | refine onB_of ?_ ?_ | rfl) | omega)
  refine AWp_while0 (fun i : Nat => i ≤ l.length ∧ hasQ cols (l.drop i) = hasQ cols l) (fun i => [(0, .d (.sl 1 (cols.map strRow))), (1, .d (.sl 1 (l.map strRow))), (5, .d (.i .i64 i))]) (fun i => l.length - i) 0 ⟨Nat.zero_le _, rfl⟩ ?_ ?_
  · simp (dsimp := false) only [go_sem, Nat.reduceAdd, Nat.reduceBEq, Nat.reduceEqDiff, Nat.reduceLT, Nat.reduceLeDiff, Nat.reduceMul, Int.reduceToNat, reduceCtorEq, ↓reduceIte, Tryd.ntmps22, Tryd.results22, ks_22, mu_22, ti_ag9, ti_hb41, ti_sb48, ti_sl48, strRow]
    first | done | simp
  rintro i ⟨hi, hv⟩
  by_cases hil : i < l.length
  · obtain ⟨x, hx⟩ : ∃ x, l[i]? = some x := ⟨l[i], List.getElem?_eq_getElem hil⟩
    have t1 : ((i : Int) < (l.length : Int)) = True := eq_true (by omega)
    have t2 : ((0 : Int) ≤ (i : Int)) = True := eq_true (by omega)
    rw [drop_of_get hx, hasQ_cons] at hv
    have hh := fun H K hk => hasText_A cols x hc H K hk
    cases hd : decide (x ∈ cols) with
    | true =>
      rw [hd] at hh hv
      rw [Bool.true_and] at hv
      repeat' (first | with_reducible (first | refine And.intro ?_ ?_ | intro _ | refine AWp_seq ?_ | refine AWp_block ?_ | (refine hKv _ _ (AWp_nop ?_); clear hKv Kv) | (refine hKA ?_; clear hKA hKB KA KB) | (refine hKB ?_; clear hKA hKB KA KB) | refine AWp_skipN ?_ | refine AWp_exitO (by repeat (first | exact Out.hit | apply Out.thenA | apply Out.out rfl)) ?_) | ((first | with_reducible (first | (refine hKv _ _ ?_; clear hKv Kv) | ((first | refine AWp_regC mu_22 ks_22 ?_ | refine AWp_regE mu_22 ks_22 ?_); intro Kv hKv) | refine AWp_retR ?_) | refine hh _ _ ?_); try simp (dsimp := false) only [go_sem, Nat.reduceAdd, Nat.reduceBEq, Nat.reduceEqDiff, Nat.reduceLT, Nat.reduceLeDiff, Nat.reduceMul, Int.reduceToNat, reduceCtorEq, ↓reduceIte, Tryd.ntmps22, Tryd.results22, ks_22, mu_22, ti_ag9, ti_hb41, ti_sb48, ti_sl48, strRow, hx, t1, t2]) | (refine AWp_condC rfl ?_; intro KA KB hKA hKB; try simp only [onB_true, onB_false, onB_dec, onB_ndec, onB_not, onB_and, onB_or]) | (refine AWp_condA rfl ?_ ?_) | with_reducible (first | refine onB_of ?_ ?_ | rfl) | omega)
      all_goals first
        | omega
        | exact ⟨i + 1, ⟨by omega, hv⟩, by omega, by omega⟩
    | false =>
      rw [hd] at hh hv
      rw [Bool.false_and] at hv
      repeat' (first | with_reducible (first | refine And.intro ?_ ?_ | intro _ | refine AWp_seq ?_ | refine AWp_block ?_ | (refine hKv _ _ (AWp_nop ?_); clear hKv Kv) | (refine hKA ?_; clear hKA hKB KA KB) | (refine hKB ?_; clear hKA hKB KA KB) | refine AWp_skipN ?_ | refine AWp_exitO (by repeat (first | exact Out.hit | apply Out.thenA | apply Out.out rfl)) ?_) | ((first | with_reducible (first | (refine hKv _ _ ?_; clear hKv Kv) | ((first | refine AWp_regC mu_22 ks_22 ?_ | refine AWp_regE mu_22 ks_22 ?_); intro Kv hKv) | refine AWp_retR ?_) | refine hh _ _ ?_); try simp (dsimp := false) only [go_sem, Nat.reduceAdd, Nat.reduceBEq, Nat.reduceEqDiff, Nat.reduceLT, Nat.reduceLeDiff, Nat.reduceMul, Int.reduceToNat, reduceCtorEq, ↓reduceIte, Tryd.ntmps22, Tryd.results22, ks_22, mu_22, ti_ag9, ti_hb41, ti_sb48, ti_sl48, strRow, hx, t1, t2]) | (refine AWp_condC rfl ?_; intro KA KB hKA hKB; try simp only [onB_true, onB_false, onB_dec, onB_ndec, onB_not, onB_and, onB_or]) | (refine AWp_condA rfl ?_ ?_) | with_reducible (first | refine onB_of ?_ ?_ | rfl) | omega)
      all_goals first
        | omega
        | exact keepD hk (by rw [hv])
  · have t1 : ((i : Int) < (l.length : Int)) = False := eq_false (by omega)
    rw [List.drop_eq_nil_of_le (by omega)] at hv
    repeat' (first | with_reducible (first | refine And.intro ?_ ?_ | intro _ | refine AWp_seq ?_ | refine AWp_block ?_ | (refine hKv _ _ (AWp_nop ?_); clear hKv Kv) | (refine hKA ?_; clear hKA hKB KA KB) | (refine hKB ?_; clear hKA hKB KA KB) | refine AWp_skipN ?_ | refine AWp_exitO (by repeat (first | exact Out.hit | apply Out.thenA | apply Out.out rfl)) ?_) | (with_reducible (first | (refine hKv _ _ ?_; clear hKv Kv) | ((first | refine AWp_regC mu_22 ks_22 ?_ | refine AWp_regE mu_22 ks_22 ?_); intro Kv hKv) | refine AWp_retR ?_); try simp (dsimp := false) only [go_sem, Nat.reduceAdd, Nat.reduceBEq, Nat.reduceEqDiff, Nat.reduceLT, Nat.reduceLeDiff, Nat.reduceMul, Int.reduceToNat, reduceCtorEq, ↓reduceIte, Tryd.ntmps22, Tryd.results22, ks_22, mu_22, ti_ag9, ti_hb41, ti_sb48, ti_sl48, t1]) | (refine AWp_condC rfl ?_; intro KA KB hKA hKB; try simp only [onB_true, onB_false, onB_dec, onB_ndec, onB_not, onB_and, onB_or]) | (refine AWp_condA rfl ?_ ?_) | with_reducible (first | refine onB_of ?_ ?_ | rfl) | omega)
    all_goals first
      | omega
      | exact keepD hk (by rw [← hv]; rfl)
def opC2 (o : Opp) (a b : List (List UInt8)) : List (List UInt8) := if o.kind = 13 then [sIter, sItem] else (opCols o a b).2
end Go.Proofs.YtppalmoicjogaaaDoor
namespace Go.Proofs.YtppalmoicjogaaaDoor
open Go Go.Proofs.YtppalmoicjogaaaDoor.Ab
variable [Glo] [U8]
set_option maxHeartbeats 4000000
set_option maxRecDepth 20000
def ks_19 : Nat → List Nat
  | 0 => [1, 2, 3]
  | 1 => [1, 2, 3, 8]
  | 2 => [1, 2, 3, 8, 18]
  | 3 => [1, 2, 3, 8, 18, 19]
  | 4 => [3, 9]
  | 5 => [3, 9, 25]
  | 6 => [6, 7]
  | 7 => [3, 10]
  | 8 => [3, 10, 32]
  | 9 => [3, 10]
  | 10 => [3, 10, 11]
  | 11 => [3, 10, 11, 43]
  | 12 => [3, 10, 11]
  | 13 => [3, 10, 11, 56]
  | 14 => [6, 7]
  | 15 => [6, 7]
  | 16 => [1, 2, 3, 8, 18, 60]
  | 17 => [3, 73]
  | 18 => [6, 7]
  | 19 => [6, 7]
  | 20 => [1, 2, 3, 8, 18, 76]
  | 21 => [1, 86]
  | 22 => [6, 7]
  | 23 => [6, 7]
  | 24 => [1, 2, 3, 8, 18, 88]
  | 25 => [1, 2, 109]
  | 26 => [6, 7]
  | 27 => [6, 7]
  | 28 => [1, 2, 3, 8, 18, 114]
  | 29 => [6, 7]
  | 30 => [1, 2, 3, 8, 18, 120]
  | 31 => [1, 2, 126]
  | 32 => [6, 7]
  | 33 => [1, 2, 12]
  | 34 => [1, 2, 12, 130]
  | 35 => [1, 2, 12]
  | 36 => [1, 2, 12, 141]
  | 37 => [6, 7]
  | 38 => [6, 7]
  | 39 => [1, 2, 3, 8, 18, 143]
  | 40 => [1, 156]
  | 41 => [6, 7]
  | 42 => [6, 7]
  | 43 => [1, 2, 3, 8, 18, 158]
  | 44 => [1, 2, 3, 8, 18, 158]
  | 45 => [1, 165]
  | 46 => [6, 7]
  | 47 => [6, 7]
  | 48 => [1, 2, 3, 8, 18, 167]
  | 49 => [1, 3, 185]
  | 50 => [6, 7]
  | 51 => [6, 7]
  | 52 => [1, 2, 3, 8, 18, 192]
  | 53 => [1, 3, 8, 198]
  | 54 => [6, 7]
  | 55 => [3, 216]
  | 56 => [6, 7]
  | 57 => [6, 7]
  | 58 => [1, 2, 3, 8, 18, 222]
  | 59 => [1, 3, 8, 227]
  | 60 => [6, 7]
  | 61 => [1, 3, 239]
  | 62 => [6, 7]
  | 63 => [6, 7]
  | 64 => [1, 2, 3, 18, 246]
  | 65 => [1, 253]
  | 66 => [6, 7]
  | 67 => [257]
  | 68 => [6, 7]
  | 69 => [6, 7]
  | 70 => [1, 2, 3, 259]
  | 71 => [1, 2, 13]
  | 72 => [13, 278]
  | 73 => [13]
  | 74 => [6, 7]
  | 75 => [6, 7]
  | _ => []
def mu_19 : List Nat := []
def in_19 : List Nat := [0, 1, 2]
def nd_19 : Nat → Nat
  | 36 => 8
  | _ => 0
end Go.Proofs.YtppalmoicjogaaaDoor
namespace Go.Proofs.YtppalmoicjogaaaDoor
open Go Go.Proofs.YtppalmoicjogaaaDoor.Ab
variable [Glo] [U8]
set_option maxHeartbeats 4000000
set_option maxRecDepth 20000
theorem opCols2_A (o : Opp) (ok : OkO o) (hkind : o.kind = 2) (a b : List (List UInt8)) (ha : OkC a) (hb : OkC b) (H : Heap) (K : V → Heap → Prop) (hk : K (.tu [.d (.sl 1 ((opC2 o a b).map strRow)), .d (.i .i64 (opCols o a b).1)]) H) :
    ACalls Tryd.prog 19 [opV o, .d (.sl 1 (a.map strRow)), .d (.sl 1 (b.map strRow))] H K := by
  rw [opV_k hkind]
  replace hk : ∀ c, c = opC2 o a b → K (.tu [.d (.sl 1 (c.map strRow)), .d (.i .i64 (opCols o a b).1)]) H := fun c hc => by rw [hc]; exact hk
  have hl8a := ha.le8
  have hl8b := hb.le8
  have hn1 := ok.ncols
  have hn2 := ok.nolds
  have hh := allThere_A a o.olds ha.len (by omega)
  by_cases h1 : o.cols.length = o.olds.length
  · have i1 : ((o.cols.length : Int) = (o.olds.length : Int)) = True := eq_true (by omega)
    cases h2 : hasQ a o.olds with
    | true =>
      rw [h2] at hh
      have e : opCols o a b = (0, o.cols) := by rw [opCols]; simp [okC, hkind, h1, h2]
      replace hk := hk (o.cols) (by rw [opC2, if_neg (by rw [hkind]; decide), e])
      rw [e] at hk
      refine ACalls_of Tryd.func19 rfl in_19 (Nat.le_of_ble_eq_true rfl) ?_
      intro F hF
      simp (dsimp := false) only [go_sem, Nat.reduceAdd, Nat.reduceBEq, Nat.reduceEqDiff, Nat.reduceLT, Nat.reduceLeDiff, Nat.reduceMul, Int.reduceToNat, reduceCtorEq, ↓reduceIte, Tryd.ntmps19, Tryd.results19, ks_19, mu_19, nd_19, ti_ag3, ti_ag9, ti_ag33, ti_ag48, ti_ag49, ti_ag51, ti_ag78, ti_fl31_0, ti_fl51_0, ti_fl51_1, ti_fl53_0, ti_fl53_2, ti_fl53_3, ti_fl53_4, ti_fl53_5, ti_fl53_6, ti_fl53_7, ti_fl53_8, ti_fl53_9, ti_fl53_10, ti_hb21, ti_hb22, ti_hb40, ti_hb41, ti_hb42, ti_hb43, ti_hb44, ti_sb48, ti_sb49, ti_sb78, ti_sl24, ti_sl48, ti_sl49, ti_sl78, ti_sz33, ti_sz51, strRow, List.map_cons, List.map_nil, not_true_eq_false, not_false_eq_true, Bool.and_true, Bool.true_and, Bool.false_and, Bool.and_false, Bool.false_or, Bool.or_false, Bool.true_beq, Bool.false_beq, Int.reduceEq, Int.reduceLT, Int.reduceLE, i1, in_19] at hF
      subst hF
      repeat' (first | with_reducible (first | refine And.intro ?_ ?_ | intro _ | refine AWp_seq ?_ | refine AWp_block ?_ | (refine hKv _ _ (AWp_nop ?_); clear hKv Kv) | (refine hKA ?_; clear hKA hKB KA KB) | (refine hKB ?_; clear hKA hKB KA KB) | refine AWp_skipN ?_ | refine AWp_exitO (by repeat (first | exact Out.hit | apply Out.thenA | apply Out.out rfl)) ?_) | ((first | with_reducible (first | (refine hKv _ _ ?_; clear hKv Kv) | ((first | refine AWp_regC mu_19 ks_19 ?_ | refine AWp_draw nd_19 mu_19 ks_19 ti_mixed (by kernel_rfl) ?_ | refine AWp_regE mu_19 ks_19 ?_ | refine AWp_drawE nd_19 mu_19 ks_19 ti_mixed (by kernel_rfl) ?_); intro Kv hKv) | refine AWp_retR ?_) | refine hh _ _ ?_ | refine QCall_of (hh _ _ (Two_intro _ _)) ?_); try simp (dsimp := false) only [go_sem, Nat.reduceAdd, Nat.reduceBEq, Nat.reduceEqDiff, Nat.reduceLT, Nat.reduceLeDiff, Nat.reduceMul, Int.reduceToNat, reduceCtorEq, ↓reduceIte, Tryd.ntmps19, Tryd.results19, ks_19, mu_19, nd_19, ti_ag3, ti_ag9, ti_ag33, ti_ag48, ti_ag49, ti_ag51, ti_ag78, ti_fl31_0, ti_fl51_0, ti_fl51_1, ti_fl53_0, ti_fl53_2, ti_fl53_3, ti_fl53_4, ti_fl53_5, ti_fl53_6, ti_fl53_7, ti_fl53_8, ti_fl53_9, ti_fl53_10, ti_hb21, ti_hb22, ti_hb40, ti_hb41, ti_hb42, ti_hb43, ti_hb44, ti_sb48, ti_sb49, ti_sb78, ti_sl24, ti_sl48, ti_sl49, ti_sl78, ti_sz33, ti_sz51, strRow, List.map_cons, List.map_nil, not_true_eq_false, not_false_eq_true, Bool.and_true, Bool.true_and, Bool.false_and, Bool.and_false, Bool.false_or, Bool.or_false, Bool.true_beq, Bool.false_beq, Int.reduceEq, Int.reduceLT, Int.reduceLE, i1]) | (refine AWp_condC rfl ?_; intro KA KB hKA hKB; try simp only [onB_true, onB_false, onB_dec, onB_ndec, onB_not, onB_and, onB_or]) | (refine AWp_condA rfl ?_ ?_) | with_reducible (first | refine onB_of ?_ ?_ | rfl) | omega)
      all_goals first
        | omega
        | exact keepK hk (by simp [Bel_tu, Bel_d]) rfl
        | exact keepD hk rfl
    | false =>
      rw [h2] at hh
      have e : opCols o a b = (9, []) := by rw [opCols]; simp [okC, hkind, h1, h2]
      replace hk := hk [] (by rw [opC2, if_neg (by rw [hkind]; decide), e])
      rw [e, List.map_nil] at hk
      refine ACalls_of Tryd.func19 rfl in_19 (Nat.le_of_ble_eq_true rfl) ?_
      intro F hF
      simp (dsimp := false) only [go_sem, Nat.reduceAdd, Nat.reduceBEq, Nat.reduceEqDiff, Nat.reduceLT, Nat.reduceLeDiff, Nat.reduceMul, Int.reduceToNat, reduceCtorEq, ↓reduceIte, Tryd.ntmps19, Tryd.results19, ks_19, mu_19, nd_19, ti_ag3, ti_ag9, ti_ag33, ti_ag48, ti_ag49, ti_ag51, ti_ag78, ti_fl31_0, ti_fl51_0, ti_fl51_1, ti_fl53_0, ti_fl53_2, ti_fl53_3, ti_fl53_4, ti_fl53_5, ti_fl53_6, ti_fl53_7, ti_fl53_8, ti_fl53_9, ti_fl53_10, ti_hb21, ti_hb22, ti_hb40, ti_hb41, ti_hb42, ti_hb43, ti_hb44, ti_sb48, ti_sb49, ti_sb78, ti_sl24, ti_sl48, ti_sl49, ti_sl78, ti_sz33, ti_sz51, strRow, List.map_cons, List.map_nil, not_true_eq_false, not_false_eq_true, Bool.and_true, Bool.true_and, Bool.false_and, Bool.and_false, Bool.false_or, Bool.or_false, Bool.true_beq, Bool.false_beq, Int.reduceEq, Int.reduceLT, Int.reduceLE, i1, in_19] at hF
      subst hF
      repeat' (first | with_reducible (first | refine And.intro ?_ ?_ | intro _ | refine AWp_seq ?_ | refine AWp_block ?_ | (refine hKv _ _ (AWp_nop ?_); clear hKv Kv) | (refine hKA ?_; clear hKA hKB KA KB) | (refine hKB ?_; clear hKA hKB KA KB) | refine AWp_skipN ?_ | refine AWp_exitO (by repeat (first | exact Out.hit | apply Out.thenA | apply Out.out rfl)) ?_) | ((first | with_reducible (first | (refine hKv _ _ ?_; clear hKv Kv) | ((first | refine AWp_regC mu_19 ks_19 ?_ | refine AWp_draw nd_19 mu_19 ks_19 ti_mixed (by kernel_rfl) ?_ | refine AWp_regE mu_19 ks_19 ?_ | refine AWp_drawE nd_19 mu_19 ks_19 ti_mixed (by kernel_rfl) ?_); intro Kv hKv) | refine AWp_retR ?_) | refine hh _ _ ?_ | refine QCall_of (hh _ _ (Two_intro _ _)) ?_); try simp (dsimp := false) only [go_sem, Nat.reduceAdd, Nat.reduceBEq, Nat.reduceEqDiff, Nat.reduceLT, Nat.reduceLeDiff, Nat.reduceMul, Int.reduceToNat, reduceCtorEq, ↓reduceIte, Tryd.ntmps19, Tryd.results19, ks_19, mu_19, nd_19, ti_ag3, ti_ag9, ti_ag33, ti_ag48, ti_ag49, ti_ag51, ti_ag78, ti_fl31_0, ti_fl51_0, ti_fl51_1, ti_fl53_0, ti_fl53_2, ti_fl53_3, ti_fl53_4, ti_fl53_5, ti_fl53_6, ti_fl53_7, ti_fl53_8, ti_fl53_9, ti_fl53_10, ti_hb21, ti_hb22, ti_hb40, ti_hb41, ti_hb42, ti_hb43, ti_hb44, ti_sb48, ti_sb49, ti_sb78, ti_sl24, ti_sl48, ti_sl49, ti_sl78, ti_sz33, ti_sz51, strRow, List.map_cons, List.map_nil, not_true_eq_false, not_false_eq_true, Bool.and_true, Bool.true_and, Bool.false_and, Bool.and_false, Bool.false_or, Bool.or_false, Bool.true_beq, Bool.false_beq, Int.reduceEq, Int.reduceLT, Int.reduceLE, i1]) | (refine AWp_condC rfl ?_; intro KA KB hKA hKB; try simp only [onB_true, onB_false, onB_dec, onB_ndec, onB_not, onB_and, onB_or]) | (refine AWp_condA rfl ?_ ?_) | with_reducible (first | refine onB_of ?_ ?_ | rfl) | omega)
      all_goals first
        | omega
        | exact keepFz hk (Fz_tu2 (.nil _) (.same _)) (by simp [Bel_tu, Bel_d])
        | exact keepD hk rfl
  · have i1 : ((o.cols.length : Int) = (o.olds.length : Int)) = False := eq_false (by omega)
    have e : opCols o a b = (9, []) := by rw [opCols]; simp [okC, hkind, h1]
    replace hk := hk [] (by rw [opC2, if_neg (by rw [hkind]; decide), e])
    rw [e, List.map_nil] at hk
    refine ACalls_of Tryd.func19 rfl in_19 (Nat.le_of_ble_eq_true rfl) ?_
    intro F hF
    simp (dsimp := false) only [go_sem, Nat.reduceAdd, Nat.reduceBEq, Nat.reduceEqDiff, Nat.reduceLT, Nat.reduceLeDiff, Nat.reduceMul, Int.reduceToNat, reduceCtorEq, ↓reduceIte, Tryd.ntmps19, Tryd.results19, ks_19, mu_19, nd_19, ti_ag3, ti_ag9, ti_ag33, ti_ag48, ti_ag49, ti_ag51, ti_ag78, ti_fl31_0, ti_fl51_0, ti_fl51_1, ti_fl53_0, ti_fl53_2, ti_fl53_3, ti_fl53_4, ti_fl53_5, ti_fl53_6, ti_fl53_7, ti_fl53_8, ti_fl53_9, ti_fl53_10, ti_hb21, ti_hb22, ti_hb40, ti_hb41, ti_hb42, ti_hb43, ti_hb44, ti_sb48, ti_sb49, ti_sb78, ti_sl24, ti_sl48, ti_sl49, ti_sl78, ti_sz33, ti_sz51, strRow, List.map_cons, List.map_nil, not_true_eq_false, not_false_eq_true, Bool.and_true, Bool.true_and, Bool.false_and, Bool.and_false, Bool.false_or, Bool.or_false, Bool.true_beq, Bool.false_beq, Int.reduceEq, Int.reduceLT, Int.reduceLE, i1, in_19] at hF
    subst hF
    repeat' (first | with_reducible (first | refine And.intro ?_ ?_ | intro _ | refine AWp_seq ?_ | refine AWp_block ?_ | (refine hKv _ _ (AWp_nop ?_); clear hKv Kv) | (refine hKA ?_; clear hKA hKB KA KB) | (refine hKB ?_; clear hKA hKB KA KB) | refine AWp_skipN ?_ | refine AWp_exitO (by repeat (first | exact Out.hit | apply Out.thenA | apply Out.out rfl)) ?_) | (with_reducible (first | (refine hKv _ _ ?_; clear hKv Kv) | ((first | refine AWp_regC mu_19 ks_19 ?_ | refine AWp_draw nd_19 mu_19 ks_19 ti_mixed (by kernel_rfl) ?_ | refine AWp_regE mu_19 ks_19 ?_ | refine AWp_drawE nd_19 mu_19 ks_19 ti_mixed (by kernel_rfl) ?_); intro Kv hKv) | refine AWp_retR ?_); try simp (dsimp := false) only [go_sem, Nat.reduceAdd, Nat.reduceBEq, Nat.reduceEqDiff, Nat.reduceLT, Nat.reduceLeDiff, Nat.reduceMul, Int.reduceToNat, reduceCtorEq, ↓reduceIte, Tryd.ntmps19, Tryd.results19, ks_19, mu_19, nd_19, ti_ag3, ti_ag9, ti_ag33, ti_ag48, ti_ag49, ti_ag51, ti_ag78, ti_fl31_0, ti_fl51_0, ti_fl51_1, ti_fl53_0, ti_fl53_2, ti_fl53_3, ti_fl53_4, ti_fl53_5, ti_fl53_6, ti_fl53_7, ti_fl53_8, ti_fl53_9, ti_fl53_10, ti_hb21, ti_hb22, ti_hb40, ti_hb41, ti_hb42, ti_hb43, ti_hb44, ti_sb48, ti_sb49, ti_sb78, ti_sl24, ti_sl48, ti_sl49, ti_sl78, ti_sz33, ti_sz51, strRow, List.map_cons, List.map_nil, not_true_eq_false, not_false_eq_true, Bool.and_true, Bool.true_and, Bool.false_and, Bool.and_false, Bool.false_or, Bool.or_false, Bool.true_beq, Bool.false_beq, Int.reduceEq, Int.reduceLT, Int.reduceLE, i1]) | (refine AWp_condC rfl ?_; intro KA KB hKA hKB; try simp only [onB_true, onB_false, onB_dec, onB_ndec, onB_not, onB_and, onB_or]) | (refine AWp_condA rfl ?_ ?_) | with_reducible (first | refine onB_of ?_ ?_ | rfl) | omega)
    all_goals first
      | omega
      | exact keepFz hk (Fz_tu2 (.nil _) (.same _)) (by simp [Bel_tu, Bel_d])
      | exact keepD hk rfl
end Go.Proofs.YtppalmoicjogaaaDoor
