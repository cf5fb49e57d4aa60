/- Rows of two relations side by side: what the program and the reference make. No condition but that the tables of package unicode/utf8 are there. -/
import Derived.Test.YtohonoiojabjaaaDoorPj2
set_option linter.all false
set_option linter.unusedSimpArgs false
set_option linter.unusedVariables false
namespace Go.Proofs.YtohonoiojabjaaaDoor
open Go Go.Proofs.YtohonoiojabjaaaDoor.Ab
variable [Glo] [U8]
set_option maxHeartbeats 4000000
set_option maxRecDepth 20000
theorem quo_gt {m n : Nat} (h : 0 < m) : ((1000000 : Int).tdiv m < n) ↔ 1000000 < m * n := by
  have e : (1000000 : Int).tdiv (m : Int) = ((1000000 / m : Nat) : Int) := by
    rw [Int.tdiv_eq_ediv_of_nonneg (by omega)]
    rfl
  rw [e, Int.ofNat_lt, Nat.div_lt_iff_lt_mul h, Nat.mul_comm]
theorem quo_bd (m : Nat) : 0 ≤ (1000000 : Int).tdiv m ∧ (1000000 : Int).tdiv m ≤ 1000000 := by
  have e : (1000000 : Int).tdiv (m : Int) = ((1000000 / m : Nat) : Int) := by
    rw [Int.tdiv_eq_ediv_of_nonneg (by omega)]
    rfl
  have := Nat.div_le_self 1000000 m
  rw [e]
  exact ⟨Int.natCast_nonneg _, Int.ofNat_le.2 this⟩
/-- The rows that are there behind i rows of the first and, of the next, j of the second. -/
def crAcc (a b : Rl) (i : Nat) (x : List It) (j : Nat) : List (List It) := ((a.rows.take i).flatMap fun x => b.rows.map fun y => x ++ y) ++ (b.rows.take j).map fun y => x ++ y
theorem crAcc_next {a b : Rl} {i j : Nat} {x y : List It} (h : b.rows[j]? = some y) : crAcc a b i x (j + 1) = crAcc a b i x j ++ [x ++ y] := by
  unfold crAcc
  rw [take_of_get h, List.map_append, List.append_assoc]
  rfl
theorem crAcc_row {a b : Rl} {i : Nat} {x y : List It} (h : a.rows[i]? = some x) : crAcc a b i x b.rows.length = crAcc a b (i + 1) y 0 := by
  unfold crAcc
  rw [take_of_get h, List.flatMap_append, List.take_length]
  simp
theorem crAcc_len (a b : Rl) {i : Nat} (x : List It) {j : Nat} (hi : i ≤ a.rows.length) (hj : j ≤ b.rows.length) : (crAcc a b i x j).length = i * b.rows.length + j := by
  have h : ∀ l : List (List It), (l.flatMap fun x => b.rows.map fun y => x ++ y).length = l.length * b.rows.length := fun l => by
    induction l with
    | nil => simp
    | cons x l ih => rw [List.flatMap_cons, List.length_append, ih, List.length_map, List.length_cons, Nat.add_mul, Nat.one_mul, Nat.add_comm]
  unfold crAcc
  rw [List.length_append, h, List.length_map, List.length_take, List.length_take, Nat.min_eq_left hi, Nat.min_eq_left hj]
theorem crAcc_end (a b : Rl) (x : List It) : crAcc a b a.rows.length x 0 = crossRows a b := by
  unfold crAcc crossRows
  rw [List.take_length]
  simp
theorem crAcc_le {a b : Rl} {i : Nat} (x : List It) {j : Nat} (hi : i < a.rows.length) (hj : j ≤ b.rows.length) (hp : a.rows.length * b.rows.length ≤ 1000000) : (crAcc a b i x j).length ≤ 1000000 := by
  rw [crAcc_len a b x (by omega) hj]
  have : (i + 1) * b.rows.length ≤ a.rows.length * b.rows.length := Nat.mul_le_mul_right _ hi
  rw [Nat.add_mul, Nat.one_mul] at this
  omega
theorem colsFault_len {l : List (List UInt8)} (h : colsFault l = 0) : l.length ≤ 8 := by
  unfold colsFault at h
  split at h
  · assumption
  · omega
theorem two_ok {a b : Rl} (h : twoFault a b = 0) : relFault a = 0 ∧ relFault b = 0 := by
  unfold twoFault at h
  split at h
  · exact ⟨by assumption, h⟩
  · contradiction
theorem crossed_made {a b : Rl} (hf : twoFault a b = 0) (hp : a.rows.length * b.rows.length ≤ 1000000) : crossed a b = (made (a.cols ++ b.cols) (crossRows a b), madeFault (a.cols ++ b.cols) (crossRows a b).length) := by
  rw [crossed, if_pos hf, made, madeFault]
  have := crossRows_len a b
  by_cases hc : colsFault (a.cols ++ b.cols) = 0
  · rw [if_pos hc, if_pos hc, if_pos hp, if_pos (by omega), if_pos (by omega)]
  · rw [if_neg hc, if_neg hc, if_neg hc]

/- the live slots of pleacher/rel.Cross -/
def ks_14 : Nat → List Nat
  | 0 => [2, 3, 4]
  | 1 => [2, 3, 4, 6]
  | 2 => [2, 3, 4, 6, 17]
  | 3 => [4, 5]
  | 4 => [2, 3, 4, 33]
  | 5 => [4, 7]
  | 6 => [4, 7, 42]
  | 7 => [4, 5]
  | 8 => [4, 5]
  | 9 => [2, 3, 4, 8]
  | 10 => [2, 3, 4, 8, 47, 48, 49]
  | 11 => [2, 3, 4, 8, 47, 48, 49, 50]
  | 12 => [2, 3, 4, 8, 10, 47, 48, 49]
  | 13 => [2, 3, 4, 8, 10, 47, 48, 49, 54, 55, 56]
  | 14 => [2, 3, 4, 8, 10, 47, 48, 49, 54, 55, 56, 57]
  | 15 => [2, 3, 4, 8, 10, 12, 47, 48, 49, 54, 55, 56]
  | 16 => [2, 3, 4, 8, 10, 47, 48, 49, 54, 55, 56]
  | 17 => [2, 3, 4, 8, 10, 47, 48, 49, 54, 55, 56]
  | 18 => [2, 3, 4, 8, 47, 48, 49]
  | 19 => [4, 5]
  | _ => []
def mu_14 : List Nat := [8]
def in_14 : List Nat := [0, 1]
def nd_14 : Nat → Nat
  | 4 => 13
  | _ => 0
theorem cross_A (a b : Rl) (hA : ShR a) (hB : ShR b) (H : Heap) (K : V → Heap → Prop) (hk : K (relE (crossed a b).1 (crossed a b).2) H) : ACalls Tryd.prog 14 [rlV a, rlV b] H K := by
  have q1 := hA.ncols
  have q2 := hA.nrows
  have q3 := hB.ncols
  have q4 := hB.nrows
  by_cases hf : twoFault a b = 0
  · obtain ⟨ha, hb⟩ := two_ok hf
    have c1 := colsFault_len (relFault_ok ha).1
    have c2 := colsFault_len (relFault_ok hb).1
    have hcs : ∀ s, s ∈ a.cols ++ b.cols → s.length ≤ 1048576 := fun s h => by
      rcases List.mem_append.1 h with h | h
      · exact hA.col s h
      · exact hB.col s h
    have hcs' : ∀ s, s ∈ a.cols ++ b.cols → s.length ≤ 9223372036854775807 := fun s h => by have := hcs s h; omega
    obtain ⟨u1, u2⟩ := quo_bd a.rows.length
    have hcl : (a.cols ++ b.cols).length ≤ 16 := by rw [List.length_append]; omega
    
    refine ACalls_of Tryd.func14 rfl in_14 (Nat.le_of_ble_eq_true rfl) ?_
    intro F hF
    simp (dsimp := false) only [go_sem, Nat.reduceAdd, Nat.reduceBEq, Nat.reduceEqDiff, Nat.reduceLT, Nat.reduceLeDiff, Nat.reduceMul, Int.reduceToNat, reduceCtorEq, ↓reduceIte, Tryd.ntmps14, Tryd.results14, ks_14, mu_14, nd_14, ti_ag29, ti_ag30, ti_ag32, ti_ag55, ti_fl32_0, ti_fl32_1, ti_hb33, ti_hb34, ti_hb35, ti_hb36, ti_hb37, ti_pl32, ti_sb30, ti_sl30, ti_sl87, ti_sz32, ti_zr32, itD, itV, rlV, rowD, rlD, hf, in_14] at hF
    subst hF
    repeat' (first
      | with_reducible refine And.intro ?_ ?_
      | with_reducible intro _
      | with_reducible refine AWp_seq ?_
      | with_reducible refine AWp_block ?_
      | (with_reducible refine hKv _ _ (AWp_nop ?_); clear hKv Kv)
      | (with_reducible refine hKv _ _ ?_; clear hKv Kv; simp (dsimp := false) only [go_sem, Nat.reduceAdd, Nat.reduceBEq, Nat.reduceEqDiff, Nat.reduceLT, Nat.reduceLeDiff, Nat.reduceMul, Int.reduceToNat, reduceCtorEq, ↓reduceIte, Tryd.ntmps14, Tryd.results14, ks_14, mu_14, nd_14, ti_ag29, ti_ag30, ti_ag32, ti_ag55, ti_fl32_0, ti_fl32_1, ti_hb33, ti_hb34, ti_hb35, ti_hb36, ti_hb37, ti_pl32, ti_sb30, ti_sl30, ti_sl87, ti_sz32, ti_zr32, itD, itV, rlV, rowD, rlD, hf])
      | (with_reducible refine hKA ?_; clear hKA hKB KA KB)
      | (with_reducible refine hKB ?_; clear hKA hKB KA KB)
      | (with_reducible refine AWp_regC mu_14 ks_14 ?_; intro Kv hKv; simp (dsimp := false) only [go_sem, Nat.reduceAdd, Nat.reduceBEq, Nat.reduceEqDiff, Nat.reduceLT, Nat.reduceLeDiff, Nat.reduceMul, Int.reduceToNat, reduceCtorEq, ↓reduceIte, Tryd.ntmps14, Tryd.results14, ks_14, mu_14, nd_14, ti_ag29, ti_ag30, ti_ag32, ti_ag55, ti_fl32_0, ti_fl32_1, ti_hb33, ti_hb34, ti_hb35, ti_hb36, ti_hb37, ti_pl32, ti_sb30, ti_sl30, ti_sl87, ti_sz32, ti_zr32, itD, itV, rlV, rowD, rlD, hf])
      | (with_reducible refine AWp_draw nd_14 mu_14 ks_14 ti_mixed (by kernel_rfl) ?_; intro Kv hKv; simp (dsimp := false) only [go_sem, Nat.reduceAdd, Nat.reduceBEq, Nat.reduceEqDiff, Nat.reduceLT, Nat.reduceLeDiff, Nat.reduceMul, Int.reduceToNat, reduceCtorEq, ↓reduceIte, Tryd.ntmps14, Tryd.results14, ks_14, mu_14, nd_14, ti_ag29, ti_ag30, ti_ag32, ti_ag55, ti_fl32_0, ti_fl32_1, ti_hb33, ti_hb34, ti_hb35, ti_hb36, ti_hb37, ti_pl32, ti_sb30, ti_sl30, ti_sl87, ti_sz32, ti_zr32, itD, itV, rlV, rowD, rlD, hf])
      | with_reducible refine AWp_skipN ?_
      | with_reducible refine AWp_exitO (by repeat (first | with_reducible exact Out.hit | with_reducible apply Out.thenA | with_reducible apply Out.out rfl)) ?_
      | (with_reducible refine AWp_retR ?_; simp (dsimp := false) only [go_sem, Nat.reduceAdd, Nat.reduceBEq, Nat.reduceEqDiff, Nat.reduceLT, Nat.reduceLeDiff, Nat.reduceMul, Int.reduceToNat, reduceCtorEq, ↓reduceIte, Tryd.ntmps14, Tryd.results14, ks_14, mu_14, nd_14, ti_ag29, ti_ag30, ti_ag32, ti_ag55, ti_fl32_0, ti_fl32_1, ti_hb33, ti_hb34, ti_hb35, ti_hb36, ti_hb37, ti_pl32, ti_sb30, ti_sl30, ti_sl87, ti_sz32, ti_zr32, itD, itV, rlV, rowD, rlD, hf])
      | (with_reducible refine AWp_regE mu_14 ks_14 ?_; intro Kv hKv; simp (dsimp := false) only [go_sem, Nat.reduceAdd, Nat.reduceBEq, Nat.reduceEqDiff, Nat.reduceLT, Nat.reduceLeDiff, Nat.reduceMul, Int.reduceToNat, reduceCtorEq, ↓reduceIte, Tryd.ntmps14, Tryd.results14, ks_14, mu_14, nd_14, ti_ag29, ti_ag30, ti_ag32, ti_ag55, ti_fl32_0, ti_fl32_1, ti_hb33, ti_hb34, ti_hb35, ti_hb36, ti_hb37, ti_pl32, ti_sb30, ti_sl30, ti_sl87, ti_sz32, ti_zr32, itD, itV, rlV, rowD, rlD, hf])
      | (with_reducible refine AWp_drawE nd_14 mu_14 ks_14 ti_mixed (by kernel_rfl) ?_; intro Kv hKv; simp (dsimp := false) only [go_sem, Nat.reduceAdd, Nat.reduceBEq, Nat.reduceEqDiff, Nat.reduceLT, Nat.reduceLeDiff, Nat.reduceMul, Int.reduceToNat, reduceCtorEq, ↓reduceIte, Tryd.ntmps14, Tryd.results14, ks_14, mu_14, nd_14, ti_ag29, ti_ag30, ti_ag32, ti_ag55, ti_fl32_0, ti_fl32_1, ti_hb33, ti_hb34, ti_hb35, ti_hb36, ti_hb37, ti_pl32, ti_sb30, ti_sl30, ti_sl87, ti_sz32, ti_zr32, itD, itV, rlV, rowD, rlD, hf])
      | (refine AWp_condC rfl ?_; intro KA KB hKA hKB; try simp only [onB_true, onB_false, onB_dec, onB_ndec, onB_not, onB_and, onB_or])
      | (refine AWp_condA rfl ?_ ?_)
      | (refine both_A a b hA hB _ _ ?_; try simp (dsimp := false) only [go_sem, Nat.reduceAdd, Nat.reduceBEq, Nat.reduceEqDiff, Nat.reduceLT, Nat.reduceLeDiff, Nat.reduceMul, Int.reduceToNat, reduceCtorEq, ↓reduceIte, Tryd.ntmps14, Tryd.results14, ks_14, mu_14, nd_14, ti_ag29, ti_ag30, ti_ag32, ti_ag55, ti_fl32_0, ti_fl32_1, ti_hb33, ti_hb34, ti_hb35, ti_hb36, ti_hb37, ti_pl32, ti_sb30, ti_sl30, ti_sl87, ti_sz32, ti_zr32, itD, itV, rlV, rowD, rlD, hf])
      | (refine QCall_of (both_A a b hA hB _ _ (Two_intro _ _)) ?_; try simp (dsimp := false) only [go_sem, Nat.reduceAdd, Nat.reduceBEq, Nat.reduceEqDiff, Nat.reduceLT, Nat.reduceLeDiff, Nat.reduceMul, Int.reduceToNat, reduceCtorEq, ↓reduceIte, Tryd.ntmps14, Tryd.results14, ks_14, mu_14, nd_14, ti_ag29, ti_ag30, ti_ag32, ti_ag55, ti_fl32_0, ti_fl32_1, ti_hb33, ti_hb34, ti_hb35, ti_hb36, ti_hb37, ti_pl32, ti_sb30, ti_sl30, ti_sl87, ti_sz32, ti_zr32, itD, itV, rlV, rowD, rlD, hf])
      | (refine cat2Str a.cols b.cols (by omega) _ _ ?_; try simp (dsimp := false) only [go_sem, Nat.reduceAdd, Nat.reduceBEq, Nat.reduceEqDiff, Nat.reduceLT, Nat.reduceLeDiff, Nat.reduceMul, Int.reduceToNat, reduceCtorEq, ↓reduceIte, Tryd.ntmps14, Tryd.results14, ks_14, mu_14, nd_14, ti_ag29, ti_ag30, ti_ag32, ti_ag55, ti_fl32_0, ti_fl32_1, ti_hb33, ti_hb34, ti_hb35, ti_hb36, ti_hb37, ti_pl32, ti_sb30, ti_sl30, ti_sl87, ti_sz32, ti_zr32, itD, itV, rlV, rowD, rlD, hf])
      | (refine QCall_of (cat2Str a.cols b.cols (by omega) _ _ (Two_intro _ _)) ?_; try simp (dsimp := false) only [go_sem, Nat.reduceAdd, Nat.reduceBEq, Nat.reduceEqDiff, Nat.reduceLT, Nat.reduceLeDiff, Nat.reduceMul, Int.reduceToNat, reduceCtorEq, ↓reduceIte, Tryd.ntmps14, Tryd.results14, ks_14, mu_14, nd_14, ti_ag29, ti_ag30, ti_ag32, ti_ag55, ti_fl32_0, ti_fl32_1, ti_hb33, ti_hb34, ti_hb35, ti_hb36, ti_hb37, ti_pl32, ti_sb30, ti_sl30, ti_sl87, ti_sz32, ti_zr32, itD, itV, rlV, rowD, rlD, hf])
      | (refine names_A (a.cols ++ b.cols) (by omega) hcs' _ _ ?_; try simp (dsimp := false) only [go_sem, Nat.reduceAdd, Nat.reduceBEq, Nat.reduceEqDiff, Nat.reduceLT, Nat.reduceLeDiff, Nat.reduceMul, Int.reduceToNat, reduceCtorEq, ↓reduceIte, Tryd.ntmps14, Tryd.results14, ks_14, mu_14, nd_14, ti_ag29, ti_ag30, ti_ag32, ti_ag55, ti_fl32_0, ti_fl32_1, ti_hb33, ti_hb34, ti_hb35, ti_hb36, ti_hb37, ti_pl32, ti_sb30, ti_sl30, ti_sl87, ti_sz32, ti_zr32, itD, itV, rlV, rowD, rlD, hf])
      | (refine QCall_of (names_A (a.cols ++ b.cols) (by omega) hcs' _ _ (Two_intro _ _)) ?_; try simp (dsimp := false) only [go_sem, Nat.reduceAdd, Nat.reduceBEq, Nat.reduceEqDiff, Nat.reduceLT, Nat.reduceLeDiff, Nat.reduceMul, Int.reduceToNat, reduceCtorEq, ↓reduceIte, Tryd.ntmps14, Tryd.results14, ks_14, mu_14, nd_14, ti_ag29, ti_ag30, ti_ag32, ti_ag55, ti_fl32_0, ti_fl32_1, ti_hb33, ti_hb34, ti_hb35, ti_hb36, ti_hb37, ti_pl32, ti_sb30, ti_sl30, ti_sl87, ti_sz32, ti_zr32, itD, itV, rlV, rowD, rlD, hf])
      | with_reducible refine onB_of ?_ ?_
      | with_reducible rfl
      | omega)
    · have hp : ¬ a.rows.length * b.rows.length ≤ 1000000 := by
        have := (quo_gt (n := b.rows.length) (show 0 < a.rows.length by omega)).1 (by assumption)
        omega
      rw [crossed, if_pos hf, if_pos (by assumption), if_neg hp] at hk
      exact dropF hk (fz_rl0 _ _ _) (bel_relE _ _ _)
    · rw [crossed, if_pos hf, if_neg (by assumption)] at hk
      exact dropF hk (fz_rl0 _ _ _) (bel_relE _ _ _)
    all_goals
      have hp : a.rows.length * b.rows.length ≤ 1000000 := by
        rcases Nat.eq_zero_or_pos a.rows.length with h | h
        · rw [h, Nat.zero_mul]; omega
        · have : ¬ 1000000 < a.rows.length * b.rows.length := fun h2 => by
            have := (quo_gt (n := b.rows.length) h).2 h2
            omega
          omega
      rw [crossed_made hf hp] at hk
      rename_i hcmp
      clear hcmp
      refine AWp_whileH (fun y : Nat × Nat => y.2 ≤ a.rows.length)
        (fun y => [(2, .rp (rlD a)), (3, .rp (rlD b)), (4, .pt H.length 0 0 0), (8, .os (H.length + 1) y.1), (47, .d (.sl 1 (a.rows.map rowD))), (48, .d (.i .i64 a.rows.length)), (49, .d (.i .i64 y.2))])
        (fun y => [.row 0 32 2 [[.d (.c (.slice none 0 0)), .d (.c (.slice none 0 0))]], .row y.1 55 1 ((crAcc a b y.2 [] 0).map rowC)]) (fun y => a.rows.length - y.2) (0, 0) (Nat.zero_le _) rfl ?_ ?_ ?_
      · simp (dsimp := false) only [go_sem, Nat.reduceAdd, Nat.reduceBEq, Nat.reduceEqDiff, Nat.reduceLT, Nat.reduceLeDiff, Nat.reduceMul, Int.reduceToNat, reduceCtorEq, ↓reduceIte, Tryd.ntmps14, Tryd.results14, ks_14, mu_14, nd_14, ti_ag29, ti_ag30, ti_ag32, ti_ag55, ti_fl32_0, ti_fl32_1, ti_hb33, ti_hb34, ti_hb35, ti_hb36, ti_hb37, ti_pl32, ti_sb30, ti_sl30, ti_sl87, ti_sz32, ti_zr32, itD, itV, rlV, rowD, rlD, hf]
        first | done | simp
      · rintro ⟨v, i⟩ _ ob hob
        simp only [List.mem_cons, List.not_mem_nil, or_false] at hob
        rcases hob with rfl | rfl
        · exact bel_nil2 _ _ _
        · exact obBel_rows _ _ _ _ _
      rintro ⟨v, i⟩ hi
      simp only [] at hi ⊢
      by_cases hiN : i < a.rows.length
      · obtain ⟨x, hx⟩ : ∃ x, a.rows[i]? = some x := ⟨a.rows[i], List.getElem?_eq_getElem hiN⟩
        have hxl := hA.row x (List.mem_of_getElem? hx)
        
        repeat' (first
          | with_reducible refine And.intro ?_ ?_
          | with_reducible intro _
          | with_reducible refine AWp_seq ?_
          | with_reducible refine AWp_block ?_
          | (with_reducible refine hKv _ _ (AWp_nop ?_); clear hKv Kv)
          | (with_reducible refine hKv _ _ ?_; clear hKv Kv; simp (dsimp := false) only [go_sem, Nat.reduceAdd, Nat.reduceBEq, Nat.reduceEqDiff, Nat.reduceLT, Nat.reduceLeDiff, Nat.reduceMul, Int.reduceToNat, reduceCtorEq, ↓reduceIte, Tryd.ntmps14, Tryd.results14, ks_14, mu_14, nd_14, ti_ag29, ti_ag30, ti_ag32, ti_ag55, ti_fl32_0, ti_fl32_1, ti_hb33, ti_hb34, ti_hb35, ti_hb36, ti_hb37, ti_pl32, ti_sb30, ti_sl30, ti_sl87, ti_sz32, ti_zr32, itD, itV, rlV, rowD, rlD, hx])
          | (with_reducible refine hKA ?_; clear hKA hKB KA KB)
          | (with_reducible refine hKB ?_; clear hKA hKB KA KB)
          | (with_reducible refine AWp_regC mu_14 ks_14 ?_; intro Kv hKv; simp (dsimp := false) only [go_sem, Nat.reduceAdd, Nat.reduceBEq, Nat.reduceEqDiff, Nat.reduceLT, Nat.reduceLeDiff, Nat.reduceMul, Int.reduceToNat, reduceCtorEq, ↓reduceIte, Tryd.ntmps14, Tryd.results14, ks_14, mu_14, nd_14, ti_ag29, ti_ag30, ti_ag32, ti_ag55, ti_fl32_0, ti_fl32_1, ti_hb33, ti_hb34, ti_hb35, ti_hb36, ti_hb37, ti_pl32, ti_sb30, ti_sl30, ti_sl87, ti_sz32, ti_zr32, itD, itV, rlV, rowD, rlD, hx])
          | (with_reducible refine AWp_draw nd_14 mu_14 ks_14 ti_mixed (by kernel_rfl) ?_; intro Kv hKv; simp (dsimp := false) only [go_sem, Nat.reduceAdd, Nat.reduceBEq, Nat.reduceEqDiff, Nat.reduceLT, Nat.reduceLeDiff, Nat.reduceMul, Int.reduceToNat, reduceCtorEq, ↓reduceIte, Tryd.ntmps14, Tryd.results14, ks_14, mu_14, nd_14, ti_ag29, ti_ag30, ti_ag32, ti_ag55, ti_fl32_0, ti_fl32_1, ti_hb33, ti_hb34, ti_hb35, ti_hb36, ti_hb37, ti_pl32, ti_sb30, ti_sl30, ti_sl87, ti_sz32, ti_zr32, itD, itV, rlV, rowD, rlD, hx])
          | with_reducible refine AWp_skipN ?_
          | with_reducible refine AWp_exitO (by repeat (first | with_reducible exact Out.hit | with_reducible apply Out.thenA | with_reducible apply Out.out rfl)) ?_
          | (with_reducible refine AWp_retR ?_; simp (dsimp := false) only [go_sem, Nat.reduceAdd, Nat.reduceBEq, Nat.reduceEqDiff, Nat.reduceLT, Nat.reduceLeDiff, Nat.reduceMul, Int.reduceToNat, reduceCtorEq, ↓reduceIte, Tryd.ntmps14, Tryd.results14, ks_14, mu_14, nd_14, ti_ag29, ti_ag30, ti_ag32, ti_ag55, ti_fl32_0, ti_fl32_1, ti_hb33, ti_hb34, ti_hb35, ti_hb36, ti_hb37, ti_pl32, ti_sb30, ti_sl30, ti_sl87, ti_sz32, ti_zr32, itD, itV, rlV, rowD, rlD, hx])
          | (with_reducible refine AWp_regE mu_14 ks_14 ?_; intro Kv hKv; simp (dsimp := false) only [go_sem, Nat.reduceAdd, Nat.reduceBEq, Nat.reduceEqDiff, Nat.reduceLT, Nat.reduceLeDiff, Nat.reduceMul, Int.reduceToNat, reduceCtorEq, ↓reduceIte, Tryd.ntmps14, Tryd.results14, ks_14, mu_14, nd_14, ti_ag29, ti_ag30, ti_ag32, ti_ag55, ti_fl32_0, ti_fl32_1, ti_hb33, ti_hb34, ti_hb35, ti_hb36, ti_hb37, ti_pl32, ti_sb30, ti_sl30, ti_sl87, ti_sz32, ti_zr32, itD, itV, rlV, rowD, rlD, hx])
          | (with_reducible refine AWp_drawE nd_14 mu_14 ks_14 ti_mixed (by kernel_rfl) ?_; intro Kv hKv; simp (dsimp := false) only [go_sem, Nat.reduceAdd, Nat.reduceBEq, Nat.reduceEqDiff, Nat.reduceLT, Nat.reduceLeDiff, Nat.reduceMul, Int.reduceToNat, reduceCtorEq, ↓reduceIte, Tryd.ntmps14, Tryd.results14, ks_14, mu_14, nd_14, ti_ag29, ti_ag30, ti_ag32, ti_ag55, ti_fl32_0, ti_fl32_1, ti_hb33, ti_hb34, ti_hb35, ti_hb36, ti_hb37, ti_pl32, ti_sb30, ti_sl30, ti_sl87, ti_sz32, ti_zr32, itD, itV, rlV, rowD, rlD, hx])
          | (refine AWp_condC rfl ?_; intro KA KB hKA hKB; try simp only [onB_true, onB_false, onB_dec, onB_ndec, onB_not, onB_and, onB_or])
          | (refine AWp_condA rfl ?_ ?_)
          | with_reducible refine onB_of ?_ ?_
          | with_reducible rfl
          | omega)
        refine AWp_whileH (fun y : Nat × Nat => y.2 ≤ b.rows.length)
          (fun y => [(2, .rp (rlD a)), (3, .rp (rlD b)), (4, .pt H.length 0 0 0), (8, .os (H.length + 1) y.1), (10, .d (.sl 3 (x.map itD))), (47, .d (.sl 1 (a.rows.map rowD))), (48, .d (.i .i64 a.rows.length)), (49, .d (.i .i64 i)), (54, .d (.sl 1 (b.rows.map rowD))), (55, .d (.i .i64 b.rows.length)), (56, .d (.i .i64 y.2))])
          (fun y => [.row 0 32 2 [[.d (.c (.slice none 0 0)), .d (.c (.slice none 0 0))]], .row y.1 55 1 ((crAcc a b i x y.2).map rowC)]) (fun y => b.rows.length - y.2) (v, 0) (Nat.zero_le _) rfl ?_ ?_ ?_
        · simp (dsimp := false) only [go_sem, Nat.reduceAdd, Nat.reduceBEq, Nat.reduceEqDiff, Nat.reduceLT, Nat.reduceLeDiff, Nat.reduceMul, Int.reduceToNat, reduceCtorEq, ↓reduceIte, Tryd.ntmps14, Tryd.results14, ks_14, mu_14, nd_14, ti_ag29, ti_ag30, ti_ag32, ti_ag55, ti_fl32_0, ti_fl32_1, ti_hb33, ti_hb34, ti_hb35, ti_hb36, ti_hb37, ti_pl32, ti_sb30, ti_sl30, ti_sl87, ti_sz32, ti_zr32, itD, itV, rlV, rowD, rlD, hx]
          first | done | simp
        · rintro ⟨v, j⟩ _ ob hob
          simp only [List.mem_cons, List.not_mem_nil, or_false] at hob
          rcases hob with rfl | rfl
          · exact bel_nil2 _ _ _
          · exact obBel_rows _ _ _ _ _
        rintro ⟨v, j⟩ hj
        simp only [] at hj ⊢
        have hcr := crAcc_le (a := a) (b := b) x hiN hj hp
        by_cases hjN : j < b.rows.length
        · obtain ⟨y, hy⟩ : ∃ y, b.rows[j]? = some y := ⟨b.rows[j], List.getElem?_eq_getElem hjN⟩
          have hyl := hB.row y (List.mem_of_getElem? hy)
          
          repeat' (first
            | with_reducible refine And.intro ?_ ?_
            | with_reducible intro _
            | with_reducible refine AWp_seq ?_
            | with_reducible refine AWp_block ?_
            | (with_reducible refine hKv _ _ (AWp_nop ?_); clear hKv Kv)
            | (with_reducible refine hKv _ _ ?_; clear hKv Kv; simp (dsimp := false) only [go_sem, Nat.reduceAdd, Nat.reduceBEq, Nat.reduceEqDiff, Nat.reduceLT, Nat.reduceLeDiff, Nat.reduceMul, Int.reduceToNat, reduceCtorEq, ↓reduceIte, Tryd.ntmps14, Tryd.results14, ks_14, mu_14, nd_14, ti_ag29, ti_ag30, ti_ag32, ti_ag55, ti_fl32_0, ti_fl32_1, ti_hb33, ti_hb34, ti_hb35, ti_hb36, ti_hb37, ti_pl32, ti_sb30, ti_sl30, ti_sl87, ti_sz32, ti_zr32, itD, itV, rlV, rowD, rlD, hx, hy])
            | (with_reducible refine hKA ?_; clear hKA hKB KA KB)
            | (with_reducible refine hKB ?_; clear hKA hKB KA KB)
            | (with_reducible refine AWp_regC mu_14 ks_14 ?_; intro Kv hKv; simp (dsimp := false) only [go_sem, Nat.reduceAdd, Nat.reduceBEq, Nat.reduceEqDiff, Nat.reduceLT, Nat.reduceLeDiff, Nat.reduceMul, Int.reduceToNat, reduceCtorEq, ↓reduceIte, Tryd.ntmps14, Tryd.results14, ks_14, mu_14, nd_14, ti_ag29, ti_ag30, ti_ag32, ti_ag55, ti_fl32_0, ti_fl32_1, ti_hb33, ti_hb34, ti_hb35, ti_hb36, ti_hb37, ti_pl32, ti_sb30, ti_sl30, ti_sl87, ti_sz32, ti_zr32, itD, itV, rlV, rowD, rlD, hx, hy])
            | (with_reducible refine AWp_draw nd_14 mu_14 ks_14 ti_mixed (by kernel_rfl) ?_; intro Kv hKv; simp (dsimp := false) only [go_sem, Nat.reduceAdd, Nat.reduceBEq, Nat.reduceEqDiff, Nat.reduceLT, Nat.reduceLeDiff, Nat.reduceMul, Int.reduceToNat, reduceCtorEq, ↓reduceIte, Tryd.ntmps14, Tryd.results14, ks_14, mu_14, nd_14, ti_ag29, ti_ag30, ti_ag32, ti_ag55, ti_fl32_0, ti_fl32_1, ti_hb33, ti_hb34, ti_hb35, ti_hb36, ti_hb37, ti_pl32, ti_sb30, ti_sl30, ti_sl87, ti_sz32, ti_zr32, itD, itV, rlV, rowD, rlD, hx, hy])
            | with_reducible refine AWp_skipN ?_
            | with_reducible refine AWp_exitO (by repeat (first | with_reducible exact Out.hit | with_reducible apply Out.thenA | with_reducible apply Out.out rfl)) ?_
            | (with_reducible refine AWp_retR ?_; simp (dsimp := false) only [go_sem, Nat.reduceAdd, Nat.reduceBEq, Nat.reduceEqDiff, Nat.reduceLT, Nat.reduceLeDiff, Nat.reduceMul, Int.reduceToNat, reduceCtorEq, ↓reduceIte, Tryd.ntmps14, Tryd.results14, ks_14, mu_14, nd_14, ti_ag29, ti_ag30, ti_ag32, ti_ag55, ti_fl32_0, ti_fl32_1, ti_hb33, ti_hb34, ti_hb35, ti_hb36, ti_hb37, ti_pl32, ti_sb30, ti_sl30, ti_sl87, ti_sz32, ti_zr32, itD, itV, rlV, rowD, rlD, hx, hy])
            | (with_reducible refine AWp_regE mu_14 ks_14 ?_; intro Kv hKv; simp (dsimp := false) only [go_sem, Nat.reduceAdd, Nat.reduceBEq, Nat.reduceEqDiff, Nat.reduceLT, Nat.reduceLeDiff, Nat.reduceMul, Int.reduceToNat, reduceCtorEq, ↓reduceIte, Tryd.ntmps14, Tryd.results14, ks_14, mu_14, nd_14, ti_ag29, ti_ag30, ti_ag32, ti_ag55, ti_fl32_0, ti_fl32_1, ti_hb33, ti_hb34, ti_hb35, ti_hb36, ti_hb37, ti_pl32, ti_sb30, ti_sl30, ti_sl87, ti_sz32, ti_zr32, itD, itV, rlV, rowD, rlD, hx, hy])
            | (with_reducible refine AWp_drawE nd_14 mu_14 ks_14 ti_mixed (by kernel_rfl) ?_; intro Kv hKv; simp (dsimp := false) only [go_sem, Nat.reduceAdd, Nat.reduceBEq, Nat.reduceEqDiff, Nat.reduceLT, Nat.reduceLeDiff, Nat.reduceMul, Int.reduceToNat, reduceCtorEq, ↓reduceIte, Tryd.ntmps14, Tryd.results14, ks_14, mu_14, nd_14, ti_ag29, ti_ag30, ti_ag32, ti_ag55, ti_fl32_0, ti_fl32_1, ti_hb33, ti_hb34, ti_hb35, ti_hb36, ti_hb37, ti_pl32, ti_sb30, ti_sl30, ti_sl87, ti_sz32, ti_zr32, itD, itV, rlV, rowD, rlD, hx, hy])
            | (refine AWp_condC rfl ?_; intro KA KB hKA hKB; try simp only [onB_true, onB_false, onB_dec, onB_ndec, onB_not, onB_and, onB_or])
            | (refine AWp_condA rfl ?_ ?_)
            | (refine cat2Its x y (by omega) _ _ ?_; try simp (dsimp := false) only [go_sem, Nat.reduceAdd, Nat.reduceBEq, Nat.reduceEqDiff, Nat.reduceLT, Nat.reduceLeDiff, Nat.reduceMul, Int.reduceToNat, reduceCtorEq, ↓reduceIte, Tryd.ntmps14, Tryd.results14, ks_14, mu_14, nd_14, ti_ag29, ti_ag30, ti_ag32, ti_ag55, ti_fl32_0, ti_fl32_1, ti_hb33, ti_hb34, ti_hb35, ti_hb36, ti_hb37, ti_pl32, ti_sb30, ti_sl30, ti_sl87, ti_sz32, ti_zr32, itD, itV, rlV, rowD, rlD, hx, hy])
            | (refine QCall_of (cat2Its x y (by omega) _ _ (Two_intro _ _)) ?_; try simp (dsimp := false) only [go_sem, Nat.reduceAdd, Nat.reduceBEq, Nat.reduceEqDiff, Nat.reduceLT, Nat.reduceLeDiff, Nat.reduceMul, Int.reduceToNat, reduceCtorEq, ↓reduceIte, Tryd.ntmps14, Tryd.results14, ks_14, mu_14, nd_14, ti_ag29, ti_ag30, ti_ag32, ti_ag55, ti_fl32_0, ti_fl32_1, ti_hb33, ti_hb34, ti_hb35, ti_hb36, ti_hb37, ti_pl32, ti_sb30, ti_sl30, ti_sl87, ti_sz32, ti_zr32, itD, itV, rlV, rowD, rlD, hx, hy])
            | with_reducible refine onB_of ?_ ?_
            | with_reducible rfl
            | omega)
          · exact ⟨(v + 1, j + 1), by show j + 1 ≤ b.rows.length; omega, by show b.rows.length - (j + 1) < b.rows.length - j; omega, by rw [crAcc_next hy]; simp [rowC], by omega, rfl, by omega, by simp⟩
        · have e : j = b.rows.length := by omega
          subst e
          
          repeat' (first
            | with_reducible refine And.intro ?_ ?_
            | with_reducible intro _
            | with_reducible refine AWp_seq ?_
            | with_reducible refine AWp_block ?_
            | (with_reducible refine hKv _ _ (AWp_nop ?_); clear hKv Kv)
            | (with_reducible refine hKv _ _ ?_; clear hKv Kv; simp (dsimp := false) only [go_sem, Nat.reduceAdd, Nat.reduceBEq, Nat.reduceEqDiff, Nat.reduceLT, Nat.reduceLeDiff, Nat.reduceMul, Int.reduceToNat, reduceCtorEq, ↓reduceIte, Tryd.ntmps14, Tryd.results14, ks_14, mu_14, nd_14, ti_ag29, ti_ag30, ti_ag32, ti_ag55, ti_fl32_0, ti_fl32_1, ti_hb33, ti_hb34, ti_hb35, ti_hb36, ti_hb37, ti_pl32, ti_sb30, ti_sl30, ti_sl87, ti_sz32, ti_zr32, itD, itV, rlV, rowD, rlD])
            | (with_reducible refine hKA ?_; clear hKA hKB KA KB)
            | (with_reducible refine hKB ?_; clear hKA hKB KA KB)
            | (with_reducible refine AWp_regC mu_14 ks_14 ?_; intro Kv hKv; simp (dsimp := false) only [go_sem, Nat.reduceAdd, Nat.reduceBEq, Nat.reduceEqDiff, Nat.reduceLT, Nat.reduceLeDiff, Nat.reduceMul, Int.reduceToNat, reduceCtorEq, ↓reduceIte, Tryd.ntmps14, Tryd.results14, ks_14, mu_14, nd_14, ti_ag29, ti_ag30, ti_ag32, ti_ag55, ti_fl32_0, ti_fl32_1, ti_hb33, ti_hb34, ti_hb35, ti_hb36, ti_hb37, ti_pl32, ti_sb30, ti_sl30, ti_sl87, ti_sz32, ti_zr32, itD, itV, rlV, rowD, rlD])
            | (with_reducible refine AWp_draw nd_14 mu_14 ks_14 ti_mixed (by kernel_rfl) ?_; intro Kv hKv; simp (dsimp := false) only [go_sem, Nat.reduceAdd, Nat.reduceBEq, Nat.reduceEqDiff, Nat.reduceLT, Nat.reduceLeDiff, Nat.reduceMul, Int.reduceToNat, reduceCtorEq, ↓reduceIte, Tryd.ntmps14, Tryd.results14, ks_14, mu_14, nd_14, ti_ag29, ti_ag30, ti_ag32, ti_ag55, ti_fl32_0, ti_fl32_1, ti_hb33, ti_hb34, ti_hb35, ti_hb36, ti_hb37, ti_pl32, ti_sb30, ti_sl30, ti_sl87, ti_sz32, ti_zr32, itD, itV, rlV, rowD, rlD])
            | with_reducible refine AWp_skipN ?_
            | with_reducible refine AWp_exitO (by repeat (first | with_reducible exact Out.hit | with_reducible apply Out.thenA | with_reducible apply Out.out rfl)) ?_
            | (with_reducible refine AWp_retR ?_; simp (dsimp := false) only [go_sem, Nat.reduceAdd, Nat.reduceBEq, Nat.reduceEqDiff, Nat.reduceLT, Nat.reduceLeDiff, Nat.reduceMul, Int.reduceToNat, reduceCtorEq, ↓reduceIte, Tryd.ntmps14, Tryd.results14, ks_14, mu_14, nd_14, ti_ag29, ti_ag30, ti_ag32, ti_ag55, ti_fl32_0, ti_fl32_1, ti_hb33, ti_hb34, ti_hb35, ti_hb36, ti_hb37, ti_pl32, ti_sb30, ti_sl30, ti_sl87, ti_sz32, ti_zr32, itD, itV, rlV, rowD, rlD])
            | (with_reducible refine AWp_regE mu_14 ks_14 ?_; intro Kv hKv; simp (dsimp := false) only [go_sem, Nat.reduceAdd, Nat.reduceBEq, Nat.reduceEqDiff, Nat.reduceLT, Nat.reduceLeDiff, Nat.reduceMul, Int.reduceToNat, reduceCtorEq, ↓reduceIte, Tryd.ntmps14, Tryd.results14, ks_14, mu_14, nd_14, ti_ag29, ti_ag30, ti_ag32, ti_ag55, ti_fl32_0, ti_fl32_1, ti_hb33, ti_hb34, ti_hb35, ti_hb36, ti_hb37, ti_pl32, ti_sb30, ti_sl30, ti_sl87, ti_sz32, ti_zr32, itD, itV, rlV, rowD, rlD])
            | (with_reducible refine AWp_drawE nd_14 mu_14 ks_14 ti_mixed (by kernel_rfl) ?_; intro Kv hKv; simp (dsimp := false) only [go_sem, Nat.reduceAdd, Nat.reduceBEq, Nat.reduceEqDiff, Nat.reduceLT, Nat.reduceLeDiff, Nat.reduceMul, Int.reduceToNat, reduceCtorEq, ↓reduceIte, Tryd.ntmps14, Tryd.results14, ks_14, mu_14, nd_14, ti_ag29, ti_ag30, ti_ag32, ti_ag55, ti_fl32_0, ti_fl32_1, ti_hb33, ti_hb34, ti_hb35, ti_hb36, ti_hb37, ti_pl32, ti_sb30, ti_sl30, ti_sl87, ti_sz32, ti_zr32, itD, itV, rlV, rowD, rlD])
            | (refine AWp_condC rfl ?_; intro KA KB hKA hKB; try simp only [onB_true, onB_false, onB_dec, onB_ndec, onB_not, onB_and, onB_or])
            | (refine AWp_condA rfl ?_ ?_)
            | with_reducible refine onB_of ?_ ?_
            | with_reducible rfl
            | omega)
          · exact ⟨(v, i + 1), by show i + 1 ≤ a.rows.length; omega, by show a.rows.length - (i + 1) < a.rows.length - i; omega, by rw [crAcc_row (y := []) hx], by omega, rfl, by omega, by simp⟩
      · have e : i = a.rows.length := by omega
        subst e
        rw [crAcc_end]
        
        repeat' (first
          | with_reducible refine And.intro ?_ ?_
          | with_reducible intro _
          | with_reducible refine AWp_seq ?_
          | with_reducible refine AWp_block ?_
          | (with_reducible refine hKv _ _ (AWp_nop ?_); clear hKv Kv)
          | (with_reducible refine hKv _ _ ?_; clear hKv Kv; simp (dsimp := false) only [go_sem, Nat.reduceAdd, Nat.reduceBEq, Nat.reduceEqDiff, Nat.reduceLT, Nat.reduceLeDiff, Nat.reduceMul, Int.reduceToNat, reduceCtorEq, ↓reduceIte, Tryd.ntmps14, Tryd.results14, ks_14, mu_14, nd_14, ti_ag29, ti_ag30, ti_ag32, ti_ag55, ti_fl32_0, ti_fl32_1, ti_hb33, ti_hb34, ti_hb35, ti_hb36, ti_hb37, ti_pl32, ti_sb30, ti_sl30, ti_sl87, ti_sz32, ti_zr32, itD, itV, rlV, rowD, rlD, finQ])
          | (with_reducible refine hKA ?_; clear hKA hKB KA KB)
          | (with_reducible refine hKB ?_; clear hKA hKB KA KB)
          | (with_reducible refine AWp_regC mu_14 ks_14 ?_; intro Kv hKv; simp (dsimp := false) only [go_sem, Nat.reduceAdd, Nat.reduceBEq, Nat.reduceEqDiff, Nat.reduceLT, Nat.reduceLeDiff, Nat.reduceMul, Int.reduceToNat, reduceCtorEq, ↓reduceIte, Tryd.ntmps14, Tryd.results14, ks_14, mu_14, nd_14, ti_ag29, ti_ag30, ti_ag32, ti_ag55, ti_fl32_0, ti_fl32_1, ti_hb33, ti_hb34, ti_hb35, ti_hb36, ti_hb37, ti_pl32, ti_sb30, ti_sl30, ti_sl87, ti_sz32, ti_zr32, itD, itV, rlV, rowD, rlD, finQ])
          | (with_reducible refine AWp_draw nd_14 mu_14 ks_14 ti_mixed (by kernel_rfl) ?_; intro Kv hKv; simp (dsimp := false) only [go_sem, Nat.reduceAdd, Nat.reduceBEq, Nat.reduceEqDiff, Nat.reduceLT, Nat.reduceLeDiff, Nat.reduceMul, Int.reduceToNat, reduceCtorEq, ↓reduceIte, Tryd.ntmps14, Tryd.results14, ks_14, mu_14, nd_14, ti_ag29, ti_ag30, ti_ag32, ti_ag55, ti_fl32_0, ti_fl32_1, ti_hb33, ti_hb34, ti_hb35, ti_hb36, ti_hb37, ti_pl32, ti_sb30, ti_sl30, ti_sl87, ti_sz32, ti_zr32, itD, itV, rlV, rowD, rlD, finQ])
          | with_reducible refine AWp_skipN ?_
          | with_reducible refine AWp_exitO (by repeat (first | with_reducible exact Out.hit | with_reducible apply Out.thenA | with_reducible apply Out.out rfl)) ?_
          | (with_reducible refine AWp_retR ?_; simp (dsimp := false) only [go_sem, Nat.reduceAdd, Nat.reduceBEq, Nat.reduceEqDiff, Nat.reduceLT, Nat.reduceLeDiff, Nat.reduceMul, Int.reduceToNat, reduceCtorEq, ↓reduceIte, Tryd.ntmps14, Tryd.results14, ks_14, mu_14, nd_14, ti_ag29, ti_ag30, ti_ag32, ti_ag55, ti_fl32_0, ti_fl32_1, ti_hb33, ti_hb34, ti_hb35, ti_hb36, ti_hb37, ti_pl32, ti_sb30, ti_sl30, ti_sl87, ti_sz32, ti_zr32, itD, itV, rlV, rowD, rlD, finQ])
          | (with_reducible refine AWp_regE mu_14 ks_14 ?_; intro Kv hKv; simp (dsimp := false) only [go_sem, Nat.reduceAdd, Nat.reduceBEq, Nat.reduceEqDiff, Nat.reduceLT, Nat.reduceLeDiff, Nat.reduceMul, Int.reduceToNat, reduceCtorEq, ↓reduceIte, Tryd.ntmps14, Tryd.results14, ks_14, mu_14, nd_14, ti_ag29, ti_ag30, ti_ag32, ti_ag55, ti_fl32_0, ti_fl32_1, ti_hb33, ti_hb34, ti_hb35, ti_hb36, ti_hb37, ti_pl32, ti_sb30, ti_sl30, ti_sl87, ti_sz32, ti_zr32, itD, itV, rlV, rowD, rlD, finQ])
          | (with_reducible refine AWp_drawE nd_14 mu_14 ks_14 ti_mixed (by kernel_rfl) ?_; intro Kv hKv; simp (dsimp := false) only [go_sem, Nat.reduceAdd, Nat.reduceBEq, Nat.reduceEqDiff, Nat.reduceLT, Nat.reduceLeDiff, Nat.reduceMul, Int.reduceToNat, reduceCtorEq, ↓reduceIte, Tryd.ntmps14, Tryd.results14, ks_14, mu_14, nd_14, ti_ag29, ti_ag30, ti_ag32, ti_ag55, ti_fl32_0, ti_fl32_1, ti_hb33, ti_hb34, ti_hb35, ti_hb36, ti_hb37, ti_pl32, ti_sb30, ti_sl30, ti_sl87, ti_sz32, ti_zr32, itD, itV, rlV, rowD, rlD, finQ])
          | (refine AWp_condC rfl ?_; intro KA KB hKA hKB; try simp only [onB_true, onB_false, onB_dec, onB_ndec, onB_not, onB_and, onB_or])
          | (refine AWp_condA rfl ?_ ?_)
          | (refine cat2Str a.cols b.cols (by omega) _ _ ?_; try simp (dsimp := false) only [go_sem, Nat.reduceAdd, Nat.reduceBEq, Nat.reduceEqDiff, Nat.reduceLT, Nat.reduceLeDiff, Nat.reduceMul, Int.reduceToNat, reduceCtorEq, ↓reduceIte, Tryd.ntmps14, Tryd.results14, ks_14, mu_14, nd_14, ti_ag29, ti_ag30, ti_ag32, ti_ag55, ti_fl32_0, ti_fl32_1, ti_hb33, ti_hb34, ti_hb35, ti_hb36, ti_hb37, ti_pl32, ti_sb30, ti_sl30, ti_sl87, ti_sz32, ti_zr32, itD, itV, rlV, rowD, rlD, finQ])
          | (refine QCall_of (cat2Str a.cols b.cols (by omega) _ _ (Two_intro _ _)) ?_; try simp (dsimp := false) only [go_sem, Nat.reduceAdd, Nat.reduceBEq, Nat.reduceEqDiff, Nat.reduceLT, Nat.reduceLeDiff, Nat.reduceMul, Int.reduceToNat, reduceCtorEq, ↓reduceIte, Tryd.ntmps14, Tryd.results14, ks_14, mu_14, nd_14, ti_ag29, ti_ag30, ti_ag32, ti_ag55, ti_fl32_0, ti_fl32_1, ti_hb33, ti_hb34, ti_hb35, ti_hb36, ti_hb37, ti_pl32, ti_sb30, ti_sl30, ti_sl87, ti_sz32, ti_zr32, itD, itV, rlV, rowD, rlD, finQ])
          | (refine finishedO_A (a.cols ++ b.cols) _ _ _ _ (by omega) hcs (by rw [List.length_map, crossRows_len]; omega) _ _ ((get_appk _ _ 1).trans rfl) ?_; try simp (dsimp := false) only [go_sem, Nat.reduceAdd, Nat.reduceBEq, Nat.reduceEqDiff, Nat.reduceLT, Nat.reduceLeDiff, Nat.reduceMul, Int.reduceToNat, reduceCtorEq, ↓reduceIte, Tryd.ntmps14, Tryd.results14, ks_14, mu_14, nd_14, ti_ag29, ti_ag30, ti_ag32, ti_ag55, ti_fl32_0, ti_fl32_1, ti_hb33, ti_hb34, ti_hb35, ti_hb36, ti_hb37, ti_pl32, ti_sb30, ti_sl30, ti_sl87, ti_sz32, ti_zr32, itD, itV, rlV, rowD, rlD, finQ])
          | (refine QCall_of (finishedO_A (a.cols ++ b.cols) _ _ _ _ (by omega) hcs (by rw [List.length_map, crossRows_len]; omega) _ _ ((get_appk _ _ 1).trans rfl) (Two_intro _ _)) ?_; try simp (dsimp := false) only [go_sem, Nat.reduceAdd, Nat.reduceBEq, Nat.reduceEqDiff, Nat.reduceLT, Nat.reduceLeDiff, Nat.reduceMul, Int.reduceToNat, reduceCtorEq, ↓reduceIte, Tryd.ntmps14, Tryd.results14, ks_14, mu_14, nd_14, ti_ag29, ti_ag30, ti_ag32, ti_ag55, ti_fl32_0, ti_fl32_1, ti_hb33, ti_hb34, ti_hb35, ti_hb36, ti_hb37, ti_pl32, ti_sb30, ti_sl30, ti_sl87, ti_sz32, ti_zr32, itD, itV, rlV, rowD, rlD, finQ])
          | with_reducible refine onB_of ?_ ?_
          | with_reducible rfl
          | omega)
        · exact fin_ret (acc := crossRows a b) hk (by assumption) (by omega) (get_appk _ _ 1)
        · exact fin_bad (acc := crossRows a b) hk rfl (by assumption)
  · rw [crossed, if_neg hf] at hk
    
    refine ACalls_of Tryd.func14 rfl in_14 (Nat.le_of_ble_eq_true rfl) ?_
    intro F hF
    simp (dsimp := false) only [go_sem, Nat.reduceAdd, Nat.reduceBEq, Nat.reduceEqDiff, Nat.reduceLT, Nat.reduceLeDiff, Nat.reduceMul, Int.reduceToNat, reduceCtorEq, ↓reduceIte, Tryd.ntmps14, Tryd.results14, ks_14, mu_14, nd_14, ti_ag29, ti_ag30, ti_ag32, ti_ag55, ti_fl32_0, ti_fl32_1, ti_hb33, ti_hb34, ti_hb35, ti_hb36, ti_hb37, ti_pl32, ti_sb30, ti_sl30, ti_sl87, ti_sz32, ti_zr32, itD, itV, rlV, rowD, rlD, hf, in_14] at hF
    subst hF
    repeat' (first
      | with_reducible refine And.intro ?_ ?_
      | with_reducible intro _
      | with_reducible refine AWp_seq ?_
      | with_reducible refine AWp_block ?_
      | (with_reducible refine hKv _ _ (AWp_nop ?_); clear hKv Kv)
      | (with_reducible refine hKv _ _ ?_; clear hKv Kv; simp (dsimp := false) only [go_sem, Nat.reduceAdd, Nat.reduceBEq, Nat.reduceEqDiff, Nat.reduceLT, Nat.reduceLeDiff, Nat.reduceMul, Int.reduceToNat, reduceCtorEq, ↓reduceIte, Tryd.ntmps14, Tryd.results14, ks_14, mu_14, nd_14, ti_ag29, ti_ag30, ti_ag32, ti_ag55, ti_fl32_0, ti_fl32_1, ti_hb33, ti_hb34, ti_hb35, ti_hb36, ti_hb37, ti_pl32, ti_sb30, ti_sl30, ti_sl87, ti_sz32, ti_zr32, itD, itV, rlV, rowD, rlD, hf])
      | (with_reducible refine hKA ?_; clear hKA hKB KA KB)
      | (with_reducible refine hKB ?_; clear hKA hKB KA KB)
      | (with_reducible refine AWp_regC mu_14 ks_14 ?_; intro Kv hKv; simp (dsimp := false) only [go_sem, Nat.reduceAdd, Nat.reduceBEq, Nat.reduceEqDiff, Nat.reduceLT, Nat.reduceLeDiff, Nat.reduceMul, Int.reduceToNat, reduceCtorEq, ↓reduceIte, Tryd.ntmps14, Tryd.results14, ks_14, mu_14, nd_14, ti_ag29, ti_ag30, ti_ag32, ti_ag55, ti_fl32_0, ti_fl32_1, ti_hb33, ti_hb34, ti_hb35, ti_hb36, ti_hb37, ti_pl32, ti_sb30, ti_sl30, ti_sl87, ti_sz32, ti_zr32, itD, itV, rlV, rowD, rlD, hf])
      | (with_reducible refine AWp_draw nd_14 mu_14 ks_14 ti_mixed (by kernel_rfl) ?_; intro Kv hKv; simp (dsimp := false) only [go_sem, Nat.reduceAdd, Nat.reduceBEq, Nat.reduceEqDiff, Nat.reduceLT, Nat.reduceLeDiff, Nat.reduceMul, Int.reduceToNat, reduceCtorEq, ↓reduceIte, Tryd.ntmps14, Tryd.results14, ks_14, mu_14, nd_14, ti_ag29, ti_ag30, ti_ag32, ti_ag55, ti_fl32_0, ti_fl32_1, ti_hb33, ti_hb34, ti_hb35, ti_hb36, ti_hb37, ti_pl32, ti_sb30, ti_sl30, ti_sl87, ti_sz32, ti_zr32, itD, itV, rlV, rowD, rlD, hf])
      | with_reducible refine AWp_skipN ?_
      | with_reducible refine AWp_exitO (by repeat (first | with_reducible exact Out.hit | with_reducible apply Out.thenA | with_reducible apply Out.out rfl)) ?_
      | (with_reducible refine AWp_retR ?_; simp (dsimp := false) only [go_sem, Nat.reduceAdd, Nat.reduceBEq, Nat.reduceEqDiff, Nat.reduceLT, Nat.reduceLeDiff, Nat.reduceMul, Int.reduceToNat, reduceCtorEq, ↓reduceIte, Tryd.ntmps14, Tryd.results14, ks_14, mu_14, nd_14, ti_ag29, ti_ag30, ti_ag32, ti_ag55, ti_fl32_0, ti_fl32_1, ti_hb33, ti_hb34, ti_hb35, ti_hb36, ti_hb37, ti_pl32, ti_sb30, ti_sl30, ti_sl87, ti_sz32, ti_zr32, itD, itV, rlV, rowD, rlD, hf])
      | (with_reducible refine AWp_regE mu_14 ks_14 ?_; intro Kv hKv; simp (dsimp := false) only [go_sem, Nat.reduceAdd, Nat.reduceBEq, Nat.reduceEqDiff, Nat.reduceLT, Nat.reduceLeDiff, Nat.reduceMul, Int.reduceToNat, reduceCtorEq, ↓reduceIte, Tryd.ntmps14, Tryd.results14, ks_14, mu_14, nd_14, ti_ag29, ti_ag30, ti_ag32, ti_ag55, ti_fl32_0, ti_fl32_1, ti_hb33, ti_hb34, ti_hb35, ti_hb36, ti_hb37, ti_pl32, ti_sb30, ti_sl30, ti_sl87, ti_sz32, ti_zr32, itD, itV, rlV, rowD, rlD, hf])
      | (with_reducible refine AWp_drawE nd_14 mu_14 ks_14 ti_mixed (by kernel_rfl) ?_; intro Kv hKv; simp (dsimp := false) only [go_sem, Nat.reduceAdd, Nat.reduceBEq, Nat.reduceEqDiff, Nat.reduceLT, Nat.reduceLeDiff, Nat.reduceMul, Int.reduceToNat, reduceCtorEq, ↓reduceIte, Tryd.ntmps14, Tryd.results14, ks_14, mu_14, nd_14, ti_ag29, ti_ag30, ti_ag32, ti_ag55, ti_fl32_0, ti_fl32_1, ti_hb33, ti_hb34, ti_hb35, ti_hb36, ti_hb37, ti_pl32, ti_sb30, ti_sl30, ti_sl87, ti_sz32, ti_zr32, itD, itV, rlV, rowD, rlD, hf])
      | (refine AWp_condC rfl ?_; intro KA KB hKA hKB; try simp only [onB_true, onB_false, onB_dec, onB_ndec, onB_not, onB_and, onB_or])
      | (refine AWp_condA rfl ?_ ?_)
      | (refine both_A a b hA hB _ _ ?_; try simp (dsimp := false) only [go_sem, Nat.reduceAdd, Nat.reduceBEq, Nat.reduceEqDiff, Nat.reduceLT, Nat.reduceLeDiff, Nat.reduceMul, Int.reduceToNat, reduceCtorEq, ↓reduceIte, Tryd.ntmps14, Tryd.results14, ks_14, mu_14, nd_14, ti_ag29, ti_ag30, ti_ag32, ti_ag55, ti_fl32_0, ti_fl32_1, ti_hb33, ti_hb34, ti_hb35, ti_hb36, ti_hb37, ti_pl32, ti_sb30, ti_sl30, ti_sl87, ti_sz32, ti_zr32, itD, itV, rlV, rowD, rlD, hf])
      | (refine QCall_of (both_A a b hA hB _ _ (Two_intro _ _)) ?_; try simp (dsimp := false) only [go_sem, Nat.reduceAdd, Nat.reduceBEq, Nat.reduceEqDiff, Nat.reduceLT, Nat.reduceLeDiff, Nat.reduceMul, Int.reduceToNat, reduceCtorEq, ↓reduceIte, Tryd.ntmps14, Tryd.results14, ks_14, mu_14, nd_14, ti_ag29, ti_ag30, ti_ag32, ti_ag55, ti_fl32_0, ti_fl32_1, ti_hb33, ti_hb34, ti_hb35, ti_hb36, ti_hb37, ti_pl32, ti_sb30, ti_sl30, ti_sl87, ti_sz32, ti_zr32, itD, itV, rlV, rowD, rlD, hf])
      | with_reducible refine onB_of ?_ ?_
      | with_reducible rfl
      | omega)
    all_goals exact dropF hk (fz_rl0 _ _ _) (bel_relE _ _ _)

/- the live slots of pleacher/pleacherref.CrossedOf -/
def ks_16 : Nat → List Nat
  | 0 => [2, 3, 4]
  | 1 => [2, 3, 4, 6]
  | 2 => [2, 3, 4, 6, 15]
  | 3 => [2, 3, 4, 6]
  | 4 => [2, 3, 4, 6, 34]
  | 5 => [2, 3, 4, 6]
  | 6 => [2, 3, 4, 6, 36]
  | 7 => [4, 5]
  | 8 => [2, 3, 4, 7]
  | 9 => [2, 3, 4, 7, 8]
  | 10 => [2, 3, 4, 7, 8, 43]
  | 11 => [2, 3, 4, 7, 8]
  | 12 => [2, 3, 4, 7, 8, 9]
  | 13 => [2, 3, 4, 7, 8, 9, 50]
  | 14 => [2, 3, 4, 7, 8, 9]
  | 15 => [2, 3, 4, 7, 8, 9, 10]
  | 16 => [2, 3, 4, 7, 8, 9]
  | 17 => [4, 5]
  | _ => []
def mu_16 : List Nat := [7]
def in_16 : List Nat := [0, 1]
def nd_16 : Nat → Nat
  | 15 => 12
  | _ => 0
theorem crossedOf_A (a b : Rl) (hA : ShR a) (hB : ShR b) (H : Heap) (K : V → Heap → Prop) (hk : K (relE (crossed a b).1 (crossed a b).2) H) : ACalls Tryd.prog 16 [rlV a, rlV b] H K := by
  have q1 := hA.ncols
  have q2 := hA.nrows
  have q3 := hB.ncols
  have q4 := hB.nrows
  by_cases hf : twoFault a b = 0
  · obtain ⟨ha, hb⟩ := two_ok hf
    have c1 := colsFault_len (relFault_ok ha).1
    have c2 := colsFault_len (relFault_ok hb).1
    have hcs : ∀ s, s ∈ a.cols ++ b.cols → s.length ≤ 1048576 := fun s h => by
      rcases List.mem_append.1 h with h | h
      · exact hA.col s h
      · exact hB.col s h
    have hcs' : ∀ s, s ∈ a.cols ++ b.cols → s.length ≤ 9223372036854775807 := fun s h => by have := hcs s h; omega
    have hcl : (a.cols ++ b.cols).length ≤ 16 := by rw [List.length_append]; omega
    have hmul : (a.rows.length : Int) * (b.rows.length : Int) = ((a.rows.length * b.rows.length : Nat) : Int) := by rw [Int.natCast_mul]
    have hmb : a.rows.length * b.rows.length ≤ 1048576 * 1048576 := Nat.mul_le_mul q2 q4
    generalize hpr : a.rows.length * b.rows.length = pr at hmul hmb
    by_cases hc : colsFault (a.cols ++ b.cols) = 0
    · by_cases hp : pr ≤ 1000000
      · have hg : ¬ (1000000 : Int) < (pr : Int) := by omega
        have hp : a.rows.length * b.rows.length ≤ 1000000 := by omega
        rw [crossed_made hf hp] at hk
        
        refine ACalls_of Tryd.func16 rfl in_16 (Nat.le_of_ble_eq_true rfl) ?_
        intro F hF
        simp (dsimp := false) only [go_sem, Nat.reduceAdd, Nat.reduceBEq, Nat.reduceEqDiff, Nat.reduceLT, Nat.reduceLeDiff, Nat.reduceMul, Int.reduceToNat, reduceCtorEq, ↓reduceIte, Tryd.ntmps16, Tryd.results16, ks_16, mu_16, nd_16, ti_ag29, ti_ag30, ti_ag32, ti_ag55, ti_fl32_0, ti_fl32_1, ti_hb38, ti_hb39, ti_hb40, ti_hb41, ti_hb42, ti_pl32, ti_sb30, ti_sl30, ti_sl87, ti_sz32, ti_zr32, itD, itV, rlV, rowD, rlD, hf, hc, hmul, hg, in_16] at hF
        subst hF
        repeat' (first
          | with_reducible refine And.intro ?_ ?_
          | with_reducible intro _
          | with_reducible refine AWp_seq ?_
          | with_reducible refine AWp_block ?_
          | (with_reducible refine hKv _ _ (AWp_nop ?_); clear hKv Kv)
          | (with_reducible refine hKv _ _ ?_; clear hKv Kv; simp (dsimp := false) only [go_sem, Nat.reduceAdd, Nat.reduceBEq, Nat.reduceEqDiff, Nat.reduceLT, Nat.reduceLeDiff, Nat.reduceMul, Int.reduceToNat, reduceCtorEq, ↓reduceIte, Tryd.ntmps16, Tryd.results16, ks_16, mu_16, nd_16, ti_ag29, ti_ag30, ti_ag32, ti_ag55, ti_fl32_0, ti_fl32_1, ti_hb38, ti_hb39, ti_hb40, ti_hb41, ti_hb42, ti_pl32, ti_sb30, ti_sl30, ti_sl87, ti_sz32, ti_zr32, itD, itV, rlV, rowD, rlD, hf, hc, hmul, hg])
          | (with_reducible refine hKA ?_; clear hKA hKB KA KB)
          | (with_reducible refine hKB ?_; clear hKA hKB KA KB)
          | (with_reducible refine AWp_regC mu_16 ks_16 ?_; intro Kv hKv; simp (dsimp := false) only [go_sem, Nat.reduceAdd, Nat.reduceBEq, Nat.reduceEqDiff, Nat.reduceLT, Nat.reduceLeDiff, Nat.reduceMul, Int.reduceToNat, reduceCtorEq, ↓reduceIte, Tryd.ntmps16, Tryd.results16, ks_16, mu_16, nd_16, ti_ag29, ti_ag30, ti_ag32, ti_ag55, ti_fl32_0, ti_fl32_1, ti_hb38, ti_hb39, ti_hb40, ti_hb41, ti_hb42, ti_pl32, ti_sb30, ti_sl30, ti_sl87, ti_sz32, ti_zr32, itD, itV, rlV, rowD, rlD, hf, hc, hmul, hg])
          | (with_reducible refine AWp_draw nd_16 mu_16 ks_16 ti_mixed (by kernel_rfl) ?_; intro Kv hKv; simp (dsimp := false) only [go_sem, Nat.reduceAdd, Nat.reduceBEq, Nat.reduceEqDiff, Nat.reduceLT, Nat.reduceLeDiff, Nat.reduceMul, Int.reduceToNat, reduceCtorEq, ↓reduceIte, Tryd.ntmps16, Tryd.results16, ks_16, mu_16, nd_16, ti_ag29, ti_ag30, ti_ag32, ti_ag55, ti_fl32_0, ti_fl32_1, ti_hb38, ti_hb39, ti_hb40, ti_hb41, ti_hb42, ti_pl32, ti_sb30, ti_sl30, ti_sl87, ti_sz32, ti_zr32, itD, itV, rlV, rowD, rlD, hf, hc, hmul, hg])
          | with_reducible refine AWp_skipN ?_
          | with_reducible refine AWp_exitO (by repeat (first | with_reducible exact Out.hit | with_reducible apply Out.thenA | with_reducible apply Out.out rfl)) ?_
          | (with_reducible refine AWp_retR ?_; simp (dsimp := false) only [go_sem, Nat.reduceAdd, Nat.reduceBEq, Nat.reduceEqDiff, Nat.reduceLT, Nat.reduceLeDiff, Nat.reduceMul, Int.reduceToNat, reduceCtorEq, ↓reduceIte, Tryd.ntmps16, Tryd.results16, ks_16, mu_16, nd_16, ti_ag29, ti_ag30, ti_ag32, ti_ag55, ti_fl32_0, ti_fl32_1, ti_hb38, ti_hb39, ti_hb40, ti_hb41, ti_hb42, ti_pl32, ti_sb30, ti_sl30, ti_sl87, ti_sz32, ti_zr32, itD, itV, rlV, rowD, rlD, hf, hc, hmul, hg])
          | (with_reducible refine AWp_regE mu_16 ks_16 ?_; intro Kv hKv; simp (dsimp := false) only [go_sem, Nat.reduceAdd, Nat.reduceBEq, Nat.reduceEqDiff, Nat.reduceLT, Nat.reduceLeDiff, Nat.reduceMul, Int.reduceToNat, reduceCtorEq, ↓reduceIte, Tryd.ntmps16, Tryd.results16, ks_16, mu_16, nd_16, ti_ag29, ti_ag30, ti_ag32, ti_ag55, ti_fl32_0, ti_fl32_1, ti_hb38, ti_hb39, ti_hb40, ti_hb41, ti_hb42, ti_pl32, ti_sb30, ti_sl30, ti_sl87, ti_sz32, ti_zr32, itD, itV, rlV, rowD, rlD, hf, hc, hmul, hg])
          | (with_reducible refine AWp_drawE nd_16 mu_16 ks_16 ti_mixed (by kernel_rfl) ?_; intro Kv hKv; simp (dsimp := false) only [go_sem, Nat.reduceAdd, Nat.reduceBEq, Nat.reduceEqDiff, Nat.reduceLT, Nat.reduceLeDiff, Nat.reduceMul, Int.reduceToNat, reduceCtorEq, ↓reduceIte, Tryd.ntmps16, Tryd.results16, ks_16, mu_16, nd_16, ti_ag29, ti_ag30, ti_ag32, ti_ag55, ti_fl32_0, ti_fl32_1, ti_hb38, ti_hb39, ti_hb40, ti_hb41, ti_hb42, ti_pl32, ti_sb30, ti_sl30, ti_sl87, ti_sz32, ti_zr32, itD, itV, rlV, rowD, rlD, hf, hc, hmul, hg])
          | (refine AWp_condC rfl ?_; intro KA KB hKA hKB; try simp only [onB_true, onB_false, onB_dec, onB_ndec, onB_not, onB_and, onB_or])
          | (refine AWp_condA rfl ?_ ?_)
          | (refine refTwoFault_A a b hA hB _ _ ?_; try simp (dsimp := false) only [go_sem, Nat.reduceAdd, Nat.reduceBEq, Nat.reduceEqDiff, Nat.reduceLT, Nat.reduceLeDiff, Nat.reduceMul, Int.reduceToNat, reduceCtorEq, ↓reduceIte, Tryd.ntmps16, Tryd.results16, ks_16, mu_16, nd_16, ti_ag29, ti_ag30, ti_ag32, ti_ag55, ti_fl32_0, ti_fl32_1, ti_hb38, ti_hb39, ti_hb40, ti_hb41, ti_hb42, ti_pl32, ti_sb30, ti_sl30, ti_sl87, ti_sz32, ti_zr32, itD, itV, rlV, rowD, rlD, hf, hc, hmul, hg])
          | (refine QCall_of (refTwoFault_A a b hA hB _ _ (Two_intro _ _)) ?_; try simp (dsimp := false) only [go_sem, Nat.reduceAdd, Nat.reduceBEq, Nat.reduceEqDiff, Nat.reduceLT, Nat.reduceLeDiff, Nat.reduceMul, Int.reduceToNat, reduceCtorEq, ↓reduceIte, Tryd.ntmps16, Tryd.results16, ks_16, mu_16, nd_16, ti_ag29, ti_ag30, ti_ag32, ti_ag55, ti_fl32_0, ti_fl32_1, ti_hb38, ti_hb39, ti_hb40, ti_hb41, ti_hb42, ti_pl32, ti_sb30, ti_sl30, ti_sl87, ti_sz32, ti_zr32, itD, itV, rlV, rowD, rlD, hf, hc, hmul, hg])
          | (refine ref2Str a.cols b.cols (by omega) (by omega) _ _ ?_; try simp (dsimp := false) only [go_sem, Nat.reduceAdd, Nat.reduceBEq, Nat.reduceEqDiff, Nat.reduceLT, Nat.reduceLeDiff, Nat.reduceMul, Int.reduceToNat, reduceCtorEq, ↓reduceIte, Tryd.ntmps16, Tryd.results16, ks_16, mu_16, nd_16, ti_ag29, ti_ag30, ti_ag32, ti_ag55, ti_fl32_0, ti_fl32_1, ti_hb38, ti_hb39, ti_hb40, ti_hb41, ti_hb42, ti_pl32, ti_sb30, ti_sl30, ti_sl87, ti_sz32, ti_zr32, itD, itV, rlV, rowD, rlD, hf, hc, hmul, hg])
          | (refine QCall_of (ref2Str a.cols b.cols (by omega) (by omega) _ _ (Two_intro _ _)) ?_; try simp (dsimp := false) only [go_sem, Nat.reduceAdd, Nat.reduceBEq, Nat.reduceEqDiff, Nat.reduceLT, Nat.reduceLeDiff, Nat.reduceMul, Int.reduceToNat, reduceCtorEq, ↓reduceIte, Tryd.ntmps16, Tryd.results16, ks_16, mu_16, nd_16, ti_ag29, ti_ag30, ti_ag32, ti_ag55, ti_fl32_0, ti_fl32_1, ti_hb38, ti_hb39, ti_hb40, ti_hb41, ti_hb42, ti_pl32, ti_sb30, ti_sl30, ti_sl87, ti_sz32, ti_zr32, itD, itV, rlV, rowD, rlD, hf, hc, hmul, hg])
          | (refine colsFault_A (a.cols ++ b.cols) (by omega) hcs' _ _ ?_; try simp (dsimp := false) only [go_sem, Nat.reduceAdd, Nat.reduceBEq, Nat.reduceEqDiff, Nat.reduceLT, Nat.reduceLeDiff, Nat.reduceMul, Int.reduceToNat, reduceCtorEq, ↓reduceIte, Tryd.ntmps16, Tryd.results16, ks_16, mu_16, nd_16, ti_ag29, ti_ag30, ti_ag32, ti_ag55, ti_fl32_0, ti_fl32_1, ti_hb38, ti_hb39, ti_hb40, ti_hb41, ti_hb42, ti_pl32, ti_sb30, ti_sl30, ti_sl87, ti_sz32, ti_zr32, itD, itV, rlV, rowD, rlD, hf, hc, hmul, hg])
          | (refine QCall_of (colsFault_A (a.cols ++ b.cols) (by omega) hcs' _ _ (Two_intro _ _)) ?_; try simp (dsimp := false) only [go_sem, Nat.reduceAdd, Nat.reduceBEq, Nat.reduceEqDiff, Nat.reduceLT, Nat.reduceLeDiff, Nat.reduceMul, Int.reduceToNat, reduceCtorEq, ↓reduceIte, Tryd.ntmps16, Tryd.results16, ks_16, mu_16, nd_16, ti_ag29, ti_ag30, ti_ag32, ti_ag55, ti_fl32_0, ti_fl32_1, ti_hb38, ti_hb39, ti_hb40, ti_hb41, ti_hb42, ti_pl32, ti_sb30, ti_sl30, ti_sl87, ti_sz32, ti_zr32, itD, itV, rlV, rowD, rlD, hf, hc, hmul, hg])
          | with_reducible refine onB_of ?_ ?_
          | with_reducible rfl
          | omega)
        refine AWp_whileH (fun y : Nat × Nat => y.2 ≤ a.rows.length)
          (fun y => [(2, .rp (rlD a)), (3, .rp (rlD b)), (4, .pt H.length 0 0 0), (7, .os (H.length + 1) y.1), (8, .d (.i .i64 y.2))])
          (fun y => [.row 0 32 2 [[.d (.c (.slice none 0 0)), .d (.c (.slice none 0 0))]], .row y.1 55 1 ((crAcc a b y.2 [] 0).map rowC)]) (fun y => a.rows.length - y.2) (0, 0) (Nat.zero_le _) rfl ?_ ?_ ?_
        · simp (dsimp := false) only [go_sem, Nat.reduceAdd, Nat.reduceBEq, Nat.reduceEqDiff, Nat.reduceLT, Nat.reduceLeDiff, Nat.reduceMul, Int.reduceToNat, reduceCtorEq, ↓reduceIte, Tryd.ntmps16, Tryd.results16, ks_16, mu_16, nd_16, ti_ag29, ti_ag30, ti_ag32, ti_ag55, ti_fl32_0, ti_fl32_1, ti_hb38, ti_hb39, ti_hb40, ti_hb41, ti_hb42, ti_pl32, ti_sb30, ti_sl30, ti_sl87, ti_sz32, ti_zr32, itD, itV, rlV, rowD, rlD, hf, hc, hmul, hg]
          first | done | simp
        · rintro ⟨v, i⟩ _ ob hob
          simp only [List.mem_cons, List.not_mem_nil, or_false] at hob
          rcases hob with rfl | rfl
          · exact bel_nil2 _ _ _
          · exact obBel_rows _ _ _ _ _
        rintro ⟨v, i⟩ hi
        simp only [] at hi ⊢
        by_cases hiN : i < a.rows.length
        · obtain ⟨x, hx⟩ : ∃ x, a.rows[i]? = some x := ⟨a.rows[i], List.getElem?_eq_getElem hiN⟩
          have hxl := hA.row x (List.mem_of_getElem? hx)
          
          repeat' (first
            | with_reducible refine And.intro ?_ ?_
            | with_reducible intro _
            | with_reducible refine AWp_seq ?_
            | with_reducible refine AWp_block ?_
            | (with_reducible refine hKv _ _ (AWp_nop ?_); clear hKv Kv)
            | (with_reducible refine hKv _ _ ?_; clear hKv Kv; simp (dsimp := false) only [go_sem, Nat.reduceAdd, Nat.reduceBEq, Nat.reduceEqDiff, Nat.reduceLT, Nat.reduceLeDiff, Nat.reduceMul, Int.reduceToNat, reduceCtorEq, ↓reduceIte, Tryd.ntmps16, Tryd.results16, ks_16, mu_16, nd_16, ti_ag29, ti_ag30, ti_ag32, ti_ag55, ti_fl32_0, ti_fl32_1, ti_hb38, ti_hb39, ti_hb40, ti_hb41, ti_hb42, ti_pl32, ti_sb30, ti_sl30, ti_sl87, ti_sz32, ti_zr32, itD, itV, rlV, rowD, rlD, hx])
            | (with_reducible refine hKA ?_; clear hKA hKB KA KB)
            | (with_reducible refine hKB ?_; clear hKA hKB KA KB)
            | (with_reducible refine AWp_regC mu_16 ks_16 ?_; intro Kv hKv; simp (dsimp := false) only [go_sem, Nat.reduceAdd, Nat.reduceBEq, Nat.reduceEqDiff, Nat.reduceLT, Nat.reduceLeDiff, Nat.reduceMul, Int.reduceToNat, reduceCtorEq, ↓reduceIte, Tryd.ntmps16, Tryd.results16, ks_16, mu_16, nd_16, ti_ag29, ti_ag30, ti_ag32, ti_ag55, ti_fl32_0, ti_fl32_1, ti_hb38, ti_hb39, ti_hb40, ti_hb41, ti_hb42, ti_pl32, ti_sb30, ti_sl30, ti_sl87, ti_sz32, ti_zr32, itD, itV, rlV, rowD, rlD, hx])
            | (with_reducible refine AWp_draw nd_16 mu_16 ks_16 ti_mixed (by kernel_rfl) ?_; intro Kv hKv; simp (dsimp := false) only [go_sem, Nat.reduceAdd, Nat.reduceBEq, Nat.reduceEqDiff, Nat.reduceLT, Nat.reduceLeDiff, Nat.reduceMul, Int.reduceToNat, reduceCtorEq, ↓reduceIte, Tryd.ntmps16, Tryd.results16, ks_16, mu_16, nd_16, ti_ag29, ti_ag30, ti_ag32, ti_ag55, ti_fl32_0, ti_fl32_1, ti_hb38, ti_hb39, ti_hb40, ti_hb41, ti_hb42, ti_pl32, ti_sb30, ti_sl30, ti_sl87, ti_sz32, ti_zr32, itD, itV, rlV, rowD, rlD, hx])
            | with_reducible refine AWp_skipN ?_
            | with_reducible refine AWp_exitO (by repeat (first | with_reducible exact Out.hit | with_reducible apply Out.thenA | with_reducible apply Out.out rfl)) ?_
            | (with_reducible refine AWp_retR ?_; simp (dsimp := false) only [go_sem, Nat.reduceAdd, Nat.reduceBEq, Nat.reduceEqDiff, Nat.reduceLT, Nat.reduceLeDiff, Nat.reduceMul, Int.reduceToNat, reduceCtorEq, ↓reduceIte, Tryd.ntmps16, Tryd.results16, ks_16, mu_16, nd_16, ti_ag29, ti_ag30, ti_ag32, ti_ag55, ti_fl32_0, ti_fl32_1, ti_hb38, ti_hb39, ti_hb40, ti_hb41, ti_hb42, ti_pl32, ti_sb30, ti_sl30, ti_sl87, ti_sz32, ti_zr32, itD, itV, rlV, rowD, rlD, hx])
            | (with_reducible refine AWp_regE mu_16 ks_16 ?_; intro Kv hKv; simp (dsimp := false) only [go_sem, Nat.reduceAdd, Nat.reduceBEq, Nat.reduceEqDiff, Nat.reduceLT, Nat.reduceLeDiff, Nat.reduceMul, Int.reduceToNat, reduceCtorEq, ↓reduceIte, Tryd.ntmps16, Tryd.results16, ks_16, mu_16, nd_16, ti_ag29, ti_ag30, ti_ag32, ti_ag55, ti_fl32_0, ti_fl32_1, ti_hb38, ti_hb39, ti_hb40, ti_hb41, ti_hb42, ti_pl32, ti_sb30, ti_sl30, ti_sl87, ti_sz32, ti_zr32, itD, itV, rlV, rowD, rlD, hx])
            | (with_reducible refine AWp_drawE nd_16 mu_16 ks_16 ti_mixed (by kernel_rfl) ?_; intro Kv hKv; simp (dsimp := false) only [go_sem, Nat.reduceAdd, Nat.reduceBEq, Nat.reduceEqDiff, Nat.reduceLT, Nat.reduceLeDiff, Nat.reduceMul, Int.reduceToNat, reduceCtorEq, ↓reduceIte, Tryd.ntmps16, Tryd.results16, ks_16, mu_16, nd_16, ti_ag29, ti_ag30, ti_ag32, ti_ag55, ti_fl32_0, ti_fl32_1, ti_hb38, ti_hb39, ti_hb40, ti_hb41, ti_hb42, ti_pl32, ti_sb30, ti_sl30, ti_sl87, ti_sz32, ti_zr32, itD, itV, rlV, rowD, rlD, hx])
            | (refine AWp_condC rfl ?_; intro KA KB hKA hKB; try simp only [onB_true, onB_false, onB_dec, onB_ndec, onB_not, onB_and, onB_or])
            | (refine AWp_condA rfl ?_ ?_)
            | with_reducible refine onB_of ?_ ?_
            | with_reducible rfl
            | omega)
          refine AWp_whileH (fun y : Nat × Nat => y.2 ≤ b.rows.length)
            (fun y => [(2, .rp (rlD a)), (3, .rp (rlD b)), (4, .pt H.length 0 0 0), (7, .os (H.length + 1) y.1), (8, .d (.i .i64 i)), (9, .d (.i .i64 y.2))])
            (fun y => [.row 0 32 2 [[.d (.c (.slice none 0 0)), .d (.c (.slice none 0 0))]], .row y.1 55 1 ((crAcc a b i x y.2).map rowC)]) (fun y => b.rows.length - y.2) (v, 0) (Nat.zero_le _) rfl ?_ ?_ ?_
          · simp (dsimp := false) only [go_sem, Nat.reduceAdd, Nat.reduceBEq, Nat.reduceEqDiff, Nat.reduceLT, Nat.reduceLeDiff, Nat.reduceMul, Int.reduceToNat, reduceCtorEq, ↓reduceIte, Tryd.ntmps16, Tryd.results16, ks_16, mu_16, nd_16, ti_ag29, ti_ag30, ti_ag32, ti_ag55, ti_fl32_0, ti_fl32_1, ti_hb38, ti_hb39, ti_hb40, ti_hb41, ti_hb42, ti_pl32, ti_sb30, ti_sl30, ti_sl87, ti_sz32, ti_zr32, itD, itV, rlV, rowD, rlD, hx]
            first | done | simp
          · rintro ⟨v, j⟩ _ ob hob
            simp only [List.mem_cons, List.not_mem_nil, or_false] at hob
            rcases hob with rfl | rfl
            · exact bel_nil2 _ _ _
            · exact obBel_rows _ _ _ _ _
          rintro ⟨v, j⟩ hj
          simp only [] at hj ⊢
          have hcr := crAcc_le (a := a) (b := b) x hiN hj hp
          by_cases hjN : j < b.rows.length
          · obtain ⟨y, hy⟩ : ∃ y, b.rows[j]? = some y := ⟨b.rows[j], List.getElem?_eq_getElem hjN⟩
            have hyl := hB.row y (List.mem_of_getElem? hy)
            
            repeat' (first
              | with_reducible refine And.intro ?_ ?_
              | with_reducible intro _
              | with_reducible refine AWp_seq ?_
              | with_reducible refine AWp_block ?_
              | (with_reducible refine hKv _ _ (AWp_nop ?_); clear hKv Kv)
              | (with_reducible refine hKv _ _ ?_; clear hKv Kv; simp (dsimp := false) only [go_sem, Nat.reduceAdd, Nat.reduceBEq, Nat.reduceEqDiff, Nat.reduceLT, Nat.reduceLeDiff, Nat.reduceMul, Int.reduceToNat, reduceCtorEq, ↓reduceIte, Tryd.ntmps16, Tryd.results16, ks_16, mu_16, nd_16, ti_ag29, ti_ag30, ti_ag32, ti_ag55, ti_fl32_0, ti_fl32_1, ti_hb38, ti_hb39, ti_hb40, ti_hb41, ti_hb42, ti_pl32, ti_sb30, ti_sl30, ti_sl87, ti_sz32, ti_zr32, itD, itV, rlV, rowD, rlD, hx, hy])
              | (with_reducible refine hKA ?_; clear hKA hKB KA KB)
              | (with_reducible refine hKB ?_; clear hKA hKB KA KB)
              | (with_reducible refine AWp_regC mu_16 ks_16 ?_; intro Kv hKv; simp (dsimp := false) only [go_sem, Nat.reduceAdd, Nat.reduceBEq, Nat.reduceEqDiff, Nat.reduceLT, Nat.reduceLeDiff, Nat.reduceMul, Int.reduceToNat, reduceCtorEq, ↓reduceIte, Tryd.ntmps16, Tryd.results16, ks_16, mu_16, nd_16, ti_ag29, ti_ag30, ti_ag32, ti_ag55, ti_fl32_0, ti_fl32_1, ti_hb38, ti_hb39, ti_hb40, ti_hb41, ti_hb42, ti_pl32, ti_sb30, ti_sl30, ti_sl87, ti_sz32, ti_zr32, itD, itV, rlV, rowD, rlD, hx, hy])
              | (with_reducible refine AWp_draw nd_16 mu_16 ks_16 ti_mixed (by kernel_rfl) ?_; intro Kv hKv; simp (dsimp := false) only [go_sem, Nat.reduceAdd, Nat.reduceBEq, Nat.reduceEqDiff, Nat.reduceLT, Nat.reduceLeDiff, Nat.reduceMul, Int.reduceToNat, reduceCtorEq, ↓reduceIte, Tryd.ntmps16, Tryd.results16, ks_16, mu_16, nd_16, ti_ag29, ti_ag30, ti_ag32, ti_ag55, ti_fl32_0, ti_fl32_1, ti_hb38, ti_hb39, ti_hb40, ti_hb41, ti_hb42, ti_pl32, ti_sb30, ti_sl30, ti_sl87, ti_sz32, ti_zr32, itD, itV, rlV, rowD, rlD, hx, hy])
              | with_reducible refine AWp_skipN ?_
              | with_reducible refine AWp_exitO (by repeat (first | with_reducible exact Out.hit | with_reducible apply Out.thenA | with_reducible apply Out.out rfl)) ?_
              | (with_reducible refine AWp_retR ?_; simp (dsimp := false) only [go_sem, Nat.reduceAdd, Nat.reduceBEq, Nat.reduceEqDiff, Nat.reduceLT, Nat.reduceLeDiff, Nat.reduceMul, Int.reduceToNat, reduceCtorEq, ↓reduceIte, Tryd.ntmps16, Tryd.results16, ks_16, mu_16, nd_16, ti_ag29, ti_ag30, ti_ag32, ti_ag55, ti_fl32_0, ti_fl32_1, ti_hb38, ti_hb39, ti_hb40, ti_hb41, ti_hb42, ti_pl32, ti_sb30, ti_sl30, ti_sl87, ti_sz32, ti_zr32, itD, itV, rlV, rowD, rlD, hx, hy])
              | (with_reducible refine AWp_regE mu_16 ks_16 ?_; intro Kv hKv; simp (dsimp := false) only [go_sem, Nat.reduceAdd, Nat.reduceBEq, Nat.reduceEqDiff, Nat.reduceLT, Nat.reduceLeDiff, Nat.reduceMul, Int.reduceToNat, reduceCtorEq, ↓reduceIte, Tryd.ntmps16, Tryd.results16, ks_16, mu_16, nd_16, ti_ag29, ti_ag30, ti_ag32, ti_ag55, ti_fl32_0, ti_fl32_1, ti_hb38, ti_hb39, ti_hb40, ti_hb41, ti_hb42, ti_pl32, ti_sb30, ti_sl30, ti_sl87, ti_sz32, ti_zr32, itD, itV, rlV, rowD, rlD, hx, hy])
              | (with_reducible refine AWp_drawE nd_16 mu_16 ks_16 ti_mixed (by kernel_rfl) ?_; intro Kv hKv; simp (dsimp := false) only [go_sem, Nat.reduceAdd, Nat.reduceBEq, Nat.reduceEqDiff, Nat.reduceLT, Nat.reduceLeDiff, Nat.reduceMul, Int.reduceToNat, reduceCtorEq, ↓reduceIte, Tryd.ntmps16, Tryd.results16, ks_16, mu_16, nd_16, ti_ag29, ti_ag30, ti_ag32, ti_ag55, ti_fl32_0, ti_fl32_1, ti_hb38, ti_hb39, ti_hb40, ti_hb41, ti_hb42, ti_pl32, ti_sb30, ti_sl30, ti_sl87, ti_sz32, ti_zr32, itD, itV, rlV, rowD, rlD, hx, hy])
              | (refine AWp_condC rfl ?_; intro KA KB hKA hKB; try simp only [onB_true, onB_false, onB_dec, onB_ndec, onB_not, onB_and, onB_or])
              | (refine AWp_condA rfl ?_ ?_)
              | (refine ref2Its x y (by omega) (by omega) _ _ ?_; try simp (dsimp := false) only [go_sem, Nat.reduceAdd, Nat.reduceBEq, Nat.reduceEqDiff, Nat.reduceLT, Nat.reduceLeDiff, Nat.reduceMul, Int.reduceToNat, reduceCtorEq, ↓reduceIte, Tryd.ntmps16, Tryd.results16, ks_16, mu_16, nd_16, ti_ag29, ti_ag30, ti_ag32, ti_ag55, ti_fl32_0, ti_fl32_1, ti_hb38, ti_hb39, ti_hb40, ti_hb41, ti_hb42, ti_pl32, ti_sb30, ti_sl30, ti_sl87, ti_sz32, ti_zr32, itD, itV, rlV, rowD, rlD, hx, hy])
              | (refine QCall_of (ref2Its x y (by omega) (by omega) _ _ (Two_intro _ _)) ?_; try simp (dsimp := false) only [go_sem, Nat.reduceAdd, Nat.reduceBEq, Nat.reduceEqDiff, Nat.reduceLT, Nat.reduceLeDiff, Nat.reduceMul, Int.reduceToNat, reduceCtorEq, ↓reduceIte, Tryd.ntmps16, Tryd.results16, ks_16, mu_16, nd_16, ti_ag29, ti_ag30, ti_ag32, ti_ag55, ti_fl32_0, ti_fl32_1, ti_hb38, ti_hb39, ti_hb40, ti_hb41, ti_hb42, ti_pl32, ti_sb30, ti_sl30, ti_sl87, ti_sz32, ti_zr32, itD, itV, rlV, rowD, rlD, hx, hy])
              | with_reducible refine onB_of ?_ ?_
              | with_reducible rfl
              | omega)
            · exact ⟨(v + 1, j + 1), by show j + 1 ≤ b.rows.length; omega, by show b.rows.length - (j + 1) < b.rows.length - j; omega, by rw [crAcc_next hy]; simp [rowC], by omega, rfl, by omega, by simp⟩
          · have e : j = b.rows.length := by omega
            subst e
            
            repeat' (first
              | with_reducible refine And.intro ?_ ?_
              | with_reducible intro _
              | with_reducible refine AWp_seq ?_
              | with_reducible refine AWp_block ?_
              | (with_reducible refine hKv _ _ (AWp_nop ?_); clear hKv Kv)
              | (with_reducible refine hKv _ _ ?_; clear hKv Kv; simp (dsimp := false) only [go_sem, Nat.reduceAdd, Nat.reduceBEq, Nat.reduceEqDiff, Nat.reduceLT, Nat.reduceLeDiff, Nat.reduceMul, Int.reduceToNat, reduceCtorEq, ↓reduceIte, Tryd.ntmps16, Tryd.results16, ks_16, mu_16, nd_16, ti_ag29, ti_ag30, ti_ag32, ti_ag55, ti_fl32_0, ti_fl32_1, ti_hb38, ti_hb39, ti_hb40, ti_hb41, ti_hb42, ti_pl32, ti_sb30, ti_sl30, ti_sl87, ti_sz32, ti_zr32, itD, itV, rlV, rowD, rlD])
              | (with_reducible refine hKA ?_; clear hKA hKB KA KB)
              | (with_reducible refine hKB ?_; clear hKA hKB KA KB)
              | (with_reducible refine AWp_regC mu_16 ks_16 ?_; intro Kv hKv; simp (dsimp := false) only [go_sem, Nat.reduceAdd, Nat.reduceBEq, Nat.reduceEqDiff, Nat.reduceLT, Nat.reduceLeDiff, Nat.reduceMul, Int.reduceToNat, reduceCtorEq, ↓reduceIte, Tryd.ntmps16, Tryd.results16, ks_16, mu_16, nd_16, ti_ag29, ti_ag30, ti_ag32, ti_ag55, ti_fl32_0, ti_fl32_1, ti_hb38, ti_hb39, ti_hb40, ti_hb41, ti_hb42, ti_pl32, ti_sb30, ti_sl30, ti_sl87, ti_sz32, ti_zr32, itD, itV, rlV, rowD, rlD])
              | (with_reducible refine AWp_draw nd_16 mu_16 ks_16 ti_mixed (by kernel_rfl) ?_; intro Kv hKv; simp (dsimp := false) only [go_sem, Nat.reduceAdd, Nat.reduceBEq, Nat.reduceEqDiff, Nat.reduceLT, Nat.reduceLeDiff, Nat.reduceMul, Int.reduceToNat, reduceCtorEq, ↓reduceIte, Tryd.ntmps16, Tryd.results16, ks_16, mu_16, nd_16, ti_ag29, ti_ag30, ti_ag32, ti_ag55, ti_fl32_0, ti_fl32_1, ti_hb38, ti_hb39, ti_hb40, ti_hb41, ti_hb42, ti_pl32, ti_sb30, ti_sl30, ti_sl87, ti_sz32, ti_zr32, itD, itV, rlV, rowD, rlD])
              | with_reducible refine AWp_skipN ?_
              | with_reducible refine AWp_exitO (by repeat (first | with_reducible exact Out.hit | with_reducible apply Out.thenA | with_reducible apply Out.out rfl)) ?_
              | (with_reducible refine AWp_retR ?_; simp (dsimp := false) only [go_sem, Nat.reduceAdd, Nat.reduceBEq, Nat.reduceEqDiff, Nat.reduceLT, Nat.reduceLeDiff, Nat.reduceMul, Int.reduceToNat, reduceCtorEq, ↓reduceIte, Tryd.ntmps16, Tryd.results16, ks_16, mu_16, nd_16, ti_ag29, ti_ag30, ti_ag32, ti_ag55, ti_fl32_0, ti_fl32_1, ti_hb38, ti_hb39, ti_hb40, ti_hb41, ti_hb42, ti_pl32, ti_sb30, ti_sl30, ti_sl87, ti_sz32, ti_zr32, itD, itV, rlV, rowD, rlD])
              | (with_reducible refine AWp_regE mu_16 ks_16 ?_; intro Kv hKv; simp (dsimp := false) only [go_sem, Nat.reduceAdd, Nat.reduceBEq, Nat.reduceEqDiff, Nat.reduceLT, Nat.reduceLeDiff, Nat.reduceMul, Int.reduceToNat, reduceCtorEq, ↓reduceIte, Tryd.ntmps16, Tryd.results16, ks_16, mu_16, nd_16, ti_ag29, ti_ag30, ti_ag32, ti_ag55, ti_fl32_0, ti_fl32_1, ti_hb38, ti_hb39, ti_hb40, ti_hb41, ti_hb42, ti_pl32, ti_sb30, ti_sl30, ti_sl87, ti_sz32, ti_zr32, itD, itV, rlV, rowD, rlD])
              | (with_reducible refine AWp_drawE nd_16 mu_16 ks_16 ti_mixed (by kernel_rfl) ?_; intro Kv hKv; simp (dsimp := false) only [go_sem, Nat.reduceAdd, Nat.reduceBEq, Nat.reduceEqDiff, Nat.reduceLT, Nat.reduceLeDiff, Nat.reduceMul, Int.reduceToNat, reduceCtorEq, ↓reduceIte, Tryd.ntmps16, Tryd.results16, ks_16, mu_16, nd_16, ti_ag29, ti_ag30, ti_ag32, ti_ag55, ti_fl32_0, ti_fl32_1, ti_hb38, ti_hb39, ti_hb40, ti_hb41, ti_hb42, ti_pl32, ti_sb30, ti_sl30, ti_sl87, ti_sz32, ti_zr32, itD, itV, rlV, rowD, rlD])
              | (refine AWp_condC rfl ?_; intro KA KB hKA hKB; try simp only [onB_true, onB_false, onB_dec, onB_ndec, onB_not, onB_and, onB_or])
              | (refine AWp_condA rfl ?_ ?_)
              | with_reducible refine onB_of ?_ ?_
              | with_reducible rfl
              | omega)
            · exact ⟨(v, i + 1), by show i + 1 ≤ a.rows.length; omega, by show a.rows.length - (i + 1) < a.rows.length - i; omega, by rw [crAcc_row (y := []) hx], by omega, rfl, by omega, by simp⟩
        · have e : i = a.rows.length := by omega
          subst e
          rw [crAcc_end]
          
          repeat' (first
            | with_reducible refine And.intro ?_ ?_
            | with_reducible intro _
            | with_reducible refine AWp_seq ?_
            | with_reducible refine AWp_block ?_
            | (with_reducible refine hKv _ _ (AWp_nop ?_); clear hKv Kv)
            | (with_reducible refine hKv _ _ ?_; clear hKv Kv; simp (dsimp := false) only [go_sem, Nat.reduceAdd, Nat.reduceBEq, Nat.reduceEqDiff, Nat.reduceLT, Nat.reduceLeDiff, Nat.reduceMul, Int.reduceToNat, reduceCtorEq, ↓reduceIte, Tryd.ntmps16, Tryd.results16, ks_16, mu_16, nd_16, ti_ag29, ti_ag30, ti_ag32, ti_ag55, ti_fl32_0, ti_fl32_1, ti_hb38, ti_hb39, ti_hb40, ti_hb41, ti_hb42, ti_pl32, ti_sb30, ti_sl30, ti_sl87, ti_sz32, ti_zr32, itD, itV, rlV, rowD, rlD, finQ])
            | (with_reducible refine hKA ?_; clear hKA hKB KA KB)
            | (with_reducible refine hKB ?_; clear hKA hKB KA KB)
            | (with_reducible refine AWp_regC mu_16 ks_16 ?_; intro Kv hKv; simp (dsimp := false) only [go_sem, Nat.reduceAdd, Nat.reduceBEq, Nat.reduceEqDiff, Nat.reduceLT, Nat.reduceLeDiff, Nat.reduceMul, Int.reduceToNat, reduceCtorEq, ↓reduceIte, Tryd.ntmps16, Tryd.results16, ks_16, mu_16, nd_16, ti_ag29, ti_ag30, ti_ag32, ti_ag55, ti_fl32_0, ti_fl32_1, ti_hb38, ti_hb39, ti_hb40, ti_hb41, ti_hb42, ti_pl32, ti_sb30, ti_sl30, ti_sl87, ti_sz32, ti_zr32, itD, itV, rlV, rowD, rlD, finQ])
            | (with_reducible refine AWp_draw nd_16 mu_16 ks_16 ti_mixed (by kernel_rfl) ?_; intro Kv hKv; simp (dsimp := false) only [go_sem, Nat.reduceAdd, Nat.reduceBEq, Nat.reduceEqDiff, Nat.reduceLT, Nat.reduceLeDiff, Nat.reduceMul, Int.reduceToNat, reduceCtorEq, ↓reduceIte, Tryd.ntmps16, Tryd.results16, ks_16, mu_16, nd_16, ti_ag29, ti_ag30, ti_ag32, ti_ag55, ti_fl32_0, ti_fl32_1, ti_hb38, ti_hb39, ti_hb40, ti_hb41, ti_hb42, ti_pl32, ti_sb30, ti_sl30, ti_sl87, ti_sz32, ti_zr32, itD, itV, rlV, rowD, rlD, finQ])
            | with_reducible refine AWp_skipN ?_
            | with_reducible refine AWp_exitO (by repeat (first | with_reducible exact Out.hit | with_reducible apply Out.thenA | with_reducible apply Out.out rfl)) ?_
            | (with_reducible refine AWp_retR ?_; simp (dsimp := false) only [go_sem, Nat.reduceAdd, Nat.reduceBEq, Nat.reduceEqDiff, Nat.reduceLT, Nat.reduceLeDiff, Nat.reduceMul, Int.reduceToNat, reduceCtorEq, ↓reduceIte, Tryd.ntmps16, Tryd.results16, ks_16, mu_16, nd_16, ti_ag29, ti_ag30, ti_ag32, ti_ag55, ti_fl32_0, ti_fl32_1, ti_hb38, ti_hb39, ti_hb40, ti_hb41, ti_hb42, ti_pl32, ti_sb30, ti_sl30, ti_sl87, ti_sz32, ti_zr32, itD, itV, rlV, rowD, rlD, finQ])
            | (with_reducible refine AWp_regE mu_16 ks_16 ?_; intro Kv hKv; simp (dsimp := false) only [go_sem, Nat.reduceAdd, Nat.reduceBEq, Nat.reduceEqDiff, Nat.reduceLT, Nat.reduceLeDiff, Nat.reduceMul, Int.reduceToNat, reduceCtorEq, ↓reduceIte, Tryd.ntmps16, Tryd.results16, ks_16, mu_16, nd_16, ti_ag29, ti_ag30, ti_ag32, ti_ag55, ti_fl32_0, ti_fl32_1, ti_hb38, ti_hb39, ti_hb40, ti_hb41, ti_hb42, ti_pl32, ti_sb30, ti_sl30, ti_sl87, ti_sz32, ti_zr32, itD, itV, rlV, rowD, rlD, finQ])
            | (with_reducible refine AWp_drawE nd_16 mu_16 ks_16 ti_mixed (by kernel_rfl) ?_; intro Kv hKv; simp (dsimp := false) only [go_sem, Nat.reduceAdd, Nat.reduceBEq, Nat.reduceEqDiff, Nat.reduceLT, Nat.reduceLeDiff, Nat.reduceMul, Int.reduceToNat, reduceCtorEq, ↓reduceIte, Tryd.ntmps16, Tryd.results16, ks_16, mu_16, nd_16, ti_ag29, ti_ag30, ti_ag32, ti_ag55, ti_fl32_0, ti_fl32_1, ti_hb38, ti_hb39, ti_hb40, ti_hb41, ti_hb42, ti_pl32, ti_sb30, ti_sl30, ti_sl87, ti_sz32, ti_zr32, itD, itV, rlV, rowD, rlD, finQ])
            | (refine AWp_condC rfl ?_; intro KA KB hKA hKB; try simp only [onB_true, onB_false, onB_dec, onB_ndec, onB_not, onB_and, onB_or])
            | (refine AWp_condA rfl ?_ ?_)
            | (refine ref2Str a.cols b.cols (by omega) (by omega) _ _ ?_; try simp (dsimp := false) only [go_sem, Nat.reduceAdd, Nat.reduceBEq, Nat.reduceEqDiff, Nat.reduceLT, Nat.reduceLeDiff, Nat.reduceMul, Int.reduceToNat, reduceCtorEq, ↓reduceIte, Tryd.ntmps16, Tryd.results16, ks_16, mu_16, nd_16, ti_ag29, ti_ag30, ti_ag32, ti_ag55, ti_fl32_0, ti_fl32_1, ti_hb38, ti_hb39, ti_hb40, ti_hb41, ti_hb42, ti_pl32, ti_sb30, ti_sl30, ti_sl87, ti_sz32, ti_zr32, itD, itV, rlV, rowD, rlD, finQ])
            | (refine QCall_of (ref2Str a.cols b.cols (by omega) (by omega) _ _ (Two_intro _ _)) ?_; try simp (dsimp := false) only [go_sem, Nat.reduceAdd, Nat.reduceBEq, Nat.reduceEqDiff, Nat.reduceLT, Nat.reduceLeDiff, Nat.reduceMul, Int.reduceToNat, reduceCtorEq, ↓reduceIte, Tryd.ntmps16, Tryd.results16, ks_16, mu_16, nd_16, ti_ag29, ti_ag30, ti_ag32, ti_ag55, ti_fl32_0, ti_fl32_1, ti_hb38, ti_hb39, ti_hb40, ti_hb41, ti_hb42, ti_pl32, ti_sb30, ti_sl30, ti_sl87, ti_sz32, ti_zr32, itD, itV, rlV, rowD, rlD, finQ])
            | (refine relOfO_A (a.cols ++ b.cols) _ _ _ _ (by omega) hcs (by rw [List.length_map, crossRows_len]; omega) _ _ ((get_appk _ _ 1).trans rfl) ?_; try simp (dsimp := false) only [go_sem, Nat.reduceAdd, Nat.reduceBEq, Nat.reduceEqDiff, Nat.reduceLT, Nat.reduceLeDiff, Nat.reduceMul, Int.reduceToNat, reduceCtorEq, ↓reduceIte, Tryd.ntmps16, Tryd.results16, ks_16, mu_16, nd_16, ti_ag29, ti_ag30, ti_ag32, ti_ag55, ti_fl32_0, ti_fl32_1, ti_hb38, ti_hb39, ti_hb40, ti_hb41, ti_hb42, ti_pl32, ti_sb30, ti_sl30, ti_sl87, ti_sz32, ti_zr32, itD, itV, rlV, rowD, rlD, finQ])
            | (refine QCall_of (relOfO_A (a.cols ++ b.cols) _ _ _ _ (by omega) hcs (by rw [List.length_map, crossRows_len]; omega) _ _ ((get_appk _ _ 1).trans rfl) (Two_intro _ _)) ?_; try simp (dsimp := false) only [go_sem, Nat.reduceAdd, Nat.reduceBEq, Nat.reduceEqDiff, Nat.reduceLT, Nat.reduceLeDiff, Nat.reduceMul, Int.reduceToNat, reduceCtorEq, ↓reduceIte, Tryd.ntmps16, Tryd.results16, ks_16, mu_16, nd_16, ti_ag29, ti_ag30, ti_ag32, ti_ag55, ti_fl32_0, ti_fl32_1, ti_hb38, ti_hb39, ti_hb40, ti_hb41, ti_hb42, ti_pl32, ti_sb30, ti_sl30, ti_sl87, ti_sz32, ti_zr32, itD, itV, rlV, rowD, rlD, finQ])
            | with_reducible refine onB_of ?_ ?_
            | with_reducible rfl
            | omega)
          · exact fin_ret (acc := crossRows a b) hk (by assumption) (by omega) (get_appk _ _ 1)
          · exact fin_bad (acc := crossRows a b) hk rfl (by assumption)
      · have hg : (1000000 : Int) < (pr : Int) := by omega
        rw [crossed, if_pos hf, if_pos hc, if_neg (by omega)] at hk
        
        refine ACalls_of Tryd.func16 rfl in_16 (Nat.le_of_ble_eq_true rfl) ?_
        intro F hF
        simp (dsimp := false) only [go_sem, Nat.reduceAdd, Nat.reduceBEq, Nat.reduceEqDiff, Nat.reduceLT, Nat.reduceLeDiff, Nat.reduceMul, Int.reduceToNat, reduceCtorEq, ↓reduceIte, Tryd.ntmps16, Tryd.results16, ks_16, mu_16, nd_16, ti_ag29, ti_ag30, ti_ag32, ti_ag55, ti_fl32_0, ti_fl32_1, ti_hb38, ti_hb39, ti_hb40, ti_hb41, ti_hb42, ti_pl32, ti_sb30, ti_sl30, ti_sl87, ti_sz32, ti_zr32, itD, itV, rlV, rowD, rlD, hf, hc, hmul, hg, in_16] at hF
        subst hF
        repeat' (first
          | with_reducible refine And.intro ?_ ?_
          | with_reducible intro _
          | with_reducible refine AWp_seq ?_
          | with_reducible refine AWp_block ?_
          | (with_reducible refine hKv _ _ (AWp_nop ?_); clear hKv Kv)
          | (with_reducible refine hKv _ _ ?_; clear hKv Kv; simp (dsimp := false) only [go_sem, Nat.reduceAdd, Nat.reduceBEq, Nat.reduceEqDiff, Nat.reduceLT, Nat.reduceLeDiff, Nat.reduceMul, Int.reduceToNat, reduceCtorEq, ↓reduceIte, Tryd.ntmps16, Tryd.results16, ks_16, mu_16, nd_16, ti_ag29, ti_ag30, ti_ag32, ti_ag55, ti_fl32_0, ti_fl32_1, ti_hb38, ti_hb39, ti_hb40, ti_hb41, ti_hb42, ti_pl32, ti_sb30, ti_sl30, ti_sl87, ti_sz32, ti_zr32, itD, itV, rlV, rowD, rlD, hf, hc, hmul, hg])
          | (with_reducible refine hKA ?_; clear hKA hKB KA KB)
          | (with_reducible refine hKB ?_; clear hKA hKB KA KB)
          | (with_reducible refine AWp_regC mu_16 ks_16 ?_; intro Kv hKv; simp (dsimp := false) only [go_sem, Nat.reduceAdd, Nat.reduceBEq, Nat.reduceEqDiff, Nat.reduceLT, Nat.reduceLeDiff, Nat.reduceMul, Int.reduceToNat, reduceCtorEq, ↓reduceIte, Tryd.ntmps16, Tryd.results16, ks_16, mu_16, nd_16, ti_ag29, ti_ag30, ti_ag32, ti_ag55, ti_fl32_0, ti_fl32_1, ti_hb38, ti_hb39, ti_hb40, ti_hb41, ti_hb42, ti_pl32, ti_sb30, ti_sl30, ti_sl87, ti_sz32, ti_zr32, itD, itV, rlV, rowD, rlD, hf, hc, hmul, hg])
          | (with_reducible refine AWp_draw nd_16 mu_16 ks_16 ti_mixed (by kernel_rfl) ?_; intro Kv hKv; simp (dsimp := false) only [go_sem, Nat.reduceAdd, Nat.reduceBEq, Nat.reduceEqDiff, Nat.reduceLT, Nat.reduceLeDiff, Nat.reduceMul, Int.reduceToNat, reduceCtorEq, ↓reduceIte, Tryd.ntmps16, Tryd.results16, ks_16, mu_16, nd_16, ti_ag29, ti_ag30, ti_ag32, ti_ag55, ti_fl32_0, ti_fl32_1, ti_hb38, ti_hb39, ti_hb40, ti_hb41, ti_hb42, ti_pl32, ti_sb30, ti_sl30, ti_sl87, ti_sz32, ti_zr32, itD, itV, rlV, rowD, rlD, hf, hc, hmul, hg])
          | with_reducible refine AWp_skipN ?_
          | with_reducible refine AWp_exitO (by repeat (first | with_reducible exact Out.hit | with_reducible apply Out.thenA | with_reducible apply Out.out rfl)) ?_
          | (with_reducible refine AWp_retR ?_; simp (dsimp := false) only [go_sem, Nat.reduceAdd, Nat.reduceBEq, Nat.reduceEqDiff, Nat.reduceLT, Nat.reduceLeDiff, Nat.reduceMul, Int.reduceToNat, reduceCtorEq, ↓reduceIte, Tryd.ntmps16, Tryd.results16, ks_16, mu_16, nd_16, ti_ag29, ti_ag30, ti_ag32, ti_ag55, ti_fl32_0, ti_fl32_1, ti_hb38, ti_hb39, ti_hb40, ti_hb41, ti_hb42, ti_pl32, ti_sb30, ti_sl30, ti_sl87, ti_sz32, ti_zr32, itD, itV, rlV, rowD, rlD, hf, hc, hmul, hg])
          | (with_reducible refine AWp_regE mu_16 ks_16 ?_; intro Kv hKv; simp (dsimp := false) only [go_sem, Nat.reduceAdd, Nat.reduceBEq, Nat.reduceEqDiff, Nat.reduceLT, Nat.reduceLeDiff, Nat.reduceMul, Int.reduceToNat, reduceCtorEq, ↓reduceIte, Tryd.ntmps16, Tryd.results16, ks_16, mu_16, nd_16, ti_ag29, ti_ag30, ti_ag32, ti_ag55, ti_fl32_0, ti_fl32_1, ti_hb38, ti_hb39, ti_hb40, ti_hb41, ti_hb42, ti_pl32, ti_sb30, ti_sl30, ti_sl87, ti_sz32, ti_zr32, itD, itV, rlV, rowD, rlD, hf, hc, hmul, hg])
          | (with_reducible refine AWp_drawE nd_16 mu_16 ks_16 ti_mixed (by kernel_rfl) ?_; intro Kv hKv; simp (dsimp := false) only [go_sem, Nat.reduceAdd, Nat.reduceBEq, Nat.reduceEqDiff, Nat.reduceLT, Nat.reduceLeDiff, Nat.reduceMul, Int.reduceToNat, reduceCtorEq, ↓reduceIte, Tryd.ntmps16, Tryd.results16, ks_16, mu_16, nd_16, ti_ag29, ti_ag30, ti_ag32, ti_ag55, ti_fl32_0, ti_fl32_1, ti_hb38, ti_hb39, ti_hb40, ti_hb41, ti_hb42, ti_pl32, ti_sb30, ti_sl30, ti_sl87, ti_sz32, ti_zr32, itD, itV, rlV, rowD, rlD, hf, hc, hmul, hg])
          | (refine AWp_condC rfl ?_; intro KA KB hKA hKB; try simp only [onB_true, onB_false, onB_dec, onB_ndec, onB_not, onB_and, onB_or])
          | (refine AWp_condA rfl ?_ ?_)
          | (refine refTwoFault_A a b hA hB _ _ ?_; try simp (dsimp := false) only [go_sem, Nat.reduceAdd, Nat.reduceBEq, Nat.reduceEqDiff, Nat.reduceLT, Nat.reduceLeDiff, Nat.reduceMul, Int.reduceToNat, reduceCtorEq, ↓reduceIte, Tryd.ntmps16, Tryd.results16, ks_16, mu_16, nd_16, ti_ag29, ti_ag30, ti_ag32, ti_ag55, ti_fl32_0, ti_fl32_1, ti_hb38, ti_hb39, ti_hb40, ti_hb41, ti_hb42, ti_pl32, ti_sb30, ti_sl30, ti_sl87, ti_sz32, ti_zr32, itD, itV, rlV, rowD, rlD, hf, hc, hmul, hg])
          | (refine QCall_of (refTwoFault_A a b hA hB _ _ (Two_intro _ _)) ?_; try simp (dsimp := false) only [go_sem, Nat.reduceAdd, Nat.reduceBEq, Nat.reduceEqDiff, Nat.reduceLT, Nat.reduceLeDiff, Nat.reduceMul, Int.reduceToNat, reduceCtorEq, ↓reduceIte, Tryd.ntmps16, Tryd.results16, ks_16, mu_16, nd_16, ti_ag29, ti_ag30, ti_ag32, ti_ag55, ti_fl32_0, ti_fl32_1, ti_hb38, ti_hb39, ti_hb40, ti_hb41, ti_hb42, ti_pl32, ti_sb30, ti_sl30, ti_sl87, ti_sz32, ti_zr32, itD, itV, rlV, rowD, rlD, hf, hc, hmul, hg])
          | (refine ref2Str a.cols b.cols (by omega) (by omega) _ _ ?_; try simp (dsimp := false) only [go_sem, Nat.reduceAdd, Nat.reduceBEq, Nat.reduceEqDiff, Nat.reduceLT, Nat.reduceLeDiff, Nat.reduceMul, Int.reduceToNat, reduceCtorEq, ↓reduceIte, Tryd.ntmps16, Tryd.results16, ks_16, mu_16, nd_16, ti_ag29, ti_ag30, ti_ag32, ti_ag55, ti_fl32_0, ti_fl32_1, ti_hb38, ti_hb39, ti_hb40, ti_hb41, ti_hb42, ti_pl32, ti_sb30, ti_sl30, ti_sl87, ti_sz32, ti_zr32, itD, itV, rlV, rowD, rlD, hf, hc, hmul, hg])
          | (refine QCall_of (ref2Str a.cols b.cols (by omega) (by omega) _ _ (Two_intro _ _)) ?_; try simp (dsimp := false) only [go_sem, Nat.reduceAdd, Nat.reduceBEq, Nat.reduceEqDiff, Nat.reduceLT, Nat.reduceLeDiff, Nat.reduceMul, Int.reduceToNat, reduceCtorEq, ↓reduceIte, Tryd.ntmps16, Tryd.results16, ks_16, mu_16, nd_16, ti_ag29, ti_ag30, ti_ag32, ti_ag55, ti_fl32_0, ti_fl32_1, ti_hb38, ti_hb39, ti_hb40, ti_hb41, ti_hb42, ti_pl32, ti_sb30, ti_sl30, ti_sl87, ti_sz32, ti_zr32, itD, itV, rlV, rowD, rlD, hf, hc, hmul, hg])
          | (refine colsFault_A (a.cols ++ b.cols) (by omega) hcs' _ _ ?_; try simp (dsimp := false) only [go_sem, Nat.reduceAdd, Nat.reduceBEq, Nat.reduceEqDiff, Nat.reduceLT, Nat.reduceLeDiff, Nat.reduceMul, Int.reduceToNat, reduceCtorEq, ↓reduceIte, Tryd.ntmps16, Tryd.results16, ks_16, mu_16, nd_16, ti_ag29, ti_ag30, ti_ag32, ti_ag55, ti_fl32_0, ti_fl32_1, ti_hb38, ti_hb39, ti_hb40, ti_hb41, ti_hb42, ti_pl32, ti_sb30, ti_sl30, ti_sl87, ti_sz32, ti_zr32, itD, itV, rlV, rowD, rlD, hf, hc, hmul, hg])
          | (refine QCall_of (colsFault_A (a.cols ++ b.cols) (by omega) hcs' _ _ (Two_intro _ _)) ?_; try simp (dsimp := false) only [go_sem, Nat.reduceAdd, Nat.reduceBEq, Nat.reduceEqDiff, Nat.reduceLT, Nat.reduceLeDiff, Nat.reduceMul, Int.reduceToNat, reduceCtorEq, ↓reduceIte, Tryd.ntmps16, Tryd.results16, ks_16, mu_16, nd_16, ti_ag29, ti_ag30, ti_ag32, ti_ag55, ti_fl32_0, ti_fl32_1, ti_hb38, ti_hb39, ti_hb40, ti_hb41, ti_hb42, ti_pl32, ti_sb30, ti_sl30, ti_sl87, ti_sz32, ti_zr32, itD, itV, rlV, rowD, rlD, hf, hc, hmul, hg])
          | with_reducible refine onB_of ?_ ?_
          | with_reducible rfl
          | omega)
        all_goals exact dropF hk (fz_rl0 _ _ _) (bel_relE _ _ _)
    · rw [crossed, if_pos hf, if_neg hc] at hk
      
      refine ACalls_of Tryd.func16 rfl in_16 (Nat.le_of_ble_eq_true rfl) ?_
      intro F hF
      simp (dsimp := false) only [go_sem, Nat.reduceAdd, Nat.reduceBEq, Nat.reduceEqDiff, Nat.reduceLT, Nat.reduceLeDiff, Nat.reduceMul, Int.reduceToNat, reduceCtorEq, ↓reduceIte, Tryd.ntmps16, Tryd.results16, ks_16, mu_16, nd_16, ti_ag29, ti_ag30, ti_ag32, ti_ag55, ti_fl32_0, ti_fl32_1, ti_hb38, ti_hb39, ti_hb40, ti_hb41, ti_hb42, ti_pl32, ti_sb30, ti_sl30, ti_sl87, ti_sz32, ti_zr32, itD, itV, rlV, rowD, rlD, hf, hc, in_16] at hF
      subst hF
      repeat' (first
        | with_reducible refine And.intro ?_ ?_
        | with_reducible intro _
        | with_reducible refine AWp_seq ?_
        | with_reducible refine AWp_block ?_
        | (with_reducible refine hKv _ _ (AWp_nop ?_); clear hKv Kv)
        | (with_reducible refine hKv _ _ ?_; clear hKv Kv; simp (dsimp := false) only [go_sem, Nat.reduceAdd, Nat.reduceBEq, Nat.reduceEqDiff, Nat.reduceLT, Nat.reduceLeDiff, Nat.reduceMul, Int.reduceToNat, reduceCtorEq, ↓reduceIte, Tryd.ntmps16, Tryd.results16, ks_16, mu_16, nd_16, ti_ag29, ti_ag30, ti_ag32, ti_ag55, ti_fl32_0, ti_fl32_1, ti_hb38, ti_hb39, ti_hb40, ti_hb41, ti_hb42, ti_pl32, ti_sb30, ti_sl30, ti_sl87, ti_sz32, ti_zr32, itD, itV, rlV, rowD, rlD, hf, hc])
        | (with_reducible refine hKA ?_; clear hKA hKB KA KB)
        | (with_reducible refine hKB ?_; clear hKA hKB KA KB)
        | (with_reducible refine AWp_regC mu_16 ks_16 ?_; intro Kv hKv; simp (dsimp := false) only [go_sem, Nat.reduceAdd, Nat.reduceBEq, Nat.reduceEqDiff, Nat.reduceLT, Nat.reduceLeDiff, Nat.reduceMul, Int.reduceToNat, reduceCtorEq, ↓reduceIte, Tryd.ntmps16, Tryd.results16, ks_16, mu_16, nd_16, ti_ag29, ti_ag30, ti_ag32, ti_ag55, ti_fl32_0, ti_fl32_1, ti_hb38, ti_hb39, ti_hb40, ti_hb41, ti_hb42, ti_pl32, ti_sb30, ti_sl30, ti_sl87, ti_sz32, ti_zr32, itD, itV, rlV, rowD, rlD, hf, hc])
        | (with_reducible refine AWp_draw nd_16 mu_16 ks_16 ti_mixed (by kernel_rfl) ?_; intro Kv hKv; simp (dsimp := false) only [go_sem, Nat.reduceAdd, Nat.reduceBEq, Nat.reduceEqDiff, Nat.reduceLT, Nat.reduceLeDiff, Nat.reduceMul, Int.reduceToNat, reduceCtorEq, ↓reduceIte, Tryd.ntmps16, Tryd.results16, ks_16, mu_16, nd_16, ti_ag29, ti_ag30, ti_ag32, ti_ag55, ti_fl32_0, ti_fl32_1, ti_hb38, ti_hb39, ti_hb40, ti_hb41, ti_hb42, ti_pl32, ti_sb30, ti_sl30, ti_sl87, ti_sz32, ti_zr32, itD, itV, rlV, rowD, rlD, hf, hc])
        | with_reducible refine AWp_skipN ?_
        | with_reducible refine AWp_exitO (by repeat (first | with_reducible exact Out.hit | with_reducible apply Out.thenA | with_reducible apply Out.out rfl)) ?_
        | (with_reducible refine AWp_retR ?_; simp (dsimp := false) only [go_sem, Nat.reduceAdd, Nat.reduceBEq, Nat.reduceEqDiff, Nat.reduceLT, Nat.reduceLeDiff, Nat.reduceMul, Int.reduceToNat, reduceCtorEq, ↓reduceIte, Tryd.ntmps16, Tryd.results16, ks_16, mu_16, nd_16, ti_ag29, ti_ag30, ti_ag32, ti_ag55, ti_fl32_0, ti_fl32_1, ti_hb38, ti_hb39, ti_hb40, ti_hb41, ti_hb42, ti_pl32, ti_sb30, ti_sl30, ti_sl87, ti_sz32, ti_zr32, itD, itV, rlV, rowD, rlD, hf, hc])
        | (with_reducible refine AWp_regE mu_16 ks_16 ?_; intro Kv hKv; simp (dsimp := false) only [go_sem, Nat.reduceAdd, Nat.reduceBEq, Nat.reduceEqDiff, Nat.reduceLT, Nat.reduceLeDiff, Nat.reduceMul, Int.reduceToNat, reduceCtorEq, ↓reduceIte, Tryd.ntmps16, Tryd.results16, ks_16, mu_16, nd_16, ti_ag29, ti_ag30, ti_ag32, ti_ag55, ti_fl32_0, ti_fl32_1, ti_hb38, ti_hb39, ti_hb40, ti_hb41, ti_hb42, ti_pl32, ti_sb30, ti_sl30, ti_sl87, ti_sz32, ti_zr32, itD, itV, rlV, rowD, rlD, hf, hc])
        | (with_reducible refine AWp_drawE nd_16 mu_16 ks_16 ti_mixed (by kernel_rfl) ?_; intro Kv hKv; simp (dsimp := false) only [go_sem, Nat.reduceAdd, Nat.reduceBEq, Nat.reduceEqDiff, Nat.reduceLT, Nat.reduceLeDiff, Nat.reduceMul, Int.reduceToNat, reduceCtorEq, ↓reduceIte, Tryd.ntmps16, Tryd.results16, ks_16, mu_16, nd_16, ti_ag29, ti_ag30, ti_ag32, ti_ag55, ti_fl32_0, ti_fl32_1, ti_hb38, ti_hb39, ti_hb40, ti_hb41, ti_hb42, ti_pl32, ti_sb30, ti_sl30, ti_sl87, ti_sz32, ti_zr32, itD, itV, rlV, rowD, rlD, hf, hc])
        | (refine AWp_condC rfl ?_; intro KA KB hKA hKB; try simp only [onB_true, onB_false, onB_dec, onB_ndec, onB_not, onB_and, onB_or])
        | (refine AWp_condA rfl ?_ ?_)
        | (refine refTwoFault_A a b hA hB _ _ ?_; try simp (dsimp := false) only [go_sem, Nat.reduceAdd, Nat.reduceBEq, Nat.reduceEqDiff, Nat.reduceLT, Nat.reduceLeDiff, Nat.reduceMul, Int.reduceToNat, reduceCtorEq, ↓reduceIte, Tryd.ntmps16, Tryd.results16, ks_16, mu_16, nd_16, ti_ag29, ti_ag30, ti_ag32, ti_ag55, ti_fl32_0, ti_fl32_1, ti_hb38, ti_hb39, ti_hb40, ti_hb41, ti_hb42, ti_pl32, ti_sb30, ti_sl30, ti_sl87, ti_sz32, ti_zr32, itD, itV, rlV, rowD, rlD, hf, hc])
        | (refine QCall_of (refTwoFault_A a b hA hB _ _ (Two_intro _ _)) ?_; try simp (dsimp := false) only [go_sem, Nat.reduceAdd, Nat.reduceBEq, Nat.reduceEqDiff, Nat.reduceLT, Nat.reduceLeDiff, Nat.reduceMul, Int.reduceToNat, reduceCtorEq, ↓reduceIte, Tryd.ntmps16, Tryd.results16, ks_16, mu_16, nd_16, ti_ag29, ti_ag30, ti_ag32, ti_ag55, ti_fl32_0, ti_fl32_1, ti_hb38, ti_hb39, ti_hb40, ti_hb41, ti_hb42, ti_pl32, ti_sb30, ti_sl30, ti_sl87, ti_sz32, ti_zr32, itD, itV, rlV, rowD, rlD, hf, hc])
        | (refine ref2Str a.cols b.cols (by omega) (by omega) _ _ ?_; try simp (dsimp := false) only [go_sem, Nat.reduceAdd, Nat.reduceBEq, Nat.reduceEqDiff, Nat.reduceLT, Nat.reduceLeDiff, Nat.reduceMul, Int.reduceToNat, reduceCtorEq, ↓reduceIte, Tryd.ntmps16, Tryd.results16, ks_16, mu_16, nd_16, ti_ag29, ti_ag30, ti_ag32, ti_ag55, ti_fl32_0, ti_fl32_1, ti_hb38, ti_hb39, ti_hb40, ti_hb41, ti_hb42, ti_pl32, ti_sb30, ti_sl30, ti_sl87, ti_sz32, ti_zr32, itD, itV, rlV, rowD, rlD, hf, hc])
        | (refine QCall_of (ref2Str a.cols b.cols (by omega) (by omega) _ _ (Two_intro _ _)) ?_; try simp (dsimp := false) only [go_sem, Nat.reduceAdd, Nat.reduceBEq, Nat.reduceEqDiff, Nat.reduceLT, Nat.reduceLeDiff, Nat.reduceMul, Int.reduceToNat, reduceCtorEq, ↓reduceIte, Tryd.ntmps16, Tryd.results16, ks_16, mu_16, nd_16, ti_ag29, ti_ag30, ti_ag32, ti_ag55, ti_fl32_0, ti_fl32_1, ti_hb38, ti_hb39, ti_hb40, ti_hb41, ti_hb42, ti_pl32, ti_sb30, ti_sl30, ti_sl87, ti_sz32, ti_zr32, itD, itV, rlV, rowD, rlD, hf, hc])
        | (refine colsFault_A (a.cols ++ b.cols) (by omega) hcs' _ _ ?_; try simp (dsimp := false) only [go_sem, Nat.reduceAdd, Nat.reduceBEq, Nat.reduceEqDiff, Nat.reduceLT, Nat.reduceLeDiff, Nat.reduceMul, Int.reduceToNat, reduceCtorEq, ↓reduceIte, Tryd.ntmps16, Tryd.results16, ks_16, mu_16, nd_16, ti_ag29, ti_ag30, ti_ag32, ti_ag55, ti_fl32_0, ti_fl32_1, ti_hb38, ti_hb39, ti_hb40, ti_hb41, ti_hb42, ti_pl32, ti_sb30, ti_sl30, ti_sl87, ti_sz32, ti_zr32, itD, itV, rlV, rowD, rlD, hf, hc])
        | (refine QCall_of (colsFault_A (a.cols ++ b.cols) (by omega) hcs' _ _ (Two_intro _ _)) ?_; try simp (dsimp := false) only [go_sem, Nat.reduceAdd, Nat.reduceBEq, Nat.reduceEqDiff, Nat.reduceLT, Nat.reduceLeDiff, Nat.reduceMul, Int.reduceToNat, reduceCtorEq, ↓reduceIte, Tryd.ntmps16, Tryd.results16, ks_16, mu_16, nd_16, ti_ag29, ti_ag30, ti_ag32, ti_ag55, ti_fl32_0, ti_fl32_1, ti_hb38, ti_hb39, ti_hb40, ti_hb41, ti_hb42, ti_pl32, ti_sb30, ti_sl30, ti_sl87, ti_sz32, ti_zr32, itD, itV, rlV, rowD, rlD, hf, hc])
        | with_reducible refine onB_of ?_ ?_
        | with_reducible rfl
        | omega)
      all_goals exact dropF hk (fz_rl0 _ _ _) (bel_relE _ _ _)
  · rw [crossed, if_neg hf] at hk
    
    refine ACalls_of Tryd.func16 rfl in_16 (Nat.le_of_ble_eq_true rfl) ?_
    intro F hF
    simp (dsimp := false) only [go_sem, Nat.reduceAdd, Nat.reduceBEq, Nat.reduceEqDiff, Nat.reduceLT, Nat.reduceLeDiff, Nat.reduceMul, Int.reduceToNat, reduceCtorEq, ↓reduceIte, Tryd.ntmps16, Tryd.results16, ks_16, mu_16, nd_16, ti_ag29, ti_ag30, ti_ag32, ti_ag55, ti_fl32_0, ti_fl32_1, ti_hb38, ti_hb39, ti_hb40, ti_hb41, ti_hb42, ti_pl32, ti_sb30, ti_sl30, ti_sl87, ti_sz32, ti_zr32, itD, itV, rlV, rowD, rlD, hf, in_16] at hF
    subst hF
    repeat' (first
      | with_reducible refine And.intro ?_ ?_
      | with_reducible intro _
      | with_reducible refine AWp_seq ?_
      | with_reducible refine AWp_block ?_
      | (with_reducible refine hKv _ _ (AWp_nop ?_); clear hKv Kv)
      | (with_reducible refine hKv _ _ ?_; clear hKv Kv; simp (dsimp := false) only [go_sem, Nat.reduceAdd, Nat.reduceBEq, Nat.reduceEqDiff, Nat.reduceLT, Nat.reduceLeDiff, Nat.reduceMul, Int.reduceToNat, reduceCtorEq, ↓reduceIte, Tryd.ntmps16, Tryd.results16, ks_16, mu_16, nd_16, ti_ag29, ti_ag30, ti_ag32, ti_ag55, ti_fl32_0, ti_fl32_1, ti_hb38, ti_hb39, ti_hb40, ti_hb41, ti_hb42, ti_pl32, ti_sb30, ti_sl30, ti_sl87, ti_sz32, ti_zr32, itD, itV, rlV, rowD, rlD, hf])
      | (with_reducible refine hKA ?_; clear hKA hKB KA KB)
      | (with_reducible refine hKB ?_; clear hKA hKB KA KB)
      | (with_reducible refine AWp_regC mu_16 ks_16 ?_; intro Kv hKv; simp (dsimp := false) only [go_sem, Nat.reduceAdd, Nat.reduceBEq, Nat.reduceEqDiff, Nat.reduceLT, Nat.reduceLeDiff, Nat.reduceMul, Int.reduceToNat, reduceCtorEq, ↓reduceIte, Tryd.ntmps16, Tryd.results16, ks_16, mu_16, nd_16, ti_ag29, ti_ag30, ti_ag32, ti_ag55, ti_fl32_0, ti_fl32_1, ti_hb38, ti_hb39, ti_hb40, ti_hb41, ti_hb42, ti_pl32, ti_sb30, ti_sl30, ti_sl87, ti_sz32, ti_zr32, itD, itV, rlV, rowD, rlD, hf])
      | (with_reducible refine AWp_draw nd_16 mu_16 ks_16 ti_mixed (by kernel_rfl) ?_; intro Kv hKv; simp (dsimp := false) only [go_sem, Nat.reduceAdd, Nat.reduceBEq, Nat.reduceEqDiff, Nat.reduceLT, Nat.reduceLeDiff, Nat.reduceMul, Int.reduceToNat, reduceCtorEq, ↓reduceIte, Tryd.ntmps16, Tryd.results16, ks_16, mu_16, nd_16, ti_ag29, ti_ag30, ti_ag32, ti_ag55, ti_fl32_0, ti_fl32_1, ti_hb38, ti_hb39, ti_hb40, ti_hb41, ti_hb42, ti_pl32, ti_sb30, ti_sl30, ti_sl87, ti_sz32, ti_zr32, itD, itV, rlV, rowD, rlD, hf])
      | with_reducible refine AWp_skipN ?_
      | with_reducible refine AWp_exitO (by repeat (first | with_reducible exact Out.hit | with_reducible apply Out.thenA | with_reducible apply Out.out rfl)) ?_
      | (with_reducible refine AWp_retR ?_; simp (dsimp := false) only [go_sem, Nat.reduceAdd, Nat.reduceBEq, Nat.reduceEqDiff, Nat.reduceLT, Nat.reduceLeDiff, Nat.reduceMul, Int.reduceToNat, reduceCtorEq, ↓reduceIte, Tryd.ntmps16, Tryd.results16, ks_16, mu_16, nd_16, ti_ag29, ti_ag30, ti_ag32, ti_ag55, ti_fl32_0, ti_fl32_1, ti_hb38, ti_hb39, ti_hb40, ti_hb41, ti_hb42, ti_pl32, ti_sb30, ti_sl30, ti_sl87, ti_sz32, ti_zr32, itD, itV, rlV, rowD, rlD, hf])
      | (with_reducible refine AWp_regE mu_16 ks_16 ?_; intro Kv hKv; simp (dsimp := false) only [go_sem, Nat.reduceAdd, Nat.reduceBEq, Nat.reduceEqDiff, Nat.reduceLT, Nat.reduceLeDiff, Nat.reduceMul, Int.reduceToNat, reduceCtorEq, ↓reduceIte, Tryd.ntmps16, Tryd.results16, ks_16, mu_16, nd_16, ti_ag29, ti_ag30, ti_ag32, ti_ag55, ti_fl32_0, ti_fl32_1, ti_hb38, ti_hb39, ti_hb40, ti_hb41, ti_hb42, ti_pl32, ti_sb30, ti_sl30, ti_sl87, ti_sz32, ti_zr32, itD, itV, rlV, rowD, rlD, hf])
      | (with_reducible refine AWp_drawE nd_16 mu_16 ks_16 ti_mixed (by kernel_rfl) ?_; intro Kv hKv; simp (dsimp := false) only [go_sem, Nat.reduceAdd, Nat.reduceBEq, Nat.reduceEqDiff, Nat.reduceLT, Nat.reduceLeDiff, Nat.reduceMul, Int.reduceToNat, reduceCtorEq, ↓reduceIte, Tryd.ntmps16, Tryd.results16, ks_16, mu_16, nd_16, ti_ag29, ti_ag30, ti_ag32, ti_ag55, ti_fl32_0, ti_fl32_1, ti_hb38, ti_hb39, ti_hb40, ti_hb41, ti_hb42, ti_pl32, ti_sb30, ti_sl30, ti_sl87, ti_sz32, ti_zr32, itD, itV, rlV, rowD, rlD, hf])
      | (refine AWp_condC rfl ?_; intro KA KB hKA hKB; try simp only [onB_true, onB_false, onB_dec, onB_ndec, onB_not, onB_and, onB_or])
      | (refine AWp_condA rfl ?_ ?_)
      | (refine refTwoFault_A a b hA hB _ _ ?_; try simp (dsimp := false) only [go_sem, Nat.reduceAdd, Nat.reduceBEq, Nat.reduceEqDiff, Nat.reduceLT, Nat.reduceLeDiff, Nat.reduceMul, Int.reduceToNat, reduceCtorEq, ↓reduceIte, Tryd.ntmps16, Tryd.results16, ks_16, mu_16, nd_16, ti_ag29, ti_ag30, ti_ag32, ti_ag55, ti_fl32_0, ti_fl32_1, ti_hb38, ti_hb39, ti_hb40, ti_hb41, ti_hb42, ti_pl32, ti_sb30, ti_sl30, ti_sl87, ti_sz32, ti_zr32, itD, itV, rlV, rowD, rlD, hf])
      | (refine QCall_of (refTwoFault_A a b hA hB _ _ (Two_intro _ _)) ?_; try simp (dsimp := false) only [go_sem, Nat.reduceAdd, Nat.reduceBEq, Nat.reduceEqDiff, Nat.reduceLT, Nat.reduceLeDiff, Nat.reduceMul, Int.reduceToNat, reduceCtorEq, ↓reduceIte, Tryd.ntmps16, Tryd.results16, ks_16, mu_16, nd_16, ti_ag29, ti_ag30, ti_ag32, ti_ag55, ti_fl32_0, ti_fl32_1, ti_hb38, ti_hb39, ti_hb40, ti_hb41, ti_hb42, ti_pl32, ti_sb30, ti_sl30, ti_sl87, ti_sz32, ti_zr32, itD, itV, rlV, rowD, rlD, hf])
      | with_reducible refine onB_of ?_ ?_
      | with_reducible rfl
      | omega)
    all_goals exact dropF hk (fz_rl0 _ _ _) (bel_relE _ _ _)
end Go.Proofs.YtohonoiojabjaaaDoor
