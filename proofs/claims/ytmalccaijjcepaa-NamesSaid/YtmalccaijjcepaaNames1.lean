/- The names law's walk. No condition. -/
import Derived.Test.YtmalccaijjcepaaTi
set_option linter.all false
set_option linter.unusedSimpArgs false
set_option linter.unusedVariables false
namespace Go.Proofs.Ytmalccaijjcepaa
open Go Go.Proofs.Ytmalccaijjcepaa.Ab
variable [Glo]
set_option maxHeartbeats 4000000
set_option maxRecDepth 20000
def errsL : List Int := [0, 1, 2, 3, 4, 5, 6, 7, 8, 9, 10, 11, 12]
def allL : List Int := [4000, 400, 20, 20, 100000, 8, 1000000, 1000, 200, 30, 6, 6, 200000, 700, 20, 1099511627776, 20000, 1900, 1, 2, 3, 4, 5, 6, 1, 1, 2, 3, 4, 1, 2, 3, 4, 5, 6, 7, 8, 9, 10, 11, 12, 1, 2, 3, 4, 5, 1, 2, 3, 4, 5, 6, 7, 8, 9, 10, 11, 1, 2, 3, 4, 5, 21, 22, 23, 24, 25, 26, 27, 28, 1, 2, 3, 4, 1, 2, 3, 4, 5, 6, 7, 8, 9, 10, 11, 12, 13, 14, 15]
theorem errsL_get (i : Nat) (x : Int) (h : errsL[i]? = some x) : x = i := by
  have hi : i < 13 := (List.getElem?_eq_some_iff.1 h).1
  match i, hi, h with
  | 0, _, h | 1, _, h | 2, _, h | 3, _, h | 4, _, h | 5, _, h | 6, _, h | 7, _, h | 8, _, h | 9, _, h | 10, _, h | 11, _, h | 12, _, h => cases h; rfl
theorem allL_step (k : Nat) (hk : k < 15) : (allL.take (74 + k)).map intCells ++ [[V.d (.i .i64 ((k : Int) + 1))]] = (allL.take (74 + (k + 1))).map intCells := by
  match k, hk with
  | 0, _ | 1, _ | 2, _ | 3, _ | 4, _ | 5, _ | 6, _ | 7, _ | 8, _ | 9, _ | 10, _ | 11, _ | 12, _ | 13, _ | 14, _ => rfl
theorem allL_len : allL.length = 89 := rfl
theorem allL_take (k : Nat) : (allL.take k).length ≤ 89 := by
  rw [List.length_take, allL_len]
  omega
/- the live slots of pleacher/pleacherlaw.Names -/
def ks_3 : Nat → List Nat
  | 0 => []
  | 1 => [1]
  | 2 => [1, 2]
  | 3 => [1, 2, 11]
  | 4 => [1, 2]
  | 5 => [1, 2, 19]
  | 6 => [0]
  | 7 => [3]
  | 8 => [3, 4]
  | 9 => [3, 4]
  | 10 => [3, 4]
  | 11 => [3, 4]
  | 12 => [3, 4]
  | 13 => [3, 4]
  | 14 => [3, 4]
  | 15 => [3, 4]
  | 16 => [3, 4]
  | 17 => [3, 4]
  | 18 => [3, 4, 5]
  | 19 => [3, 4, 5, 50]
  | 20 => [3, 4, 5]
  | 21 => [3, 4, 5]
  | 22 => [3, 4, 6]
  | 23 => [3, 4, 6, 60]
  | 24 => [3, 4, 6]
  | 25 => [3, 4, 6, 71]
  | 26 => [0]
  | 27 => [0]
  | _ => []
def mu_3 : List Nat := [20, 21]
def in_3 : List Nat := []
def nd_3 : Nat → Nat
  | 25 => 8
  | _ => 0
theorem names_A (K : V → Heap → Prop) (hk : K (.d (.b true)) []) : ACalls Try.prog 3 [] [] K := by
  refine ACalls_of Try.func3 rfl in_3 (Nat.le_of_ble_eq_true rfl) ?_
  intro F hF
  simp (dsimp := false) only [go_sem, Nat.reduceAdd, Nat.reduceBEq, Nat.reduceEqDiff, Nat.reduceLT, Nat.reduceLeDiff, Nat.reduceMul, Int.reduceToNat, reduceCtorEq, ↓reduceIte, Try.ntmps3, Try.results3, ks_3, mu_3, nd_3, ti_ag3, ti_ag22, ti_sb23, ti_sb24, ti_sl23, ti_sl24, in_3] at hF
  subst hF
  repeat' (first | with_reducible (first | refine And.intro ?_ ?_ | intro _ | refine AWp_seq ?_ | refine AWp_block ?_ | (refine hKv _ _ (AWp_nop ?_); clear hKv Kv) | (refine hKA ?_; clear hKA hKB KA KB) | (refine hKB ?_; clear hKA hKB KA KB) | refine AWp_skipN ?_ | refine AWp_exitO (by repeat (first | exact Out.hit | apply Out.thenA | apply Out.out rfl)) ?_) | (with_reducible (first | (refine hKv _ _ ?_; clear hKv Kv) | ((first | refine AWp_regC mu_3 ks_3 ?_ | refine AWp_draw nd_3 mu_3 ks_3 ti_mixed (by kernel_rfl) ?_ | refine AWp_regE mu_3 ks_3 ?_ | refine AWp_drawE nd_3 mu_3 ks_3 ti_mixed (by kernel_rfl) ?_); intro Kv hKv) | refine AWp_retR ?_); try simp (dsimp := false) only [go_sem, Nat.reduceAdd, Nat.reduceBEq, Nat.reduceEqDiff, Nat.reduceLT, Nat.reduceLeDiff, Nat.reduceMul, Int.reduceToNat, reduceCtorEq, ↓reduceIte, Try.ntmps3, Try.results3, ks_3, mu_3, nd_3, ti_ag3, ti_ag22, ti_sb23, ti_sb24, ti_sl23, ti_sl24]) | (refine AWp_condC rfl ?_; intro KA KB hKA hKB; try simp only [onB_true, onB_false, onB_dec, onB_ndec, onB_not, onB_and, onB_or]) | (refine AWp_condA rfl ?_ ?_) | with_reducible (first | refine onB_of ?_ ?_ | rfl) | omega)
  refine AWp_while0 (fun i : Nat => i ≤ 13) (fun i => [(1, .d (.sl 1 (errsL.map intRow))), (2, .d (.i .i64 i))]) (fun i => 13 - i) 0 ?_ ?_ ?_
  · simp
  · simp (dsimp := false) only [go_sem, Nat.reduceAdd, Nat.reduceBEq, Nat.reduceEqDiff, Nat.reduceLT, Nat.reduceLeDiff, Nat.reduceMul, Int.reduceToNat, reduceCtorEq, ↓reduceIte, Try.ntmps3, Try.results3, ks_3, mu_3, nd_3, ti_ag3, ti_ag22, ti_sb23, ti_sb24, ti_sl23, ti_sl24]
    first | (refine ⟨rfl, ?_⟩; omega) | omega | rfl
  rintro i hi
  have hEl : errsL.length = 13 := rfl
  repeat' (first | with_reducible (first | refine And.intro ?_ ?_ | intro _ | refine AWp_seq ?_ | refine AWp_block ?_ | (refine hKv _ _ (AWp_nop ?_); clear hKv Kv) | (refine hKA ?_; clear hKA hKB KA KB) | (refine hKB ?_; clear hKA hKB KA KB) | refine AWp_skipN ?_ | refine AWp_exitO (by repeat (first | exact Out.hit | apply Out.thenA | apply Out.out rfl)) ?_) | (with_reducible (first | (refine hKv _ _ ?_; clear hKv Kv) | ((first | refine AWp_regC mu_3 ks_3 ?_ | refine AWp_draw nd_3 mu_3 ks_3 ti_mixed (by kernel_rfl) ?_ | refine AWp_regE mu_3 ks_3 ?_ | refine AWp_drawE nd_3 mu_3 ks_3 ti_mixed (by kernel_rfl) ?_); intro Kv hKv) | refine AWp_retR ?_); try simp (dsimp := false) only [go_sem, Nat.reduceAdd, Nat.reduceBEq, Nat.reduceEqDiff, Nat.reduceLT, Nat.reduceLeDiff, Nat.reduceMul, Int.reduceToNat, reduceCtorEq, ↓reduceIte, Try.ntmps3, Try.results3, ks_3, mu_3, nd_3, ti_ag3, ti_ag22, ti_sb23, ti_sb24, ti_sl23, ti_sl24]) | (refine AWp_condC rfl ?_; intro KA KB hKA hKB; try simp only [onB_true, onB_false, onB_dec, onB_ndec, onB_not, onB_and, onB_or]) | (refine AWp_condA rfl ?_ ?_) | with_reducible (first | refine onB_of ?_ ?_ | rfl) | omega)
  · exact ⟨i + 1, by omega, by omega, by omega⟩
  · rename_i x hx h
    exact absurd (errsL_get i x hx) h
  all_goals try (simp only [List.length_cons, List.length_nil]; omega)
  refine AWp_whileH (fun k : Nat => k ≤ 15) (fun k => [(3, .os 0 5), (4, .os 1 (4 + k)), (5, .d (.i .i64 (k + 1)))]) (fun k => [.row 5 3 1 (allL.map intCells), .row (4 + k) 3 1 ((allL.take (74 + k)).map intCells)]) (fun k => 15 - k) 0 ?_ ?_ ?_ ?_ ?_
  · simp
  · rfl
  · simp (dsimp := false) only [go_sem, Nat.reduceAdd, Nat.reduceBEq, Nat.reduceEqDiff, Nat.reduceLT, Nat.reduceLeDiff, Nat.reduceMul, Int.reduceToNat, reduceCtorEq, ↓reduceIte, Try.ntmps3, Try.results3, ks_3, mu_3, nd_3, ti_ag3, ti_ag22, ti_sb23, ti_sb24, ti_sl23, ti_sl24]
    omega
  · intro k hk15 ob hob
    rcases List.mem_cons.1 hob with rfl | hob
    · exact obBel_data _ _ _ _ (allL.map intRow)
    · rcases List.mem_cons.1 hob with rfl | hob
      · have := obBel_data ([] ++ [Ob.row 5 3 1 (allL.map intCells), .row (4 + k) 3 1 ((allL.take (74 + k)).map intCells)] : Heap).length (4 + k) 3 1 ((allL.take (74 + k)).map intRow)
        rw [List.map_map] at this
        exact this
      · cases hob
  rintro k hk15
  have hlen := allL_take (74 + k)
  repeat' (first | with_reducible (first | refine And.intro ?_ ?_ | intro _ | refine AWp_seq ?_ | refine AWp_block ?_ | (refine hKv _ _ (AWp_nop ?_); clear hKv Kv) | (refine hKA ?_; clear hKA hKB KA KB) | (refine hKB ?_; clear hKA hKB KA KB) | refine AWp_skipN ?_ | refine AWp_exitO (by repeat (first | exact Out.hit | apply Out.thenA | apply Out.out rfl)) ?_) | (with_reducible (first | (refine hKv _ _ ?_; clear hKv Kv) | ((first | refine AWp_regC mu_3 ks_3 ?_ | refine AWp_draw nd_3 mu_3 ks_3 ti_mixed (by kernel_rfl) ?_ | refine AWp_regE mu_3 ks_3 ?_ | refine AWp_drawE nd_3 mu_3 ks_3 ti_mixed (by kernel_rfl) ?_); intro Kv hKv) | refine AWp_retR ?_); try simp (dsimp := false) only [go_sem, Nat.reduceAdd, Nat.reduceBEq, Nat.reduceEqDiff, Nat.reduceLT, Nat.reduceLeDiff, Nat.reduceMul, Int.reduceToNat, reduceCtorEq, ↓reduceIte, Try.ntmps3, Try.results3, ks_3, mu_3, nd_3, ti_ag3, ti_ag22, ti_sb23, ti_sb24, ti_sl23, ti_sl24]) | (refine AWp_condC rfl ?_; intro KA KB hKA hKB; try simp only [onB_true, onB_false, onB_dec, onB_ndec, onB_not, onB_and, onB_or]) | (refine AWp_condA rfl ?_ ?_) | with_reducible (first | refine onB_of ?_ ?_ | rfl) | omega)
  · rename_i hk
    refine ⟨k + 1, by omega, by omega, ?_, rfl, by omega⟩
    rw [allL_step k (by omega)]
    rfl
  have hk : k = 15 := by omega
  subst hk
  refine AWp_whileH (fun i : Nat => i ≤ 89) (fun i => [(3, .os 0 5), (4, .os 1 19), (6, .d (.i .i64 i))]) (fun i => [.row 5 3 1 (allL.map intCells), .row 19 3 1 (allL.map intCells)]) (fun i => 89 - i) 0 ?_ ?_ ?_ ?_ ?_
  · simp
  · rfl
  · simp (dsimp := false) only [go_sem, Nat.reduceAdd, Nat.reduceBEq, Nat.reduceEqDiff, Nat.reduceLT, Nat.reduceLeDiff, Nat.reduceMul, Int.reduceToNat, reduceCtorEq, ↓reduceIte, Try.ntmps3, Try.results3, ks_3, mu_3, nd_3, ti_ag3, ti_ag22, ti_sb23, ti_sb24, ti_sl23, ti_sl24]
    omega
  · intro i hi ob hob
    rcases List.mem_cons.1 hob with rfl | hob
    · exact obBel_data _ _ _ _ (allL.map intRow)
    · rcases List.mem_cons.1 hob with rfl | hob
      · exact obBel_data _ _ _ _ (allL.map intRow)
      · cases hob
  rintro j hj
  have hl := allL_len
  repeat' (first | with_reducible (first | refine And.intro ?_ ?_ | intro _ | refine AWp_seq ?_ | refine AWp_block ?_ | (refine hKv _ _ (AWp_nop ?_); clear hKv Kv) | (refine hKA ?_; clear hKA hKB KA KB) | (refine hKB ?_; clear hKA hKB KA KB) | refine AWp_skipN ?_ | refine AWp_exitO (by repeat (first | exact Out.hit | apply Out.thenA | apply Out.out rfl)) ?_) | (with_reducible (first | (refine hKv _ _ ?_; clear hKv Kv) | ((first | refine AWp_regC mu_3 ks_3 ?_ | refine AWp_draw nd_3 mu_3 ks_3 ti_mixed (by kernel_rfl) ?_ | refine AWp_regE mu_3 ks_3 ?_ | refine AWp_drawE nd_3 mu_3 ks_3 ti_mixed (by kernel_rfl) ?_); intro Kv hKv) | refine AWp_retR ?_); try simp (dsimp := false) only [go_sem, Nat.reduceAdd, Nat.reduceBEq, Nat.reduceEqDiff, Nat.reduceLT, Nat.reduceLeDiff, Nat.reduceMul, Int.reduceToNat, reduceCtorEq, ↓reduceIte, Try.ntmps3, Try.results3, ks_3, mu_3, nd_3, ti_ag3, ti_ag22, ti_sb23, ti_sb24, ti_sl23, ti_sl24]) | (refine AWp_condC rfl ?_; intro KA KB hKA hKB; try simp only [onB_true, onB_false, onB_dec, onB_ndec, onB_not, onB_and, onB_or]) | (refine AWp_condA rfl ?_ ?_) | with_reducible (first | refine onB_of ?_ ?_ | rfl) | omega)
  · exact ⟨j + 1, by omega, by omega, by omega⟩
  · rename_i x h1 y h2 h3
    rw [h1] at h2
    exact absurd (Option.some.inj h2) h3
  · first | exact dropD hk rfl | exact keepD hk rfl | exact dropK hk (by simp [Bel_d]) rfl
end Go.Proofs.Ytmalccaijjcepaa
