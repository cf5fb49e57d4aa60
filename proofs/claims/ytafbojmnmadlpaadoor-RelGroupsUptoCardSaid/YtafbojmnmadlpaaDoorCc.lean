/- Room made for so many elements, slices put one behind the other. No condition. -/
import Derived.Test.YtafbojmnmadlpaaDoorRsG
set_option linter.all false
set_option linter.unusedSimpArgs false
set_option linter.unusedVariables false
namespace Go.Proofs.YtafbojmnmadlpaaDoor
open Go Go.Proofs.YtafbojmnmadlpaaDoor.Ab
variable [Glo] [U8]
set_option maxHeartbeats 4000000
set_option maxRecDepth 20000
def cells (l : List (List D)) : List (List V) := l.map fun r => r.map V.d
theorem cells_data (l : List (List D)) : dsRows (cells l) = some l := data_rows l
theorem obBel_cells (m ver e sz : Nat) (xs : List (List D)) : ObBel m (.row ver e sz (cells xs)) := obBel_data m ver e sz xs
theorem flat_take {α : Type} {ls : List (List α)} {i : Nat} {l : List α} (h : ls[i]? = some l) : (ls.take (i + 1)).flatten = (ls.take i).flatten ++ l := by
  rw [take_of_get h, List.flatten_append]; simp
theorem flat_le {α : Type} {ls : List (List α)} (i : Nat) : (ls.take i).flatten.length ≤ ls.flatten.length := by
  have e : ls.flatten = (ls.take i).flatten ++ (ls.drop i).flatten := by rw [← List.flatten_append, List.take_append_drop]
  rw [e, List.length_append]
  omega
def slD (z : Nat) (l : List (List D)) : List D := [.sl z l]

/- the live slots of slices.Grow[[]string,string] -/
def ks_102 : Nat → List Nat
  | 0 => [0, 1]
  | 1 => [0, 1, 6]
  | 2 => [0, 1]
  | 3 => [0, 1]
  | 4 => [0, 1, 16]
  | 5 => [0]
  | 6 => [4]
  | _ => []
def mu_102 : List Nat := [22]
def in_102 : List Nat := [0, 1]
theorem growStr_A (n : Int) (h0 : 0 ≤ n) (hn : n ≤ 1000000000000) (H : Heap) (K : V → Heap → Prop) (hk : (n = 0 → K (.d (.c (.slice none 0 0))) H) ∧ (0 < n → K (.os H.length 1) (H ++ [.row 1 9 1 []]))) :
    ACalls Tryd.prog 102 [.d (.c (.slice none 0 0)), .d (.i .i64 n)] H K := by
  refine ACalls_of Tryd.func102 rfl in_102 (Nat.le_of_ble_eq_true rfl) ?_
  intro F hF
  simp (dsimp := false) only [go_sem, Nat.reduceAdd, Nat.reduceBEq, Nat.reduceEqDiff, Nat.reduceLT, Nat.reduceLeDiff, Nat.reduceMul, Int.reduceToNat, reduceCtorEq, ↓reduceIte, Tryd.ntmps102, Tryd.results102, ks_102, mu_102, ti_in3, ti_sb22, ti_sl22, ti_zr9, List.take_zero, Option.isSome_some, in_102] at hF
  subst hF
  repeat' (first
    | with_reducible refine And.intro ?_ ?_
    | with_reducible intro _
    | with_reducible refine AWp_seq ?_
    | with_reducible refine AWp_block ?_
    | (with_reducible refine hKv _ _ (AWp_nop ?_); clear hKv Kv)
    | (with_reducible refine hKv _ _ ?_; clear hKv Kv; simp (dsimp := false) only [go_sem, Nat.reduceAdd, Nat.reduceBEq, Nat.reduceEqDiff, Nat.reduceLT, Nat.reduceLeDiff, Nat.reduceMul, Int.reduceToNat, reduceCtorEq, ↓reduceIte, Tryd.ntmps102, Tryd.results102, ks_102, mu_102, ti_in3, ti_sb22, ti_sl22, ti_zr9, List.take_zero, Option.isSome_some])
    | (with_reducible refine hKA ?_; clear hKA hKB KA KB)
    | (with_reducible refine hKB ?_; clear hKA hKB KA KB)
    | (with_reducible refine AWp_regC mu_102 ks_102 ?_; intro Kv hKv; simp (dsimp := false) only [go_sem, Nat.reduceAdd, Nat.reduceBEq, Nat.reduceEqDiff, Nat.reduceLT, Nat.reduceLeDiff, Nat.reduceMul, Int.reduceToNat, reduceCtorEq, ↓reduceIte, Tryd.ntmps102, Tryd.results102, ks_102, mu_102, ti_in3, ti_sb22, ti_sl22, ti_zr9, List.take_zero, Option.isSome_some])
    | with_reducible refine AWp_skipN ?_
    | with_reducible refine AWp_exitO (by repeat (first | with_reducible exact Out.hit | with_reducible apply Out.thenA | with_reducible apply Out.out rfl)) ?_
    | (with_reducible refine AWp_retR ?_; simp (dsimp := false) only [go_sem, Nat.reduceAdd, Nat.reduceBEq, Nat.reduceEqDiff, Nat.reduceLT, Nat.reduceLeDiff, Nat.reduceMul, Int.reduceToNat, reduceCtorEq, ↓reduceIte, Tryd.ntmps102, Tryd.results102, ks_102, mu_102, ti_in3, ti_sb22, ti_sl22, ti_zr9, List.take_zero, Option.isSome_some])
    | (with_reducible refine AWp_regE mu_102 ks_102 ?_; intro Kv hKv; simp (dsimp := false) only [go_sem, Nat.reduceAdd, Nat.reduceBEq, Nat.reduceEqDiff, Nat.reduceLT, Nat.reduceLeDiff, Nat.reduceMul, Int.reduceToNat, reduceCtorEq, ↓reduceIte, Tryd.ntmps102, Tryd.results102, ks_102, mu_102, ti_in3, ti_sb22, ti_sl22, ti_zr9, List.take_zero, Option.isSome_some])
    | (refine AWp_condC rfl ?_; intro KA KB hKA hKB; try simp only [onB_true, onB_false, onB_dec, onB_ndec, onB_not, onB_and, onB_or])
    | (refine AWp_condA rfl ?_ ?_)
    | with_reducible refine onB_of ?_ ?_
    | with_reducible rfl
    | omega)
  all_goals first
    | (refine keepO (hk.2 (by omega)) (fun ob hob => ?_) (by simp [Bel_os])
       simp only [List.mem_cons, List.not_mem_nil, or_false] at hob
       rcases hob with rfl
       exact obBel_cells _ _ _ _ [])
    | exact keepK (hk.1 (by omega)) (by simp [Bel_d]) rfl

/- the live slots of slices.Concat[[]string,string] -/
def ks_55 : Nat → List Nat
  | 0 => [0]
  | 1 => [0, 3]
  | 2 => [0, 3, 9, 10, 11]
  | 3 => [0, 3, 9, 10, 11, 12]
  | 4 => [0, 3, 5, 9, 10, 11]
  | 5 => [0, 3, 9, 10, 11]
  | 6 => [0, 3, 9, 10, 11, 20]
  | 7 => [0, 3, 9, 10, 11]
  | 8 => [0, 3, 9, 10, 11]
  | 9 => [0, 6]
  | 10 => [6, 25, 26, 27]
  | 11 => [6, 25, 26, 27, 28]
  | 12 => [6, 8, 25, 26, 27]
  | 13 => [6, 25, 26, 27]
  | 14 => [6, 25, 26, 27]
  | 15 => [2]
  | _ => []
def mu_55 : List Nat := [6]
def in_55 : List Nat := [0]
theorem concatStr_A (ls : List (List (List D))) (hlen : ls.length ≤ 1048576) (hj : ls.flatten.length ≤ 1000000000000) (H : Heap) (K : V → Heap → Prop) (hk : K (.d (.sl 1 ls.flatten)) H) :
    ACalls Tryd.prog 55 [.d (.sl 1 (ls.map (slD 1)))] H K := by
  refine ACalls_of Tryd.func55 rfl in_55 (Nat.le_of_ble_eq_true rfl) ?_
  intro F hF
  simp (dsimp := false) only [go_sem, Nat.reduceAdd, Nat.reduceBEq, Nat.reduceEqDiff, Nat.reduceLT, Nat.reduceLeDiff, Nat.reduceMul, Int.reduceToNat, reduceCtorEq, ↓reduceIte, Tryd.ntmps55, Tryd.results55, ks_55, mu_55, ti_ag22, ti_hb102, ti_sb22, ti_sb142, ti_sl22, ti_sl142, slD, in_55] at hF
  subst hF
  repeat' (first
    | with_reducible refine And.intro ?_ ?_
    | with_reducible intro _
    | with_reducible refine AWp_seq ?_
    | with_reducible refine AWp_block ?_
    | (with_reducible refine hKv _ _ (AWp_nop ?_); clear hKv Kv)
    | (with_reducible refine hKv _ _ ?_; clear hKv Kv; simp (dsimp := false) only [go_sem, Nat.reduceAdd, Nat.reduceBEq, Nat.reduceEqDiff, Nat.reduceLT, Nat.reduceLeDiff, Nat.reduceMul, Int.reduceToNat, reduceCtorEq, ↓reduceIte, Tryd.ntmps55, Tryd.results55, ks_55, mu_55, ti_ag22, ti_hb102, ti_sb22, ti_sb142, ti_sl22, ti_sl142, slD])
    | (with_reducible refine hKA ?_; clear hKA hKB KA KB)
    | (with_reducible refine hKB ?_; clear hKA hKB KA KB)
    | (with_reducible refine AWp_regC mu_55 ks_55 ?_; intro Kv hKv; simp (dsimp := false) only [go_sem, Nat.reduceAdd, Nat.reduceBEq, Nat.reduceEqDiff, Nat.reduceLT, Nat.reduceLeDiff, Nat.reduceMul, Int.reduceToNat, reduceCtorEq, ↓reduceIte, Tryd.ntmps55, Tryd.results55, ks_55, mu_55, ti_ag22, ti_hb102, ti_sb22, ti_sb142, ti_sl22, ti_sl142, slD])
    | with_reducible refine AWp_skipN ?_
    | with_reducible refine AWp_exitO (by repeat (first | with_reducible exact Out.hit | with_reducible apply Out.thenA | with_reducible apply Out.out rfl)) ?_
    | (with_reducible refine AWp_retR ?_; simp (dsimp := false) only [go_sem, Nat.reduceAdd, Nat.reduceBEq, Nat.reduceEqDiff, Nat.reduceLT, Nat.reduceLeDiff, Nat.reduceMul, Int.reduceToNat, reduceCtorEq, ↓reduceIte, Tryd.ntmps55, Tryd.results55, ks_55, mu_55, ti_ag22, ti_hb102, ti_sb22, ti_sb142, ti_sl22, ti_sl142, slD])
    | (with_reducible refine AWp_regE mu_55 ks_55 ?_; intro Kv hKv; simp (dsimp := false) only [go_sem, Nat.reduceAdd, Nat.reduceBEq, Nat.reduceEqDiff, Nat.reduceLT, Nat.reduceLeDiff, Nat.reduceMul, Int.reduceToNat, reduceCtorEq, ↓reduceIte, Tryd.ntmps55, Tryd.results55, ks_55, mu_55, ti_ag22, ti_hb102, ti_sb22, ti_sb142, ti_sl22, ti_sl142, slD])
    | (refine AWp_condC rfl ?_; intro KA KB hKA hKB; try simp only [onB_true, onB_false, onB_dec, onB_ndec, onB_not, onB_and, onB_or])
    | (refine AWp_condA rfl ?_ ?_)
    | with_reducible refine onB_of ?_ ?_
    | with_reducible rfl
    | omega)
  refine AWp_while0 (fun i : Nat => i ≤ ls.length) (fun i => [(0, .d (.sl 1 (ls.map (slD 1)))), (3, .d (.i .i64 (ls.take i).flatten.length)), (9, .d (.sl 1 (ls.map (slD 1)))), (10, .d (.i .i64 ls.length)), (11, .d (.i .i64 i))]) (fun i => ls.length - i) 0 (Nat.zero_le _) ?_ ?_
  · simp (dsimp := false) only [go_sem, Nat.reduceAdd, Nat.reduceBEq, Nat.reduceEqDiff, Nat.reduceLT, Nat.reduceLeDiff, Nat.reduceMul, Int.reduceToNat, reduceCtorEq, ↓reduceIte, Tryd.ntmps55, Tryd.results55, ks_55, mu_55, ti_ag22, ti_hb102, ti_sb22, ti_sb142, ti_sl22, ti_sl142, slD]
    first | done | simp
  rintro i hi
  by_cases hiN : i < ls.length
  · obtain ⟨l, hl⟩ : ∃ l, ls[i]? = some l := ⟨ls[i], List.getElem?_eq_getElem hiN⟩
    have hle := flat_le (ls := ls) (i + 1)
    have he := congrArg List.length (flat_take hl)
    rw [List.length_append] at he
    
    repeat' (first
      | with_reducible refine And.intro ?_ ?_
      | with_reducible intro _
      | with_reducible refine AWp_seq ?_
      | with_reducible refine AWp_block ?_
      | (with_reducible refine hKv _ _ (AWp_nop ?_); clear hKv Kv)
      | (with_reducible refine hKv _ _ ?_; clear hKv Kv; simp (dsimp := false) only [go_sem, Nat.reduceAdd, Nat.reduceBEq, Nat.reduceEqDiff, Nat.reduceLT, Nat.reduceLeDiff, Nat.reduceMul, Int.reduceToNat, reduceCtorEq, ↓reduceIte, Tryd.ntmps55, Tryd.results55, ks_55, mu_55, ti_ag22, ti_hb102, ti_sb22, ti_sb142, ti_sl22, ti_sl142, slD, hl])
      | (with_reducible refine hKA ?_; clear hKA hKB KA KB)
      | (with_reducible refine hKB ?_; clear hKA hKB KA KB)
      | (with_reducible refine AWp_regC mu_55 ks_55 ?_; intro Kv hKv; simp (dsimp := false) only [go_sem, Nat.reduceAdd, Nat.reduceBEq, Nat.reduceEqDiff, Nat.reduceLT, Nat.reduceLeDiff, Nat.reduceMul, Int.reduceToNat, reduceCtorEq, ↓reduceIte, Tryd.ntmps55, Tryd.results55, ks_55, mu_55, ti_ag22, ti_hb102, ti_sb22, ti_sb142, ti_sl22, ti_sl142, slD, hl])
      | with_reducible refine AWp_skipN ?_
      | with_reducible refine AWp_exitO (by repeat (first | with_reducible exact Out.hit | with_reducible apply Out.thenA | with_reducible apply Out.out rfl)) ?_
      | (with_reducible refine AWp_retR ?_; simp (dsimp := false) only [go_sem, Nat.reduceAdd, Nat.reduceBEq, Nat.reduceEqDiff, Nat.reduceLT, Nat.reduceLeDiff, Nat.reduceMul, Int.reduceToNat, reduceCtorEq, ↓reduceIte, Tryd.ntmps55, Tryd.results55, ks_55, mu_55, ti_ag22, ti_hb102, ti_sb22, ti_sb142, ti_sl22, ti_sl142, slD, hl])
      | (with_reducible refine AWp_regE mu_55 ks_55 ?_; intro Kv hKv; simp (dsimp := false) only [go_sem, Nat.reduceAdd, Nat.reduceBEq, Nat.reduceEqDiff, Nat.reduceLT, Nat.reduceLeDiff, Nat.reduceMul, Int.reduceToNat, reduceCtorEq, ↓reduceIte, Tryd.ntmps55, Tryd.results55, ks_55, mu_55, ti_ag22, ti_hb102, ti_sb22, ti_sb142, ti_sl22, ti_sl142, slD, hl])
      | (refine AWp_condC rfl ?_; intro KA KB hKA hKB; try simp only [onB_true, onB_false, onB_dec, onB_ndec, onB_not, onB_and, onB_or])
      | (refine AWp_condA rfl ?_ ?_)
      | with_reducible refine onB_of ?_ ?_
      | with_reducible rfl
      | omega)
    all_goals first
      | exact ⟨i + 1, by omega, by omega, by omega, by omega⟩
  have e : i = ls.length := by omega
  subst e
  rw [List.take_length]
  
  repeat' (first
    | with_reducible refine And.intro ?_ ?_
    | with_reducible intro _
    | with_reducible refine AWp_seq ?_
    | with_reducible refine AWp_block ?_
    | (with_reducible refine hKv _ _ (AWp_nop ?_); clear hKv Kv)
    | (with_reducible refine hKv _ _ ?_; clear hKv Kv; simp (dsimp := false) only [go_sem, Nat.reduceAdd, Nat.reduceBEq, Nat.reduceEqDiff, Nat.reduceLT, Nat.reduceLeDiff, Nat.reduceMul, Int.reduceToNat, reduceCtorEq, ↓reduceIte, Tryd.ntmps55, Tryd.results55, ks_55, mu_55, ti_ag22, ti_hb102, ti_sb22, ti_sb142, ti_sl22, ti_sl142, slD])
    | (with_reducible refine hKA ?_; clear hKA hKB KA KB)
    | (with_reducible refine hKB ?_; clear hKA hKB KA KB)
    | (with_reducible refine AWp_regC mu_55 ks_55 ?_; intro Kv hKv; simp (dsimp := false) only [go_sem, Nat.reduceAdd, Nat.reduceBEq, Nat.reduceEqDiff, Nat.reduceLT, Nat.reduceLeDiff, Nat.reduceMul, Int.reduceToNat, reduceCtorEq, ↓reduceIte, Tryd.ntmps55, Tryd.results55, ks_55, mu_55, ti_ag22, ti_hb102, ti_sb22, ti_sb142, ti_sl22, ti_sl142, slD])
    | with_reducible refine AWp_skipN ?_
    | with_reducible refine AWp_exitO (by repeat (first | with_reducible exact Out.hit | with_reducible apply Out.thenA | with_reducible apply Out.out rfl)) ?_
    | (with_reducible refine AWp_retR ?_; simp (dsimp := false) only [go_sem, Nat.reduceAdd, Nat.reduceBEq, Nat.reduceEqDiff, Nat.reduceLT, Nat.reduceLeDiff, Nat.reduceMul, Int.reduceToNat, reduceCtorEq, ↓reduceIte, Tryd.ntmps55, Tryd.results55, ks_55, mu_55, ti_ag22, ti_hb102, ti_sb22, ti_sb142, ti_sl22, ti_sl142, slD])
    | (with_reducible refine AWp_regE mu_55 ks_55 ?_; intro Kv hKv; simp (dsimp := false) only [go_sem, Nat.reduceAdd, Nat.reduceBEq, Nat.reduceEqDiff, Nat.reduceLT, Nat.reduceLeDiff, Nat.reduceMul, Int.reduceToNat, reduceCtorEq, ↓reduceIte, Tryd.ntmps55, Tryd.results55, ks_55, mu_55, ti_ag22, ti_hb102, ti_sb22, ti_sb142, ti_sl22, ti_sl142, slD])
    | (refine AWp_condC rfl ?_; intro KA KB hKA hKB; try simp only [onB_true, onB_false, onB_dec, onB_ndec, onB_not, onB_and, onB_or])
    | (refine AWp_condA rfl ?_ ?_)
    | (refine growStr_A _ (by omega) (by omega) _ _ ?_; try simp (dsimp := false) only [go_sem, Nat.reduceAdd, Nat.reduceBEq, Nat.reduceEqDiff, Nat.reduceLT, Nat.reduceLeDiff, Nat.reduceMul, Int.reduceToNat, reduceCtorEq, ↓reduceIte, Tryd.ntmps55, Tryd.results55, ks_55, mu_55, ti_ag22, ti_hb102, ti_sb22, ti_sb142, ti_sl22, ti_sl142, slD])
    | with_reducible refine onB_of ?_ ?_
    | with_reducible rfl
    | omega)
  all_goals
    first
    | refine AWp_whileH (fun y : Nat × Nat => y.2 ≤ ls.length) (fun y => [(6, .os H.length y.1), (25, .d (.sl 1 (ls.map (slD 1)))), (26, .d (.i .i64 ls.length)), (27, .d (.i .i64 y.2))]) (fun y => [.row y.1 9 1 (cells (ls.take y.2).flatten)]) (fun y => ls.length - y.2) (0, 0) (Nat.zero_le _) rfl ?_ ?_ ?_
    | refine AWp_whileH (fun y : Nat × Nat => y.2 ≤ ls.length) (fun y => [(6, .os H.length y.1), (25, .d (.sl 1 (ls.map (slD 1)))), (26, .d (.i .i64 ls.length)), (27, .d (.i .i64 y.2))]) (fun y => [.row y.1 9 1 (cells (ls.take y.2).flatten)]) (fun y => ls.length - y.2) (1, 0) (Nat.zero_le _) rfl ?_ ?_ ?_
    · simp (dsimp := false) only [go_sem, Nat.reduceAdd, Nat.reduceBEq, Nat.reduceEqDiff, Nat.reduceLT, Nat.reduceLeDiff, Nat.reduceMul, Int.reduceToNat, reduceCtorEq, ↓reduceIte, Tryd.ntmps55, Tryd.results55, ks_55, mu_55, ti_ag22, ti_hb102, ti_sb22, ti_sb142, ti_sl22, ti_sl142, slD]
      simp
    · rintro ⟨v, i⟩ _ ob hob
      simp only [List.mem_cons, List.not_mem_nil, or_false] at hob
      rcases hob with rfl
      exact obBel_cells _ _ _ _ _
    rintro ⟨v, i⟩ hi
    simp only [] at hi ⊢
    by_cases hiN : i < ls.length
    · obtain ⟨l, hl⟩ : ∃ l, ls[i]? = some l := ⟨ls[i], List.getElem?_eq_getElem hiN⟩
      have hle := flat_le (ls := ls) (i + 1)
      have he := congrArg List.length (flat_take hl)
      rw [List.length_append] at he
      have hcl : (cells (ls.take i).flatten).length = (ls.take i).flatten.length := by rw [cells, List.length_map]
      
      repeat' (first
        | with_reducible refine And.intro ?_ ?_
        | with_reducible intro _
        | with_reducible refine AWp_seq ?_
        | with_reducible refine AWp_block ?_
        | (with_reducible refine hKv _ _ (AWp_nop ?_); clear hKv Kv)
        | (with_reducible refine hKv _ _ ?_; clear hKv Kv; simp (dsimp := false) only [go_sem, Nat.reduceAdd, Nat.reduceBEq, Nat.reduceEqDiff, Nat.reduceLT, Nat.reduceLeDiff, Nat.reduceMul, Int.reduceToNat, reduceCtorEq, ↓reduceIte, Tryd.ntmps55, Tryd.results55, ks_55, mu_55, ti_ag22, ti_hb102, ti_sb22, ti_sb142, ti_sl22, ti_sl142, slD, hl])
        | (with_reducible refine hKA ?_; clear hKA hKB KA KB)
        | (with_reducible refine hKB ?_; clear hKA hKB KA KB)
        | (with_reducible refine AWp_regC mu_55 ks_55 ?_; intro Kv hKv; simp (dsimp := false) only [go_sem, Nat.reduceAdd, Nat.reduceBEq, Nat.reduceEqDiff, Nat.reduceLT, Nat.reduceLeDiff, Nat.reduceMul, Int.reduceToNat, reduceCtorEq, ↓reduceIte, Tryd.ntmps55, Tryd.results55, ks_55, mu_55, ti_ag22, ti_hb102, ti_sb22, ti_sb142, ti_sl22, ti_sl142, slD, hl])
        | with_reducible refine AWp_skipN ?_
        | with_reducible refine AWp_exitO (by repeat (first | with_reducible exact Out.hit | with_reducible apply Out.thenA | with_reducible apply Out.out rfl)) ?_
        | (with_reducible refine AWp_retR ?_; simp (dsimp := false) only [go_sem, Nat.reduceAdd, Nat.reduceBEq, Nat.reduceEqDiff, Nat.reduceLT, Nat.reduceLeDiff, Nat.reduceMul, Int.reduceToNat, reduceCtorEq, ↓reduceIte, Tryd.ntmps55, Tryd.results55, ks_55, mu_55, ti_ag22, ti_hb102, ti_sb22, ti_sb142, ti_sl22, ti_sl142, slD, hl])
        | (with_reducible refine AWp_regE mu_55 ks_55 ?_; intro Kv hKv; simp (dsimp := false) only [go_sem, Nat.reduceAdd, Nat.reduceBEq, Nat.reduceEqDiff, Nat.reduceLT, Nat.reduceLeDiff, Nat.reduceMul, Int.reduceToNat, reduceCtorEq, ↓reduceIte, Tryd.ntmps55, Tryd.results55, ks_55, mu_55, ti_ag22, ti_hb102, ti_sb22, ti_sb142, ti_sl22, ti_sl142, slD, hl])
        | (refine AWp_condC rfl ?_; intro KA KB hKA hKB; try simp only [onB_true, onB_false, onB_dec, onB_ndec, onB_not, onB_and, onB_or])
        | (refine AWp_condA rfl ?_ ?_)
        | with_reducible refine onB_of ?_ ?_
        | with_reducible rfl
        | omega)
      all_goals first
        | exact ⟨(v + 1, i + 1), by show i + 1 ≤ ls.length; omega, by show ls.length - (i + 1) < ls.length - i; omega, by rw [flat_take hl]; simp [cells], rfl, by omega, by simp⟩
    · have e : i = ls.length := by omega
      subst e
      rw [List.take_length]
      
      repeat' (first
        | with_reducible refine And.intro ?_ ?_
        | with_reducible intro _
        | with_reducible refine AWp_seq ?_
        | with_reducible refine AWp_block ?_
        | (with_reducible refine hKv _ _ (AWp_nop ?_); clear hKv Kv)
        | (with_reducible refine hKv _ _ ?_; clear hKv Kv; simp (dsimp := false) only [go_sem, Nat.reduceAdd, Nat.reduceBEq, Nat.reduceEqDiff, Nat.reduceLT, Nat.reduceLeDiff, Nat.reduceMul, Int.reduceToNat, reduceCtorEq, ↓reduceIte, Tryd.ntmps55, Tryd.results55, ks_55, mu_55, ti_ag22, ti_hb102, ti_sb22, ti_sb142, ti_sl22, ti_sl142, slD])
        | (with_reducible refine hKA ?_; clear hKA hKB KA KB)
        | (with_reducible refine hKB ?_; clear hKA hKB KA KB)
        | (with_reducible refine AWp_regC mu_55 ks_55 ?_; intro Kv hKv; simp (dsimp := false) only [go_sem, Nat.reduceAdd, Nat.reduceBEq, Nat.reduceEqDiff, Nat.reduceLT, Nat.reduceLeDiff, Nat.reduceMul, Int.reduceToNat, reduceCtorEq, ↓reduceIte, Tryd.ntmps55, Tryd.results55, ks_55, mu_55, ti_ag22, ti_hb102, ti_sb22, ti_sb142, ti_sl22, ti_sl142, slD])
        | with_reducible refine AWp_skipN ?_
        | with_reducible refine AWp_exitO (by repeat (first | with_reducible exact Out.hit | with_reducible apply Out.thenA | with_reducible apply Out.out rfl)) ?_
        | (with_reducible refine AWp_retR ?_; simp (dsimp := false) only [go_sem, Nat.reduceAdd, Nat.reduceBEq, Nat.reduceEqDiff, Nat.reduceLT, Nat.reduceLeDiff, Nat.reduceMul, Int.reduceToNat, reduceCtorEq, ↓reduceIte, Tryd.ntmps55, Tryd.results55, ks_55, mu_55, ti_ag22, ti_hb102, ti_sb22, ti_sb142, ti_sl22, ti_sl142, slD])
        | (with_reducible refine AWp_regE mu_55 ks_55 ?_; intro Kv hKv; simp (dsimp := false) only [go_sem, Nat.reduceAdd, Nat.reduceBEq, Nat.reduceEqDiff, Nat.reduceLT, Nat.reduceLeDiff, Nat.reduceMul, Int.reduceToNat, reduceCtorEq, ↓reduceIte, Tryd.ntmps55, Tryd.results55, ks_55, mu_55, ti_ag22, ti_hb102, ti_sb22, ti_sb142, ti_sl22, ti_sl142, slD])
        | (refine AWp_condC rfl ?_; intro KA KB hKA hKB; try simp only [onB_true, onB_false, onB_dec, onB_ndec, onB_not, onB_and, onB_or])
        | (refine AWp_condA rfl ?_ ?_)
        | with_reducible refine onB_of ?_ ?_
        | with_reducible rfl
        | omega)
      all_goals first
        | exact dropF hk (.os _ _ _ _ _ _ (by omega) (get_app0 _ _) (cells_data _)) (by simp [Bel_d])

/- the live slots of slices.Grow[[]pleacher/api.Item,pleacher/api.Item] -/
def ks_101 : Nat → List Nat
  | 0 => [0, 1]
  | 1 => [0, 1, 6]
  | 2 => [0, 1]
  | 3 => [0, 1]
  | 4 => [0, 1, 16]
  | 5 => [0]
  | 6 => [4]
  | _ => []
def mu_101 : List Nat := [22]
def in_101 : List Nat := [0, 1]
theorem growIts_A (n : Int) (h0 : 0 ≤ n) (hn : n ≤ 1000000000000) (H : Heap) (K : V → Heap → Prop) (hk : (n = 0 → K (.d (.c (.slice none 0 0))) H) ∧ (0 < n → K (.os H.length 1) (H ++ [.row 1 35 3 []]))) :
    ACalls Tryd.prog 101 [.d (.c (.slice none 0 0)), .d (.i .i64 n)] H K := by
  refine ACalls_of Tryd.func101 rfl in_101 (Nat.le_of_ble_eq_true rfl) ?_
  intro F hF
  simp (dsimp := false) only [go_sem, Nat.reduceAdd, Nat.reduceBEq, Nat.reduceEqDiff, Nat.reduceLT, Nat.reduceLeDiff, Nat.reduceMul, Int.reduceToNat, reduceCtorEq, ↓reduceIte, Tryd.ntmps101, Tryd.results101, ks_101, mu_101, ti_in3, ti_sb68, ti_sl68, ti_zr35, List.take_zero, Option.isSome_some, in_101] at hF
  subst hF
  repeat' (first
    | with_reducible refine And.intro ?_ ?_
    | with_reducible intro _
    | with_reducible refine AWp_seq ?_
    | with_reducible refine AWp_block ?_
    | (with_reducible refine hKv _ _ (AWp_nop ?_); clear hKv Kv)
    | (with_reducible refine hKv _ _ ?_; clear hKv Kv; simp (dsimp := false) only [go_sem, Nat.reduceAdd, Nat.reduceBEq, Nat.reduceEqDiff, Nat.reduceLT, Nat.reduceLeDiff, Nat.reduceMul, Int.reduceToNat, reduceCtorEq, ↓reduceIte, Tryd.ntmps101, Tryd.results101, ks_101, mu_101, ti_in3, ti_sb68, ti_sl68, ti_zr35, List.take_zero, Option.isSome_some])
    | (with_reducible refine hKA ?_; clear hKA hKB KA KB)
    | (with_reducible refine hKB ?_; clear hKA hKB KA KB)
    | (with_reducible refine AWp_regC mu_101 ks_101 ?_; intro Kv hKv; simp (dsimp := false) only [go_sem, Nat.reduceAdd, Nat.reduceBEq, Nat.reduceEqDiff, Nat.reduceLT, Nat.reduceLeDiff, Nat.reduceMul, Int.reduceToNat, reduceCtorEq, ↓reduceIte, Tryd.ntmps101, Tryd.results101, ks_101, mu_101, ti_in3, ti_sb68, ti_sl68, ti_zr35, List.take_zero, Option.isSome_some])
    | with_reducible refine AWp_skipN ?_
    | with_reducible refine AWp_exitO (by repeat (first | with_reducible exact Out.hit | with_reducible apply Out.thenA | with_reducible apply Out.out rfl)) ?_
    | (with_reducible refine AWp_retR ?_; simp (dsimp := false) only [go_sem, Nat.reduceAdd, Nat.reduceBEq, Nat.reduceEqDiff, Nat.reduceLT, Nat.reduceLeDiff, Nat.reduceMul, Int.reduceToNat, reduceCtorEq, ↓reduceIte, Tryd.ntmps101, Tryd.results101, ks_101, mu_101, ti_in3, ti_sb68, ti_sl68, ti_zr35, List.take_zero, Option.isSome_some])
    | (with_reducible refine AWp_regE mu_101 ks_101 ?_; intro Kv hKv; simp (dsimp := false) only [go_sem, Nat.reduceAdd, Nat.reduceBEq, Nat.reduceEqDiff, Nat.reduceLT, Nat.reduceLeDiff, Nat.reduceMul, Int.reduceToNat, reduceCtorEq, ↓reduceIte, Tryd.ntmps101, Tryd.results101, ks_101, mu_101, ti_in3, ti_sb68, ti_sl68, ti_zr35, List.take_zero, Option.isSome_some])
    | (refine AWp_condC rfl ?_; intro KA KB hKA hKB; try simp only [onB_true, onB_false, onB_dec, onB_ndec, onB_not, onB_and, onB_or])
    | (refine AWp_condA rfl ?_ ?_)
    | with_reducible refine onB_of ?_ ?_
    | with_reducible rfl
    | omega)
  all_goals first
    | (refine keepO (hk.2 (by omega)) (fun ob hob => ?_) (by simp [Bel_os])
       simp only [List.mem_cons, List.not_mem_nil, or_false] at hob
       rcases hob with rfl
       exact obBel_cells _ _ _ _ [])
    | exact keepK (hk.1 (by omega)) (by simp [Bel_d]) rfl

/- the live slots of slices.Concat[[]pleacher/api.Item,pleacher/api.Item] -/
def ks_54 : Nat → List Nat
  | 0 => [0]
  | 1 => [0, 3]
  | 2 => [0, 3, 9, 10, 11]
  | 3 => [0, 3, 9, 10, 11, 12]
  | 4 => [0, 3, 5, 9, 10, 11]
  | 5 => [0, 3, 9, 10, 11]
  | 6 => [0, 3, 9, 10, 11, 20]
  | 7 => [0, 3, 9, 10, 11]
  | 8 => [0, 3, 9, 10, 11]
  | 9 => [0, 6]
  | 10 => [6, 25, 26, 27]
  | 11 => [6, 25, 26, 27, 28]
  | 12 => [6, 8, 25, 26, 27]
  | 13 => [6, 25, 26, 27]
  | 14 => [6, 25, 26, 27]
  | 15 => [2]
  | _ => []
def mu_54 : List Nat := [6]
def in_54 : List Nat := [0]
theorem concatIts_A (ls : List (List (List D))) (hlen : ls.length ≤ 1048576) (hj : ls.flatten.length ≤ 1000000000000) (H : Heap) (K : V → Heap → Prop) (hk : K (.d (.sl 3 ls.flatten)) H) :
    ACalls Tryd.prog 54 [.d (.sl 1 (ls.map (slD 3)))] H K := by
  refine ACalls_of Tryd.func54 rfl in_54 (Nat.le_of_ble_eq_true rfl) ?_
  intro F hF
  simp (dsimp := false) only [go_sem, Nat.reduceAdd, Nat.reduceBEq, Nat.reduceEqDiff, Nat.reduceLT, Nat.reduceLeDiff, Nat.reduceMul, Int.reduceToNat, reduceCtorEq, ↓reduceIte, Tryd.ntmps54, Tryd.results54, ks_54, mu_54, ti_ag68, ti_hb101, ti_sb23, ti_sb68, ti_sl23, ti_sl68, slD, in_54] at hF
  subst hF
  repeat' (first
    | with_reducible refine And.intro ?_ ?_
    | with_reducible intro _
    | with_reducible refine AWp_seq ?_
    | with_reducible refine AWp_block ?_
    | (with_reducible refine hKv _ _ (AWp_nop ?_); clear hKv Kv)
    | (with_reducible refine hKv _ _ ?_; clear hKv Kv; simp (dsimp := false) only [go_sem, Nat.reduceAdd, Nat.reduceBEq, Nat.reduceEqDiff, Nat.reduceLT, Nat.reduceLeDiff, Nat.reduceMul, Int.reduceToNat, reduceCtorEq, ↓reduceIte, Tryd.ntmps54, Tryd.results54, ks_54, mu_54, ti_ag68, ti_hb101, ti_sb23, ti_sb68, ti_sl23, ti_sl68, slD])
    | (with_reducible refine hKA ?_; clear hKA hKB KA KB)
    | (with_reducible refine hKB ?_; clear hKA hKB KA KB)
    | (with_reducible refine AWp_regC mu_54 ks_54 ?_; intro Kv hKv; simp (dsimp := false) only [go_sem, Nat.reduceAdd, Nat.reduceBEq, Nat.reduceEqDiff, Nat.reduceLT, Nat.reduceLeDiff, Nat.reduceMul, Int.reduceToNat, reduceCtorEq, ↓reduceIte, Tryd.ntmps54, Tryd.results54, ks_54, mu_54, ti_ag68, ti_hb101, ti_sb23, ti_sb68, ti_sl23, ti_sl68, slD])
    | with_reducible refine AWp_skipN ?_
    | with_reducible refine AWp_exitO (by repeat (first | with_reducible exact Out.hit | with_reducible apply Out.thenA | with_reducible apply Out.out rfl)) ?_
    | (with_reducible refine AWp_retR ?_; simp (dsimp := false) only [go_sem, Nat.reduceAdd, Nat.reduceBEq, Nat.reduceEqDiff, Nat.reduceLT, Nat.reduceLeDiff, Nat.reduceMul, Int.reduceToNat, reduceCtorEq, ↓reduceIte, Tryd.ntmps54, Tryd.results54, ks_54, mu_54, ti_ag68, ti_hb101, ti_sb23, ti_sb68, ti_sl23, ti_sl68, slD])
    | (with_reducible refine AWp_regE mu_54 ks_54 ?_; intro Kv hKv; simp (dsimp := false) only [go_sem, Nat.reduceAdd, Nat.reduceBEq, Nat.reduceEqDiff, Nat.reduceLT, Nat.reduceLeDiff, Nat.reduceMul, Int.reduceToNat, reduceCtorEq, ↓reduceIte, Tryd.ntmps54, Tryd.results54, ks_54, mu_54, ti_ag68, ti_hb101, ti_sb23, ti_sb68, ti_sl23, ti_sl68, slD])
    | (refine AWp_condC rfl ?_; intro KA KB hKA hKB; try simp only [onB_true, onB_false, onB_dec, onB_ndec, onB_not, onB_and, onB_or])
    | (refine AWp_condA rfl ?_ ?_)
    | with_reducible refine onB_of ?_ ?_
    | with_reducible rfl
    | omega)
  refine AWp_while0 (fun i : Nat => i ≤ ls.length) (fun i => [(0, .d (.sl 1 (ls.map (slD 3)))), (3, .d (.i .i64 (ls.take i).flatten.length)), (9, .d (.sl 1 (ls.map (slD 3)))), (10, .d (.i .i64 ls.length)), (11, .d (.i .i64 i))]) (fun i => ls.length - i) 0 (Nat.zero_le _) ?_ ?_
  · simp (dsimp := false) only [go_sem, Nat.reduceAdd, Nat.reduceBEq, Nat.reduceEqDiff, Nat.reduceLT, Nat.reduceLeDiff, Nat.reduceMul, Int.reduceToNat, reduceCtorEq, ↓reduceIte, Tryd.ntmps54, Tryd.results54, ks_54, mu_54, ti_ag68, ti_hb101, ti_sb23, ti_sb68, ti_sl23, ti_sl68, slD]
    first | done | simp
  rintro i hi
  by_cases hiN : i < ls.length
  · obtain ⟨l, hl⟩ : ∃ l, ls[i]? = some l := ⟨ls[i], List.getElem?_eq_getElem hiN⟩
    have hle := flat_le (ls := ls) (i + 1)
    have he := congrArg List.length (flat_take hl)
    rw [List.length_append] at he
    
    repeat' (first
      | with_reducible refine And.intro ?_ ?_
      | with_reducible intro _
      | with_reducible refine AWp_seq ?_
      | with_reducible refine AWp_block ?_
      | (with_reducible refine hKv _ _ (AWp_nop ?_); clear hKv Kv)
      | (with_reducible refine hKv _ _ ?_; clear hKv Kv; simp (dsimp := false) only [go_sem, Nat.reduceAdd, Nat.reduceBEq, Nat.reduceEqDiff, Nat.reduceLT, Nat.reduceLeDiff, Nat.reduceMul, Int.reduceToNat, reduceCtorEq, ↓reduceIte, Tryd.ntmps54, Tryd.results54, ks_54, mu_54, ti_ag68, ti_hb101, ti_sb23, ti_sb68, ti_sl23, ti_sl68, slD, hl])
      | (with_reducible refine hKA ?_; clear hKA hKB KA KB)
      | (with_reducible refine hKB ?_; clear hKA hKB KA KB)
      | (with_reducible refine AWp_regC mu_54 ks_54 ?_; intro Kv hKv; simp (dsimp := false) only [go_sem, Nat.reduceAdd, Nat.reduceBEq, Nat.reduceEqDiff, Nat.reduceLT, Nat.reduceLeDiff, Nat.reduceMul, Int.reduceToNat, reduceCtorEq, ↓reduceIte, Tryd.ntmps54, Tryd.results54, ks_54, mu_54, ti_ag68, ti_hb101, ti_sb23, ti_sb68, ti_sl23, ti_sl68, slD, hl])
      | with_reducible refine AWp_skipN ?_
      | with_reducible refine AWp_exitO (by repeat (first | with_reducible exact Out.hit | with_reducible apply Out.thenA | with_reducible apply Out.out rfl)) ?_
      | (with_reducible refine AWp_retR ?_; simp (dsimp := false) only [go_sem, Nat.reduceAdd, Nat.reduceBEq, Nat.reduceEqDiff, Nat.reduceLT, Nat.reduceLeDiff, Nat.reduceMul, Int.reduceToNat, reduceCtorEq, ↓reduceIte, Tryd.ntmps54, Tryd.results54, ks_54, mu_54, ti_ag68, ti_hb101, ti_sb23, ti_sb68, ti_sl23, ti_sl68, slD, hl])
      | (with_reducible refine AWp_regE mu_54 ks_54 ?_; intro Kv hKv; simp (dsimp := false) only [go_sem, Nat.reduceAdd, Nat.reduceBEq, Nat.reduceEqDiff, Nat.reduceLT, Nat.reduceLeDiff, Nat.reduceMul, Int.reduceToNat, reduceCtorEq, ↓reduceIte, Tryd.ntmps54, Tryd.results54, ks_54, mu_54, ti_ag68, ti_hb101, ti_sb23, ti_sb68, ti_sl23, ti_sl68, slD, hl])
      | (refine AWp_condC rfl ?_; intro KA KB hKA hKB; try simp only [onB_true, onB_false, onB_dec, onB_ndec, onB_not, onB_and, onB_or])
      | (refine AWp_condA rfl ?_ ?_)
      | with_reducible refine onB_of ?_ ?_
      | with_reducible rfl
      | omega)
    all_goals first
      | exact ⟨i + 1, by omega, by omega, by omega, by omega⟩
  have e : i = ls.length := by omega
  subst e
  rw [List.take_length]
  
  repeat' (first
    | with_reducible refine And.intro ?_ ?_
    | with_reducible intro _
    | with_reducible refine AWp_seq ?_
    | with_reducible refine AWp_block ?_
    | (with_reducible refine hKv _ _ (AWp_nop ?_); clear hKv Kv)
    | (with_reducible refine hKv _ _ ?_; clear hKv Kv; simp (dsimp := false) only [go_sem, Nat.reduceAdd, Nat.reduceBEq, Nat.reduceEqDiff, Nat.reduceLT, Nat.reduceLeDiff, Nat.reduceMul, Int.reduceToNat, reduceCtorEq, ↓reduceIte, Tryd.ntmps54, Tryd.results54, ks_54, mu_54, ti_ag68, ti_hb101, ti_sb23, ti_sb68, ti_sl23, ti_sl68, slD])
    | (with_reducible refine hKA ?_; clear hKA hKB KA KB)
    | (with_reducible refine hKB ?_; clear hKA hKB KA KB)
    | (with_reducible refine AWp_regC mu_54 ks_54 ?_; intro Kv hKv; simp (dsimp := false) only [go_sem, Nat.reduceAdd, Nat.reduceBEq, Nat.reduceEqDiff, Nat.reduceLT, Nat.reduceLeDiff, Nat.reduceMul, Int.reduceToNat, reduceCtorEq, ↓reduceIte, Tryd.ntmps54, Tryd.results54, ks_54, mu_54, ti_ag68, ti_hb101, ti_sb23, ti_sb68, ti_sl23, ti_sl68, slD])
    | with_reducible refine AWp_skipN ?_
    | with_reducible refine AWp_exitO (by repeat (first | with_reducible exact Out.hit | with_reducible apply Out.thenA | with_reducible apply Out.out rfl)) ?_
    | (with_reducible refine AWp_retR ?_; simp (dsimp := false) only [go_sem, Nat.reduceAdd, Nat.reduceBEq, Nat.reduceEqDiff, Nat.reduceLT, Nat.reduceLeDiff, Nat.reduceMul, Int.reduceToNat, reduceCtorEq, ↓reduceIte, Tryd.ntmps54, Tryd.results54, ks_54, mu_54, ti_ag68, ti_hb101, ti_sb23, ti_sb68, ti_sl23, ti_sl68, slD])
    | (with_reducible refine AWp_regE mu_54 ks_54 ?_; intro Kv hKv; simp (dsimp := false) only [go_sem, Nat.reduceAdd, Nat.reduceBEq, Nat.reduceEqDiff, Nat.reduceLT, Nat.reduceLeDiff, Nat.reduceMul, Int.reduceToNat, reduceCtorEq, ↓reduceIte, Tryd.ntmps54, Tryd.results54, ks_54, mu_54, ti_ag68, ti_hb101, ti_sb23, ti_sb68, ti_sl23, ti_sl68, slD])
    | (refine AWp_condC rfl ?_; intro KA KB hKA hKB; try simp only [onB_true, onB_false, onB_dec, onB_ndec, onB_not, onB_and, onB_or])
    | (refine AWp_condA rfl ?_ ?_)
    | (refine growIts_A _ (by omega) (by omega) _ _ ?_; try simp (dsimp := false) only [go_sem, Nat.reduceAdd, Nat.reduceBEq, Nat.reduceEqDiff, Nat.reduceLT, Nat.reduceLeDiff, Nat.reduceMul, Int.reduceToNat, reduceCtorEq, ↓reduceIte, Tryd.ntmps54, Tryd.results54, ks_54, mu_54, ti_ag68, ti_hb101, ti_sb23, ti_sb68, ti_sl23, ti_sl68, slD])
    | with_reducible refine onB_of ?_ ?_
    | with_reducible rfl
    | omega)
  all_goals
    first
    | refine AWp_whileH (fun y : Nat × Nat => y.2 ≤ ls.length) (fun y => [(6, .os H.length y.1), (25, .d (.sl 1 (ls.map (slD 3)))), (26, .d (.i .i64 ls.length)), (27, .d (.i .i64 y.2))]) (fun y => [.row y.1 35 3 (cells (ls.take y.2).flatten)]) (fun y => ls.length - y.2) (0, 0) (Nat.zero_le _) rfl ?_ ?_ ?_
    | refine AWp_whileH (fun y : Nat × Nat => y.2 ≤ ls.length) (fun y => [(6, .os H.length y.1), (25, .d (.sl 1 (ls.map (slD 3)))), (26, .d (.i .i64 ls.length)), (27, .d (.i .i64 y.2))]) (fun y => [.row y.1 35 3 (cells (ls.take y.2).flatten)]) (fun y => ls.length - y.2) (1, 0) (Nat.zero_le _) rfl ?_ ?_ ?_
    · simp (dsimp := false) only [go_sem, Nat.reduceAdd, Nat.reduceBEq, Nat.reduceEqDiff, Nat.reduceLT, Nat.reduceLeDiff, Nat.reduceMul, Int.reduceToNat, reduceCtorEq, ↓reduceIte, Tryd.ntmps54, Tryd.results54, ks_54, mu_54, ti_ag68, ti_hb101, ti_sb23, ti_sb68, ti_sl23, ti_sl68, slD]
      simp
    · rintro ⟨v, i⟩ _ ob hob
      simp only [List.mem_cons, List.not_mem_nil, or_false] at hob
      rcases hob with rfl
      exact obBel_cells _ _ _ _ _
    rintro ⟨v, i⟩ hi
    simp only [] at hi ⊢
    by_cases hiN : i < ls.length
    · obtain ⟨l, hl⟩ : ∃ l, ls[i]? = some l := ⟨ls[i], List.getElem?_eq_getElem hiN⟩
      have hle := flat_le (ls := ls) (i + 1)
      have he := congrArg List.length (flat_take hl)
      rw [List.length_append] at he
      have hcl : (cells (ls.take i).flatten).length = (ls.take i).flatten.length := by rw [cells, List.length_map]
      
      repeat' (first
        | with_reducible refine And.intro ?_ ?_
        | with_reducible intro _
        | with_reducible refine AWp_seq ?_
        | with_reducible refine AWp_block ?_
        | (with_reducible refine hKv _ _ (AWp_nop ?_); clear hKv Kv)
        | (with_reducible refine hKv _ _ ?_; clear hKv Kv; simp (dsimp := false) only [go_sem, Nat.reduceAdd, Nat.reduceBEq, Nat.reduceEqDiff, Nat.reduceLT, Nat.reduceLeDiff, Nat.reduceMul, Int.reduceToNat, reduceCtorEq, ↓reduceIte, Tryd.ntmps54, Tryd.results54, ks_54, mu_54, ti_ag68, ti_hb101, ti_sb23, ti_sb68, ti_sl23, ti_sl68, slD, hl])
        | (with_reducible refine hKA ?_; clear hKA hKB KA KB)
        | (with_reducible refine hKB ?_; clear hKA hKB KA KB)
        | (with_reducible refine AWp_regC mu_54 ks_54 ?_; intro Kv hKv; simp (dsimp := false) only [go_sem, Nat.reduceAdd, Nat.reduceBEq, Nat.reduceEqDiff, Nat.reduceLT, Nat.reduceLeDiff, Nat.reduceMul, Int.reduceToNat, reduceCtorEq, ↓reduceIte, Tryd.ntmps54, Tryd.results54, ks_54, mu_54, ti_ag68, ti_hb101, ti_sb23, ti_sb68, ti_sl23, ti_sl68, slD, hl])
        | with_reducible refine AWp_skipN ?_
        | with_reducible refine AWp_exitO (by repeat (first | with_reducible exact Out.hit | with_reducible apply Out.thenA | with_reducible apply Out.out rfl)) ?_
        | (with_reducible refine AWp_retR ?_; simp (dsimp := false) only [go_sem, Nat.reduceAdd, Nat.reduceBEq, Nat.reduceEqDiff, Nat.reduceLT, Nat.reduceLeDiff, Nat.reduceMul, Int.reduceToNat, reduceCtorEq, ↓reduceIte, Tryd.ntmps54, Tryd.results54, ks_54, mu_54, ti_ag68, ti_hb101, ti_sb23, ti_sb68, ti_sl23, ti_sl68, slD, hl])
        | (with_reducible refine AWp_regE mu_54 ks_54 ?_; intro Kv hKv; simp (dsimp := false) only [go_sem, Nat.reduceAdd, Nat.reduceBEq, Nat.reduceEqDiff, Nat.reduceLT, Nat.reduceLeDiff, Nat.reduceMul, Int.reduceToNat, reduceCtorEq, ↓reduceIte, Tryd.ntmps54, Tryd.results54, ks_54, mu_54, ti_ag68, ti_hb101, ti_sb23, ti_sb68, ti_sl23, ti_sl68, slD, hl])
        | (refine AWp_condC rfl ?_; intro KA KB hKA hKB; try simp only [onB_true, onB_false, onB_dec, onB_ndec, onB_not, onB_and, onB_or])
        | (refine AWp_condA rfl ?_ ?_)
        | with_reducible refine onB_of ?_ ?_
        | with_reducible rfl
        | omega)
      all_goals first
        | exact ⟨(v + 1, i + 1), by show i + 1 ≤ ls.length; omega, by show ls.length - (i + 1) < ls.length - i; omega, by rw [flat_take hl]; simp [cells], rfl, by omega, by simp⟩
    · have e : i = ls.length := by omega
      subst e
      rw [List.take_length]
      
      repeat' (first
        | with_reducible refine And.intro ?_ ?_
        | with_reducible intro _
        | with_reducible refine AWp_seq ?_
        | with_reducible refine AWp_block ?_
        | (with_reducible refine hKv _ _ (AWp_nop ?_); clear hKv Kv)
        | (with_reducible refine hKv _ _ ?_; clear hKv Kv; simp (dsimp := false) only [go_sem, Nat.reduceAdd, Nat.reduceBEq, Nat.reduceEqDiff, Nat.reduceLT, Nat.reduceLeDiff, Nat.reduceMul, Int.reduceToNat, reduceCtorEq, ↓reduceIte, Tryd.ntmps54, Tryd.results54, ks_54, mu_54, ti_ag68, ti_hb101, ti_sb23, ti_sb68, ti_sl23, ti_sl68, slD])
        | (with_reducible refine hKA ?_; clear hKA hKB KA KB)
        | (with_reducible refine hKB ?_; clear hKA hKB KA KB)
        | (with_reducible refine AWp_regC mu_54 ks_54 ?_; intro Kv hKv; simp (dsimp := false) only [go_sem, Nat.reduceAdd, Nat.reduceBEq, Nat.reduceEqDiff, Nat.reduceLT, Nat.reduceLeDiff, Nat.reduceMul, Int.reduceToNat, reduceCtorEq, ↓reduceIte, Tryd.ntmps54, Tryd.results54, ks_54, mu_54, ti_ag68, ti_hb101, ti_sb23, ti_sb68, ti_sl23, ti_sl68, slD])
        | with_reducible refine AWp_skipN ?_
        | with_reducible refine AWp_exitO (by repeat (first | with_reducible exact Out.hit | with_reducible apply Out.thenA | with_reducible apply Out.out rfl)) ?_
        | (with_reducible refine AWp_retR ?_; simp (dsimp := false) only [go_sem, Nat.reduceAdd, Nat.reduceBEq, Nat.reduceEqDiff, Nat.reduceLT, Nat.reduceLeDiff, Nat.reduceMul, Int.reduceToNat, reduceCtorEq, ↓reduceIte, Tryd.ntmps54, Tryd.results54, ks_54, mu_54, ti_ag68, ti_hb101, ti_sb23, ti_sb68, ti_sl23, ti_sl68, slD])
        | (with_reducible refine AWp_regE mu_54 ks_54 ?_; intro Kv hKv; simp (dsimp := false) only [go_sem, Nat.reduceAdd, Nat.reduceBEq, Nat.reduceEqDiff, Nat.reduceLT, Nat.reduceLeDiff, Nat.reduceMul, Int.reduceToNat, reduceCtorEq, ↓reduceIte, Tryd.ntmps54, Tryd.results54, ks_54, mu_54, ti_ag68, ti_hb101, ti_sb23, ti_sb68, ti_sl23, ti_sl68, slD])
        | (refine AWp_condC rfl ?_; intro KA KB hKA hKB; try simp only [onB_true, onB_false, onB_dec, onB_ndec, onB_not, onB_and, onB_or])
        | (refine AWp_condA rfl ?_ ?_)
        | with_reducible refine onB_of ?_ ?_
        | with_reducible rfl
        | omega)
      all_goals first
        | exact dropF hk (.os _ _ _ _ _ _ (by omega) (get_app0 _ _) (cells_data _)) (by simp [Bel_d])


end Go.Proofs.YtafbojmnmadlpaaDoor
