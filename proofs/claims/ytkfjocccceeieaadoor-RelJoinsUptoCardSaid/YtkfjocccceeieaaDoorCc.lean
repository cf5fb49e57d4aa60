/- Room made for so many elements, slices put one behind the other. No condition. -/
import Derived.Test.YtkfjocccceeieaaDoorRsG
set_option linter.all false
set_option linter.unusedSimpArgs false
set_option linter.unusedVariables false
namespace Go.Proofs.YtkfjocccceeieaaDoor
open Go Go.Proofs.YtkfjocccceeieaaDoor.Ab
variable [Glo] [U8]
set_option maxHeartbeats 4000000
set_option maxRecDepth 20000
def cells (l : List (List D)) : List (List V) := l.map fun r => r.map V.d
theorem cells_data (l : List (List D)) : dsRows (cells l) = some l := data_rows l
theorem obBel_cells (m ver e sz : Nat) (xs : List (List D)) : ObBel m (.row ver e sz (cells xs)) := obBel_data m ver e sz xs
theorem flat_take {α : Type} {ls : List (List α)} {i : Nat} {l : List α} (h : ls[i]? = some l) : (ls.take (i + 1)).flatten = (ls.take i).flatten ++ l := by
  rw [take_of_get h, List.flatten_append]; simp
theorem flat_le {α : Type} {ls : List (List α)} (i : Nat) : (ls.take i).flatten.length ≤ ls.flatten.length := by
  have e : ls.flatten = (ls.take i).flatten ++ (ls.drop i).flatten := by rw [← List.flatten_append, List.take_append_drop]
  rw [e, List.length_append]
  omega
def slD (z : Nat) (l : List (List D)) : List D := [.sl z l]

/- the live slots of slices.Grow[[]string,string] -/
def ks_72 : Nat → List Nat
  | 0 => [0, 1]
  | 1 => [0, 1, 6]
  | 2 => [0, 1]
  | 3 => [0, 1]
  | 4 => [0, 1, 16]
  | 5 => [0]
  | 6 => [4]
  | _ => []
def mu_72 : List Nat := [22]
def in_72 : List Nat := [0, 1]
theorem growStr_A (n : Int) (h0 : 0 ≤ n) (hn : n ≤ 1000000000000) (H : Heap) (K : V → Heap → Prop) (hk : (n = 0 → K (.d (.c (.slice none 0 0))) H) ∧ (0 < n → K (.os H.length 1) (H ++ [.row 1 9 1 []]))) :
    ACalls Tryd.prog 72 [.d (.c (.slice none 0 0)), .d (.i .i64 n)] H K := by
  refine ACalls_of Tryd.func72 rfl in_72 (Nat.le_of_ble_eq_true rfl) ?_
  intro F hF
  simp (dsimp := false) only [go_sem, Nat.reduceAdd, Nat.reduceBEq, Nat.reduceEqDiff, Nat.reduceLT, Nat.reduceLeDiff, Nat.reduceMul, Int.reduceToNat, reduceCtorEq, ↓reduceIte, Tryd.ntmps72, Tryd.results72, ks_72, mu_72, ti_in3, ti_sb22, ti_sl22, ti_zr9, List.take_zero, Option.isSome_some, in_72] at hF
  subst hF
  repeat' (first
    | with_reducible refine And.intro ?_ ?_
    | with_reducible intro _
    | with_reducible refine AWp_seq ?_
    | with_reducible refine AWp_block ?_
    | (with_reducible refine hKv _ _ (AWp_nop ?_); clear hKv Kv)
    | (with_reducible refine hKv _ _ ?_; clear hKv Kv; simp (dsimp := false) only [go_sem, Nat.reduceAdd, Nat.reduceBEq, Nat.reduceEqDiff, Nat.reduceLT, Nat.reduceLeDiff, Nat.reduceMul, Int.reduceToNat, reduceCtorEq, ↓reduceIte, Tryd.ntmps72, Tryd.results72, ks_72, mu_72, ti_in3, ti_sb22, ti_sl22, ti_zr9, List.take_zero, Option.isSome_some])
    | (with_reducible refine hKA ?_; clear hKA hKB KA KB)
    | (with_reducible refine hKB ?_; clear hKA hKB KA KB)
    | (with_reducible refine AWp_regC mu_72 ks_72 ?_; intro Kv hKv; simp (dsimp := false) only [go_sem, Nat.reduceAdd, Nat.reduceBEq, Nat.reduceEqDiff, Nat.reduceLT, Nat.reduceLeDiff, Nat.reduceMul, Int.reduceToNat, reduceCtorEq, ↓reduceIte, Tryd.ntmps72, Tryd.results72, ks_72, mu_72, ti_in3, ti_sb22, ti_sl22, ti_zr9, List.take_zero, Option.isSome_some])
    | with_reducible refine AWp_skipN ?_
    | with_reducible refine AWp_exitO (by repeat (first | with_reducible exact Out.hit | with_reducible apply Out.thenA | with_reducible apply Out.out rfl)) ?_
    | (with_reducible refine AWp_retR ?_; simp (dsimp := false) only [go_sem, Nat.reduceAdd, Nat.reduceBEq, Nat.reduceEqDiff, Nat.reduceLT, Nat.reduceLeDiff, Nat.reduceMul, Int.reduceToNat, reduceCtorEq, ↓reduceIte, Tryd.ntmps72, Tryd.results72, ks_72, mu_72, ti_in3, ti_sb22, ti_sl22, ti_zr9, List.take_zero, Option.isSome_some])
    | (with_reducible refine AWp_regE mu_72 ks_72 ?_; intro Kv hKv; simp (dsimp := false) only [go_sem, Nat.reduceAdd, Nat.reduceBEq, Nat.reduceEqDiff, Nat.reduceLT, Nat.reduceLeDiff, Nat.reduceMul, Int.reduceToNat, reduceCtorEq, ↓reduceIte, Tryd.ntmps72, Tryd.results72, ks_72, mu_72, ti_in3, ti_sb22, ti_sl22, ti_zr9, List.take_zero, Option.isSome_some])
    | (refine AWp_condC rfl ?_; intro KA KB hKA hKB; try simp only [onB_true, onB_false, onB_dec, onB_ndec, onB_not, onB_and, onB_or])
    | (refine AWp_condA rfl ?_ ?_)
    | with_reducible refine onB_of ?_ ?_
    | with_reducible rfl
    | omega)
  all_goals first
    | (refine keepO (hk.2 (by omega)) (fun ob hob => ?_) (by simp [Bel_os])
       simp only [List.mem_cons, List.not_mem_nil, or_false] at hob
       rcases hob with rfl
       exact obBel_cells _ _ _ _ [])
    | exact keepK (hk.1 (by omega)) (by simp [Bel_d]) rfl
    | (trace_state; sorry)

/- the live slots of slices.Concat[[]string,string] -/
def ks_44 : Nat → List Nat
  | 0 => [0]
  | 1 => [0, 3]
  | 2 => [0, 3, 9, 10, 11]
  | 3 => [0, 3, 9, 10, 11, 12]
  | 4 => [0, 3, 5, 9, 10, 11]
  | 5 => [0, 3, 9, 10, 11]
  | 6 => [0, 3, 9, 10, 11, 20]
  | 7 => [0, 3, 9, 10, 11]
  | 8 => [0, 3, 9, 10, 11]
  | 9 => [0, 6]
  | 10 => [6, 25, 26, 27]
  | 11 => [6, 25, 26, 27, 28]
  | 12 => [6, 8, 25, 26, 27]
  | 13 => [6, 25, 26, 27]
  | 14 => [6, 25, 26, 27]
  | 15 => [2]
  | _ => []
def mu_44 : List Nat := [6]
def in_44 : List Nat := [0]
theorem concatStr_A (ls : List (List (List D))) (hlen : ls.length ≤ 1048576) (hj : ls.flatten.length ≤ 1000000000000) (H : Heap) (K : V → Heap → Prop) (hk : K (.d (.sl 1 ls.flatten)) H) :
    ACalls Tryd.prog 44 [.d (.sl 1 (ls.map (slD 1)))] H K := by
  refine ACalls_of Tryd.func44 rfl in_44 (Nat.le_of_ble_eq_true rfl) ?_
  intro F hF
  simp (dsimp := false) only [go_sem, Nat.reduceAdd, Nat.reduceBEq, Nat.reduceEqDiff, Nat.reduceLT, Nat.reduceLeDiff, Nat.reduceMul, Int.reduceToNat, reduceCtorEq, ↓reduceIte, Tryd.ntmps44, Tryd.results44, ks_44, mu_44, ti_ag22, ti_hb72, ti_sb22, ti_sb82, ti_sl22, ti_sl82, slD, in_44] at hF
  subst hF
  repeat' (first
    | with_reducible refine And.intro ?_ ?_
    | with_reducible intro _
    | with_reducible refine AWp_seq ?_
    | with_reducible refine AWp_block ?_
    | (with_reducible refine hKv _ _ (AWp_nop ?_); clear hKv Kv)
    | (with_reducible refine hKv _ _ ?_; clear hKv Kv; simp (dsimp := false) only [go_sem, Nat.reduceAdd, Nat.reduceBEq, Nat.reduceEqDiff, Nat.reduceLT, Nat.reduceLeDiff, Nat.reduceMul, Int.reduceToNat, reduceCtorEq, ↓reduceIte, Tryd.ntmps44, Tryd.results44, ks_44, mu_44, ti_ag22, ti_hb72, ti_sb22, ti_sb82, ti_sl22, ti_sl82, slD])
    | (with_reducible refine hKA ?_; clear hKA hKB KA KB)
    | (with_reducible refine hKB ?_; clear hKA hKB KA KB)
    | (with_reducible refine AWp_regC mu_44 ks_44 ?_; intro Kv hKv; simp (dsimp := false) only [go_sem, Nat.reduceAdd, Nat.reduceBEq, Nat.reduceEqDiff, Nat.reduceLT, Nat.reduceLeDiff, Nat.reduceMul, Int.reduceToNat, reduceCtorEq, ↓reduceIte, Tryd.ntmps44, Tryd.results44, ks_44, mu_44, ti_ag22, ti_hb72, ti_sb22, ti_sb82, ti_sl22, ti_sl82, slD])
    | with_reducible refine AWp_skipN ?_
    | with_reducible refine AWp_exitO (by repeat (first | with_reducible exact Out.hit | with_reducible apply Out.thenA | with_reducible apply Out.out rfl)) ?_
    | (with_reducible refine AWp_retR ?_; simp (dsimp := false) only [go_sem, Nat.reduceAdd, Nat.reduceBEq, Nat.reduceEqDiff, Nat.reduceLT, Nat.reduceLeDiff, Nat.reduceMul, Int.reduceToNat, reduceCtorEq, ↓reduceIte, Tryd.ntmps44, Tryd.results44, ks_44, mu_44, ti_ag22, ti_hb72, ti_sb22, ti_sb82, ti_sl22, ti_sl82, slD])
    | (with_reducible refine AWp_regE mu_44 ks_44 ?_; intro Kv hKv; simp (dsimp := false) only [go_sem, Nat.reduceAdd, Nat.reduceBEq, Nat.reduceEqDiff, Nat.reduceLT, Nat.reduceLeDiff, Nat.reduceMul, Int.reduceToNat, reduceCtorEq, ↓reduceIte, Tryd.ntmps44, Tryd.results44, ks_44, mu_44, ti_ag22, ti_hb72, ti_sb22, ti_sb82, ti_sl22, ti_sl82, slD])
    | (refine AWp_condC rfl ?_; intro KA KB hKA hKB; try simp only [onB_true, onB_false, onB_dec, onB_ndec, onB_not, onB_and, onB_or])
    | (refine AWp_condA rfl ?_ ?_)
    | with_reducible refine onB_of ?_ ?_
    | with_reducible rfl
    | omega)
  refine AWp_while0 (fun i : Nat => i ≤ ls.length) (fun i => [(0, .d (.sl 1 (ls.map (slD 1)))), (3, .d (.i .i64 (ls.take i).flatten.length)), (9, .d (.sl 1 (ls.map (slD 1)))), (10, .d (.i .i64 ls.length)), (11, .d (.i .i64 i))]) (fun i => ls.length - i) 0 (Nat.zero_le _) ?_ ?_
  · simp (dsimp := false) only [go_sem, Nat.reduceAdd, Nat.reduceBEq, Nat.reduceEqDiff, Nat.reduceLT, Nat.reduceLeDiff, Nat.reduceMul, Int.reduceToNat, reduceCtorEq, ↓reduceIte, Tryd.ntmps44, Tryd.results44, ks_44, mu_44, ti_ag22, ti_hb72, ti_sb22, ti_sb82, ti_sl22, ti_sl82, slD]
    first | done | simp
  rintro i hi
  by_cases hiN : i < ls.length
  · obtain ⟨l, hl⟩ : ∃ l, ls[i]? = some l := ⟨ls[i], List.getElem?_eq_getElem hiN⟩
    have hle := flat_le (ls := ls) (i + 1)
    have he := congrArg List.length (flat_take hl)
    rw [List.length_append] at he
    
    repeat' (first
      | with_reducible refine And.intro ?_ ?_
      | with_reducible intro _
      | with_reducible refine AWp_seq ?_
      | with_reducible refine AWp_block ?_
      | (with_reducible refine hKv _ _ (AWp_nop ?_); clear hKv Kv)
      | (with_reducible refine hKv _ _ ?_; clear hKv Kv; simp (dsimp := false) only [go_sem, Nat.reduceAdd, Nat.reduceBEq, Nat.reduceEqDiff, Nat.reduceLT, Nat.reduceLeDiff, Nat.reduceMul, Int.reduceToNat, reduceCtorEq, ↓reduceIte, Tryd.ntmps44, Tryd.results44, ks_44, mu_44, ti_ag22, ti_hb72, ti_sb22, ti_sb82, ti_sl22, ti_sl82, slD, hl])
      | (with_reducible refine hKA ?_; clear hKA hKB KA KB)
      | (with_reducible refine hKB ?_; clear hKA hKB KA KB)
      | (with_reducible refine AWp_regC mu_44 ks_44 ?_; intro Kv hKv; simp (dsimp := false) only [go_sem, Nat.reduceAdd, Nat.reduceBEq, Nat.reduceEqDiff, Nat.reduceLT, Nat.reduceLeDiff, Nat.reduceMul, Int.reduceToNat, reduceCtorEq, ↓reduceIte, Tryd.ntmps44, Tryd.results44, ks_44, mu_44, ti_ag22, ti_hb72, ti_sb22, ti_sb82, ti_sl22, ti_sl82, slD, hl])
      | with_reducible refine AWp_skipN ?_
      | with_reducible refine AWp_exitO (by repeat (first | with_reducible exact Out.hit | with_reducible apply Out.thenA | with_reducible apply Out.out rfl)) ?_
      | (with_reducible refine AWp_retR ?_; simp (dsimp := false) only [go_sem, Nat.reduceAdd, Nat.reduceBEq, Nat.reduceEqDiff, Nat.reduceLT, Nat.reduceLeDiff, Nat.reduceMul, Int.reduceToNat, reduceCtorEq, ↓reduceIte, Tryd.ntmps44, Tryd.results44, ks_44, mu_44, ti_ag22, ti_hb72, ti_sb22, ti_sb82, ti_sl22, ti_sl82, slD, hl])
      | (with_reducible refine AWp_regE mu_44 ks_44 ?_; intro Kv hKv; simp (dsimp := false) only [go_sem, Nat.reduceAdd, Nat.reduceBEq, Nat.reduceEqDiff, Nat.reduceLT, Nat.reduceLeDiff, Nat.reduceMul, Int.reduceToNat, reduceCtorEq, ↓reduceIte, Tryd.ntmps44, Tryd.results44, ks_44, mu_44, ti_ag22, ti_hb72, ti_sb22, ti_sb82, ti_sl22, ti_sl82, slD, hl])
      | (refine AWp_condC rfl ?_; intro KA KB hKA hKB; try simp only [onB_true, onB_false, onB_dec, onB_ndec, onB_not, onB_and, onB_or])
      | (refine AWp_condA rfl ?_ ?_)
      | with_reducible refine onB_of ?_ ?_
      | with_reducible rfl
      | omega)
    all_goals first
      | exact ⟨i + 1, by omega, by omega, by omega, by omega⟩
      | (trace_state; sorry)
  have e : i = ls.length := by omega
  subst e
  rw [List.take_length]
  
  repeat' (first
    | with_reducible refine And.intro ?_ ?_
    | with_reducible intro _
    | with_reducible refine AWp_seq ?_
    | with_reducible refine AWp_block ?_
    | (with_reducible refine hKv _ _ (AWp_nop ?_); clear hKv Kv)
    | (with_reducible refine hKv _ _ ?_; clear hKv Kv; simp (dsimp := false) only [go_sem, Nat.reduceAdd, Nat.reduceBEq, Nat.reduceEqDiff, Nat.reduceLT, Nat.reduceLeDiff, Nat.reduceMul, Int.reduceToNat, reduceCtorEq, ↓reduceIte, Tryd.ntmps44, Tryd.results44, ks_44, mu_44, ti_ag22, ti_hb72, ti_sb22, ti_sb82, ti_sl22, ti_sl82, slD])
    | (with_reducible refine hKA ?_; clear hKA hKB KA KB)
    | (with_reducible refine hKB ?_; clear hKA hKB KA KB)
    | (with_reducible refine AWp_regC mu_44 ks_44 ?_; intro Kv hKv; simp (dsimp := false) only [go_sem, Nat.reduceAdd, Nat.reduceBEq, Nat.reduceEqDiff, Nat.reduceLT, Nat.reduceLeDiff, Nat.reduceMul, Int.reduceToNat, reduceCtorEq, ↓reduceIte, Tryd.ntmps44, Tryd.results44, ks_44, mu_44, ti_ag22, ti_hb72, ti_sb22, ti_sb82, ti_sl22, ti_sl82, slD])
    | with_reducible refine AWp_skipN ?_
    | with_reducible refine AWp_exitO (by repeat (first | with_reducible exact Out.hit | with_reducible apply Out.thenA | with_reducible apply Out.out rfl)) ?_
    | (with_reducible refine AWp_retR ?_; simp (dsimp := false) only [go_sem, Nat.reduceAdd, Nat.reduceBEq, Nat.reduceEqDiff, Nat.reduceLT, Nat.reduceLeDiff, Nat.reduceMul, Int.reduceToNat, reduceCtorEq, ↓reduceIte, Tryd.ntmps44, Tryd.results44, ks_44, mu_44, ti_ag22, ti_hb72, ti_sb22, ti_sb82, ti_sl22, ti_sl82, slD])
    | (with_reducible refine AWp_regE mu_44 ks_44 ?_; intro Kv hKv; simp (dsimp := false) only [go_sem, Nat.reduceAdd, Nat.reduceBEq, Nat.reduceEqDiff, Nat.reduceLT, Nat.reduceLeDiff, Nat.reduceMul, Int.reduceToNat, reduceCtorEq, ↓reduceIte, Tryd.ntmps44, Tryd.results44, ks_44, mu_44, ti_ag22, ti_hb72, ti_sb22, ti_sb82, ti_sl22, ti_sl82, slD])
    | (refine AWp_condC rfl ?_; intro KA KB hKA hKB; try simp only [onB_true, onB_false, onB_dec, onB_ndec, onB_not, onB_and, onB_or])
    | (refine AWp_condA rfl ?_ ?_)
    | (refine growStr_A _ (by omega) (by omega) _ _ ?_; try simp (dsimp := false) only [go_sem, Nat.reduceAdd, Nat.reduceBEq, Nat.reduceEqDiff, Nat.reduceLT, Nat.reduceLeDiff, Nat.reduceMul, Int.reduceToNat, reduceCtorEq, ↓reduceIte, Tryd.ntmps44, Tryd.results44, ks_44, mu_44, ti_ag22, ti_hb72, ti_sb22, ti_sb82, ti_sl22, ti_sl82, slD])
    | with_reducible refine onB_of ?_ ?_
    | with_reducible rfl
    | omega)
  all_goals
    first
    | refine AWp_whileH (fun y : Nat × Nat => y.2 ≤ ls.length) (fun y => [(6, .os H.length y.1), (25, .d (.sl 1 (ls.map (slD 1)))), (26, .d (.i .i64 ls.length)), (27, .d (.i .i64 y.2))]) (fun y => [.row y.1 9 1 (cells (ls.take y.2).flatten)]) (fun y => ls.length - y.2) (0, 0) (Nat.zero_le _) rfl ?_ ?_ ?_
    | refine AWp_whileH (fun y : Nat × Nat => y.2 ≤ ls.length) (fun y => [(6, .os H.length y.1), (25, .d (.sl 1 (ls.map (slD 1)))), (26, .d (.i .i64 ls.length)), (27, .d (.i .i64 y.2))]) (fun y => [.row y.1 9 1 (cells (ls.take y.2).flatten)]) (fun y => ls.length - y.2) (1, 0) (Nat.zero_le _) rfl ?_ ?_ ?_
    · simp (dsimp := false) only [go_sem, Nat.reduceAdd, Nat.reduceBEq, Nat.reduceEqDiff, Nat.reduceLT, Nat.reduceLeDiff, Nat.reduceMul, Int.reduceToNat, reduceCtorEq, ↓reduceIte, Tryd.ntmps44, Tryd.results44, ks_44, mu_44, ti_ag22, ti_hb72, ti_sb22, ti_sb82, ti_sl22, ti_sl82, slD]
      simp
    · rintro ⟨v, i⟩ _ ob hob
      simp only [List.mem_cons, List.not_mem_nil, or_false] at hob
      rcases hob with rfl
      exact obBel_cells _ _ _ _ _
    rintro ⟨v, i⟩ hi
    simp only [] at hi ⊢
    by_cases hiN : i < ls.length
    · obtain ⟨l, hl⟩ : ∃ l, ls[i]? = some l := ⟨ls[i], List.getElem?_eq_getElem hiN⟩
      have hle := flat_le (ls := ls) (i + 1)
      have he := congrArg List.length (flat_take hl)
      rw [List.length_append] at he
      have hcl : (cells (ls.take i).flatten).length = (ls.take i).flatten.length := by rw [cells, List.length_map]
      
      repeat' (first
        | with_reducible refine And.intro ?_ ?_
        | with_reducible intro _
        | with_reducible refine AWp_seq ?_
        | with_reducible refine AWp_block ?_
        | (with_reducible refine hKv _ _ (AWp_nop ?_); clear hKv Kv)
        | (with_reducible refine hKv _ _ ?_; clear hKv Kv; simp (dsimp := false) only [go_sem, Nat.reduceAdd, Nat.reduceBEq, Nat.reduceEqDiff, Nat.reduceLT, Nat.reduceLeDiff, Nat.reduceMul, Int.reduceToNat, reduceCtorEq, ↓reduceIte, Tryd.ntmps44, Tryd.results44, ks_44, mu_44, ti_ag22, ti_hb72, ti_sb22, ti_sb82, ti_sl22, ti_sl82, slD, hl])
        | (with_reducible refine hKA ?_; clear hKA hKB KA KB)
        | (with_reducible refine hKB ?_; clear hKA hKB KA KB)
        | (with_reducible refine AWp_regC mu_44 ks_44 ?_; intro Kv hKv; simp (dsimp := false) only [go_sem, Nat.reduceAdd, Nat.reduceBEq, Nat.reduceEqDiff, Nat.reduceLT, Nat.reduceLeDiff, Nat.reduceMul, Int.reduceToNat, reduceCtorEq, ↓reduceIte, Tryd.ntmps44, Tryd.results44, ks_44, mu_44, ti_ag22, ti_hb72, ti_sb22, ti_sb82, ti_sl22, ti_sl82, slD, hl])
        | with_reducible refine AWp_skipN ?_
        | with_reducible refine AWp_exitO (by repeat (first | with_reducible exact Out.hit | with_reducible apply Out.thenA | with_reducible apply Out.out rfl)) ?_
        | (with_reducible refine AWp_retR ?_; simp (dsimp := false) only [go_sem, Nat.reduceAdd, Nat.reduceBEq, Nat.reduceEqDiff, Nat.reduceLT, Nat.reduceLeDiff, Nat.reduceMul, Int.reduceToNat, reduceCtorEq, ↓reduceIte, Tryd.ntmps44, Tryd.results44, ks_44, mu_44, ti_ag22, ti_hb72, ti_sb22, ti_sb82, ti_sl22, ti_sl82, slD, hl])
        | (with_reducible refine AWp_regE mu_44 ks_44 ?_; intro Kv hKv; simp (dsimp := false) only [go_sem, Nat.reduceAdd, Nat.reduceBEq, Nat.reduceEqDiff, Nat.reduceLT, Nat.reduceLeDiff, Nat.reduceMul, Int.reduceToNat, reduceCtorEq, ↓reduceIte, Tryd.ntmps44, Tryd.results44, ks_44, mu_44, ti_ag22, ti_hb72, ti_sb22, ti_sb82, ti_sl22, ti_sl82, slD, hl])
        | (refine AWp_condC rfl ?_; intro KA KB hKA hKB; try simp only [onB_true, onB_false, onB_dec, onB_ndec, onB_not, onB_and, onB_or])
        | (refine AWp_condA rfl ?_ ?_)
        | with_reducible refine onB_of ?_ ?_
        | with_reducible rfl
        | omega)
      all_goals first
        | exact ⟨(v + 1, i + 1), by show i + 1 ≤ ls.length; omega, by show ls.length - (i + 1) < ls.length - i; omega, by rw [flat_take hl]; simp [cells], rfl, by omega, by simp⟩
        | (trace_state; sorry)
    · have e : i = ls.length := by omega
      subst e
      rw [List.take_length]
      
      repeat' (first
        | with_reducible refine And.intro ?_ ?_
        | with_reducible intro _
        | with_reducible refine AWp_seq ?_
        | with_reducible refine AWp_block ?_
        | (with_reducible refine hKv _ _ (AWp_nop ?_); clear hKv Kv)
        | (with_reducible refine hKv _ _ ?_; clear hKv Kv; simp (dsimp := false) only [go_sem, Nat.reduceAdd, Nat.reduceBEq, Nat.reduceEqDiff, Nat.reduceLT, Nat.reduceLeDiff, Nat.reduceMul, Int.reduceToNat, reduceCtorEq, ↓reduceIte, Tryd.ntmps44, Tryd.results44, ks_44, mu_44, ti_ag22, ti_hb72, ti_sb22, ti_sb82, ti_sl22, ti_sl82, slD])
        | (with_reducible refine hKA ?_; clear hKA hKB KA KB)
        | (with_reducible refine hKB ?_; clear hKA hKB KA KB)
        | (with_reducible refine AWp_regC mu_44 ks_44 ?_; intro Kv hKv; simp (dsimp := false) only [go_sem, Nat.reduceAdd, Nat.reduceBEq, Nat.reduceEqDiff, Nat.reduceLT, Nat.reduceLeDiff, Nat.reduceMul, Int.reduceToNat, reduceCtorEq, ↓reduceIte, Tryd.ntmps44, Tryd.results44, ks_44, mu_44, ti_ag22, ti_hb72, ti_sb22, ti_sb82, ti_sl22, ti_sl82, slD])
        | with_reducible refine AWp_skipN ?_
        | with_reducible refine AWp_exitO (by repeat (first | with_reducible exact Out.hit | with_reducible apply Out.thenA | with_reducible apply Out.out rfl)) ?_
        | (with_reducible refine AWp_retR ?_; simp (dsimp := false) only [go_sem, Nat.reduceAdd, Nat.reduceBEq, Nat.reduceEqDiff, Nat.reduceLT, Nat.reduceLeDiff, Nat.reduceMul, Int.reduceToNat, reduceCtorEq, ↓reduceIte, Tryd.ntmps44, Tryd.results44, ks_44, mu_44, ti_ag22, ti_hb72, ti_sb22, ti_sb82, ti_sl22, ti_sl82, slD])
        | (with_reducible refine AWp_regE mu_44 ks_44 ?_; intro Kv hKv; simp (dsimp := false) only [go_sem, Nat.reduceAdd, Nat.reduceBEq, Nat.reduceEqDiff, Nat.reduceLT, Nat.reduceLeDiff, Nat.reduceMul, Int.reduceToNat, reduceCtorEq, ↓reduceIte, Tryd.ntmps44, Tryd.results44, ks_44, mu_44, ti_ag22, ti_hb72, ti_sb22, ti_sb82, ti_sl22, ti_sl82, slD])
        | (refine AWp_condC rfl ?_; intro KA KB hKA hKB; try simp only [onB_true, onB_false, onB_dec, onB_ndec, onB_not, onB_and, onB_or])
        | (refine AWp_condA rfl ?_ ?_)
        | with_reducible refine onB_of ?_ ?_
        | with_reducible rfl
        | omega)
      all_goals first
        | exact dropF hk (.os _ _ _ _ _ _ (by omega) (get_app0 _ _) (cells_data _)) (by simp [Bel_d])
        | (trace_state; sorry)

/- the live slots of slices.Grow[[]pleacher/api.Item,pleacher/api.Item] -/
def ks_73 : Nat → List Nat
  | 0 => [0, 1]
  | 1 => [0, 1, 6]
  | 2 => [0, 1]
  | 3 => [0, 1]
  | 4 => [0, 1, 16]
  | 5 => [0]
  | 6 => [4]
  | _ => []
def mu_73 : List Nat := [22]
def in_73 : List Nat := [0, 1]
theorem growIts_A (n : Int) (h0 : 0 ≤ n) (hn : n ≤ 1000000000000) (H : Heap) (K : V → Heap → Prop) (hk : (n = 0 → K (.d (.c (.slice none 0 0))) H) ∧ (0 < n → K (.os H.length 1) (H ++ [.row 1 59 3 []]))) :
    ACalls Tryd.prog 73 [.d (.c (.slice none 0 0)), .d (.i .i64 n)] H K := by
  refine ACalls_of Tryd.func73 rfl in_73 (Nat.le_of_ble_eq_true rfl) ?_
  intro F hF
  simp (dsimp := false) only [go_sem, Nat.reduceAdd, Nat.reduceBEq, Nat.reduceEqDiff, Nat.reduceLT, Nat.reduceLeDiff, Nat.reduceMul, Int.reduceToNat, reduceCtorEq, ↓reduceIte, Tryd.ntmps73, Tryd.results73, ks_73, mu_73, ti_in3, ti_sb43, ti_sl43, ti_zr59, List.take_zero, Option.isSome_some, in_73] at hF
  subst hF
  repeat' (first
    | with_reducible refine And.intro ?_ ?_
    | with_reducible intro _
    | with_reducible refine AWp_seq ?_
    | with_reducible refine AWp_block ?_
    | (with_reducible refine hKv _ _ (AWp_nop ?_); clear hKv Kv)
    | (with_reducible refine hKv _ _ ?_; clear hKv Kv; simp (dsimp := false) only [go_sem, Nat.reduceAdd, Nat.reduceBEq, Nat.reduceEqDiff, Nat.reduceLT, Nat.reduceLeDiff, Nat.reduceMul, Int.reduceToNat, reduceCtorEq, ↓reduceIte, Tryd.ntmps73, Tryd.results73, ks_73, mu_73, ti_in3, ti_sb43, ti_sl43, ti_zr59, List.take_zero, Option.isSome_some])
    | (with_reducible refine hKA ?_; clear hKA hKB KA KB)
    | (with_reducible refine hKB ?_; clear hKA hKB KA KB)
    | (with_reducible refine AWp_regC mu_73 ks_73 ?_; intro Kv hKv; simp (dsimp := false) only [go_sem, Nat.reduceAdd, Nat.reduceBEq, Nat.reduceEqDiff, Nat.reduceLT, Nat.reduceLeDiff, Nat.reduceMul, Int.reduceToNat, reduceCtorEq, ↓reduceIte, Tryd.ntmps73, Tryd.results73, ks_73, mu_73, ti_in3, ti_sb43, ti_sl43, ti_zr59, List.take_zero, Option.isSome_some])
    | with_reducible refine AWp_skipN ?_
    | with_reducible refine AWp_exitO (by repeat (first | with_reducible exact Out.hit | with_reducible apply Out.thenA | with_reducible apply Out.out rfl)) ?_
    | (with_reducible refine AWp_retR ?_; simp (dsimp := false) only [go_sem, Nat.reduceAdd, Nat.reduceBEq, Nat.reduceEqDiff, Nat.reduceLT, Nat.reduceLeDiff, Nat.reduceMul, Int.reduceToNat, reduceCtorEq, ↓reduceIte, Tryd.ntmps73, Tryd.results73, ks_73, mu_73, ti_in3, ti_sb43, ti_sl43, ti_zr59, List.take_zero, Option.isSome_some])
    | (with_reducible refine AWp_regE mu_73 ks_73 ?_; intro Kv hKv; simp (dsimp := false) only [go_sem, Nat.reduceAdd, Nat.reduceBEq, Nat.reduceEqDiff, Nat.reduceLT, Nat.reduceLeDiff, Nat.reduceMul, Int.reduceToNat, reduceCtorEq, ↓reduceIte, Tryd.ntmps73, Tryd.results73, ks_73, mu_73, ti_in3, ti_sb43, ti_sl43, ti_zr59, List.take_zero, Option.isSome_some])
    | (refine AWp_condC rfl ?_; intro KA KB hKA hKB; try simp only [onB_true, onB_false, onB_dec, onB_ndec, onB_not, onB_and, onB_or])
    | (refine AWp_condA rfl ?_ ?_)
    | with_reducible refine onB_of ?_ ?_
    | with_reducible rfl
    | omega)
  all_goals first
    | (refine keepO (hk.2 (by omega)) (fun ob hob => ?_) (by simp [Bel_os])
       simp only [List.mem_cons, List.not_mem_nil, or_false] at hob
       rcases hob with rfl
       exact obBel_cells _ _ _ _ [])
    | exact keepK (hk.1 (by omega)) (by simp [Bel_d]) rfl
    | (trace_state; sorry)

/- the live slots of slices.Concat[[]pleacher/api.Item,pleacher/api.Item] -/
def ks_45 : Nat → List Nat
  | 0 => [0]
  | 1 => [0, 3]
  | 2 => [0, 3, 9, 10, 11]
  | 3 => [0, 3, 9, 10, 11, 12]
  | 4 => [0, 3, 5, 9, 10, 11]
  | 5 => [0, 3, 9, 10, 11]
  | 6 => [0, 3, 9, 10, 11, 20]
  | 7 => [0, 3, 9, 10, 11]
  | 8 => [0, 3, 9, 10, 11]
  | 9 => [0, 6]
  | 10 => [6, 25, 26, 27]
  | 11 => [6, 25, 26, 27, 28]
  | 12 => [6, 8, 25, 26, 27]
  | 13 => [6, 25, 26, 27]
  | 14 => [6, 25, 26, 27]
  | 15 => [2]
  | _ => []
def mu_45 : List Nat := [6]
def in_45 : List Nat := [0]
theorem concatIts_A (ls : List (List (List D))) (hlen : ls.length ≤ 1048576) (hj : ls.flatten.length ≤ 1000000000000) (H : Heap) (K : V → Heap → Prop) (hk : K (.d (.sl 3 ls.flatten)) H) :
    ACalls Tryd.prog 45 [.d (.sl 1 (ls.map (slD 3)))] H K := by
  refine ACalls_of Tryd.func45 rfl in_45 (Nat.le_of_ble_eq_true rfl) ?_
  intro F hF
  simp (dsimp := false) only [go_sem, Nat.reduceAdd, Nat.reduceBEq, Nat.reduceEqDiff, Nat.reduceLT, Nat.reduceLeDiff, Nat.reduceMul, Int.reduceToNat, reduceCtorEq, ↓reduceIte, Tryd.ntmps45, Tryd.results45, ks_45, mu_45, ti_ag43, ti_hb73, ti_sb23, ti_sb43, ti_sl23, ti_sl43, slD, in_45] at hF
  subst hF
  repeat' (first
    | with_reducible refine And.intro ?_ ?_
    | with_reducible intro _
    | with_reducible refine AWp_seq ?_
    | with_reducible refine AWp_block ?_
    | (with_reducible refine hKv _ _ (AWp_nop ?_); clear hKv Kv)
    | (with_reducible refine hKv _ _ ?_; clear hKv Kv; simp (dsimp := false) only [go_sem, Nat.reduceAdd, Nat.reduceBEq, Nat.reduceEqDiff, Nat.reduceLT, Nat.reduceLeDiff, Nat.reduceMul, Int.reduceToNat, reduceCtorEq, ↓reduceIte, Tryd.ntmps45, Tryd.results45, ks_45, mu_45, ti_ag43, ti_hb73, ti_sb23, ti_sb43, ti_sl23, ti_sl43, slD])
    | (with_reducible refine hKA ?_; clear hKA hKB KA KB)
    | (with_reducible refine hKB ?_; clear hKA hKB KA KB)
    | (with_reducible refine AWp_regC mu_45 ks_45 ?_; intro Kv hKv; simp (dsimp := false) only [go_sem, Nat.reduceAdd, Nat.reduceBEq, Nat.reduceEqDiff, Nat.reduceLT, Nat.reduceLeDiff, Nat.reduceMul, Int.reduceToNat, reduceCtorEq, ↓reduceIte, Tryd.ntmps45, Tryd.results45, ks_45, mu_45, ti_ag43, ti_hb73, ti_sb23, ti_sb43, ti_sl23, ti_sl43, slD])
    | with_reducible refine AWp_skipN ?_
    | with_reducible refine AWp_exitO (by repeat (first | with_reducible exact Out.hit | with_reducible apply Out.thenA | with_reducible apply Out.out rfl)) ?_
    | (with_reducible refine AWp_retR ?_; simp (dsimp := false) only [go_sem, Nat.reduceAdd, Nat.reduceBEq, Nat.reduceEqDiff, Nat.reduceLT, Nat.reduceLeDiff, Nat.reduceMul, Int.reduceToNat, reduceCtorEq, ↓reduceIte, Tryd.ntmps45, Tryd.results45, ks_45, mu_45, ti_ag43, ti_hb73, ti_sb23, ti_sb43, ti_sl23, ti_sl43, slD])
    | (with_reducible refine AWp_regE mu_45 ks_45 ?_; intro Kv hKv; simp (dsimp := false) only [go_sem, Nat.reduceAdd, Nat.reduceBEq, Nat.reduceEqDiff, Nat.reduceLT, Nat.reduceLeDiff, Nat.reduceMul, Int.reduceToNat, reduceCtorEq, ↓reduceIte, Tryd.ntmps45, Tryd.results45, ks_45, mu_45, ti_ag43, ti_hb73, ti_sb23, ti_sb43, ti_sl23, ti_sl43, slD])
    | (refine AWp_condC rfl ?_; intro KA KB hKA hKB; try simp only [onB_true, onB_false, onB_dec, onB_ndec, onB_not, onB_and, onB_or])
    | (refine AWp_condA rfl ?_ ?_)
    | with_reducible refine onB_of ?_ ?_
    | with_reducible rfl
    | omega)
  refine AWp_while0 (fun i : Nat => i ≤ ls.length) (fun i => [(0, .d (.sl 1 (ls.map (slD 3)))), (3, .d (.i .i64 (ls.take i).flatten.length)), (9, .d (.sl 1 (ls.map (slD 3)))), (10, .d (.i .i64 ls.length)), (11, .d (.i .i64 i))]) (fun i => ls.length - i) 0 (Nat.zero_le _) ?_ ?_
  · simp (dsimp := false) only [go_sem, Nat.reduceAdd, Nat.reduceBEq, Nat.reduceEqDiff, Nat.reduceLT, Nat.reduceLeDiff, Nat.reduceMul, Int.reduceToNat, reduceCtorEq, ↓reduceIte, Tryd.ntmps45, Tryd.results45, ks_45, mu_45, ti_ag43, ti_hb73, ti_sb23, ti_sb43, ti_sl23, ti_sl43, slD]
    first | done | simp
  rintro i hi
  by_cases hiN : i < ls.length
  · obtain ⟨l, hl⟩ : ∃ l, ls[i]? = some l := ⟨ls[i], List.getElem?_eq_getElem hiN⟩
    have hle := flat_le (ls := ls) (i + 1)
    have he := congrArg List.length (flat_take hl)
    rw [List.length_append] at he
    
    repeat' (first
      | with_reducible refine And.intro ?_ ?_
      | with_reducible intro _
      | with_reducible refine AWp_seq ?_
      | with_reducible refine AWp_block ?_
      | (with_reducible refine hKv _ _ (AWp_nop ?_); clear hKv Kv)
      | (with_reducible refine hKv _ _ ?_; clear hKv Kv; simp (dsimp := false) only [go_sem, Nat.reduceAdd, Nat.reduceBEq, Nat.reduceEqDiff, Nat.reduceLT, Nat.reduceLeDiff, Nat.reduceMul, Int.reduceToNat, reduceCtorEq, ↓reduceIte, Tryd.ntmps45, Tryd.results45, ks_45, mu_45, ti_ag43, ti_hb73, ti_sb23, ti_sb43, ti_sl23, ti_sl43, slD, hl])
      | (with_reducible refine hKA ?_; clear hKA hKB KA KB)
      | (with_reducible refine hKB ?_; clear hKA hKB KA KB)
      | (with_reducible refine AWp_regC mu_45 ks_45 ?_; intro Kv hKv; simp (dsimp := false) only [go_sem, Nat.reduceAdd, Nat.reduceBEq, Nat.reduceEqDiff, Nat.reduceLT, Nat.reduceLeDiff, Nat.reduceMul, Int.reduceToNat, reduceCtorEq, ↓reduceIte, Tryd.ntmps45, Tryd.results45, ks_45, mu_45, ti_ag43, ti_hb73, ti_sb23, ti_sb43, ti_sl23, ti_sl43, slD, hl])
      | with_reducible refine AWp_skipN ?_
      | with_reducible refine AWp_exitO (by repeat (first | with_reducible exact Out.hit | with_reducible apply Out.thenA | with_reducible apply Out.out rfl)) ?_
      | (with_reducible refine AWp_retR ?_; simp (dsimp := false) only [go_sem, Nat.reduceAdd, Nat.reduceBEq, Nat.reduceEqDiff, Nat.reduceLT, Nat.reduceLeDiff, Nat.reduceMul, Int.reduceToNat, reduceCtorEq, ↓reduceIte, Tryd.ntmps45, Tryd.results45, ks_45, mu_45, ti_ag43, ti_hb73, ti_sb23, ti_sb43, ti_sl23, ti_sl43, slD, hl])
      | (with_reducible refine AWp_regE mu_45 ks_45 ?_; intro Kv hKv; simp (dsimp := false) only [go_sem, Nat.reduceAdd, Nat.reduceBEq, Nat.reduceEqDiff, Nat.reduceLT, Nat.reduceLeDiff, Nat.reduceMul, Int.reduceToNat, reduceCtorEq, ↓reduceIte, Tryd.ntmps45, Tryd.results45, ks_45, mu_45, ti_ag43, ti_hb73, ti_sb23, ti_sb43, ti_sl23, ti_sl43, slD, hl])
      | (refine AWp_condC rfl ?_; intro KA KB hKA hKB; try simp only [onB_true, onB_false, onB_dec, onB_ndec, onB_not, onB_and, onB_or])
      | (refine AWp_condA rfl ?_ ?_)
      | with_reducible refine onB_of ?_ ?_
      | with_reducible rfl
      | omega)
    all_goals first
      | exact ⟨i + 1, by omega, by omega, by omega, by omega⟩
      | (trace_state; sorry)
  have e : i = ls.length := by omega
  subst e
  rw [List.take_length]
  
  repeat' (first
    | with_reducible refine And.intro ?_ ?_
    | with_reducible intro _
    | with_reducible refine AWp_seq ?_
    | with_reducible refine AWp_block ?_
    | (with_reducible refine hKv _ _ (AWp_nop ?_); clear hKv Kv)
    | (with_reducible refine hKv _ _ ?_; clear hKv Kv; simp (dsimp := false) only [go_sem, Nat.reduceAdd, Nat.reduceBEq, Nat.reduceEqDiff, Nat.reduceLT, Nat.reduceLeDiff, Nat.reduceMul, Int.reduceToNat, reduceCtorEq, ↓reduceIte, Tryd.ntmps45, Tryd.results45, ks_45, mu_45, ti_ag43, ti_hb73, ti_sb23, ti_sb43, ti_sl23, ti_sl43, slD])
    | (with_reducible refine hKA ?_; clear hKA hKB KA KB)
    | (with_reducible refine hKB ?_; clear hKA hKB KA KB)
    | (with_reducible refine AWp_regC mu_45 ks_45 ?_; intro Kv hKv; simp (dsimp := false) only [go_sem, Nat.reduceAdd, Nat.reduceBEq, Nat.reduceEqDiff, Nat.reduceLT, Nat.reduceLeDiff, Nat.reduceMul, Int.reduceToNat, reduceCtorEq, ↓reduceIte, Tryd.ntmps45, Tryd.results45, ks_45, mu_45, ti_ag43, ti_hb73, ti_sb23, ti_sb43, ti_sl23, ti_sl43, slD])
    | with_reducible refine AWp_skipN ?_
    | with_reducible refine AWp_exitO (by repeat (first | with_reducible exact Out.hit | with_reducible apply Out.thenA | with_reducible apply Out.out rfl)) ?_
    | (with_reducible refine AWp_retR ?_; simp (dsimp := false) only [go_sem, Nat.reduceAdd, Nat.reduceBEq, Nat.reduceEqDiff, Nat.reduceLT, Nat.reduceLeDiff, Nat.reduceMul, Int.reduceToNat, reduceCtorEq, ↓reduceIte, Tryd.ntmps45, Tryd.results45, ks_45, mu_45, ti_ag43, ti_hb73, ti_sb23, ti_sb43, ti_sl23, ti_sl43, slD])
    | (with_reducible refine AWp_regE mu_45 ks_45 ?_; intro Kv hKv; simp (dsimp := false) only [go_sem, Nat.reduceAdd, Nat.reduceBEq, Nat.reduceEqDiff, Nat.reduceLT, Nat.reduceLeDiff, Nat.reduceMul, Int.reduceToNat, reduceCtorEq, ↓reduceIte, Tryd.ntmps45, Tryd.results45, ks_45, mu_45, ti_ag43, ti_hb73, ti_sb23, ti_sb43, ti_sl23, ti_sl43, slD])
    | (refine AWp_condC rfl ?_; intro KA KB hKA hKB; try simp only [onB_true, onB_false, onB_dec, onB_ndec, onB_not, onB_and, onB_or])
    | (refine AWp_condA rfl ?_ ?_)
    | (refine growIts_A _ (by omega) (by omega) _ _ ?_; try simp (dsimp := false) only [go_sem, Nat.reduceAdd, Nat.reduceBEq, Nat.reduceEqDiff, Nat.reduceLT, Nat.reduceLeDiff, Nat.reduceMul, Int.reduceToNat, reduceCtorEq, ↓reduceIte, Tryd.ntmps45, Tryd.results45, ks_45, mu_45, ti_ag43, ti_hb73, ti_sb23, ti_sb43, ti_sl23, ti_sl43, slD])
    | with_reducible refine onB_of ?_ ?_
    | with_reducible rfl
    | omega)
  all_goals
    first
    | refine AWp_whileH (fun y : Nat × Nat => y.2 ≤ ls.length) (fun y => [(6, .os H.length y.1), (25, .d (.sl 1 (ls.map (slD 3)))), (26, .d (.i .i64 ls.length)), (27, .d (.i .i64 y.2))]) (fun y => [.row y.1 59 3 (cells (ls.take y.2).flatten)]) (fun y => ls.length - y.2) (0, 0) (Nat.zero_le _) rfl ?_ ?_ ?_
    | refine AWp_whileH (fun y : Nat × Nat => y.2 ≤ ls.length) (fun y => [(6, .os H.length y.1), (25, .d (.sl 1 (ls.map (slD 3)))), (26, .d (.i .i64 ls.length)), (27, .d (.i .i64 y.2))]) (fun y => [.row y.1 59 3 (cells (ls.take y.2).flatten)]) (fun y => ls.length - y.2) (1, 0) (Nat.zero_le _) rfl ?_ ?_ ?_
    · simp (dsimp := false) only [go_sem, Nat.reduceAdd, Nat.reduceBEq, Nat.reduceEqDiff, Nat.reduceLT, Nat.reduceLeDiff, Nat.reduceMul, Int.reduceToNat, reduceCtorEq, ↓reduceIte, Tryd.ntmps45, Tryd.results45, ks_45, mu_45, ti_ag43, ti_hb73, ti_sb23, ti_sb43, ti_sl23, ti_sl43, slD]
      simp
    · rintro ⟨v, i⟩ _ ob hob
      simp only [List.mem_cons, List.not_mem_nil, or_false] at hob
      rcases hob with rfl
      exact obBel_cells _ _ _ _ _
    rintro ⟨v, i⟩ hi
    simp only [] at hi ⊢
    by_cases hiN : i < ls.length
    · obtain ⟨l, hl⟩ : ∃ l, ls[i]? = some l := ⟨ls[i], List.getElem?_eq_getElem hiN⟩
      have hle := flat_le (ls := ls) (i + 1)
      have he := congrArg List.length (flat_take hl)
      rw [List.length_append] at he
      have hcl : (cells (ls.take i).flatten).length = (ls.take i).flatten.length := by rw [cells, List.length_map]
      
      repeat' (first
        | with_reducible refine And.intro ?_ ?_
        | with_reducible intro _
        | with_reducible refine AWp_seq ?_
        | with_reducible refine AWp_block ?_
        | (with_reducible refine hKv _ _ (AWp_nop ?_); clear hKv Kv)
        | (with_reducible refine hKv _ _ ?_; clear hKv Kv; simp (dsimp := false) only [go_sem, Nat.reduceAdd, Nat.reduceBEq, Nat.reduceEqDiff, Nat.reduceLT, Nat.reduceLeDiff, Nat.reduceMul, Int.reduceToNat, reduceCtorEq, ↓reduceIte, Tryd.ntmps45, Tryd.results45, ks_45, mu_45, ti_ag43, ti_hb73, ti_sb23, ti_sb43, ti_sl23, ti_sl43, slD, hl])
        | (with_reducible refine hKA ?_; clear hKA hKB KA KB)
        | (with_reducible refine hKB ?_; clear hKA hKB KA KB)
        | (with_reducible refine AWp_regC mu_45 ks_45 ?_; intro Kv hKv; simp (dsimp := false) only [go_sem, Nat.reduceAdd, Nat.reduceBEq, Nat.reduceEqDiff, Nat.reduceLT, Nat.reduceLeDiff, Nat.reduceMul, Int.reduceToNat, reduceCtorEq, ↓reduceIte, Tryd.ntmps45, Tryd.results45, ks_45, mu_45, ti_ag43, ti_hb73, ti_sb23, ti_sb43, ti_sl23, ti_sl43, slD, hl])
        | with_reducible refine AWp_skipN ?_
        | with_reducible refine AWp_exitO (by repeat (first | with_reducible exact Out.hit | with_reducible apply Out.thenA | with_reducible apply Out.out rfl)) ?_
        | (with_reducible refine AWp_retR ?_; simp (dsimp := false) only [go_sem, Nat.reduceAdd, Nat.reduceBEq, Nat.reduceEqDiff, Nat.reduceLT, Nat.reduceLeDiff, Nat.reduceMul, Int.reduceToNat, reduceCtorEq, ↓reduceIte, Tryd.ntmps45, Tryd.results45, ks_45, mu_45, ti_ag43, ti_hb73, ti_sb23, ti_sb43, ti_sl23, ti_sl43, slD, hl])
        | (with_reducible refine AWp_regE mu_45 ks_45 ?_; intro Kv hKv; simp (dsimp := false) only [go_sem, Nat.reduceAdd, Nat.reduceBEq, Nat.reduceEqDiff, Nat.reduceLT, Nat.reduceLeDiff, Nat.reduceMul, Int.reduceToNat, reduceCtorEq, ↓reduceIte, Tryd.ntmps45, Tryd.results45, ks_45, mu_45, ti_ag43, ti_hb73, ti_sb23, ti_sb43, ti_sl23, ti_sl43, slD, hl])
        | (refine AWp_condC rfl ?_; intro KA KB hKA hKB; try simp only [onB_true, onB_false, onB_dec, onB_ndec, onB_not, onB_and, onB_or])
        | (refine AWp_condA rfl ?_ ?_)
        | with_reducible refine onB_of ?_ ?_
        | with_reducible rfl
        | omega)
      all_goals first
        | exact ⟨(v + 1, i + 1), by show i + 1 ≤ ls.length; omega, by show ls.length - (i + 1) < ls.length - i; omega, by rw [flat_take hl]; simp [cells], rfl, by omega, by simp⟩
        | (trace_state; sorry)
    · have e : i = ls.length := by omega
      subst e
      rw [List.take_length]
      
      repeat' (first
        | with_reducible refine And.intro ?_ ?_
        | with_reducible intro _
        | with_reducible refine AWp_seq ?_
        | with_reducible refine AWp_block ?_
        | (with_reducible refine hKv _ _ (AWp_nop ?_); clear hKv Kv)
        | (with_reducible refine hKv _ _ ?_; clear hKv Kv; simp (dsimp := false) only [go_sem, Nat.reduceAdd, Nat.reduceBEq, Nat.reduceEqDiff, Nat.reduceLT, Nat.reduceLeDiff, Nat.reduceMul, Int.reduceToNat, reduceCtorEq, ↓reduceIte, Tryd.ntmps45, Tryd.results45, ks_45, mu_45, ti_ag43, ti_hb73, ti_sb23, ti_sb43, ti_sl23, ti_sl43, slD])
        | (with_reducible refine hKA ?_; clear hKA hKB KA KB)
        | (with_reducible refine hKB ?_; clear hKA hKB KA KB)
        | (with_reducible refine AWp_regC mu_45 ks_45 ?_; intro Kv hKv; simp (dsimp := false) only [go_sem, Nat.reduceAdd, Nat.reduceBEq, Nat.reduceEqDiff, Nat.reduceLT, Nat.reduceLeDiff, Nat.reduceMul, Int.reduceToNat, reduceCtorEq, ↓reduceIte, Tryd.ntmps45, Tryd.results45, ks_45, mu_45, ti_ag43, ti_hb73, ti_sb23, ti_sb43, ti_sl23, ti_sl43, slD])
        | with_reducible refine AWp_skipN ?_
        | with_reducible refine AWp_exitO (by repeat (first | with_reducible exact Out.hit | with_reducible apply Out.thenA | with_reducible apply Out.out rfl)) ?_
        | (with_reducible refine AWp_retR ?_; simp (dsimp := false) only [go_sem, Nat.reduceAdd, Nat.reduceBEq, Nat.reduceEqDiff, Nat.reduceLT, Nat.reduceLeDiff, Nat.reduceMul, Int.reduceToNat, reduceCtorEq, ↓reduceIte, Tryd.ntmps45, Tryd.results45, ks_45, mu_45, ti_ag43, ti_hb73, ti_sb23, ti_sb43, ti_sl23, ti_sl43, slD])
        | (with_reducible refine AWp_regE mu_45 ks_45 ?_; intro Kv hKv; simp (dsimp := false) only [go_sem, Nat.reduceAdd, Nat.reduceBEq, Nat.reduceEqDiff, Nat.reduceLT, Nat.reduceLeDiff, Nat.reduceMul, Int.reduceToNat, reduceCtorEq, ↓reduceIte, Tryd.ntmps45, Tryd.results45, ks_45, mu_45, ti_ag43, ti_hb73, ti_sb23, ti_sb43, ti_sl23, ti_sl43, slD])
        | (refine AWp_condC rfl ?_; intro KA KB hKA hKB; try simp only [onB_true, onB_false, onB_dec, onB_ndec, onB_not, onB_and, onB_or])
        | (refine AWp_condA rfl ?_ ?_)
        | with_reducible refine onB_of ?_ ?_
        | with_reducible rfl
        | omega)
      all_goals first
        | exact dropF hk (.os _ _ _ _ _ _ (by omega) (get_app0 _ _) (cells_data _)) (by simp [Bel_d])
        | (trace_state; sorry)

/- the live slots of slices.Grow[[][]pleacher/api.Item,[]pleacher/api.Item] -/
def ks_75 : Nat → List Nat
  | 0 => [0, 1]
  | 1 => [0, 1, 6]
  | 2 => [0, 1]
  | 3 => [0, 1]
  | 4 => [0, 1, 16]
  | 5 => [0]
  | 6 => [4]
  | _ => []
def mu_75 : List Nat := [22]
def in_75 : List Nat := [0, 1]
theorem growRws_A (n : Int) (h0 : 0 ≤ n) (hn : n ≤ 1000000000000) (H : Heap) (K : V → Heap → Prop) (hk : (n = 0 → K (.d (.c (.slice none 0 0))) H) ∧ (0 < n → K (.os H.length 1) (H ++ [.row 1 43 1 []]))) :
    ACalls Tryd.prog 75 [.d (.c (.slice none 0 0)), .d (.i .i64 n)] H K := by
  refine ACalls_of Tryd.func75 rfl in_75 (Nat.le_of_ble_eq_true rfl) ?_
  intro F hF
  simp (dsimp := false) only [go_sem, Nat.reduceAdd, Nat.reduceBEq, Nat.reduceEqDiff, Nat.reduceLT, Nat.reduceLeDiff, Nat.reduceMul, Int.reduceToNat, reduceCtorEq, ↓reduceIte, Tryd.ntmps75, Tryd.results75, ks_75, mu_75, ti_in3, ti_sb23, ti_sl23, ti_zr43, List.take_zero, Option.isSome_some, in_75] at hF
  subst hF
  repeat' (first
    | with_reducible refine And.intro ?_ ?_
    | with_reducible intro _
    | with_reducible refine AWp_seq ?_
    | with_reducible refine AWp_block ?_
    | (with_reducible refine hKv _ _ (AWp_nop ?_); clear hKv Kv)
    | (with_reducible refine hKv _ _ ?_; clear hKv Kv; simp (dsimp := false) only [go_sem, Nat.reduceAdd, Nat.reduceBEq, Nat.reduceEqDiff, Nat.reduceLT, Nat.reduceLeDiff, Nat.reduceMul, Int.reduceToNat, reduceCtorEq, ↓reduceIte, Tryd.ntmps75, Tryd.results75, ks_75, mu_75, ti_in3, ti_sb23, ti_sl23, ti_zr43, List.take_zero, Option.isSome_some])
    | (with_reducible refine hKA ?_; clear hKA hKB KA KB)
    | (with_reducible refine hKB ?_; clear hKA hKB KA KB)
    | (with_reducible refine AWp_regC mu_75 ks_75 ?_; intro Kv hKv; simp (dsimp := false) only [go_sem, Nat.reduceAdd, Nat.reduceBEq, Nat.reduceEqDiff, Nat.reduceLT, Nat.reduceLeDiff, Nat.reduceMul, Int.reduceToNat, reduceCtorEq, ↓reduceIte, Tryd.ntmps75, Tryd.results75, ks_75, mu_75, ti_in3, ti_sb23, ti_sl23, ti_zr43, List.take_zero, Option.isSome_some])
    | with_reducible refine AWp_skipN ?_
    | with_reducible refine AWp_exitO (by repeat (first | with_reducible exact Out.hit | with_reducible apply Out.thenA | with_reducible apply Out.out rfl)) ?_
    | (with_reducible refine AWp_retR ?_; simp (dsimp := false) only [go_sem, Nat.reduceAdd, Nat.reduceBEq, Nat.reduceEqDiff, Nat.reduceLT, Nat.reduceLeDiff, Nat.reduceMul, Int.reduceToNat, reduceCtorEq, ↓reduceIte, Tryd.ntmps75, Tryd.results75, ks_75, mu_75, ti_in3, ti_sb23, ti_sl23, ti_zr43, List.take_zero, Option.isSome_some])
    | (with_reducible refine AWp_regE mu_75 ks_75 ?_; intro Kv hKv; simp (dsimp := false) only [go_sem, Nat.reduceAdd, Nat.reduceBEq, Nat.reduceEqDiff, Nat.reduceLT, Nat.reduceLeDiff, Nat.reduceMul, Int.reduceToNat, reduceCtorEq, ↓reduceIte, Tryd.ntmps75, Tryd.results75, ks_75, mu_75, ti_in3, ti_sb23, ti_sl23, ti_zr43, List.take_zero, Option.isSome_some])
    | (refine AWp_condC rfl ?_; intro KA KB hKA hKB; try simp only [onB_true, onB_false, onB_dec, onB_ndec, onB_not, onB_and, onB_or])
    | (refine AWp_condA rfl ?_ ?_)
    | with_reducible refine onB_of ?_ ?_
    | with_reducible rfl
    | omega)
  all_goals first
    | (refine keepO (hk.2 (by omega)) (fun ob hob => ?_) (by simp [Bel_os])
       simp only [List.mem_cons, List.not_mem_nil, or_false] at hob
       rcases hob with rfl
       exact obBel_cells _ _ _ _ [])
    | exact keepK (hk.1 (by omega)) (by simp [Bel_d]) rfl
    | (trace_state; sorry)

/- the live slots of slices.Concat[[][]pleacher/api.Item,[]pleacher/api.Item] -/
def ks_51 : Nat → List Nat
  | 0 => [0]
  | 1 => [0, 3]
  | 2 => [0, 3, 9, 10, 11]
  | 3 => [0, 3, 9, 10, 11, 12]
  | 4 => [0, 3, 5, 9, 10, 11]
  | 5 => [0, 3, 9, 10, 11]
  | 6 => [0, 3, 9, 10, 11, 20]
  | 7 => [0, 3, 9, 10, 11]
  | 8 => [0, 3, 9, 10, 11]
  | 9 => [0, 6]
  | 10 => [6, 25, 26, 27]
  | 11 => [6, 25, 26, 27, 28]
  | 12 => [6, 8, 25, 26, 27]
  | 13 => [6, 25, 26, 27]
  | 14 => [6, 25, 26, 27]
  | 15 => [2]
  | _ => []
def mu_51 : List Nat := [6]
def in_51 : List Nat := [0]
theorem concatRws_A (ls : List (List (List D))) (hlen : ls.length ≤ 1048576) (hj : ls.flatten.length ≤ 1000000000000) (H : Heap) (K : V → Heap → Prop) (hk : K (.d (.sl 1 ls.flatten)) H) :
    ACalls Tryd.prog 51 [.d (.sl 1 (ls.map (slD 1)))] H K := by
  refine ACalls_of Tryd.func51 rfl in_51 (Nat.le_of_ble_eq_true rfl) ?_
  intro F hF
  simp (dsimp := false) only [go_sem, Nat.reduceAdd, Nat.reduceBEq, Nat.reduceEqDiff, Nat.reduceLT, Nat.reduceLeDiff, Nat.reduceMul, Int.reduceToNat, reduceCtorEq, ↓reduceIte, Tryd.ntmps51, Tryd.results51, ks_51, mu_51, ti_ag23, ti_hb75, ti_sb23, ti_sb86, ti_sl23, ti_sl86, slD, in_51] at hF
  subst hF
  repeat' (first
    | with_reducible refine And.intro ?_ ?_
    | with_reducible intro _
    | with_reducible refine AWp_seq ?_
    | with_reducible refine AWp_block ?_
    | (with_reducible refine hKv _ _ (AWp_nop ?_); clear hKv Kv)
    | (with_reducible refine hKv _ _ ?_; clear hKv Kv; simp (dsimp := false) only [go_sem, Nat.reduceAdd, Nat.reduceBEq, Nat.reduceEqDiff, Nat.reduceLT, Nat.reduceLeDiff, Nat.reduceMul, Int.reduceToNat, reduceCtorEq, ↓reduceIte, Tryd.ntmps51, Tryd.results51, ks_51, mu_51, ti_ag23, ti_hb75, ti_sb23, ti_sb86, ti_sl23, ti_sl86, slD])
    | (with_reducible refine hKA ?_; clear hKA hKB KA KB)
    | (with_reducible refine hKB ?_; clear hKA hKB KA KB)
    | (with_reducible refine AWp_regC mu_51 ks_51 ?_; intro Kv hKv; simp (dsimp := false) only [go_sem, Nat.reduceAdd, Nat.reduceBEq, Nat.reduceEqDiff, Nat.reduceLT, Nat.reduceLeDiff, Nat.reduceMul, Int.reduceToNat, reduceCtorEq, ↓reduceIte, Tryd.ntmps51, Tryd.results51, ks_51, mu_51, ti_ag23, ti_hb75, ti_sb23, ti_sb86, ti_sl23, ti_sl86, slD])
    | with_reducible refine AWp_skipN ?_
    | with_reducible refine AWp_exitO (by repeat (first | with_reducible exact Out.hit | with_reducible apply Out.thenA | with_reducible apply Out.out rfl)) ?_
    | (with_reducible refine AWp_retR ?_; simp (dsimp := false) only [go_sem, Nat.reduceAdd, Nat.reduceBEq, Nat.reduceEqDiff, Nat.reduceLT, Nat.reduceLeDiff, Nat.reduceMul, Int.reduceToNat, reduceCtorEq, ↓reduceIte, Tryd.ntmps51, Tryd.results51, ks_51, mu_51, ti_ag23, ti_hb75, ti_sb23, ti_sb86, ti_sl23, ti_sl86, slD])
    | (with_reducible refine AWp_regE mu_51 ks_51 ?_; intro Kv hKv; simp (dsimp := false) only [go_sem, Nat.reduceAdd, Nat.reduceBEq, Nat.reduceEqDiff, Nat.reduceLT, Nat.reduceLeDiff, Nat.reduceMul, Int.reduceToNat, reduceCtorEq, ↓reduceIte, Tryd.ntmps51, Tryd.results51, ks_51, mu_51, ti_ag23, ti_hb75, ti_sb23, ti_sb86, ti_sl23, ti_sl86, slD])
    | (refine AWp_condC rfl ?_; intro KA KB hKA hKB; try simp only [onB_true, onB_false, onB_dec, onB_ndec, onB_not, onB_and, onB_or])
    | (refine AWp_condA rfl ?_ ?_)
    | with_reducible refine onB_of ?_ ?_
    | with_reducible rfl
    | omega)
  refine AWp_while0 (fun i : Nat => i ≤ ls.length) (fun i => [(0, .d (.sl 1 (ls.map (slD 1)))), (3, .d (.i .i64 (ls.take i).flatten.length)), (9, .d (.sl 1 (ls.map (slD 1)))), (10, .d (.i .i64 ls.length)), (11, .d (.i .i64 i))]) (fun i => ls.length - i) 0 (Nat.zero_le _) ?_ ?_
  · simp (dsimp := false) only [go_sem, Nat.reduceAdd, Nat.reduceBEq, Nat.reduceEqDiff, Nat.reduceLT, Nat.reduceLeDiff, Nat.reduceMul, Int.reduceToNat, reduceCtorEq, ↓reduceIte, Tryd.ntmps51, Tryd.results51, ks_51, mu_51, ti_ag23, ti_hb75, ti_sb23, ti_sb86, ti_sl23, ti_sl86, slD]
    first | done | simp
  rintro i hi
  by_cases hiN : i < ls.length
  · obtain ⟨l, hl⟩ : ∃ l, ls[i]? = some l := ⟨ls[i], List.getElem?_eq_getElem hiN⟩
    have hle := flat_le (ls := ls) (i + 1)
    have he := congrArg List.length (flat_take hl)
    rw [List.length_append] at he
    
    repeat' (first
      | with_reducible refine And.intro ?_ ?_
      | with_reducible intro _
      | with_reducible refine AWp_seq ?_
      | with_reducible refine AWp_block ?_
      | (with_reducible refine hKv _ _ (AWp_nop ?_); clear hKv Kv)
      | (with_reducible refine hKv _ _ ?_; clear hKv Kv; simp (dsimp := false) only [go_sem, Nat.reduceAdd, Nat.reduceBEq, Nat.reduceEqDiff, Nat.reduceLT, Nat.reduceLeDiff, Nat.reduceMul, Int.reduceToNat, reduceCtorEq, ↓reduceIte, Tryd.ntmps51, Tryd.results51, ks_51, mu_51, ti_ag23, ti_hb75, ti_sb23, ti_sb86, ti_sl23, ti_sl86, slD, hl])
      | (with_reducible refine hKA ?_; clear hKA hKB KA KB)
      | (with_reducible refine hKB ?_; clear hKA hKB KA KB)
      | (with_reducible refine AWp_regC mu_51 ks_51 ?_; intro Kv hKv; simp (dsimp := false) only [go_sem, Nat.reduceAdd, Nat.reduceBEq, Nat.reduceEqDiff, Nat.reduceLT, Nat.reduceLeDiff, Nat.reduceMul, Int.reduceToNat, reduceCtorEq, ↓reduceIte, Tryd.ntmps51, Tryd.results51, ks_51, mu_51, ti_ag23, ti_hb75, ti_sb23, ti_sb86, ti_sl23, ti_sl86, slD, hl])
      | with_reducible refine AWp_skipN ?_
      | with_reducible refine AWp_exitO (by repeat (first | with_reducible exact Out.hit | with_reducible apply Out.thenA | with_reducible apply Out.out rfl)) ?_
      | (with_reducible refine AWp_retR ?_; simp (dsimp := false) only [go_sem, Nat.reduceAdd, Nat.reduceBEq, Nat.reduceEqDiff, Nat.reduceLT, Nat.reduceLeDiff, Nat.reduceMul, Int.reduceToNat, reduceCtorEq, ↓reduceIte, Tryd.ntmps51, Tryd.results51, ks_51, mu_51, ti_ag23, ti_hb75, ti_sb23, ti_sb86, ti_sl23, ti_sl86, slD, hl])
      | (with_reducible refine AWp_regE mu_51 ks_51 ?_; intro Kv hKv; simp (dsimp := false) only [go_sem, Nat.reduceAdd, Nat.reduceBEq, Nat.reduceEqDiff, Nat.reduceLT, Nat.reduceLeDiff, Nat.reduceMul, Int.reduceToNat, reduceCtorEq, ↓reduceIte, Tryd.ntmps51, Tryd.results51, ks_51, mu_51, ti_ag23, ti_hb75, ti_sb23, ti_sb86, ti_sl23, ti_sl86, slD, hl])
      | (refine AWp_condC rfl ?_; intro KA KB hKA hKB; try simp only [onB_true, onB_false, onB_dec, onB_ndec, onB_not, onB_and, onB_or])
      | (refine AWp_condA rfl ?_ ?_)
      | with_reducible refine onB_of ?_ ?_
      | with_reducible rfl
      | omega)
    all_goals first
      | exact ⟨i + 1, by omega, by omega, by omega, by omega⟩
      | (trace_state; sorry)
  have e : i = ls.length := by omega
  subst e
  rw [List.take_length]
  
  repeat' (first
    | with_reducible refine And.intro ?_ ?_
    | with_reducible intro _
    | with_reducible refine AWp_seq ?_
    | with_reducible refine AWp_block ?_
    | (with_reducible refine hKv _ _ (AWp_nop ?_); clear hKv Kv)
    | (with_reducible refine hKv _ _ ?_; clear hKv Kv; simp (dsimp := false) only [go_sem, Nat.reduceAdd, Nat.reduceBEq, Nat.reduceEqDiff, Nat.reduceLT, Nat.reduceLeDiff, Nat.reduceMul, Int.reduceToNat, reduceCtorEq, ↓reduceIte, Tryd.ntmps51, Tryd.results51, ks_51, mu_51, ti_ag23, ti_hb75, ti_sb23, ti_sb86, ti_sl23, ti_sl86, slD])
    | (with_reducible refine hKA ?_; clear hKA hKB KA KB)
    | (with_reducible refine hKB ?_; clear hKA hKB KA KB)
    | (with_reducible refine AWp_regC mu_51 ks_51 ?_; intro Kv hKv; simp (dsimp := false) only [go_sem, Nat.reduceAdd, Nat.reduceBEq, Nat.reduceEqDiff, Nat.reduceLT, Nat.reduceLeDiff, Nat.reduceMul, Int.reduceToNat, reduceCtorEq, ↓reduceIte, Tryd.ntmps51, Tryd.results51, ks_51, mu_51, ti_ag23, ti_hb75, ti_sb23, ti_sb86, ti_sl23, ti_sl86, slD])
    | with_reducible refine AWp_skipN ?_
    | with_reducible refine AWp_exitO (by repeat (first | with_reducible exact Out.hit | with_reducible apply Out.thenA | with_reducible apply Out.out rfl)) ?_
    | (with_reducible refine AWp_retR ?_; simp (dsimp := false) only [go_sem, Nat.reduceAdd, Nat.reduceBEq, Nat.reduceEqDiff, Nat.reduceLT, Nat.reduceLeDiff, Nat.reduceMul, Int.reduceToNat, reduceCtorEq, ↓reduceIte, Tryd.ntmps51, Tryd.results51, ks_51, mu_51, ti_ag23, ti_hb75, ti_sb23, ti_sb86, ti_sl23, ti_sl86, slD])
    | (with_reducible refine AWp_regE mu_51 ks_51 ?_; intro Kv hKv; simp (dsimp := false) only [go_sem, Nat.reduceAdd, Nat.reduceBEq, Nat.reduceEqDiff, Nat.reduceLT, Nat.reduceLeDiff, Nat.reduceMul, Int.reduceToNat, reduceCtorEq, ↓reduceIte, Tryd.ntmps51, Tryd.results51, ks_51, mu_51, ti_ag23, ti_hb75, ti_sb23, ti_sb86, ti_sl23, ti_sl86, slD])
    | (refine AWp_condC rfl ?_; intro KA KB hKA hKB; try simp only [onB_true, onB_false, onB_dec, onB_ndec, onB_not, onB_and, onB_or])
    | (refine AWp_condA rfl ?_ ?_)
    | (refine growRws_A _ (by omega) (by omega) _ _ ?_; try simp (dsimp := false) only [go_sem, Nat.reduceAdd, Nat.reduceBEq, Nat.reduceEqDiff, Nat.reduceLT, Nat.reduceLeDiff, Nat.reduceMul, Int.reduceToNat, reduceCtorEq, ↓reduceIte, Tryd.ntmps51, Tryd.results51, ks_51, mu_51, ti_ag23, ti_hb75, ti_sb23, ti_sb86, ti_sl23, ti_sl86, slD])
    | with_reducible refine onB_of ?_ ?_
    | with_reducible rfl
    | omega)
  all_goals
    first
    | refine AWp_whileH (fun y : Nat × Nat => y.2 ≤ ls.length) (fun y => [(6, .os H.length y.1), (25, .d (.sl 1 (ls.map (slD 1)))), (26, .d (.i .i64 ls.length)), (27, .d (.i .i64 y.2))]) (fun y => [.row y.1 43 1 (cells (ls.take y.2).flatten)]) (fun y => ls.length - y.2) (0, 0) (Nat.zero_le _) rfl ?_ ?_ ?_
    | refine AWp_whileH (fun y : Nat × Nat => y.2 ≤ ls.length) (fun y => [(6, .os H.length y.1), (25, .d (.sl 1 (ls.map (slD 1)))), (26, .d (.i .i64 ls.length)), (27, .d (.i .i64 y.2))]) (fun y => [.row y.1 43 1 (cells (ls.take y.2).flatten)]) (fun y => ls.length - y.2) (1, 0) (Nat.zero_le _) rfl ?_ ?_ ?_
    · simp (dsimp := false) only [go_sem, Nat.reduceAdd, Nat.reduceBEq, Nat.reduceEqDiff, Nat.reduceLT, Nat.reduceLeDiff, Nat.reduceMul, Int.reduceToNat, reduceCtorEq, ↓reduceIte, Tryd.ntmps51, Tryd.results51, ks_51, mu_51, ti_ag23, ti_hb75, ti_sb23, ti_sb86, ti_sl23, ti_sl86, slD]
      simp
    · rintro ⟨v, i⟩ _ ob hob
      simp only [List.mem_cons, List.not_mem_nil, or_false] at hob
      rcases hob with rfl
      exact obBel_cells _ _ _ _ _
    rintro ⟨v, i⟩ hi
    simp only [] at hi ⊢
    by_cases hiN : i < ls.length
    · obtain ⟨l, hl⟩ : ∃ l, ls[i]? = some l := ⟨ls[i], List.getElem?_eq_getElem hiN⟩
      have hle := flat_le (ls := ls) (i + 1)
      have he := congrArg List.length (flat_take hl)
      rw [List.length_append] at he
      have hcl : (cells (ls.take i).flatten).length = (ls.take i).flatten.length := by rw [cells, List.length_map]
      
      repeat' (first
        | with_reducible refine And.intro ?_ ?_
        | with_reducible intro _
        | with_reducible refine AWp_seq ?_
        | with_reducible refine AWp_block ?_
        | (with_reducible refine hKv _ _ (AWp_nop ?_); clear hKv Kv)
        | (with_reducible refine hKv _ _ ?_; clear hKv Kv; simp (dsimp := false) only [go_sem, Nat.reduceAdd, Nat.reduceBEq, Nat.reduceEqDiff, Nat.reduceLT, Nat.reduceLeDiff, Nat.reduceMul, Int.reduceToNat, reduceCtorEq, ↓reduceIte, Tryd.ntmps51, Tryd.results51, ks_51, mu_51, ti_ag23, ti_hb75, ti_sb23, ti_sb86, ti_sl23, ti_sl86, slD, hl])
        | (with_reducible refine hKA ?_; clear hKA hKB KA KB)
        | (with_reducible refine hKB ?_; clear hKA hKB KA KB)
        | (with_reducible refine AWp_regC mu_51 ks_51 ?_; intro Kv hKv; simp (dsimp := false) only [go_sem, Nat.reduceAdd, Nat.reduceBEq, Nat.reduceEqDiff, Nat.reduceLT, Nat.reduceLeDiff, Nat.reduceMul, Int.reduceToNat, reduceCtorEq, ↓reduceIte, Tryd.ntmps51, Tryd.results51, ks_51, mu_51, ti_ag23, ti_hb75, ti_sb23, ti_sb86, ti_sl23, ti_sl86, slD, hl])
        | with_reducible refine AWp_skipN ?_
        | with_reducible refine AWp_exitO (by repeat (first | with_reducible exact Out.hit | with_reducible apply Out.thenA | with_reducible apply Out.out rfl)) ?_
        | (with_reducible refine AWp_retR ?_; simp (dsimp := false) only [go_sem, Nat.reduceAdd, Nat.reduceBEq, Nat.reduceEqDiff, Nat.reduceLT, Nat.reduceLeDiff, Nat.reduceMul, Int.reduceToNat, reduceCtorEq, ↓reduceIte, Tryd.ntmps51, Tryd.results51, ks_51, mu_51, ti_ag23, ti_hb75, ti_sb23, ti_sb86, ti_sl23, ti_sl86, slD, hl])
        | (with_reducible refine AWp_regE mu_51 ks_51 ?_; intro Kv hKv; simp (dsimp := false) only [go_sem, Nat.reduceAdd, Nat.reduceBEq, Nat.reduceEqDiff, Nat.reduceLT, Nat.reduceLeDiff, Nat.reduceMul, Int.reduceToNat, reduceCtorEq, ↓reduceIte, Tryd.ntmps51, Tryd.results51, ks_51, mu_51, ti_ag23, ti_hb75, ti_sb23, ti_sb86, ti_sl23, ti_sl86, slD, hl])
        | (refine AWp_condC rfl ?_; intro KA KB hKA hKB; try simp only [onB_true, onB_false, onB_dec, onB_ndec, onB_not, onB_and, onB_or])
        | (refine AWp_condA rfl ?_ ?_)
        | with_reducible refine onB_of ?_ ?_
        | with_reducible rfl
        | omega)
      all_goals first
        | exact ⟨(v + 1, i + 1), by show i + 1 ≤ ls.length; omega, by show ls.length - (i + 1) < ls.length - i; omega, by rw [flat_take hl]; simp [cells], rfl, by omega, by simp⟩
        | (trace_state; sorry)
    · have e : i = ls.length := by omega
      subst e
      rw [List.take_length]
      
      repeat' (first
        | with_reducible refine And.intro ?_ ?_
        | with_reducible intro _
        | with_reducible refine AWp_seq ?_
        | with_reducible refine AWp_block ?_
        | (with_reducible refine hKv _ _ (AWp_nop ?_); clear hKv Kv)
        | (with_reducible refine hKv _ _ ?_; clear hKv Kv; simp (dsimp := false) only [go_sem, Nat.reduceAdd, Nat.reduceBEq, Nat.reduceEqDiff, Nat.reduceLT, Nat.reduceLeDiff, Nat.reduceMul, Int.reduceToNat, reduceCtorEq, ↓reduceIte, Tryd.ntmps51, Tryd.results51, ks_51, mu_51, ti_ag23, ti_hb75, ti_sb23, ti_sb86, ti_sl23, ti_sl86, slD])
        | (with_reducible refine hKA ?_; clear hKA hKB KA KB)
        | (with_reducible refine hKB ?_; clear hKA hKB KA KB)
        | (with_reducible refine AWp_regC mu_51 ks_51 ?_; intro Kv hKv; simp (dsimp := false) only [go_sem, Nat.reduceAdd, Nat.reduceBEq, Nat.reduceEqDiff, Nat.reduceLT, Nat.reduceLeDiff, Nat.reduceMul, Int.reduceToNat, reduceCtorEq, ↓reduceIte, Tryd.ntmps51, Tryd.results51, ks_51, mu_51, ti_ag23, ti_hb75, ti_sb23, ti_sb86, ti_sl23, ti_sl86, slD])
        | with_reducible refine AWp_skipN ?_
        | with_reducible refine AWp_exitO (by repeat (first | with_reducible exact Out.hit | with_reducible apply Out.thenA | with_reducible apply Out.out rfl)) ?_
        | (with_reducible refine AWp_retR ?_; simp (dsimp := false) only [go_sem, Nat.reduceAdd, Nat.reduceBEq, Nat.reduceEqDiff, Nat.reduceLT, Nat.reduceLeDiff, Nat.reduceMul, Int.reduceToNat, reduceCtorEq, ↓reduceIte, Tryd.ntmps51, Tryd.results51, ks_51, mu_51, ti_ag23, ti_hb75, ti_sb23, ti_sb86, ti_sl23, ti_sl86, slD])
        | (with_reducible refine AWp_regE mu_51 ks_51 ?_; intro Kv hKv; simp (dsimp := false) only [go_sem, Nat.reduceAdd, Nat.reduceBEq, Nat.reduceEqDiff, Nat.reduceLT, Nat.reduceLeDiff, Nat.reduceMul, Int.reduceToNat, reduceCtorEq, ↓reduceIte, Tryd.ntmps51, Tryd.results51, ks_51, mu_51, ti_ag23, ti_hb75, ti_sb23, ti_sb86, ti_sl23, ti_sl86, slD])
        | (refine AWp_condC rfl ?_; intro KA KB hKA hKB; try simp only [onB_true, onB_false, onB_dec, onB_ndec, onB_not, onB_and, onB_or])
        | (refine AWp_condA rfl ?_ ?_)
        | with_reducible refine onB_of ?_ ?_
        | with_reducible rfl
        | omega)
      all_goals first
        | exact dropF hk (.os _ _ _ _ _ _ (by omega) (get_app0 _ _) (cells_data _)) (by simp [Bel_d])
        | (trace_state; sorry)
end Go.Proofs.YtkfjocccceeieaaDoor
