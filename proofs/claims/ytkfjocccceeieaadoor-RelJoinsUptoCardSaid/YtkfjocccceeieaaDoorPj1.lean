/- Columns of a relation with new names: what the program and the reference make. No condition but that the tables of package unicode/utf8 are there. -/
import Derived.Test.YtkfjocccceeieaaDoorPj0
set_option linter.all false
set_option linter.unusedSimpArgs false
set_option linter.unusedVariables false
namespace Go.Proofs.YtkfjocccceeieaaDoor
open Go Go.Proofs.YtkfjocccceeieaaDoor.Ab
variable [Glo] [U8]
set_option maxHeartbeats 4000000
set_option maxRecDepth 20000
theorem obBel_its (m ver e sz : Nat) (xs : List It) : ObBel m (.row ver e sz (xs.map itC)) := obBel_map itD m ver e sz xs

/- the live slots of pleacher/rel.these -/
def ks_34 : Nat → List Nat
  | 0 => [0, 1]
  | 1 => [0, 1, 5]
  | 2 => [0, 5, 11, 12, 13]
  | 3 => [0, 5, 11, 12, 13, 14]
  | 4 => [0, 5, 7, 11, 12, 13]
  | 5 => [0, 5, 11, 12, 13]
  | 6 => [0, 5, 11, 12, 13]
  | 7 => [4]
  | _ => []
def mu_34 : List Nat := []
def in_34 : List Nat := [0, 1]
theorem these_A (row : List It) (at_ : List Int) (hl : at_.length ≤ 1048576) (hat : ∀ i, i ∈ at_ → 0 ≤ i ∧ i < row.length) (H : Heap) (K : V → Heap → Prop) (hk : K (.d (.sl 3 ((projRow at_ row).map itD))) H) :
    ACalls Tryd.prog 34 [.d (.sl 3 (row.map itD)), .d (.sl 1 (at_.map intRow))] H K := by
  refine ACalls_of Tryd.func34 rfl in_34 (Nat.le_of_ble_eq_true rfl) ?_
  intro F hF
  simp (dsimp := false) only [go_sem, Nat.reduceAdd, Nat.reduceBEq, Nat.reduceEqDiff, Nat.reduceLT, Nat.reduceLeDiff, Nat.reduceMul, Int.reduceToNat, reduceCtorEq, ↓reduceIte, Tryd.ntmps34, Tryd.results34, ks_34, mu_34, ti_ag3, ti_ag59, ti_sb45, ti_sl43, ti_sl45, ti_sz59, ti_zr59, itD, itV, rlV, rowD, rlD, in_34] at hF
  subst hF
  repeat' (first
    | with_reducible refine And.intro ?_ ?_
    | with_reducible intro _
    | with_reducible refine AWp_seq ?_
    | with_reducible refine AWp_block ?_
    | (with_reducible refine hKv _ _ (AWp_nop ?_); clear hKv Kv)
    | (with_reducible refine hKv _ _ ?_; clear hKv Kv; simp (dsimp := false) only [go_sem, Nat.reduceAdd, Nat.reduceBEq, Nat.reduceEqDiff, Nat.reduceLT, Nat.reduceLeDiff, Nat.reduceMul, Int.reduceToNat, reduceCtorEq, ↓reduceIte, Tryd.ntmps34, Tryd.results34, ks_34, mu_34, ti_ag3, ti_ag59, ti_sb45, ti_sl43, ti_sl45, ti_sz59, ti_zr59, itD, itV, rlV, rowD, rlD])
    | (with_reducible refine hKA ?_; clear hKA hKB KA KB)
    | (with_reducible refine hKB ?_; clear hKA hKB KA KB)
    | (with_reducible refine AWp_regC mu_34 ks_34 ?_; intro Kv hKv; simp (dsimp := false) only [go_sem, Nat.reduceAdd, Nat.reduceBEq, Nat.reduceEqDiff, Nat.reduceLT, Nat.reduceLeDiff, Nat.reduceMul, Int.reduceToNat, reduceCtorEq, ↓reduceIte, Tryd.ntmps34, Tryd.results34, ks_34, mu_34, ti_ag3, ti_ag59, ti_sb45, ti_sl43, ti_sl45, ti_sz59, ti_zr59, itD, itV, rlV, rowD, rlD])
    | with_reducible refine AWp_skipN ?_
    | with_reducible refine AWp_exitO (by repeat (first | with_reducible exact Out.hit | with_reducible apply Out.thenA | with_reducible apply Out.out rfl)) ?_
    | (with_reducible refine AWp_retR ?_; simp (dsimp := false) only [go_sem, Nat.reduceAdd, Nat.reduceBEq, Nat.reduceEqDiff, Nat.reduceLT, Nat.reduceLeDiff, Nat.reduceMul, Int.reduceToNat, reduceCtorEq, ↓reduceIte, Tryd.ntmps34, Tryd.results34, ks_34, mu_34, ti_ag3, ti_ag59, ti_sb45, ti_sl43, ti_sl45, ti_sz59, ti_zr59, itD, itV, rlV, rowD, rlD])
    | (with_reducible refine AWp_regE mu_34 ks_34 ?_; intro Kv hKv; simp (dsimp := false) only [go_sem, Nat.reduceAdd, Nat.reduceBEq, Nat.reduceEqDiff, Nat.reduceLT, Nat.reduceLeDiff, Nat.reduceMul, Int.reduceToNat, reduceCtorEq, ↓reduceIte, Tryd.ntmps34, Tryd.results34, ks_34, mu_34, ti_ag3, ti_ag59, ti_sb45, ti_sl43, ti_sl45, ti_sz59, ti_zr59, itD, itV, rlV, rowD, rlD])
    | (refine AWp_condC rfl ?_; intro KA KB hKA hKB; try simp only [onB_true, onB_false, onB_dec, onB_ndec, onB_not, onB_and, onB_or])
    | (refine AWp_condA rfl ?_ ?_)
    | with_reducible refine onB_of ?_ ?_
    | with_reducible rfl
    | omega)
  refine AWp_whileH (fun j : Nat => j ≤ at_.length) (fun j => [(0, .d (.sl 3 (row.map itD))), (5, .os H.length j), (11, .d (.sl 1 (at_.map intRow))), (12, .d (.i .i64 at_.length)), (13, .d (.i .i64 j))])
    (fun j => [.row j 59 3 ((projRow (at_.take j) row).map itC)]) (fun j => at_.length - j) 0 (Nat.zero_le _) ?_ ?_ ?_ ?_
  · simp [projRow]
  · simp (dsimp := false) only [go_sem, Nat.reduceAdd, Nat.reduceBEq, Nat.reduceEqDiff, Nat.reduceLT, Nat.reduceLeDiff, Nat.reduceMul, Int.reduceToNat, reduceCtorEq, ↓reduceIte, Tryd.ntmps34, Tryd.results34, ks_34, mu_34, ti_ag3, ti_ag59, ti_sb45, ti_sl43, ti_sl45, ti_sz59, ti_zr59, itD, itV, rlV, rowD, rlD]
    first | done | simp
  · intro j _ ob hob
    simp only [List.mem_cons, List.not_mem_nil, or_false] at hob
    rcases hob with rfl
    exact obBel_its _ _ _ _ _
  rintro j hj
  have hlp : (projRow (at_.take j) row).length = j := by simp [projRow]; omega
  by_cases hjN : j < at_.length
  · obtain ⟨i, hi⟩ : ∃ i, at_[j]? = some i := ⟨at_[j], List.getElem?_eq_getElem hjN⟩
    obtain ⟨h1, h2⟩ := hat i (List.mem_of_getElem? hi)
    obtain ⟨x, hx⟩ : ∃ x, row[i.toNat]? = some x := ⟨row[i.toNat]'(by omega), List.getElem?_eq_getElem (by omega)⟩
    
    repeat' (first
      | with_reducible refine And.intro ?_ ?_
      | with_reducible intro _
      | with_reducible refine AWp_seq ?_
      | with_reducible refine AWp_block ?_
      | (with_reducible refine hKv _ _ (AWp_nop ?_); clear hKv Kv)
      | (with_reducible refine hKv _ _ ?_; clear hKv Kv; simp (dsimp := false) only [go_sem, Nat.reduceAdd, Nat.reduceBEq, Nat.reduceEqDiff, Nat.reduceLT, Nat.reduceLeDiff, Nat.reduceMul, Int.reduceToNat, reduceCtorEq, ↓reduceIte, Tryd.ntmps34, Tryd.results34, ks_34, mu_34, ti_ag3, ti_ag59, ti_sb45, ti_sl43, ti_sl45, ti_sz59, ti_zr59, itD, itV, rlV, rowD, rlD, hi, hx])
      | (with_reducible refine hKA ?_; clear hKA hKB KA KB)
      | (with_reducible refine hKB ?_; clear hKA hKB KA KB)
      | (with_reducible refine AWp_regC mu_34 ks_34 ?_; intro Kv hKv; simp (dsimp := false) only [go_sem, Nat.reduceAdd, Nat.reduceBEq, Nat.reduceEqDiff, Nat.reduceLT, Nat.reduceLeDiff, Nat.reduceMul, Int.reduceToNat, reduceCtorEq, ↓reduceIte, Tryd.ntmps34, Tryd.results34, ks_34, mu_34, ti_ag3, ti_ag59, ti_sb45, ti_sl43, ti_sl45, ti_sz59, ti_zr59, itD, itV, rlV, rowD, rlD, hi, hx])
      | with_reducible refine AWp_skipN ?_
      | with_reducible refine AWp_exitO (by repeat (first | with_reducible exact Out.hit | with_reducible apply Out.thenA | with_reducible apply Out.out rfl)) ?_
      | (with_reducible refine AWp_retR ?_; simp (dsimp := false) only [go_sem, Nat.reduceAdd, Nat.reduceBEq, Nat.reduceEqDiff, Nat.reduceLT, Nat.reduceLeDiff, Nat.reduceMul, Int.reduceToNat, reduceCtorEq, ↓reduceIte, Tryd.ntmps34, Tryd.results34, ks_34, mu_34, ti_ag3, ti_ag59, ti_sb45, ti_sl43, ti_sl45, ti_sz59, ti_zr59, itD, itV, rlV, rowD, rlD, hi, hx])
      | (with_reducible refine AWp_regE mu_34 ks_34 ?_; intro Kv hKv; simp (dsimp := false) only [go_sem, Nat.reduceAdd, Nat.reduceBEq, Nat.reduceEqDiff, Nat.reduceLT, Nat.reduceLeDiff, Nat.reduceMul, Int.reduceToNat, reduceCtorEq, ↓reduceIte, Tryd.ntmps34, Tryd.results34, ks_34, mu_34, ti_ag3, ti_ag59, ti_sb45, ti_sl43, ti_sl45, ti_sz59, ti_zr59, itD, itV, rlV, rowD, rlD, hi, hx])
      | (refine AWp_condC rfl ?_; intro KA KB hKA hKB; try simp only [onB_true, onB_false, onB_dec, onB_ndec, onB_not, onB_and, onB_or])
      | (refine AWp_condA rfl ?_ ?_)
      | with_reducible refine onB_of ?_ ?_
      | with_reducible rfl
      | omega)
    · refine ⟨j + 1, by omega, by omega, ?_, rfl, by omega, by omega⟩
      have e : projRow (at_.take (j + 1)) row = projRow (at_.take j) row ++ [x] := by
        rw [projRow, take_of_get hi, List.map_append]
        simp [projRow, rg_get hx]
      rw [e]
      simp [itC]
  · 
    repeat' (first
      | with_reducible refine And.intro ?_ ?_
      | with_reducible intro _
      | with_reducible refine AWp_seq ?_
      | with_reducible refine AWp_block ?_
      | (with_reducible refine hKv _ _ (AWp_nop ?_); clear hKv Kv)
      | (with_reducible refine hKv _ _ ?_; clear hKv Kv; simp (dsimp := false) only [go_sem, Nat.reduceAdd, Nat.reduceBEq, Nat.reduceEqDiff, Nat.reduceLT, Nat.reduceLeDiff, Nat.reduceMul, Int.reduceToNat, reduceCtorEq, ↓reduceIte, Tryd.ntmps34, Tryd.results34, ks_34, mu_34, ti_ag3, ti_ag59, ti_sb45, ti_sl43, ti_sl45, ti_sz59, ti_zr59, itD, itV, rlV, rowD, rlD])
      | (with_reducible refine hKA ?_; clear hKA hKB KA KB)
      | (with_reducible refine hKB ?_; clear hKA hKB KA KB)
      | (with_reducible refine AWp_regC mu_34 ks_34 ?_; intro Kv hKv; simp (dsimp := false) only [go_sem, Nat.reduceAdd, Nat.reduceBEq, Nat.reduceEqDiff, Nat.reduceLT, Nat.reduceLeDiff, Nat.reduceMul, Int.reduceToNat, reduceCtorEq, ↓reduceIte, Tryd.ntmps34, Tryd.results34, ks_34, mu_34, ti_ag3, ti_ag59, ti_sb45, ti_sl43, ti_sl45, ti_sz59, ti_zr59, itD, itV, rlV, rowD, rlD])
      | with_reducible refine AWp_skipN ?_
      | with_reducible refine AWp_exitO (by repeat (first | with_reducible exact Out.hit | with_reducible apply Out.thenA | with_reducible apply Out.out rfl)) ?_
      | (with_reducible refine AWp_retR ?_; simp (dsimp := false) only [go_sem, Nat.reduceAdd, Nat.reduceBEq, Nat.reduceEqDiff, Nat.reduceLT, Nat.reduceLeDiff, Nat.reduceMul, Int.reduceToNat, reduceCtorEq, ↓reduceIte, Tryd.ntmps34, Tryd.results34, ks_34, mu_34, ti_ag3, ti_ag59, ti_sb45, ti_sl43, ti_sl45, ti_sz59, ti_zr59, itD, itV, rlV, rowD, rlD])
      | (with_reducible refine AWp_regE mu_34 ks_34 ?_; intro Kv hKv; simp (dsimp := false) only [go_sem, Nat.reduceAdd, Nat.reduceBEq, Nat.reduceEqDiff, Nat.reduceLT, Nat.reduceLeDiff, Nat.reduceMul, Int.reduceToNat, reduceCtorEq, ↓reduceIte, Tryd.ntmps34, Tryd.results34, ks_34, mu_34, ti_ag3, ti_ag59, ti_sb45, ti_sl43, ti_sl45, ti_sz59, ti_zr59, itD, itV, rlV, rowD, rlD])
      | (refine AWp_condC rfl ?_; intro KA KB hKA hKB; try simp only [onB_true, onB_false, onB_dec, onB_ndec, onB_not, onB_and, onB_or])
      | (refine AWp_condA rfl ?_ ?_)
      | with_reducible refine onB_of ?_ ?_
      | with_reducible rfl
      | omega)
    · have e : j = at_.length := by omega
      subst e
      rw [List.take_length]
      exact dropF hk (.os _ _ _ _ _ _ (by omega) (get_app0 _ _) (its_data _)) (by simp [Bel_d])

/- the live slots of pleacher/pleacherref.picks -/
def ks_38 : Nat → List Nat
  | 0 => [0, 1]
  | 1 => [0, 1, 5]
  | 2 => [0, 1, 5, 6]
  | 3 => [0, 1, 5, 6, 10]
  | 4 => [0, 1, 5, 6]
  | 5 => [0, 1, 5, 6]
  | 6 => [4]
  | _ => []
def mu_38 : List Nat := [5]
def in_38 : List Nat := [0, 1]
theorem picks_A (row : List It) (at_ : List Int) (hl : at_.length ≤ 1048576) (hat : ∀ i, i ∈ at_ → 0 ≤ i ∧ i < row.length) (H : Heap) (K : V → Heap → Prop) (hk : K (.d (.sl 3 ((projRow at_ row).map itD))) H) :
    ACalls Tryd.prog 38 [.d (.sl 3 (row.map itD)), .d (.sl 1 (at_.map intRow))] H K := by
  refine ACalls_of Tryd.func38 rfl in_38 (Nat.le_of_ble_eq_true rfl) ?_
  intro F hF
  simp (dsimp := false) only [go_sem, Nat.reduceAdd, Nat.reduceBEq, Nat.reduceEqDiff, Nat.reduceLT, Nat.reduceLeDiff, Nat.reduceMul, Int.reduceToNat, reduceCtorEq, ↓reduceIte, Tryd.ntmps38, Tryd.results38, ks_38, mu_38, ti_ag3, ti_ag59, ti_sb45, ti_sl43, ti_sl45, ti_sz59, itD, itV, rlV, rowD, rlD, in_38] at hF
  subst hF
  repeat' (first
    | with_reducible refine And.intro ?_ ?_
    | with_reducible intro _
    | with_reducible refine AWp_seq ?_
    | with_reducible refine AWp_block ?_
    | (with_reducible refine hKv _ _ (AWp_nop ?_); clear hKv Kv)
    | (with_reducible refine hKv _ _ ?_; clear hKv Kv; simp (dsimp := false) only [go_sem, Nat.reduceAdd, Nat.reduceBEq, Nat.reduceEqDiff, Nat.reduceLT, Nat.reduceLeDiff, Nat.reduceMul, Int.reduceToNat, reduceCtorEq, ↓reduceIte, Tryd.ntmps38, Tryd.results38, ks_38, mu_38, ti_ag3, ti_ag59, ti_sb45, ti_sl43, ti_sl45, ti_sz59, itD, itV, rlV, rowD, rlD])
    | (with_reducible refine hKA ?_; clear hKA hKB KA KB)
    | (with_reducible refine hKB ?_; clear hKA hKB KA KB)
    | (with_reducible refine AWp_regC mu_38 ks_38 ?_; intro Kv hKv; simp (dsimp := false) only [go_sem, Nat.reduceAdd, Nat.reduceBEq, Nat.reduceEqDiff, Nat.reduceLT, Nat.reduceLeDiff, Nat.reduceMul, Int.reduceToNat, reduceCtorEq, ↓reduceIte, Tryd.ntmps38, Tryd.results38, ks_38, mu_38, ti_ag3, ti_ag59, ti_sb45, ti_sl43, ti_sl45, ti_sz59, itD, itV, rlV, rowD, rlD])
    | with_reducible refine AWp_skipN ?_
    | with_reducible refine AWp_exitO (by repeat (first | with_reducible exact Out.hit | with_reducible apply Out.thenA | with_reducible apply Out.out rfl)) ?_
    | (with_reducible refine AWp_retR ?_; simp (dsimp := false) only [go_sem, Nat.reduceAdd, Nat.reduceBEq, Nat.reduceEqDiff, Nat.reduceLT, Nat.reduceLeDiff, Nat.reduceMul, Int.reduceToNat, reduceCtorEq, ↓reduceIte, Tryd.ntmps38, Tryd.results38, ks_38, mu_38, ti_ag3, ti_ag59, ti_sb45, ti_sl43, ti_sl45, ti_sz59, itD, itV, rlV, rowD, rlD])
    | (with_reducible refine AWp_regE mu_38 ks_38 ?_; intro Kv hKv; simp (dsimp := false) only [go_sem, Nat.reduceAdd, Nat.reduceBEq, Nat.reduceEqDiff, Nat.reduceLT, Nat.reduceLeDiff, Nat.reduceMul, Int.reduceToNat, reduceCtorEq, ↓reduceIte, Tryd.ntmps38, Tryd.results38, ks_38, mu_38, ti_ag3, ti_ag59, ti_sb45, ti_sl43, ti_sl45, ti_sz59, itD, itV, rlV, rowD, rlD])
    | (refine AWp_condC rfl ?_; intro KA KB hKA hKB; try simp only [onB_true, onB_false, onB_dec, onB_ndec, onB_not, onB_and, onB_or])
    | (refine AWp_condA rfl ?_ ?_)
    | with_reducible refine onB_of ?_ ?_
    | with_reducible rfl
    | omega)
  refine AWp_whileH (fun j : Nat => j ≤ at_.length) (fun j => [(0, .d (.sl 3 (row.map itD))), (1, .d (.sl 1 (at_.map intRow))), (5, .os H.length j), (6, .d (.i .i64 j))])
    (fun j => [.row j 59 3 ((projRow (at_.take j) row).map itC)]) (fun j => at_.length - j) 0 (Nat.zero_le _) ?_ ?_ ?_ ?_
  · simp [projRow]
  · simp (dsimp := false) only [go_sem, Nat.reduceAdd, Nat.reduceBEq, Nat.reduceEqDiff, Nat.reduceLT, Nat.reduceLeDiff, Nat.reduceMul, Int.reduceToNat, reduceCtorEq, ↓reduceIte, Tryd.ntmps38, Tryd.results38, ks_38, mu_38, ti_ag3, ti_ag59, ti_sb45, ti_sl43, ti_sl45, ti_sz59, itD, itV, rlV, rowD, rlD]
    first | done | simp
  · intro j _ ob hob
    simp only [List.mem_cons, List.not_mem_nil, or_false] at hob
    rcases hob with rfl
    exact obBel_its _ _ _ _ _
  rintro j hj
  have hlp : (projRow (at_.take j) row).length = j := by simp [projRow]; omega
  by_cases hjN : j < at_.length
  · obtain ⟨i, hi⟩ : ∃ i, at_[j]? = some i := ⟨at_[j], List.getElem?_eq_getElem hjN⟩
    obtain ⟨h1, h2⟩ := hat i (List.mem_of_getElem? hi)
    obtain ⟨x, hx⟩ : ∃ x, row[i.toNat]? = some x := ⟨row[i.toNat]'(by omega), List.getElem?_eq_getElem (by omega)⟩
    
    repeat' (first
      | with_reducible refine And.intro ?_ ?_
      | with_reducible intro _
      | with_reducible refine AWp_seq ?_
      | with_reducible refine AWp_block ?_
      | (with_reducible refine hKv _ _ (AWp_nop ?_); clear hKv Kv)
      | (with_reducible refine hKv _ _ ?_; clear hKv Kv; simp (dsimp := false) only [go_sem, Nat.reduceAdd, Nat.reduceBEq, Nat.reduceEqDiff, Nat.reduceLT, Nat.reduceLeDiff, Nat.reduceMul, Int.reduceToNat, reduceCtorEq, ↓reduceIte, Tryd.ntmps38, Tryd.results38, ks_38, mu_38, ti_ag3, ti_ag59, ti_sb45, ti_sl43, ti_sl45, ti_sz59, itD, itV, rlV, rowD, rlD, hi, hx])
      | (with_reducible refine hKA ?_; clear hKA hKB KA KB)
      | (with_reducible refine hKB ?_; clear hKA hKB KA KB)
      | (with_reducible refine AWp_regC mu_38 ks_38 ?_; intro Kv hKv; simp (dsimp := false) only [go_sem, Nat.reduceAdd, Nat.reduceBEq, Nat.reduceEqDiff, Nat.reduceLT, Nat.reduceLeDiff, Nat.reduceMul, Int.reduceToNat, reduceCtorEq, ↓reduceIte, Tryd.ntmps38, Tryd.results38, ks_38, mu_38, ti_ag3, ti_ag59, ti_sb45, ti_sl43, ti_sl45, ti_sz59, itD, itV, rlV, rowD, rlD, hi, hx])
      | with_reducible refine AWp_skipN ?_
      | with_reducible refine AWp_exitO (by repeat (first | with_reducible exact Out.hit | with_reducible apply Out.thenA | with_reducible apply Out.out rfl)) ?_
      | (with_reducible refine AWp_retR ?_; simp (dsimp := false) only [go_sem, Nat.reduceAdd, Nat.reduceBEq, Nat.reduceEqDiff, Nat.reduceLT, Nat.reduceLeDiff, Nat.reduceMul, Int.reduceToNat, reduceCtorEq, ↓reduceIte, Tryd.ntmps38, Tryd.results38, ks_38, mu_38, ti_ag3, ti_ag59, ti_sb45, ti_sl43, ti_sl45, ti_sz59, itD, itV, rlV, rowD, rlD, hi, hx])
      | (with_reducible refine AWp_regE mu_38 ks_38 ?_; intro Kv hKv; simp (dsimp := false) only [go_sem, Nat.reduceAdd, Nat.reduceBEq, Nat.reduceEqDiff, Nat.reduceLT, Nat.reduceLeDiff, Nat.reduceMul, Int.reduceToNat, reduceCtorEq, ↓reduceIte, Tryd.ntmps38, Tryd.results38, ks_38, mu_38, ti_ag3, ti_ag59, ti_sb45, ti_sl43, ti_sl45, ti_sz59, itD, itV, rlV, rowD, rlD, hi, hx])
      | (refine AWp_condC rfl ?_; intro KA KB hKA hKB; try simp only [onB_true, onB_false, onB_dec, onB_ndec, onB_not, onB_and, onB_or])
      | (refine AWp_condA rfl ?_ ?_)
      | with_reducible refine onB_of ?_ ?_
      | with_reducible rfl
      | omega)
    · refine ⟨j + 1, by omega, by omega, ?_, rfl, by omega, by omega⟩
      have e : projRow (at_.take (j + 1)) row = projRow (at_.take j) row ++ [x] := by
        rw [projRow, take_of_get hi, List.map_append]
        simp [projRow, rg_get hx]
      rw [e]
      simp [itC]
  · 
    repeat' (first
      | with_reducible refine And.intro ?_ ?_
      | with_reducible intro _
      | with_reducible refine AWp_seq ?_
      | with_reducible refine AWp_block ?_
      | (with_reducible refine hKv _ _ (AWp_nop ?_); clear hKv Kv)
      | (with_reducible refine hKv _ _ ?_; clear hKv Kv; simp (dsimp := false) only [go_sem, Nat.reduceAdd, Nat.reduceBEq, Nat.reduceEqDiff, Nat.reduceLT, Nat.reduceLeDiff, Nat.reduceMul, Int.reduceToNat, reduceCtorEq, ↓reduceIte, Tryd.ntmps38, Tryd.results38, ks_38, mu_38, ti_ag3, ti_ag59, ti_sb45, ti_sl43, ti_sl45, ti_sz59, itD, itV, rlV, rowD, rlD])
      | (with_reducible refine hKA ?_; clear hKA hKB KA KB)
      | (with_reducible refine hKB ?_; clear hKA hKB KA KB)
      | (with_reducible refine AWp_regC mu_38 ks_38 ?_; intro Kv hKv; simp (dsimp := false) only [go_sem, Nat.reduceAdd, Nat.reduceBEq, Nat.reduceEqDiff, Nat.reduceLT, Nat.reduceLeDiff, Nat.reduceMul, Int.reduceToNat, reduceCtorEq, ↓reduceIte, Tryd.ntmps38, Tryd.results38, ks_38, mu_38, ti_ag3, ti_ag59, ti_sb45, ti_sl43, ti_sl45, ti_sz59, itD, itV, rlV, rowD, rlD])
      | with_reducible refine AWp_skipN ?_
      | with_reducible refine AWp_exitO (by repeat (first | with_reducible exact Out.hit | with_reducible apply Out.thenA | with_reducible apply Out.out rfl)) ?_
      | (with_reducible refine AWp_retR ?_; simp (dsimp := false) only [go_sem, Nat.reduceAdd, Nat.reduceBEq, Nat.reduceEqDiff, Nat.reduceLT, Nat.reduceLeDiff, Nat.reduceMul, Int.reduceToNat, reduceCtorEq, ↓reduceIte, Tryd.ntmps38, Tryd.results38, ks_38, mu_38, ti_ag3, ti_ag59, ti_sb45, ti_sl43, ti_sl45, ti_sz59, itD, itV, rlV, rowD, rlD])
      | (with_reducible refine AWp_regE mu_38 ks_38 ?_; intro Kv hKv; simp (dsimp := false) only [go_sem, Nat.reduceAdd, Nat.reduceBEq, Nat.reduceEqDiff, Nat.reduceLT, Nat.reduceLeDiff, Nat.reduceMul, Int.reduceToNat, reduceCtorEq, ↓reduceIte, Tryd.ntmps38, Tryd.results38, ks_38, mu_38, ti_ag3, ti_ag59, ti_sb45, ti_sl43, ti_sl45, ti_sz59, itD, itV, rlV, rowD, rlD])
      | (refine AWp_condC rfl ?_; intro KA KB hKA hKB; try simp only [onB_true, onB_false, onB_dec, onB_ndec, onB_not, onB_and, onB_or])
      | (refine AWp_condA rfl ?_ ?_)
      | with_reducible refine onB_of ?_ ?_
      | with_reducible rfl
      | omega)
    · have e : j = at_.length := by omega
      subst e
      rw [List.take_length]
      exact dropF hk (.os _ _ _ _ _ _ (by omega) (get_app0 _ _) (its_data _)) (by simp [Bel_d])

/- the live slots of pleacher/pleacherref.colsAt -/
def ks_37 : Nat → List Nat
  | 0 => [1, 2]
  | 1 => [1, 2, 6]
  | 2 => [1, 2, 6, 7]
  | 3 => [1, 2, 6, 7, 12]
  | 4 => [1, 2, 6, 7]
  | 5 => [1, 2, 6, 7, 8]
  | 6 => [1, 2, 6, 7, 8, 22]
  | 7 => [4, 5]
  | 8 => [1, 2, 6, 7]
  | 9 => [4, 5]
  | _ => []
def mu_37 : List Nat := [6]
def in_37 : List Nat := [0, 1]
def nd_37 : Nat → Nat
  | 5 => 6
  | _ => 0
theorem colsAt_A (r : Rl) (hS : ShR r) (l : List (List UInt8)) (hlen : l.length ≤ 1048576) (H : Heap) (K : V → Heap → Prop)
    (hk : K (.tu [.d (.sl 1 (((places r.cols l).getD []).map intRow)), .d (.b (places r.cols l).isSome)]) H) :
    ACalls Tryd.prog 37 [rlV r, .d (.sl 1 (l.map strRow))] H K := by
  have q1 := hS.ncols
  refine ACalls_of Tryd.func37 rfl in_37 (Nat.le_of_ble_eq_true rfl) ?_
  intro F hF
  simp (dsimp := false) only [go_sem, Nat.reduceAdd, Nat.reduceBEq, Nat.reduceEqDiff, Nat.reduceLT, Nat.reduceLeDiff, Nat.reduceMul, Int.reduceToNat, reduceCtorEq, ↓reduceIte, Tryd.ntmps37, Tryd.results37, ks_37, mu_37, nd_37, ti_ag9, ti_ag25, ti_hb54, ti_sb22, ti_sl22, ti_sl45, ti_sz25, itD, itV, rlV, rowD, rlD, in_37] at hF
  subst hF
  repeat' (first
    | with_reducible refine And.intro ?_ ?_
    | with_reducible intro _
    | with_reducible refine AWp_seq ?_
    | with_reducible refine AWp_block ?_
    | (with_reducible refine hKv _ _ (AWp_nop ?_); clear hKv Kv)
    | (with_reducible refine hKv _ _ ?_; clear hKv Kv; simp (dsimp := false) only [go_sem, Nat.reduceAdd, Nat.reduceBEq, Nat.reduceEqDiff, Nat.reduceLT, Nat.reduceLeDiff, Nat.reduceMul, Int.reduceToNat, reduceCtorEq, ↓reduceIte, Tryd.ntmps37, Tryd.results37, ks_37, mu_37, nd_37, ti_ag9, ti_ag25, ti_hb54, ti_sb22, ti_sl22, ti_sl45, ti_sz25, itD, itV, rlV, rowD, rlD])
    | (with_reducible refine hKA ?_; clear hKA hKB KA KB)
    | (with_reducible refine hKB ?_; clear hKA hKB KA KB)
    | (with_reducible refine AWp_regC mu_37 ks_37 ?_; intro Kv hKv; simp (dsimp := false) only [go_sem, Nat.reduceAdd, Nat.reduceBEq, Nat.reduceEqDiff, Nat.reduceLT, Nat.reduceLeDiff, Nat.reduceMul, Int.reduceToNat, reduceCtorEq, ↓reduceIte, Tryd.ntmps37, Tryd.results37, ks_37, mu_37, nd_37, ti_ag9, ti_ag25, ti_hb54, ti_sb22, ti_sl22, ti_sl45, ti_sz25, itD, itV, rlV, rowD, rlD])
    | (with_reducible refine AWp_draw nd_37 mu_37 ks_37 ti_mixed (by kernel_rfl) ?_; intro Kv hKv; simp (dsimp := false) only [go_sem, Nat.reduceAdd, Nat.reduceBEq, Nat.reduceEqDiff, Nat.reduceLT, Nat.reduceLeDiff, Nat.reduceMul, Int.reduceToNat, reduceCtorEq, ↓reduceIte, Tryd.ntmps37, Tryd.results37, ks_37, mu_37, nd_37, ti_ag9, ti_ag25, ti_hb54, ti_sb22, ti_sl22, ti_sl45, ti_sz25, itD, itV, rlV, rowD, rlD])
    | with_reducible refine AWp_skipN ?_
    | with_reducible refine AWp_exitO (by repeat (first | with_reducible exact Out.hit | with_reducible apply Out.thenA | with_reducible apply Out.out rfl)) ?_
    | (with_reducible refine AWp_retR ?_; simp (dsimp := false) only [go_sem, Nat.reduceAdd, Nat.reduceBEq, Nat.reduceEqDiff, Nat.reduceLT, Nat.reduceLeDiff, Nat.reduceMul, Int.reduceToNat, reduceCtorEq, ↓reduceIte, Tryd.ntmps37, Tryd.results37, ks_37, mu_37, nd_37, ti_ag9, ti_ag25, ti_hb54, ti_sb22, ti_sl22, ti_sl45, ti_sz25, itD, itV, rlV, rowD, rlD])
    | (with_reducible refine AWp_regE mu_37 ks_37 ?_; intro Kv hKv; simp (dsimp := false) only [go_sem, Nat.reduceAdd, Nat.reduceBEq, Nat.reduceEqDiff, Nat.reduceLT, Nat.reduceLeDiff, Nat.reduceMul, Int.reduceToNat, reduceCtorEq, ↓reduceIte, Tryd.ntmps37, Tryd.results37, ks_37, mu_37, nd_37, ti_ag9, ti_ag25, ti_hb54, ti_sb22, ti_sl22, ti_sl45, ti_sz25, itD, itV, rlV, rowD, rlD])
    | (with_reducible refine AWp_drawE nd_37 mu_37 ks_37 ti_mixed (by kernel_rfl) ?_; intro Kv hKv; simp (dsimp := false) only [go_sem, Nat.reduceAdd, Nat.reduceBEq, Nat.reduceEqDiff, Nat.reduceLT, Nat.reduceLeDiff, Nat.reduceMul, Int.reduceToNat, reduceCtorEq, ↓reduceIte, Tryd.ntmps37, Tryd.results37, ks_37, mu_37, nd_37, ti_ag9, ti_ag25, ti_hb54, ti_sb22, ti_sl22, ti_sl45, ti_sz25, itD, itV, rlV, rowD, rlD])
    | (refine AWp_condC rfl ?_; intro KA KB hKA hKB; try simp only [onB_true, onB_false, onB_dec, onB_ndec, onB_not, onB_and, onB_or])
    | (refine AWp_condA rfl ?_ ?_)
    | with_reducible refine onB_of ?_ ?_
    | with_reducible rfl
    | omega)
  refine AWp_whileH (fun y : Nat × List Int => y.1 ≤ l.length ∧ y.2.length = y.1 ∧ placesGo r.cols (l.drop y.1) y.2 = places r.cols l)
    (fun y => [(1, .d (.sl 1 (l.map strRow))), (2, .rp (rlD r)), (6, .os H.length y.1), (7, .d (.i .i64 y.1))])
    (fun y => [.row y.1 3 1 (y.2.map intCells)]) (fun y => l.length - y.1) (0, []) ⟨Nat.zero_le _, rfl, rfl⟩ rfl ?_ ?_ ?_
  · simp (dsimp := false) only [go_sem, Nat.reduceAdd, Nat.reduceBEq, Nat.reduceEqDiff, Nat.reduceLT, Nat.reduceLeDiff, Nat.reduceMul, Int.reduceToNat, reduceCtorEq, ↓reduceIte, Tryd.ntmps37, Tryd.results37, ks_37, mu_37, nd_37, ti_ag9, ti_ag25, ti_hb54, ti_sb22, ti_sl22, ti_sl45, ti_sz25, itD, itV, rlV, rowD, rlD]
    first | done | simp
  · rintro ⟨i, acc⟩ _ ob hob
    simp only [List.mem_cons, List.not_mem_nil, or_false] at hob
    rcases hob with rfl
    exact obBel_map intRow _ _ _ _ _
  rintro ⟨i, acc⟩ ⟨h1, h2, h3⟩
  simp only [] at h1 h2 h3 ⊢
  repeat' (first
    | with_reducible refine And.intro ?_ ?_
    | with_reducible intro _
    | with_reducible refine AWp_seq ?_
    | with_reducible refine AWp_block ?_
    | (with_reducible refine hKv _ _ (AWp_nop ?_); clear hKv Kv)
    | (with_reducible refine hKv _ _ ?_; clear hKv Kv; simp (dsimp := false) only [go_sem, Nat.reduceAdd, Nat.reduceBEq, Nat.reduceEqDiff, Nat.reduceLT, Nat.reduceLeDiff, Nat.reduceMul, Int.reduceToNat, reduceCtorEq, ↓reduceIte, Tryd.ntmps37, Tryd.results37, ks_37, mu_37, nd_37, ti_ag9, ti_ag25, ti_hb54, ti_sb22, ti_sl22, ti_sl45, ti_sz25, itD, itV, rlV, rowD, rlD])
    | (with_reducible refine hKA ?_; clear hKA hKB KA KB)
    | (with_reducible refine hKB ?_; clear hKA hKB KA KB)
    | (with_reducible refine AWp_regC mu_37 ks_37 ?_; intro Kv hKv; simp (dsimp := false) only [go_sem, Nat.reduceAdd, Nat.reduceBEq, Nat.reduceEqDiff, Nat.reduceLT, Nat.reduceLeDiff, Nat.reduceMul, Int.reduceToNat, reduceCtorEq, ↓reduceIte, Tryd.ntmps37, Tryd.results37, ks_37, mu_37, nd_37, ti_ag9, ti_ag25, ti_hb54, ti_sb22, ti_sl22, ti_sl45, ti_sz25, itD, itV, rlV, rowD, rlD])
    | (with_reducible refine AWp_draw nd_37 mu_37 ks_37 ti_mixed (by kernel_rfl) ?_; intro Kv hKv; simp (dsimp := false) only [go_sem, Nat.reduceAdd, Nat.reduceBEq, Nat.reduceEqDiff, Nat.reduceLT, Nat.reduceLeDiff, Nat.reduceMul, Int.reduceToNat, reduceCtorEq, ↓reduceIte, Tryd.ntmps37, Tryd.results37, ks_37, mu_37, nd_37, ti_ag9, ti_ag25, ti_hb54, ti_sb22, ti_sl22, ti_sl45, ti_sz25, itD, itV, rlV, rowD, rlD])
    | with_reducible refine AWp_skipN ?_
    | with_reducible refine AWp_exitO (by repeat (first | with_reducible exact Out.hit | with_reducible apply Out.thenA | with_reducible apply Out.out rfl)) ?_
    | (with_reducible refine AWp_retR ?_; simp (dsimp := false) only [go_sem, Nat.reduceAdd, Nat.reduceBEq, Nat.reduceEqDiff, Nat.reduceLT, Nat.reduceLeDiff, Nat.reduceMul, Int.reduceToNat, reduceCtorEq, ↓reduceIte, Tryd.ntmps37, Tryd.results37, ks_37, mu_37, nd_37, ti_ag9, ti_ag25, ti_hb54, ti_sb22, ti_sl22, ti_sl45, ti_sz25, itD, itV, rlV, rowD, rlD])
    | (with_reducible refine AWp_regE mu_37 ks_37 ?_; intro Kv hKv; simp (dsimp := false) only [go_sem, Nat.reduceAdd, Nat.reduceBEq, Nat.reduceEqDiff, Nat.reduceLT, Nat.reduceLeDiff, Nat.reduceMul, Int.reduceToNat, reduceCtorEq, ↓reduceIte, Tryd.ntmps37, Tryd.results37, ks_37, mu_37, nd_37, ti_ag9, ti_ag25, ti_hb54, ti_sb22, ti_sl22, ti_sl45, ti_sz25, itD, itV, rlV, rowD, rlD])
    | (with_reducible refine AWp_drawE nd_37 mu_37 ks_37 ti_mixed (by kernel_rfl) ?_; intro Kv hKv; simp (dsimp := false) only [go_sem, Nat.reduceAdd, Nat.reduceBEq, Nat.reduceEqDiff, Nat.reduceLT, Nat.reduceLeDiff, Nat.reduceMul, Int.reduceToNat, reduceCtorEq, ↓reduceIte, Tryd.ntmps37, Tryd.results37, ks_37, mu_37, nd_37, ti_ag9, ti_ag25, ti_hb54, ti_sb22, ti_sl22, ti_sl45, ti_sz25, itD, itV, rlV, rowD, rlD])
    | (refine AWp_condC rfl ?_; intro KA KB hKA hKB; try simp only [onB_true, onB_false, onB_dec, onB_ndec, onB_not, onB_and, onB_or])
    | (refine AWp_condA rfl ?_ ?_)
    | (refine colAt_A r hS _ _ _ ?_; try simp (dsimp := false) only [go_sem, Nat.reduceAdd, Nat.reduceBEq, Nat.reduceEqDiff, Nat.reduceLT, Nat.reduceLeDiff, Nat.reduceMul, Int.reduceToNat, reduceCtorEq, ↓reduceIte, Tryd.ntmps37, Tryd.results37, ks_37, mu_37, nd_37, ti_ag9, ti_ag25, ti_hb54, ti_sb22, ti_sl22, ti_sl45, ti_sz25, itD, itV, rlV, rowD, rlD])
    | (refine QCall_of (colAt_A r hS _ _ _ (Two_intro _ _)) ?_; try simp (dsimp := false) only [go_sem, Nat.reduceAdd, Nat.reduceBEq, Nat.reduceEqDiff, Nat.reduceLT, Nat.reduceLeDiff, Nat.reduceMul, Int.reduceToNat, reduceCtorEq, ↓reduceIte, Tryd.ntmps37, Tryd.results37, ks_37, mu_37, nd_37, ti_ag9, ti_ag25, ti_hb54, ti_sb22, ti_sl22, ti_sl45, ti_sz25, itD, itV, rlV, rowD, rlD])
    | with_reducible refine onB_of ?_ ?_
    | with_reducible rfl
    | omega)
  · rename_i g1 x hx hlt
    rw [placesGo_next hx, if_pos hlt] at h3
    rw [← h3] at hk
    exact dropF hk (Fz_tu2 (.nil _) (.same _)) (by simp [Bel_tu, Bel_d])
  · rename_i g1 x hx hlt
    rw [placesGo_next hx, if_neg hlt] at h3
    exact ⟨(i + 1, acc ++ [txtAt r.cols x]), ⟨by show i + 1 ≤ l.length; omega, by simp [h2], h3⟩, by show l.length - (i + 1) < l.length - i; omega, by simp [intCells], rfl, by omega, by simp⟩
  · have e : i = l.length := by omega
    subst e
    rw [List.drop_length, placesGo] at h3
    rw [← h3] at hk
    exact dropF hk (Fz_tu2 (.os _ _ 3 1 _ _ (by omega) (get_app0 _ _) (ints_data _)) (.same _)) (by simp [Bel_tu, Bel_d])
/- the live slots of pleacher/rel.Project -/
def ks_13 : Nat → List Nat
  | 0 => [1, 2, 3, 6]
  | 1 => [1, 2, 3, 6, 8]
  | 2 => [1, 2, 3, 6, 8, 17]
  | 3 => [6, 7]
  | 4 => [1, 2, 3, 6, 24]
  | 5 => [6, 7]
  | 6 => [1, 3, 6, 9, 10]
  | 7 => [1, 3, 6, 9, 10, 33]
  | 8 => [6, 7]
  | 9 => [1, 3, 6, 9, 11]
  | 10 => [1, 6, 9, 11, 37, 38, 39]
  | 11 => [1, 6, 9, 11, 37, 38, 39, 40]
  | 12 => [1, 6, 9, 11, 13, 37, 38, 39]
  | 13 => [1, 6, 9, 11, 37, 38, 39]
  | 14 => [1, 6, 9, 11, 37, 38, 39]
  | 15 => [6, 7]
  | _ => []
def mu_13 : List Nat := [11]
def in_13 : List Nat := [0, 1, 2]
theorem project_A (r : Rl) (hS : ShR r) (cols olds : List (List UInt8)) (hc : cols.length ≤ 1048576) (ho : olds.length ≤ 1048576) (hcs : ∀ s, s ∈ cols → s.length ≤ 1048576) (H : Heap) (K : V → Heap → Prop) (hk : K (relE (projected r cols olds).1 (projected r cols olds).2) H) :
    ACalls Tryd.prog 13 [rlV r, .d (.sl 1 (cols.map strRow)), .d (.sl 1 (olds.map strRow))] H K := by
  have q1 := hS.ncols
  have q2 := hS.nrows
  by_cases hf : relFault r = 0
  · by_cases hl : cols.length = olds.length
    · cases hp : places r.cols olds with
      | none =>
        rw [projected, if_pos hf, if_pos hl, hp] at hk
        
        refine ACalls_of Tryd.func13 rfl in_13 (Nat.le_of_ble_eq_true rfl) ?_
        intro F hF
        simp (dsimp := false) only [go_sem, Nat.reduceAdd, Nat.reduceBEq, Nat.reduceEqDiff, Nat.reduceLT, Nat.reduceLeDiff, Nat.reduceMul, Int.reduceToNat, reduceCtorEq, ↓reduceIte, Tryd.ntmps13, Tryd.results13, ks_13, mu_13, ti_ag23, ti_ag25, ti_ag43, ti_fl25_1, ti_hb32, ti_hb33, ti_hb34, ti_hb35, ti_pl25, ti_sb22, ti_sb23, ti_sl23, ti_sz25, ti_zr25, itD, itV, rlV, rowD, rlD, hf, hl, hp, Option.getD_none, Option.isSome_none, in_13] at hF
        subst hF
        repeat' (first
          | with_reducible refine And.intro ?_ ?_
          | with_reducible intro _
          | with_reducible refine AWp_seq ?_
          | with_reducible refine AWp_block ?_
          | (with_reducible refine hKv _ _ (AWp_nop ?_); clear hKv Kv)
          | (with_reducible refine hKv _ _ ?_; clear hKv Kv; simp (dsimp := false) only [go_sem, Nat.reduceAdd, Nat.reduceBEq, Nat.reduceEqDiff, Nat.reduceLT, Nat.reduceLeDiff, Nat.reduceMul, Int.reduceToNat, reduceCtorEq, ↓reduceIte, Tryd.ntmps13, Tryd.results13, ks_13, mu_13, ti_ag23, ti_ag25, ti_ag43, ti_fl25_1, ti_hb32, ti_hb33, ti_hb34, ti_hb35, ti_pl25, ti_sb22, ti_sb23, ti_sl23, ti_sz25, ti_zr25, itD, itV, rlV, rowD, rlD, hf, hl, hp, Option.getD_none, Option.isSome_none])
          | (with_reducible refine hKA ?_; clear hKA hKB KA KB)
          | (with_reducible refine hKB ?_; clear hKA hKB KA KB)
          | (with_reducible refine AWp_regC mu_13 ks_13 ?_; intro Kv hKv; simp (dsimp := false) only [go_sem, Nat.reduceAdd, Nat.reduceBEq, Nat.reduceEqDiff, Nat.reduceLT, Nat.reduceLeDiff, Nat.reduceMul, Int.reduceToNat, reduceCtorEq, ↓reduceIte, Tryd.ntmps13, Tryd.results13, ks_13, mu_13, ti_ag23, ti_ag25, ti_ag43, ti_fl25_1, ti_hb32, ti_hb33, ti_hb34, ti_hb35, ti_pl25, ti_sb22, ti_sb23, ti_sl23, ti_sz25, ti_zr25, itD, itV, rlV, rowD, rlD, hf, hl, hp, Option.getD_none, Option.isSome_none])
          | with_reducible refine AWp_skipN ?_
          | with_reducible refine AWp_exitO (by repeat (first | with_reducible exact Out.hit | with_reducible apply Out.thenA | with_reducible apply Out.out rfl)) ?_
          | (with_reducible refine AWp_retR ?_; simp (dsimp := false) only [go_sem, Nat.reduceAdd, Nat.reduceBEq, Nat.reduceEqDiff, Nat.reduceLT, Nat.reduceLeDiff, Nat.reduceMul, Int.reduceToNat, reduceCtorEq, ↓reduceIte, Tryd.ntmps13, Tryd.results13, ks_13, mu_13, ti_ag23, ti_ag25, ti_ag43, ti_fl25_1, ti_hb32, ti_hb33, ti_hb34, ti_hb35, ti_pl25, ti_sb22, ti_sb23, ti_sl23, ti_sz25, ti_zr25, itD, itV, rlV, rowD, rlD, hf, hl, hp, Option.getD_none, Option.isSome_none])
          | (with_reducible refine AWp_regE mu_13 ks_13 ?_; intro Kv hKv; simp (dsimp := false) only [go_sem, Nat.reduceAdd, Nat.reduceBEq, Nat.reduceEqDiff, Nat.reduceLT, Nat.reduceLeDiff, Nat.reduceMul, Int.reduceToNat, reduceCtorEq, ↓reduceIte, Tryd.ntmps13, Tryd.results13, ks_13, mu_13, ti_ag23, ti_ag25, ti_ag43, ti_fl25_1, ti_hb32, ti_hb33, ti_hb34, ti_hb35, ti_pl25, ti_sb22, ti_sb23, ti_sl23, ti_sz25, ti_zr25, itD, itV, rlV, rowD, rlD, hf, hl, hp, Option.getD_none, Option.isSome_none])
          | (refine AWp_condC rfl ?_; intro KA KB hKA hKB; try simp only [onB_true, onB_false, onB_dec, onB_ndec, onB_not, onB_and, onB_or])
          | (refine AWp_condA rfl ?_ ?_)
          | (refine relCheck_A r hS _ _ ?_; try simp (dsimp := false) only [go_sem, Nat.reduceAdd, Nat.reduceBEq, Nat.reduceEqDiff, Nat.reduceLT, Nat.reduceLeDiff, Nat.reduceMul, Int.reduceToNat, reduceCtorEq, ↓reduceIte, Tryd.ntmps13, Tryd.results13, ks_13, mu_13, ti_ag23, ti_ag25, ti_ag43, ti_fl25_1, ti_hb32, ti_hb33, ti_hb34, ti_hb35, ti_pl25, ti_sb22, ti_sb23, ti_sl23, ti_sz25, ti_zr25, itD, itV, rlV, rowD, rlD, hf, hl, hp, Option.getD_none, Option.isSome_none])
          | (refine places_A r hS olds ho _ _ ?_; try simp (dsimp := false) only [go_sem, Nat.reduceAdd, Nat.reduceBEq, Nat.reduceEqDiff, Nat.reduceLT, Nat.reduceLeDiff, Nat.reduceMul, Int.reduceToNat, reduceCtorEq, ↓reduceIte, Tryd.ntmps13, Tryd.results13, ks_13, mu_13, ti_ag23, ti_ag25, ti_ag43, ti_fl25_1, ti_hb32, ti_hb33, ti_hb34, ti_hb35, ti_pl25, ti_sb22, ti_sb23, ti_sl23, ti_sz25, ti_zr25, itD, itV, rlV, rowD, rlD, hf, hl, hp, Option.getD_none, Option.isSome_none])
          | with_reducible refine onB_of ?_ ?_
          | with_reducible rfl
          | omega)
        all_goals first
          | exact dropF hk (fz_rl0 _ _ _) (bel_relE _ _ _)
          | omega
      | some at_ =>
        rw [projected, if_pos hf, if_pos hl, hp] at hk
        obtain ⟨_, hN, hall⟩ := relFault_ok hf
        obtain ⟨hmem, hatl⟩ := places_mem hp
        
        refine ACalls_of Tryd.func13 rfl in_13 (Nat.le_of_ble_eq_true rfl) ?_
        intro F hF
        simp (dsimp := false) only [go_sem, Nat.reduceAdd, Nat.reduceBEq, Nat.reduceEqDiff, Nat.reduceLT, Nat.reduceLeDiff, Nat.reduceMul, Int.reduceToNat, reduceCtorEq, ↓reduceIte, Tryd.ntmps13, Tryd.results13, ks_13, mu_13, ti_ag23, ti_ag25, ti_ag43, ti_fl25_1, ti_hb32, ti_hb33, ti_hb34, ti_hb35, ti_pl25, ti_sb22, ti_sb23, ti_sl23, ti_sz25, ti_zr25, itD, itV, rlV, rowD, rlD, hf, hl, hp, Option.getD_some, Option.isSome_some, in_13] at hF
        subst hF
        repeat' (first
          | with_reducible refine And.intro ?_ ?_
          | with_reducible intro _
          | with_reducible refine AWp_seq ?_
          | with_reducible refine AWp_block ?_
          | (with_reducible refine hKv _ _ (AWp_nop ?_); clear hKv Kv)
          | (with_reducible refine hKv _ _ ?_; clear hKv Kv; simp (dsimp := false) only [go_sem, Nat.reduceAdd, Nat.reduceBEq, Nat.reduceEqDiff, Nat.reduceLT, Nat.reduceLeDiff, Nat.reduceMul, Int.reduceToNat, reduceCtorEq, ↓reduceIte, Tryd.ntmps13, Tryd.results13, ks_13, mu_13, ti_ag23, ti_ag25, ti_ag43, ti_fl25_1, ti_hb32, ti_hb33, ti_hb34, ti_hb35, ti_pl25, ti_sb22, ti_sb23, ti_sl23, ti_sz25, ti_zr25, itD, itV, rlV, rowD, rlD, hf, hl, hp, Option.getD_some, Option.isSome_some])
          | (with_reducible refine hKA ?_; clear hKA hKB KA KB)
          | (with_reducible refine hKB ?_; clear hKA hKB KA KB)
          | (with_reducible refine AWp_regC mu_13 ks_13 ?_; intro Kv hKv; simp (dsimp := false) only [go_sem, Nat.reduceAdd, Nat.reduceBEq, Nat.reduceEqDiff, Nat.reduceLT, Nat.reduceLeDiff, Nat.reduceMul, Int.reduceToNat, reduceCtorEq, ↓reduceIte, Tryd.ntmps13, Tryd.results13, ks_13, mu_13, ti_ag23, ti_ag25, ti_ag43, ti_fl25_1, ti_hb32, ti_hb33, ti_hb34, ti_hb35, ti_pl25, ti_sb22, ti_sb23, ti_sl23, ti_sz25, ti_zr25, itD, itV, rlV, rowD, rlD, hf, hl, hp, Option.getD_some, Option.isSome_some])
          | with_reducible refine AWp_skipN ?_
          | with_reducible refine AWp_exitO (by repeat (first | with_reducible exact Out.hit | with_reducible apply Out.thenA | with_reducible apply Out.out rfl)) ?_
          | (with_reducible refine AWp_retR ?_; simp (dsimp := false) only [go_sem, Nat.reduceAdd, Nat.reduceBEq, Nat.reduceEqDiff, Nat.reduceLT, Nat.reduceLeDiff, Nat.reduceMul, Int.reduceToNat, reduceCtorEq, ↓reduceIte, Tryd.ntmps13, Tryd.results13, ks_13, mu_13, ti_ag23, ti_ag25, ti_ag43, ti_fl25_1, ti_hb32, ti_hb33, ti_hb34, ti_hb35, ti_pl25, ti_sb22, ti_sb23, ti_sl23, ti_sz25, ti_zr25, itD, itV, rlV, rowD, rlD, hf, hl, hp, Option.getD_some, Option.isSome_some])
          | (with_reducible refine AWp_regE mu_13 ks_13 ?_; intro Kv hKv; simp (dsimp := false) only [go_sem, Nat.reduceAdd, Nat.reduceBEq, Nat.reduceEqDiff, Nat.reduceLT, Nat.reduceLeDiff, Nat.reduceMul, Int.reduceToNat, reduceCtorEq, ↓reduceIte, Tryd.ntmps13, Tryd.results13, ks_13, mu_13, ti_ag23, ti_ag25, ti_ag43, ti_fl25_1, ti_hb32, ti_hb33, ti_hb34, ti_hb35, ti_pl25, ti_sb22, ti_sb23, ti_sl23, ti_sz25, ti_zr25, itD, itV, rlV, rowD, rlD, hf, hl, hp, Option.getD_some, Option.isSome_some])
          | (refine AWp_condC rfl ?_; intro KA KB hKA hKB; try simp only [onB_true, onB_false, onB_dec, onB_ndec, onB_not, onB_and, onB_or])
          | (refine AWp_condA rfl ?_ ?_)
          | (refine relCheck_A r hS _ _ ?_; try simp (dsimp := false) only [go_sem, Nat.reduceAdd, Nat.reduceBEq, Nat.reduceEqDiff, Nat.reduceLT, Nat.reduceLeDiff, Nat.reduceMul, Int.reduceToNat, reduceCtorEq, ↓reduceIte, Tryd.ntmps13, Tryd.results13, ks_13, mu_13, ti_ag23, ti_ag25, ti_ag43, ti_fl25_1, ti_hb32, ti_hb33, ti_hb34, ti_hb35, ti_pl25, ti_sb22, ti_sb23, ti_sl23, ti_sz25, ti_zr25, itD, itV, rlV, rowD, rlD, hf, hl, hp, Option.getD_some, Option.isSome_some])
          | (refine places_A r hS olds ho _ _ ?_; try simp (dsimp := false) only [go_sem, Nat.reduceAdd, Nat.reduceBEq, Nat.reduceEqDiff, Nat.reduceLT, Nat.reduceLeDiff, Nat.reduceMul, Int.reduceToNat, reduceCtorEq, ↓reduceIte, Tryd.ntmps13, Tryd.results13, ks_13, mu_13, ti_ag23, ti_ag25, ti_ag43, ti_fl25_1, ti_hb32, ti_hb33, ti_hb34, ti_hb35, ti_pl25, ti_sb22, ti_sb23, ti_sl23, ti_sz25, ti_zr25, itD, itV, rlV, rowD, rlD, hf, hl, hp, Option.getD_some, Option.isSome_some])
          | with_reducible refine onB_of ?_ ?_
          | with_reducible rfl
          | omega)
        refine AWp_whileH (fun i : Nat => i ≤ r.rows.length)
          (fun i => [(1, .d (.sl 1 (cols.map strRow))), (6, .pt H.length 0 0 0), (9, .d (.sl 1 (at_.map intRow))), (11, .os (H.length + 1) i), (37, .d (.sl 1 (r.rows.map rowD))), (38, .d (.i .i64 r.rows.length)), (39, .d (.i .i64 i))])
          (fun i => [.row 0 25 2 [[.d (.c (.slice none 0 0)), .d (.c (.slice none 0 0))]], .row i 43 1 (((r.rows.take i).map (projRow at_)).map rowC)]) (fun i => r.rows.length - i) 0 (Nat.zero_le _) rfl ?_ ?_ ?_
        · simp (dsimp := false) only [go_sem, Nat.reduceAdd, Nat.reduceBEq, Nat.reduceEqDiff, Nat.reduceLT, Nat.reduceLeDiff, Nat.reduceMul, Int.reduceToNat, reduceCtorEq, ↓reduceIte, Tryd.ntmps13, Tryd.results13, ks_13, mu_13, ti_ag23, ti_ag25, ti_ag43, ti_fl25_1, ti_hb32, ti_hb33, ti_hb34, ti_hb35, ti_pl25, ti_sb22, ti_sb23, ti_sl23, ti_sz25, ti_zr25, itD, itV, rlV, rowD, rlD, hf, hl, hp, Option.getD_some, Option.isSome_some]
          first | done | simp
        · rintro i _ ob hob
          simp only [List.mem_cons, List.not_mem_nil, or_false] at hob
          rcases hob with rfl | rfl
          · exact bel_nil2 _ _ _
          · exact obBel_rows _ _ _ _ _
        rintro i hi
        have hli : (r.rows.take i).length = i := by simp; omega
        by_cases hiN : i < r.rows.length
        · obtain ⟨row, hrow⟩ : ∃ row, r.rows[i]? = some row := ⟨r.rows[i], List.getElem?_eq_getElem hiN⟩
          have hrl := (hall row (List.mem_of_getElem? hrow)).1
          
          repeat' (first
            | with_reducible refine And.intro ?_ ?_
            | with_reducible intro _
            | with_reducible refine AWp_seq ?_
            | with_reducible refine AWp_block ?_
            | (with_reducible refine hKv _ _ (AWp_nop ?_); clear hKv Kv)
            | (with_reducible refine hKv _ _ ?_; clear hKv Kv; simp (dsimp := false) only [go_sem, Nat.reduceAdd, Nat.reduceBEq, Nat.reduceEqDiff, Nat.reduceLT, Nat.reduceLeDiff, Nat.reduceMul, Int.reduceToNat, reduceCtorEq, ↓reduceIte, Tryd.ntmps13, Tryd.results13, ks_13, mu_13, ti_ag23, ti_ag25, ti_ag43, ti_fl25_1, ti_hb32, ti_hb33, ti_hb34, ti_hb35, ti_pl25, ti_sb22, ti_sb23, ti_sl23, ti_sz25, ti_zr25, itD, itV, rlV, rowD, rlD, hrow])
            | (with_reducible refine hKA ?_; clear hKA hKB KA KB)
            | (with_reducible refine hKB ?_; clear hKA hKB KA KB)
            | (with_reducible refine AWp_regC mu_13 ks_13 ?_; intro Kv hKv; simp (dsimp := false) only [go_sem, Nat.reduceAdd, Nat.reduceBEq, Nat.reduceEqDiff, Nat.reduceLT, Nat.reduceLeDiff, Nat.reduceMul, Int.reduceToNat, reduceCtorEq, ↓reduceIte, Tryd.ntmps13, Tryd.results13, ks_13, mu_13, ti_ag23, ti_ag25, ti_ag43, ti_fl25_1, ti_hb32, ti_hb33, ti_hb34, ti_hb35, ti_pl25, ti_sb22, ti_sb23, ti_sl23, ti_sz25, ti_zr25, itD, itV, rlV, rowD, rlD, hrow])
            | with_reducible refine AWp_skipN ?_
            | with_reducible refine AWp_exitO (by repeat (first | with_reducible exact Out.hit | with_reducible apply Out.thenA | with_reducible apply Out.out rfl)) ?_
            | (with_reducible refine AWp_retR ?_; simp (dsimp := false) only [go_sem, Nat.reduceAdd, Nat.reduceBEq, Nat.reduceEqDiff, Nat.reduceLT, Nat.reduceLeDiff, Nat.reduceMul, Int.reduceToNat, reduceCtorEq, ↓reduceIte, Tryd.ntmps13, Tryd.results13, ks_13, mu_13, ti_ag23, ti_ag25, ti_ag43, ti_fl25_1, ti_hb32, ti_hb33, ti_hb34, ti_hb35, ti_pl25, ti_sb22, ti_sb23, ti_sl23, ti_sz25, ti_zr25, itD, itV, rlV, rowD, rlD, hrow])
            | (with_reducible refine AWp_regE mu_13 ks_13 ?_; intro Kv hKv; simp (dsimp := false) only [go_sem, Nat.reduceAdd, Nat.reduceBEq, Nat.reduceEqDiff, Nat.reduceLT, Nat.reduceLeDiff, Nat.reduceMul, Int.reduceToNat, reduceCtorEq, ↓reduceIte, Tryd.ntmps13, Tryd.results13, ks_13, mu_13, ti_ag23, ti_ag25, ti_ag43, ti_fl25_1, ti_hb32, ti_hb33, ti_hb34, ti_hb35, ti_pl25, ti_sb22, ti_sb23, ti_sl23, ti_sz25, ti_zr25, itD, itV, rlV, rowD, rlD, hrow])
            | (refine AWp_condC rfl ?_; intro KA KB hKA hKB; try simp only [onB_true, onB_false, onB_dec, onB_ndec, onB_not, onB_and, onB_or])
            | (refine AWp_condA rfl ?_ ?_)
            | (refine these_A row at_ (by omega) (fun j hj => by have := hmem j hj; omega) _ _ ?_; try simp (dsimp := false) only [go_sem, Nat.reduceAdd, Nat.reduceBEq, Nat.reduceEqDiff, Nat.reduceLT, Nat.reduceLeDiff, Nat.reduceMul, Int.reduceToNat, reduceCtorEq, ↓reduceIte, Tryd.ntmps13, Tryd.results13, ks_13, mu_13, ti_ag23, ti_ag25, ti_ag43, ti_fl25_1, ti_hb32, ti_hb33, ti_hb34, ti_hb35, ti_pl25, ti_sb22, ti_sb23, ti_sl23, ti_sz25, ti_zr25, itD, itV, rlV, rowD, rlD, hrow])
            | with_reducible refine onB_of ?_ ?_
            | with_reducible rfl
            | omega)
          · exact ⟨i + 1, by omega, by omega, by rw [take_of_get hrow]; simp [rowC], by omega, rfl, by omega, by omega⟩
        · have e : i = r.rows.length := by omega
          subst e
          rw [List.take_length]
          
          repeat' (first
            | with_reducible refine And.intro ?_ ?_
            | with_reducible intro _
            | with_reducible refine AWp_seq ?_
            | with_reducible refine AWp_block ?_
            | (with_reducible refine hKv _ _ (AWp_nop ?_); clear hKv Kv)
            | (with_reducible refine hKv _ _ ?_; clear hKv Kv; simp (dsimp := false) only [go_sem, Nat.reduceAdd, Nat.reduceBEq, Nat.reduceEqDiff, Nat.reduceLT, Nat.reduceLeDiff, Nat.reduceMul, Int.reduceToNat, reduceCtorEq, ↓reduceIte, Tryd.ntmps13, Tryd.results13, ks_13, mu_13, ti_ag23, ti_ag25, ti_ag43, ti_fl25_1, ti_hb32, ti_hb33, ti_hb34, ti_hb35, ti_pl25, ti_sb22, ti_sb23, ti_sl23, ti_sz25, ti_zr25, itD, itV, rlV, rowD, rlD, finQ])
            | (with_reducible refine hKA ?_; clear hKA hKB KA KB)
            | (with_reducible refine hKB ?_; clear hKA hKB KA KB)
            | (with_reducible refine AWp_regC mu_13 ks_13 ?_; intro Kv hKv; simp (dsimp := false) only [go_sem, Nat.reduceAdd, Nat.reduceBEq, Nat.reduceEqDiff, Nat.reduceLT, Nat.reduceLeDiff, Nat.reduceMul, Int.reduceToNat, reduceCtorEq, ↓reduceIte, Tryd.ntmps13, Tryd.results13, ks_13, mu_13, ti_ag23, ti_ag25, ti_ag43, ti_fl25_1, ti_hb32, ti_hb33, ti_hb34, ti_hb35, ti_pl25, ti_sb22, ti_sb23, ti_sl23, ti_sz25, ti_zr25, itD, itV, rlV, rowD, rlD, finQ])
            | with_reducible refine AWp_skipN ?_
            | with_reducible refine AWp_exitO (by repeat (first | with_reducible exact Out.hit | with_reducible apply Out.thenA | with_reducible apply Out.out rfl)) ?_
            | (with_reducible refine AWp_retR ?_; simp (dsimp := false) only [go_sem, Nat.reduceAdd, Nat.reduceBEq, Nat.reduceEqDiff, Nat.reduceLT, Nat.reduceLeDiff, Nat.reduceMul, Int.reduceToNat, reduceCtorEq, ↓reduceIte, Tryd.ntmps13, Tryd.results13, ks_13, mu_13, ti_ag23, ti_ag25, ti_ag43, ti_fl25_1, ti_hb32, ti_hb33, ti_hb34, ti_hb35, ti_pl25, ti_sb22, ti_sb23, ti_sl23, ti_sz25, ti_zr25, itD, itV, rlV, rowD, rlD, finQ])
            | (with_reducible refine AWp_regE mu_13 ks_13 ?_; intro Kv hKv; simp (dsimp := false) only [go_sem, Nat.reduceAdd, Nat.reduceBEq, Nat.reduceEqDiff, Nat.reduceLT, Nat.reduceLeDiff, Nat.reduceMul, Int.reduceToNat, reduceCtorEq, ↓reduceIte, Tryd.ntmps13, Tryd.results13, ks_13, mu_13, ti_ag23, ti_ag25, ti_ag43, ti_fl25_1, ti_hb32, ti_hb33, ti_hb34, ti_hb35, ti_pl25, ti_sb22, ti_sb23, ti_sl23, ti_sz25, ti_zr25, itD, itV, rlV, rowD, rlD, finQ])
            | (refine AWp_condC rfl ?_; intro KA KB hKA hKB; try simp only [onB_true, onB_false, onB_dec, onB_ndec, onB_not, onB_and, onB_or])
            | (refine AWp_condA rfl ?_ ?_)
            | (refine finishedO_A cols _ _ _ _ hc hcs (by rw [List.length_map, List.length_map]; omega) _ _ ((get_appk _ _ 1).trans rfl) ?_; try simp (dsimp := false) only [go_sem, Nat.reduceAdd, Nat.reduceBEq, Nat.reduceEqDiff, Nat.reduceLT, Nat.reduceLeDiff, Nat.reduceMul, Int.reduceToNat, reduceCtorEq, ↓reduceIte, Tryd.ntmps13, Tryd.results13, ks_13, mu_13, ti_ag23, ti_ag25, ti_ag43, ti_fl25_1, ti_hb32, ti_hb33, ti_hb34, ti_hb35, ti_pl25, ti_sb22, ti_sb23, ti_sl23, ti_sz25, ti_zr25, itD, itV, rlV, rowD, rlD, finQ])
            | with_reducible refine onB_of ?_ ?_
            | with_reducible rfl
            | omega)
          · exact fin_ret (acc := r.rows.map (projRow at_)) (by rw [List.length_map]; exact hk) (by rw [List.length_map]; assumption) (by omega) (get_appk _ _ 1)
          · exact fin_bad (acc := r.rows.map (projRow at_)) (by rw [List.length_map]; exact hk) (by rw [List.length_map]) (by assumption)
    · rw [projected, if_pos hf, if_neg hl] at hk
      have hl' : ¬ ((cols.length : Int) = olds.length) := by omega
      
      refine ACalls_of Tryd.func13 rfl in_13 (Nat.le_of_ble_eq_true rfl) ?_
      intro F hF
      simp (dsimp := false) only [go_sem, Nat.reduceAdd, Nat.reduceBEq, Nat.reduceEqDiff, Nat.reduceLT, Nat.reduceLeDiff, Nat.reduceMul, Int.reduceToNat, reduceCtorEq, ↓reduceIte, Tryd.ntmps13, Tryd.results13, ks_13, mu_13, ti_ag23, ti_ag25, ti_ag43, ti_fl25_1, ti_hb32, ti_hb33, ti_hb34, ti_hb35, ti_pl25, ti_sb22, ti_sb23, ti_sl23, ti_sz25, ti_zr25, itD, itV, rlV, rowD, rlD, hf, hl', in_13] at hF
      subst hF
      repeat' (first
        | with_reducible refine And.intro ?_ ?_
        | with_reducible intro _
        | with_reducible refine AWp_seq ?_
        | with_reducible refine AWp_block ?_
        | (with_reducible refine hKv _ _ (AWp_nop ?_); clear hKv Kv)
        | (with_reducible refine hKv _ _ ?_; clear hKv Kv; simp (dsimp := false) only [go_sem, Nat.reduceAdd, Nat.reduceBEq, Nat.reduceEqDiff, Nat.reduceLT, Nat.reduceLeDiff, Nat.reduceMul, Int.reduceToNat, reduceCtorEq, ↓reduceIte, Tryd.ntmps13, Tryd.results13, ks_13, mu_13, ti_ag23, ti_ag25, ti_ag43, ti_fl25_1, ti_hb32, ti_hb33, ti_hb34, ti_hb35, ti_pl25, ti_sb22, ti_sb23, ti_sl23, ti_sz25, ti_zr25, itD, itV, rlV, rowD, rlD, hf, hl'])
        | (with_reducible refine hKA ?_; clear hKA hKB KA KB)
        | (with_reducible refine hKB ?_; clear hKA hKB KA KB)
        | (with_reducible refine AWp_regC mu_13 ks_13 ?_; intro Kv hKv; simp (dsimp := false) only [go_sem, Nat.reduceAdd, Nat.reduceBEq, Nat.reduceEqDiff, Nat.reduceLT, Nat.reduceLeDiff, Nat.reduceMul, Int.reduceToNat, reduceCtorEq, ↓reduceIte, Tryd.ntmps13, Tryd.results13, ks_13, mu_13, ti_ag23, ti_ag25, ti_ag43, ti_fl25_1, ti_hb32, ti_hb33, ti_hb34, ti_hb35, ti_pl25, ti_sb22, ti_sb23, ti_sl23, ti_sz25, ti_zr25, itD, itV, rlV, rowD, rlD, hf, hl'])
        | with_reducible refine AWp_skipN ?_
        | with_reducible refine AWp_exitO (by repeat (first | with_reducible exact Out.hit | with_reducible apply Out.thenA | with_reducible apply Out.out rfl)) ?_
        | (with_reducible refine AWp_retR ?_; simp (dsimp := false) only [go_sem, Nat.reduceAdd, Nat.reduceBEq, Nat.reduceEqDiff, Nat.reduceLT, Nat.reduceLeDiff, Nat.reduceMul, Int.reduceToNat, reduceCtorEq, ↓reduceIte, Tryd.ntmps13, Tryd.results13, ks_13, mu_13, ti_ag23, ti_ag25, ti_ag43, ti_fl25_1, ti_hb32, ti_hb33, ti_hb34, ti_hb35, ti_pl25, ti_sb22, ti_sb23, ti_sl23, ti_sz25, ti_zr25, itD, itV, rlV, rowD, rlD, hf, hl'])
        | (with_reducible refine AWp_regE mu_13 ks_13 ?_; intro Kv hKv; simp (dsimp := false) only [go_sem, Nat.reduceAdd, Nat.reduceBEq, Nat.reduceEqDiff, Nat.reduceLT, Nat.reduceLeDiff, Nat.reduceMul, Int.reduceToNat, reduceCtorEq, ↓reduceIte, Tryd.ntmps13, Tryd.results13, ks_13, mu_13, ti_ag23, ti_ag25, ti_ag43, ti_fl25_1, ti_hb32, ti_hb33, ti_hb34, ti_hb35, ti_pl25, ti_sb22, ti_sb23, ti_sl23, ti_sz25, ti_zr25, itD, itV, rlV, rowD, rlD, hf, hl'])
        | (refine AWp_condC rfl ?_; intro KA KB hKA hKB; try simp only [onB_true, onB_false, onB_dec, onB_ndec, onB_not, onB_and, onB_or])
        | (refine AWp_condA rfl ?_ ?_)
        | (refine relCheck_A r hS _ _ ?_; try simp (dsimp := false) only [go_sem, Nat.reduceAdd, Nat.reduceBEq, Nat.reduceEqDiff, Nat.reduceLT, Nat.reduceLeDiff, Nat.reduceMul, Int.reduceToNat, reduceCtorEq, ↓reduceIte, Tryd.ntmps13, Tryd.results13, ks_13, mu_13, ti_ag23, ti_ag25, ti_ag43, ti_fl25_1, ti_hb32, ti_hb33, ti_hb34, ti_hb35, ti_pl25, ti_sb22, ti_sb23, ti_sl23, ti_sz25, ti_zr25, itD, itV, rlV, rowD, rlD, hf, hl'])
        | with_reducible refine onB_of ?_ ?_
        | with_reducible rfl
        | omega)
      all_goals exact dropF hk (fz_rl0 _ _ _) (bel_relE _ _ _)
  · rw [projected, if_neg hf] at hk
    
    refine ACalls_of Tryd.func13 rfl in_13 (Nat.le_of_ble_eq_true rfl) ?_
    intro F hF
    simp (dsimp := false) only [go_sem, Nat.reduceAdd, Nat.reduceBEq, Nat.reduceEqDiff, Nat.reduceLT, Nat.reduceLeDiff, Nat.reduceMul, Int.reduceToNat, reduceCtorEq, ↓reduceIte, Tryd.ntmps13, Tryd.results13, ks_13, mu_13, ti_ag23, ti_ag25, ti_ag43, ti_fl25_1, ti_hb32, ti_hb33, ti_hb34, ti_hb35, ti_pl25, ti_sb22, ti_sb23, ti_sl23, ti_sz25, ti_zr25, itD, itV, rlV, rowD, rlD, hf, in_13] at hF
    subst hF
    repeat' (first
      | with_reducible refine And.intro ?_ ?_
      | with_reducible intro _
      | with_reducible refine AWp_seq ?_
      | with_reducible refine AWp_block ?_
      | (with_reducible refine hKv _ _ (AWp_nop ?_); clear hKv Kv)
      | (with_reducible refine hKv _ _ ?_; clear hKv Kv; simp (dsimp := false) only [go_sem, Nat.reduceAdd, Nat.reduceBEq, Nat.reduceEqDiff, Nat.reduceLT, Nat.reduceLeDiff, Nat.reduceMul, Int.reduceToNat, reduceCtorEq, ↓reduceIte, Tryd.ntmps13, Tryd.results13, ks_13, mu_13, ti_ag23, ti_ag25, ti_ag43, ti_fl25_1, ti_hb32, ti_hb33, ti_hb34, ti_hb35, ti_pl25, ti_sb22, ti_sb23, ti_sl23, ti_sz25, ti_zr25, itD, itV, rlV, rowD, rlD, hf])
      | (with_reducible refine hKA ?_; clear hKA hKB KA KB)
      | (with_reducible refine hKB ?_; clear hKA hKB KA KB)
      | (with_reducible refine AWp_regC mu_13 ks_13 ?_; intro Kv hKv; simp (dsimp := false) only [go_sem, Nat.reduceAdd, Nat.reduceBEq, Nat.reduceEqDiff, Nat.reduceLT, Nat.reduceLeDiff, Nat.reduceMul, Int.reduceToNat, reduceCtorEq, ↓reduceIte, Tryd.ntmps13, Tryd.results13, ks_13, mu_13, ti_ag23, ti_ag25, ti_ag43, ti_fl25_1, ti_hb32, ti_hb33, ti_hb34, ti_hb35, ti_pl25, ti_sb22, ti_sb23, ti_sl23, ti_sz25, ti_zr25, itD, itV, rlV, rowD, rlD, hf])
      | with_reducible refine AWp_skipN ?_
      | with_reducible refine AWp_exitO (by repeat (first | with_reducible exact Out.hit | with_reducible apply Out.thenA | with_reducible apply Out.out rfl)) ?_
      | (with_reducible refine AWp_retR ?_; simp (dsimp := false) only [go_sem, Nat.reduceAdd, Nat.reduceBEq, Nat.reduceEqDiff, Nat.reduceLT, Nat.reduceLeDiff, Nat.reduceMul, Int.reduceToNat, reduceCtorEq, ↓reduceIte, Tryd.ntmps13, Tryd.results13, ks_13, mu_13, ti_ag23, ti_ag25, ti_ag43, ti_fl25_1, ti_hb32, ti_hb33, ti_hb34, ti_hb35, ti_pl25, ti_sb22, ti_sb23, ti_sl23, ti_sz25, ti_zr25, itD, itV, rlV, rowD, rlD, hf])
      | (with_reducible refine AWp_regE mu_13 ks_13 ?_; intro Kv hKv; simp (dsimp := false) only [go_sem, Nat.reduceAdd, Nat.reduceBEq, Nat.reduceEqDiff, Nat.reduceLT, Nat.reduceLeDiff, Nat.reduceMul, Int.reduceToNat, reduceCtorEq, ↓reduceIte, Tryd.ntmps13, Tryd.results13, ks_13, mu_13, ti_ag23, ti_ag25, ti_ag43, ti_fl25_1, ti_hb32, ti_hb33, ti_hb34, ti_hb35, ti_pl25, ti_sb22, ti_sb23, ti_sl23, ti_sz25, ti_zr25, itD, itV, rlV, rowD, rlD, hf])
      | (refine AWp_condC rfl ?_; intro KA KB hKA hKB; try simp only [onB_true, onB_false, onB_dec, onB_ndec, onB_not, onB_and, onB_or])
      | (refine AWp_condA rfl ?_ ?_)
      | (refine relCheck_A r hS _ _ ?_; try simp (dsimp := false) only [go_sem, Nat.reduceAdd, Nat.reduceBEq, Nat.reduceEqDiff, Nat.reduceLT, Nat.reduceLeDiff, Nat.reduceMul, Int.reduceToNat, reduceCtorEq, ↓reduceIte, Tryd.ntmps13, Tryd.results13, ks_13, mu_13, ti_ag23, ti_ag25, ti_ag43, ti_fl25_1, ti_hb32, ti_hb33, ti_hb34, ti_hb35, ti_pl25, ti_sb22, ti_sb23, ti_sl23, ti_sz25, ti_zr25, itD, itV, rlV, rowD, rlD, hf])
      | with_reducible refine onB_of ?_ ?_
      | with_reducible rfl
      | omega)
    all_goals exact dropF hk (fz_rl0 _ _ _) (bel_relE _ _ _)

/- the live slots of pleacher/pleacherref.ProjectedOf -/
def ks_14 : Nat → List Nat
  | 0 => [1, 2, 3, 6]
  | 1 => [1, 2, 3, 6, 8]
  | 2 => [1, 2, 3, 6, 8, 17]
  | 3 => [6, 7]
  | 4 => [1, 2, 3, 6, 9, 10]
  | 5 => [1, 3, 6, 9, 34]
  | 6 => [6, 7]
  | 7 => [1, 3, 6, 9, 11]
  | 8 => [1, 3, 6, 9, 11, 12]
  | 9 => [1, 3, 6, 9, 11, 12, 40]
  | 10 => [1, 3, 6, 9, 11, 12]
  | 11 => [1, 3, 6, 9, 11, 12, 13]
  | 12 => [1, 3, 6, 9, 11, 12]
  | 13 => [6, 7]
  | _ => []
def mu_14 : List Nat := [11]
def in_14 : List Nat := [0, 1, 2]
theorem projectedOf_A (r : Rl) (hS : ShR r) (cols olds : List (List UInt8)) (hc : cols.length ≤ 1048576) (ho : olds.length ≤ 1048576) (hcs : ∀ s, s ∈ cols → s.length ≤ 1048576) (H : Heap) (K : V → Heap → Prop) (hk : K (relE (projected r cols olds).1 (projected r cols olds).2) H) :
    ACalls Tryd.prog 14 [rlV r, .d (.sl 1 (cols.map strRow)), .d (.sl 1 (olds.map strRow))] H K := by
  have q1 := hS.ncols
  have q2 := hS.nrows
  by_cases hf : relFault r = 0
  · by_cases hl : cols.length = olds.length
    · cases hp : places r.cols olds with
      | none =>
        rw [projected, if_pos hf, if_pos hl, hp] at hk
        
        refine ACalls_of Tryd.func14 rfl in_14 (Nat.le_of_ble_eq_true rfl) ?_
        intro F hF
        simp (dsimp := false) only [go_sem, Nat.reduceAdd, Nat.reduceBEq, Nat.reduceEqDiff, Nat.reduceLT, Nat.reduceLeDiff, Nat.reduceMul, Int.reduceToNat, reduceCtorEq, ↓reduceIte, Tryd.ntmps14, Tryd.results14, ks_14, mu_14, ti_ag23, ti_ag25, ti_ag43, ti_fl25_1, ti_hb36, ti_hb37, ti_hb38, ti_hb39, ti_pl25, ti_sb22, ti_sb23, ti_sl23, ti_sz25, ti_zr25, itD, itV, rlV, rowD, rlD, hf, hl, hp, Option.getD_none, Option.isSome_none, in_14] at hF
        subst hF
        repeat' (first
          | with_reducible refine And.intro ?_ ?_
          | with_reducible intro _
          | with_reducible refine AWp_seq ?_
          | with_reducible refine AWp_block ?_
          | (with_reducible refine hKv _ _ (AWp_nop ?_); clear hKv Kv)
          | (with_reducible refine hKv _ _ ?_; clear hKv Kv; simp (dsimp := false) only [go_sem, Nat.reduceAdd, Nat.reduceBEq, Nat.reduceEqDiff, Nat.reduceLT, Nat.reduceLeDiff, Nat.reduceMul, Int.reduceToNat, reduceCtorEq, ↓reduceIte, Tryd.ntmps14, Tryd.results14, ks_14, mu_14, ti_ag23, ti_ag25, ti_ag43, ti_fl25_1, ti_hb36, ti_hb37, ti_hb38, ti_hb39, ti_pl25, ti_sb22, ti_sb23, ti_sl23, ti_sz25, ti_zr25, itD, itV, rlV, rowD, rlD, hf, hl, hp, Option.getD_none, Option.isSome_none])
          | (with_reducible refine hKA ?_; clear hKA hKB KA KB)
          | (with_reducible refine hKB ?_; clear hKA hKB KA KB)
          | (with_reducible refine AWp_regC mu_14 ks_14 ?_; intro Kv hKv; simp (dsimp := false) only [go_sem, Nat.reduceAdd, Nat.reduceBEq, Nat.reduceEqDiff, Nat.reduceLT, Nat.reduceLeDiff, Nat.reduceMul, Int.reduceToNat, reduceCtorEq, ↓reduceIte, Tryd.ntmps14, Tryd.results14, ks_14, mu_14, ti_ag23, ti_ag25, ti_ag43, ti_fl25_1, ti_hb36, ti_hb37, ti_hb38, ti_hb39, ti_pl25, ti_sb22, ti_sb23, ti_sl23, ti_sz25, ti_zr25, itD, itV, rlV, rowD, rlD, hf, hl, hp, Option.getD_none, Option.isSome_none])
          | with_reducible refine AWp_skipN ?_
          | with_reducible refine AWp_exitO (by repeat (first | with_reducible exact Out.hit | with_reducible apply Out.thenA | with_reducible apply Out.out rfl)) ?_
          | (with_reducible refine AWp_retR ?_; simp (dsimp := false) only [go_sem, Nat.reduceAdd, Nat.reduceBEq, Nat.reduceEqDiff, Nat.reduceLT, Nat.reduceLeDiff, Nat.reduceMul, Int.reduceToNat, reduceCtorEq, ↓reduceIte, Tryd.ntmps14, Tryd.results14, ks_14, mu_14, ti_ag23, ti_ag25, ti_ag43, ti_fl25_1, ti_hb36, ti_hb37, ti_hb38, ti_hb39, ti_pl25, ti_sb22, ti_sb23, ti_sl23, ti_sz25, ti_zr25, itD, itV, rlV, rowD, rlD, hf, hl, hp, Option.getD_none, Option.isSome_none])
          | (with_reducible refine AWp_regE mu_14 ks_14 ?_; intro Kv hKv; simp (dsimp := false) only [go_sem, Nat.reduceAdd, Nat.reduceBEq, Nat.reduceEqDiff, Nat.reduceLT, Nat.reduceLeDiff, Nat.reduceMul, Int.reduceToNat, reduceCtorEq, ↓reduceIte, Tryd.ntmps14, Tryd.results14, ks_14, mu_14, ti_ag23, ti_ag25, ti_ag43, ti_fl25_1, ti_hb36, ti_hb37, ti_hb38, ti_hb39, ti_pl25, ti_sb22, ti_sb23, ti_sl23, ti_sz25, ti_zr25, itD, itV, rlV, rowD, rlD, hf, hl, hp, Option.getD_none, Option.isSome_none])
          | (refine AWp_condC rfl ?_; intro KA KB hKA hKB; try simp only [onB_true, onB_false, onB_dec, onB_ndec, onB_not, onB_and, onB_or])
          | (refine AWp_condA rfl ?_ ?_)
          | (refine relFault_A r hS _ _ ?_; try simp (dsimp := false) only [go_sem, Nat.reduceAdd, Nat.reduceBEq, Nat.reduceEqDiff, Nat.reduceLT, Nat.reduceLeDiff, Nat.reduceMul, Int.reduceToNat, reduceCtorEq, ↓reduceIte, Tryd.ntmps14, Tryd.results14, ks_14, mu_14, ti_ag23, ti_ag25, ti_ag43, ti_fl25_1, ti_hb36, ti_hb37, ti_hb38, ti_hb39, ti_pl25, ti_sb22, ti_sb23, ti_sl23, ti_sz25, ti_zr25, itD, itV, rlV, rowD, rlD, hf, hl, hp, Option.getD_none, Option.isSome_none])
          | (refine colsAt_A r hS olds ho _ _ ?_; try simp (dsimp := false) only [go_sem, Nat.reduceAdd, Nat.reduceBEq, Nat.reduceEqDiff, Nat.reduceLT, Nat.reduceLeDiff, Nat.reduceMul, Int.reduceToNat, reduceCtorEq, ↓reduceIte, Tryd.ntmps14, Tryd.results14, ks_14, mu_14, ti_ag23, ti_ag25, ti_ag43, ti_fl25_1, ti_hb36, ti_hb37, ti_hb38, ti_hb39, ti_pl25, ti_sb22, ti_sb23, ti_sl23, ti_sz25, ti_zr25, itD, itV, rlV, rowD, rlD, hf, hl, hp, Option.getD_none, Option.isSome_none])
          | with_reducible refine onB_of ?_ ?_
          | with_reducible rfl
          | omega)
        all_goals first
          | exact dropF hk (fz_rl0 _ _ _) (bel_relE _ _ _)
          | omega
      | some at_ =>
        rw [projected, if_pos hf, if_pos hl, hp] at hk
        obtain ⟨_, hN, hall⟩ := relFault_ok hf
        obtain ⟨hmem, hatl⟩ := places_mem hp
        
        refine ACalls_of Tryd.func14 rfl in_14 (Nat.le_of_ble_eq_true rfl) ?_
        intro F hF
        simp (dsimp := false) only [go_sem, Nat.reduceAdd, Nat.reduceBEq, Nat.reduceEqDiff, Nat.reduceLT, Nat.reduceLeDiff, Nat.reduceMul, Int.reduceToNat, reduceCtorEq, ↓reduceIte, Tryd.ntmps14, Tryd.results14, ks_14, mu_14, ti_ag23, ti_ag25, ti_ag43, ti_fl25_1, ti_hb36, ti_hb37, ti_hb38, ti_hb39, ti_pl25, ti_sb22, ti_sb23, ti_sl23, ti_sz25, ti_zr25, itD, itV, rlV, rowD, rlD, hf, hl, hp, Option.getD_some, Option.isSome_some, in_14] at hF
        subst hF
        repeat' (first
          | with_reducible refine And.intro ?_ ?_
          | with_reducible intro _
          | with_reducible refine AWp_seq ?_
          | with_reducible refine AWp_block ?_
          | (with_reducible refine hKv _ _ (AWp_nop ?_); clear hKv Kv)
          | (with_reducible refine hKv _ _ ?_; clear hKv Kv; simp (dsimp := false) only [go_sem, Nat.reduceAdd, Nat.reduceBEq, Nat.reduceEqDiff, Nat.reduceLT, Nat.reduceLeDiff, Nat.reduceMul, Int.reduceToNat, reduceCtorEq, ↓reduceIte, Tryd.ntmps14, Tryd.results14, ks_14, mu_14, ti_ag23, ti_ag25, ti_ag43, ti_fl25_1, ti_hb36, ti_hb37, ti_hb38, ti_hb39, ti_pl25, ti_sb22, ti_sb23, ti_sl23, ti_sz25, ti_zr25, itD, itV, rlV, rowD, rlD, hf, hl, hp, Option.getD_some, Option.isSome_some])
          | (with_reducible refine hKA ?_; clear hKA hKB KA KB)
          | (with_reducible refine hKB ?_; clear hKA hKB KA KB)
          | (with_reducible refine AWp_regC mu_14 ks_14 ?_; intro Kv hKv; simp (dsimp := false) only [go_sem, Nat.reduceAdd, Nat.reduceBEq, Nat.reduceEqDiff, Nat.reduceLT, Nat.reduceLeDiff, Nat.reduceMul, Int.reduceToNat, reduceCtorEq, ↓reduceIte, Tryd.ntmps14, Tryd.results14, ks_14, mu_14, ti_ag23, ti_ag25, ti_ag43, ti_fl25_1, ti_hb36, ti_hb37, ti_hb38, ti_hb39, ti_pl25, ti_sb22, ti_sb23, ti_sl23, ti_sz25, ti_zr25, itD, itV, rlV, rowD, rlD, hf, hl, hp, Option.getD_some, Option.isSome_some])
          | with_reducible refine AWp_skipN ?_
          | with_reducible refine AWp_exitO (by repeat (first | with_reducible exact Out.hit | with_reducible apply Out.thenA | with_reducible apply Out.out rfl)) ?_
          | (with_reducible refine AWp_retR ?_; simp (dsimp := false) only [go_sem, Nat.reduceAdd, Nat.reduceBEq, Nat.reduceEqDiff, Nat.reduceLT, Nat.reduceLeDiff, Nat.reduceMul, Int.reduceToNat, reduceCtorEq, ↓reduceIte, Tryd.ntmps14, Tryd.results14, ks_14, mu_14, ti_ag23, ti_ag25, ti_ag43, ti_fl25_1, ti_hb36, ti_hb37, ti_hb38, ti_hb39, ti_pl25, ti_sb22, ti_sb23, ti_sl23, ti_sz25, ti_zr25, itD, itV, rlV, rowD, rlD, hf, hl, hp, Option.getD_some, Option.isSome_some])
          | (with_reducible refine AWp_regE mu_14 ks_14 ?_; intro Kv hKv; simp (dsimp := false) only [go_sem, Nat.reduceAdd, Nat.reduceBEq, Nat.reduceEqDiff, Nat.reduceLT, Nat.reduceLeDiff, Nat.reduceMul, Int.reduceToNat, reduceCtorEq, ↓reduceIte, Tryd.ntmps14, Tryd.results14, ks_14, mu_14, ti_ag23, ti_ag25, ti_ag43, ti_fl25_1, ti_hb36, ti_hb37, ti_hb38, ti_hb39, ti_pl25, ti_sb22, ti_sb23, ti_sl23, ti_sz25, ti_zr25, itD, itV, rlV, rowD, rlD, hf, hl, hp, Option.getD_some, Option.isSome_some])
          | (refine AWp_condC rfl ?_; intro KA KB hKA hKB; try simp only [onB_true, onB_false, onB_dec, onB_ndec, onB_not, onB_and, onB_or])
          | (refine AWp_condA rfl ?_ ?_)
          | (refine relFault_A r hS _ _ ?_; try simp (dsimp := false) only [go_sem, Nat.reduceAdd, Nat.reduceBEq, Nat.reduceEqDiff, Nat.reduceLT, Nat.reduceLeDiff, Nat.reduceMul, Int.reduceToNat, reduceCtorEq, ↓reduceIte, Tryd.ntmps14, Tryd.results14, ks_14, mu_14, ti_ag23, ti_ag25, ti_ag43, ti_fl25_1, ti_hb36, ti_hb37, ti_hb38, ti_hb39, ti_pl25, ti_sb22, ti_sb23, ti_sl23, ti_sz25, ti_zr25, itD, itV, rlV, rowD, rlD, hf, hl, hp, Option.getD_some, Option.isSome_some])
          | (refine colsAt_A r hS olds ho _ _ ?_; try simp (dsimp := false) only [go_sem, Nat.reduceAdd, Nat.reduceBEq, Nat.reduceEqDiff, Nat.reduceLT, Nat.reduceLeDiff, Nat.reduceMul, Int.reduceToNat, reduceCtorEq, ↓reduceIte, Tryd.ntmps14, Tryd.results14, ks_14, mu_14, ti_ag23, ti_ag25, ti_ag43, ti_fl25_1, ti_hb36, ti_hb37, ti_hb38, ti_hb39, ti_pl25, ti_sb22, ti_sb23, ti_sl23, ti_sz25, ti_zr25, itD, itV, rlV, rowD, rlD, hf, hl, hp, Option.getD_some, Option.isSome_some])
          | with_reducible refine onB_of ?_ ?_
          | with_reducible rfl
          | omega)
        refine AWp_whileH (fun i : Nat => i ≤ r.rows.length)
          (fun i => [(1, .d (.sl 1 (cols.map strRow))), (3, .rp (rlD r)), (6, .pt H.length 0 0 0), (9, .d (.sl 1 (at_.map intRow))), (11, .os (H.length + 1) i), (12, .d (.i .i64 i))])
          (fun i => [.row 0 25 2 [[.d (.c (.slice none 0 0)), .d (.c (.slice none 0 0))]], .row i 43 1 (((r.rows.take i).map (projRow at_)).map rowC)]) (fun i => r.rows.length - i) 0 (Nat.zero_le _) rfl ?_ ?_ ?_
        · simp (dsimp := false) only [go_sem, Nat.reduceAdd, Nat.reduceBEq, Nat.reduceEqDiff, Nat.reduceLT, Nat.reduceLeDiff, Nat.reduceMul, Int.reduceToNat, reduceCtorEq, ↓reduceIte, Tryd.ntmps14, Tryd.results14, ks_14, mu_14, ti_ag23, ti_ag25, ti_ag43, ti_fl25_1, ti_hb36, ti_hb37, ti_hb38, ti_hb39, ti_pl25, ti_sb22, ti_sb23, ti_sl23, ti_sz25, ti_zr25, itD, itV, rlV, rowD, rlD, hf, hl, hp, Option.getD_some, Option.isSome_some]
          first | done | simp
        · rintro i _ ob hob
          simp only [List.mem_cons, List.not_mem_nil, or_false] at hob
          rcases hob with rfl | rfl
          · exact bel_nil2 _ _ _
          · exact obBel_rows _ _ _ _ _
        rintro i hi
        have hli : (r.rows.take i).length = i := by simp; omega
        by_cases hiN : i < r.rows.length
        · obtain ⟨row, hrow⟩ : ∃ row, r.rows[i]? = some row := ⟨r.rows[i], List.getElem?_eq_getElem hiN⟩
          have hrl := (hall row (List.mem_of_getElem? hrow)).1
          
          repeat' (first
            | with_reducible refine And.intro ?_ ?_
            | with_reducible intro _
            | with_reducible refine AWp_seq ?_
            | with_reducible refine AWp_block ?_
            | (with_reducible refine hKv _ _ (AWp_nop ?_); clear hKv Kv)
            | (with_reducible refine hKv _ _ ?_; clear hKv Kv; simp (dsimp := false) only [go_sem, Nat.reduceAdd, Nat.reduceBEq, Nat.reduceEqDiff, Nat.reduceLT, Nat.reduceLeDiff, Nat.reduceMul, Int.reduceToNat, reduceCtorEq, ↓reduceIte, Tryd.ntmps14, Tryd.results14, ks_14, mu_14, ti_ag23, ti_ag25, ti_ag43, ti_fl25_1, ti_hb36, ti_hb37, ti_hb38, ti_hb39, ti_pl25, ti_sb22, ti_sb23, ti_sl23, ti_sz25, ti_zr25, itD, itV, rlV, rowD, rlD, hrow])
            | (with_reducible refine hKA ?_; clear hKA hKB KA KB)
            | (with_reducible refine hKB ?_; clear hKA hKB KA KB)
            | (with_reducible refine AWp_regC mu_14 ks_14 ?_; intro Kv hKv; simp (dsimp := false) only [go_sem, Nat.reduceAdd, Nat.reduceBEq, Nat.reduceEqDiff, Nat.reduceLT, Nat.reduceLeDiff, Nat.reduceMul, Int.reduceToNat, reduceCtorEq, ↓reduceIte, Tryd.ntmps14, Tryd.results14, ks_14, mu_14, ti_ag23, ti_ag25, ti_ag43, ti_fl25_1, ti_hb36, ti_hb37, ti_hb38, ti_hb39, ti_pl25, ti_sb22, ti_sb23, ti_sl23, ti_sz25, ti_zr25, itD, itV, rlV, rowD, rlD, hrow])
            | with_reducible refine AWp_skipN ?_
            | with_reducible refine AWp_exitO (by repeat (first | with_reducible exact Out.hit | with_reducible apply Out.thenA | with_reducible apply Out.out rfl)) ?_
            | (with_reducible refine AWp_retR ?_; simp (dsimp := false) only [go_sem, Nat.reduceAdd, Nat.reduceBEq, Nat.reduceEqDiff, Nat.reduceLT, Nat.reduceLeDiff, Nat.reduceMul, Int.reduceToNat, reduceCtorEq, ↓reduceIte, Tryd.ntmps14, Tryd.results14, ks_14, mu_14, ti_ag23, ti_ag25, ti_ag43, ti_fl25_1, ti_hb36, ti_hb37, ti_hb38, ti_hb39, ti_pl25, ti_sb22, ti_sb23, ti_sl23, ti_sz25, ti_zr25, itD, itV, rlV, rowD, rlD, hrow])
            | (with_reducible refine AWp_regE mu_14 ks_14 ?_; intro Kv hKv; simp (dsimp := false) only [go_sem, Nat.reduceAdd, Nat.reduceBEq, Nat.reduceEqDiff, Nat.reduceLT, Nat.reduceLeDiff, Nat.reduceMul, Int.reduceToNat, reduceCtorEq, ↓reduceIte, Tryd.ntmps14, Tryd.results14, ks_14, mu_14, ti_ag23, ti_ag25, ti_ag43, ti_fl25_1, ti_hb36, ti_hb37, ti_hb38, ti_hb39, ti_pl25, ti_sb22, ti_sb23, ti_sl23, ti_sz25, ti_zr25, itD, itV, rlV, rowD, rlD, hrow])
            | (refine AWp_condC rfl ?_; intro KA KB hKA hKB; try simp only [onB_true, onB_false, onB_dec, onB_ndec, onB_not, onB_and, onB_or])
            | (refine AWp_condA rfl ?_ ?_)
            | (refine picks_A row at_ (by omega) (fun j hj => by have := hmem j hj; omega) _ _ ?_; try simp (dsimp := false) only [go_sem, Nat.reduceAdd, Nat.reduceBEq, Nat.reduceEqDiff, Nat.reduceLT, Nat.reduceLeDiff, Nat.reduceMul, Int.reduceToNat, reduceCtorEq, ↓reduceIte, Tryd.ntmps14, Tryd.results14, ks_14, mu_14, ti_ag23, ti_ag25, ti_ag43, ti_fl25_1, ti_hb36, ti_hb37, ti_hb38, ti_hb39, ti_pl25, ti_sb22, ti_sb23, ti_sl23, ti_sz25, ti_zr25, itD, itV, rlV, rowD, rlD, hrow])
            | with_reducible refine onB_of ?_ ?_
            | with_reducible rfl
            | omega)
          · exact ⟨i + 1, by omega, by omega, by rw [take_of_get hrow]; simp [rowC], by omega, rfl, by omega, by omega⟩
        · have e : i = r.rows.length := by omega
          subst e
          rw [List.take_length]
          
          repeat' (first
            | with_reducible refine And.intro ?_ ?_
            | with_reducible intro _
            | with_reducible refine AWp_seq ?_
            | with_reducible refine AWp_block ?_
            | (with_reducible refine hKv _ _ (AWp_nop ?_); clear hKv Kv)
            | (with_reducible refine hKv _ _ ?_; clear hKv Kv; simp (dsimp := false) only [go_sem, Nat.reduceAdd, Nat.reduceBEq, Nat.reduceEqDiff, Nat.reduceLT, Nat.reduceLeDiff, Nat.reduceMul, Int.reduceToNat, reduceCtorEq, ↓reduceIte, Tryd.ntmps14, Tryd.results14, ks_14, mu_14, ti_ag23, ti_ag25, ti_ag43, ti_fl25_1, ti_hb36, ti_hb37, ti_hb38, ti_hb39, ti_pl25, ti_sb22, ti_sb23, ti_sl23, ti_sz25, ti_zr25, itD, itV, rlV, rowD, rlD, finQ])
            | (with_reducible refine hKA ?_; clear hKA hKB KA KB)
            | (with_reducible refine hKB ?_; clear hKA hKB KA KB)
            | (with_reducible refine AWp_regC mu_14 ks_14 ?_; intro Kv hKv; simp (dsimp := false) only [go_sem, Nat.reduceAdd, Nat.reduceBEq, Nat.reduceEqDiff, Nat.reduceLT, Nat.reduceLeDiff, Nat.reduceMul, Int.reduceToNat, reduceCtorEq, ↓reduceIte, Tryd.ntmps14, Tryd.results14, ks_14, mu_14, ti_ag23, ti_ag25, ti_ag43, ti_fl25_1, ti_hb36, ti_hb37, ti_hb38, ti_hb39, ti_pl25, ti_sb22, ti_sb23, ti_sl23, ti_sz25, ti_zr25, itD, itV, rlV, rowD, rlD, finQ])
            | with_reducible refine AWp_skipN ?_
            | with_reducible refine AWp_exitO (by repeat (first | with_reducible exact Out.hit | with_reducible apply Out.thenA | with_reducible apply Out.out rfl)) ?_
            | (with_reducible refine AWp_retR ?_; simp (dsimp := false) only [go_sem, Nat.reduceAdd, Nat.reduceBEq, Nat.reduceEqDiff, Nat.reduceLT, Nat.reduceLeDiff, Nat.reduceMul, Int.reduceToNat, reduceCtorEq, ↓reduceIte, Tryd.ntmps14, Tryd.results14, ks_14, mu_14, ti_ag23, ti_ag25, ti_ag43, ti_fl25_1, ti_hb36, ti_hb37, ti_hb38, ti_hb39, ti_pl25, ti_sb22, ti_sb23, ti_sl23, ti_sz25, ti_zr25, itD, itV, rlV, rowD, rlD, finQ])
            | (with_reducible refine AWp_regE mu_14 ks_14 ?_; intro Kv hKv; simp (dsimp := false) only [go_sem, Nat.reduceAdd, Nat.reduceBEq, Nat.reduceEqDiff, Nat.reduceLT, Nat.reduceLeDiff, Nat.reduceMul, Int.reduceToNat, reduceCtorEq, ↓reduceIte, Tryd.ntmps14, Tryd.results14, ks_14, mu_14, ti_ag23, ti_ag25, ti_ag43, ti_fl25_1, ti_hb36, ti_hb37, ti_hb38, ti_hb39, ti_pl25, ti_sb22, ti_sb23, ti_sl23, ti_sz25, ti_zr25, itD, itV, rlV, rowD, rlD, finQ])
            | (refine AWp_condC rfl ?_; intro KA KB hKA hKB; try simp only [onB_true, onB_false, onB_dec, onB_ndec, onB_not, onB_and, onB_or])
            | (refine AWp_condA rfl ?_ ?_)
            | (refine relOfO_A cols _ _ _ _ hc hcs (by rw [List.length_map, List.length_map]; omega) _ _ ((get_appk _ _ 1).trans rfl) ?_; try simp (dsimp := false) only [go_sem, Nat.reduceAdd, Nat.reduceBEq, Nat.reduceEqDiff, Nat.reduceLT, Nat.reduceLeDiff, Nat.reduceMul, Int.reduceToNat, reduceCtorEq, ↓reduceIte, Tryd.ntmps14, Tryd.results14, ks_14, mu_14, ti_ag23, ti_ag25, ti_ag43, ti_fl25_1, ti_hb36, ti_hb37, ti_hb38, ti_hb39, ti_pl25, ti_sb22, ti_sb23, ti_sl23, ti_sz25, ti_zr25, itD, itV, rlV, rowD, rlD, finQ])
            | with_reducible refine onB_of ?_ ?_
            | with_reducible rfl
            | omega)
          · exact fin_ret (acc := r.rows.map (projRow at_)) (by rw [List.length_map]; exact hk) (by rw [List.length_map]; assumption) (by omega) (get_appk _ _ 1)
          · exact fin_bad (acc := r.rows.map (projRow at_)) (by rw [List.length_map]; exact hk) (by rw [List.length_map]) (by assumption)
    · rw [projected, if_pos hf, if_neg hl] at hk
      have hl' : ¬ ((cols.length : Int) = olds.length) := by omega
      
      refine ACalls_of Tryd.func14 rfl in_14 (Nat.le_of_ble_eq_true rfl) ?_
      intro F hF
      simp (dsimp := false) only [go_sem, Nat.reduceAdd, Nat.reduceBEq, Nat.reduceEqDiff, Nat.reduceLT, Nat.reduceLeDiff, Nat.reduceMul, Int.reduceToNat, reduceCtorEq, ↓reduceIte, Tryd.ntmps14, Tryd.results14, ks_14, mu_14, ti_ag23, ti_ag25, ti_ag43, ti_fl25_1, ti_hb36, ti_hb37, ti_hb38, ti_hb39, ti_pl25, ti_sb22, ti_sb23, ti_sl23, ti_sz25, ti_zr25, itD, itV, rlV, rowD, rlD, hf, hl', in_14] at hF
      subst hF
      repeat' (first
        | with_reducible refine And.intro ?_ ?_
        | with_reducible intro _
        | with_reducible refine AWp_seq ?_
        | with_reducible refine AWp_block ?_
        | (with_reducible refine hKv _ _ (AWp_nop ?_); clear hKv Kv)
        | (with_reducible refine hKv _ _ ?_; clear hKv Kv; simp (dsimp := false) only [go_sem, Nat.reduceAdd, Nat.reduceBEq, Nat.reduceEqDiff, Nat.reduceLT, Nat.reduceLeDiff, Nat.reduceMul, Int.reduceToNat, reduceCtorEq, ↓reduceIte, Tryd.ntmps14, Tryd.results14, ks_14, mu_14, ti_ag23, ti_ag25, ti_ag43, ti_fl25_1, ti_hb36, ti_hb37, ti_hb38, ti_hb39, ti_pl25, ti_sb22, ti_sb23, ti_sl23, ti_sz25, ti_zr25, itD, itV, rlV, rowD, rlD, hf, hl'])
        | (with_reducible refine hKA ?_; clear hKA hKB KA KB)
        | (with_reducible refine hKB ?_; clear hKA hKB KA KB)
        | (with_reducible refine AWp_regC mu_14 ks_14 ?_; intro Kv hKv; simp (dsimp := false) only [go_sem, Nat.reduceAdd, Nat.reduceBEq, Nat.reduceEqDiff, Nat.reduceLT, Nat.reduceLeDiff, Nat.reduceMul, Int.reduceToNat, reduceCtorEq, ↓reduceIte, Tryd.ntmps14, Tryd.results14, ks_14, mu_14, ti_ag23, ti_ag25, ti_ag43, ti_fl25_1, ti_hb36, ti_hb37, ti_hb38, ti_hb39, ti_pl25, ti_sb22, ti_sb23, ti_sl23, ti_sz25, ti_zr25, itD, itV, rlV, rowD, rlD, hf, hl'])
        | with_reducible refine AWp_skipN ?_
        | with_reducible refine AWp_exitO (by repeat (first | with_reducible exact Out.hit | with_reducible apply Out.thenA | with_reducible apply Out.out rfl)) ?_
        | (with_reducible refine AWp_retR ?_; simp (dsimp := false) only [go_sem, Nat.reduceAdd, Nat.reduceBEq, Nat.reduceEqDiff, Nat.reduceLT, Nat.reduceLeDiff, Nat.reduceMul, Int.reduceToNat, reduceCtorEq, ↓reduceIte, Tryd.ntmps14, Tryd.results14, ks_14, mu_14, ti_ag23, ti_ag25, ti_ag43, ti_fl25_1, ti_hb36, ti_hb37, ti_hb38, ti_hb39, ti_pl25, ti_sb22, ti_sb23, ti_sl23, ti_sz25, ti_zr25, itD, itV, rlV, rowD, rlD, hf, hl'])
        | (with_reducible refine AWp_regE mu_14 ks_14 ?_; intro Kv hKv; simp (dsimp := false) only [go_sem, Nat.reduceAdd, Nat.reduceBEq, Nat.reduceEqDiff, Nat.reduceLT, Nat.reduceLeDiff, Nat.reduceMul, Int.reduceToNat, reduceCtorEq, ↓reduceIte, Tryd.ntmps14, Tryd.results14, ks_14, mu_14, ti_ag23, ti_ag25, ti_ag43, ti_fl25_1, ti_hb36, ti_hb37, ti_hb38, ti_hb39, ti_pl25, ti_sb22, ti_sb23, ti_sl23, ti_sz25, ti_zr25, itD, itV, rlV, rowD, rlD, hf, hl'])
        | (refine AWp_condC rfl ?_; intro KA KB hKA hKB; try simp only [onB_true, onB_false, onB_dec, onB_ndec, onB_not, onB_and, onB_or])
        | (refine AWp_condA rfl ?_ ?_)
        | (refine relFault_A r hS _ _ ?_; try simp (dsimp := false) only [go_sem, Nat.reduceAdd, Nat.reduceBEq, Nat.reduceEqDiff, Nat.reduceLT, Nat.reduceLeDiff, Nat.reduceMul, Int.reduceToNat, reduceCtorEq, ↓reduceIte, Tryd.ntmps14, Tryd.results14, ks_14, mu_14, ti_ag23, ti_ag25, ti_ag43, ti_fl25_1, ti_hb36, ti_hb37, ti_hb38, ti_hb39, ti_pl25, ti_sb22, ti_sb23, ti_sl23, ti_sz25, ti_zr25, itD, itV, rlV, rowD, rlD, hf, hl'])
        | (refine colsAt_A r hS olds ho _ _ ?_; try simp (dsimp := false) only [go_sem, Nat.reduceAdd, Nat.reduceBEq, Nat.reduceEqDiff, Nat.reduceLT, Nat.reduceLeDiff, Nat.reduceMul, Int.reduceToNat, reduceCtorEq, ↓reduceIte, Tryd.ntmps14, Tryd.results14, ks_14, mu_14, ti_ag23, ti_ag25, ti_ag43, ti_fl25_1, ti_hb36, ti_hb37, ti_hb38, ti_hb39, ti_pl25, ti_sb22, ti_sb23, ti_sl23, ti_sz25, ti_zr25, itD, itV, rlV, rowD, rlD, hf, hl'])
        | with_reducible refine onB_of ?_ ?_
        | with_reducible rfl
        | omega)
      all_goals exact dropF hk (fz_rl0 _ _ _) (bel_relE _ _ _)
  · rw [projected, if_neg hf] at hk
    
    refine ACalls_of Tryd.func14 rfl in_14 (Nat.le_of_ble_eq_true rfl) ?_
    intro F hF
    simp (dsimp := false) only [go_sem, Nat.reduceAdd, Nat.reduceBEq, Nat.reduceEqDiff, Nat.reduceLT, Nat.reduceLeDiff, Nat.reduceMul, Int.reduceToNat, reduceCtorEq, ↓reduceIte, Tryd.ntmps14, Tryd.results14, ks_14, mu_14, ti_ag23, ti_ag25, ti_ag43, ti_fl25_1, ti_hb36, ti_hb37, ti_hb38, ti_hb39, ti_pl25, ti_sb22, ti_sb23, ti_sl23, ti_sz25, ti_zr25, itD, itV, rlV, rowD, rlD, hf, in_14] at hF
    subst hF
    repeat' (first
      | with_reducible refine And.intro ?_ ?_
      | with_reducible intro _
      | with_reducible refine AWp_seq ?_
      | with_reducible refine AWp_block ?_
      | (with_reducible refine hKv _ _ (AWp_nop ?_); clear hKv Kv)
      | (with_reducible refine hKv _ _ ?_; clear hKv Kv; simp (dsimp := false) only [go_sem, Nat.reduceAdd, Nat.reduceBEq, Nat.reduceEqDiff, Nat.reduceLT, Nat.reduceLeDiff, Nat.reduceMul, Int.reduceToNat, reduceCtorEq, ↓reduceIte, Tryd.ntmps14, Tryd.results14, ks_14, mu_14, ti_ag23, ti_ag25, ti_ag43, ti_fl25_1, ti_hb36, ti_hb37, ti_hb38, ti_hb39, ti_pl25, ti_sb22, ti_sb23, ti_sl23, ti_sz25, ti_zr25, itD, itV, rlV, rowD, rlD, hf])
      | (with_reducible refine hKA ?_; clear hKA hKB KA KB)
      | (with_reducible refine hKB ?_; clear hKA hKB KA KB)
      | (with_reducible refine AWp_regC mu_14 ks_14 ?_; intro Kv hKv; simp (dsimp := false) only [go_sem, Nat.reduceAdd, Nat.reduceBEq, Nat.reduceEqDiff, Nat.reduceLT, Nat.reduceLeDiff, Nat.reduceMul, Int.reduceToNat, reduceCtorEq, ↓reduceIte, Tryd.ntmps14, Tryd.results14, ks_14, mu_14, ti_ag23, ti_ag25, ti_ag43, ti_fl25_1, ti_hb36, ti_hb37, ti_hb38, ti_hb39, ti_pl25, ti_sb22, ti_sb23, ti_sl23, ti_sz25, ti_zr25, itD, itV, rlV, rowD, rlD, hf])
      | with_reducible refine AWp_skipN ?_
      | with_reducible refine AWp_exitO (by repeat (first | with_reducible exact Out.hit | with_reducible apply Out.thenA | with_reducible apply Out.out rfl)) ?_
      | (with_reducible refine AWp_retR ?_; simp (dsimp := false) only [go_sem, Nat.reduceAdd, Nat.reduceBEq, Nat.reduceEqDiff, Nat.reduceLT, Nat.reduceLeDiff, Nat.reduceMul, Int.reduceToNat, reduceCtorEq, ↓reduceIte, Tryd.ntmps14, Tryd.results14, ks_14, mu_14, ti_ag23, ti_ag25, ti_ag43, ti_fl25_1, ti_hb36, ti_hb37, ti_hb38, ti_hb39, ti_pl25, ti_sb22, ti_sb23, ti_sl23, ti_sz25, ti_zr25, itD, itV, rlV, rowD, rlD, hf])
      | (with_reducible refine AWp_regE mu_14 ks_14 ?_; intro Kv hKv; simp (dsimp := false) only [go_sem, Nat.reduceAdd, Nat.reduceBEq, Nat.reduceEqDiff, Nat.reduceLT, Nat.reduceLeDiff, Nat.reduceMul, Int.reduceToNat, reduceCtorEq, ↓reduceIte, Tryd.ntmps14, Tryd.results14, ks_14, mu_14, ti_ag23, ti_ag25, ti_ag43, ti_fl25_1, ti_hb36, ti_hb37, ti_hb38, ti_hb39, ti_pl25, ti_sb22, ti_sb23, ti_sl23, ti_sz25, ti_zr25, itD, itV, rlV, rowD, rlD, hf])
      | (refine AWp_condC rfl ?_; intro KA KB hKA hKB; try simp only [onB_true, onB_false, onB_dec, onB_ndec, onB_not, onB_and, onB_or])
      | (refine AWp_condA rfl ?_ ?_)
      | (refine relFault_A r hS _ _ ?_; try simp (dsimp := false) only [go_sem, Nat.reduceAdd, Nat.reduceBEq, Nat.reduceEqDiff, Nat.reduceLT, Nat.reduceLeDiff, Nat.reduceMul, Int.reduceToNat, reduceCtorEq, ↓reduceIte, Tryd.ntmps14, Tryd.results14, ks_14, mu_14, ti_ag23, ti_ag25, ti_ag43, ti_fl25_1, ti_hb36, ti_hb37, ti_hb38, ti_hb39, ti_pl25, ti_sb22, ti_sb23, ti_sl23, ti_sz25, ti_zr25, itD, itV, rlV, rowD, rlD, hf])
      | (refine colsAt_A r hS olds ho _ _ ?_; try simp (dsimp := false) only [go_sem, Nat.reduceAdd, Nat.reduceBEq, Nat.reduceEqDiff, Nat.reduceLT, Nat.reduceLeDiff, Nat.reduceMul, Int.reduceToNat, reduceCtorEq, ↓reduceIte, Tryd.ntmps14, Tryd.results14, ks_14, mu_14, ti_ag23, ti_ag25, ti_ag43, ti_fl25_1, ti_hb36, ti_hb37, ti_hb38, ti_hb39, ti_pl25, ti_sb22, ti_sb23, ti_sl23, ti_sz25, ti_zr25, itD, itV, rlV, rowD, rlD, hf])
      | with_reducible refine onB_of ?_ ?_
      | with_reducible rfl
      | omega)
    all_goals exact dropF hk (fz_rl0 _ _ _) (bel_relE _ _ _)
end Go.Proofs.YtkfjocccceeieaaDoor
