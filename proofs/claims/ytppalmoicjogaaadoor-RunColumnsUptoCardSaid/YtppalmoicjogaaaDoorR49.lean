/- Plans: are two lists of lists of texts the same. No condition. -/
import Derived.Test.YtppalmoicjogaaaDoorR48
set_option linter.all false
set_option linter.unusedSimpArgs false
set_option linter.unusedVariables false
namespace Go.Proofs.YtppalmoicjogaaaDoor
open Go Go.Proofs.YtppalmoicjogaaaDoor.Ab
variable [Glo] [U8]
set_option maxHeartbeats 4000000
set_option maxRecDepth 20000
def ks_8 : Nat → List Nat
  | 0 => [0, 1]
  | 1 => [0, 1, 10]
  | 2 => [4]
  | 3 => [0, 1, 5]
  | 4 => [0, 1, 5, 14]
  | 5 => [0, 1, 5]
  | 6 => [0, 1, 5, 26]
  | 7 => [4]
  | 8 => [4]
  | _ => []
def mu_8 : List Nat := []
def in_8 : List Nat := [0, 1]
def nd_8 : Nat → Nat
  | 6 => 9
  | _ => 0
theorem sameLists_A (l : List (List (List UInt8))) (hl : l.length ≤ 9223372036854775807) (hs : ∀ x, x ∈ l → x.length ≤ 9223372036854775807) (H : Heap) (K : V → Heap → Prop) (hk : K (.d (.b true)) H) :
    ACalls Tryd.prog 8 [.d (.sl 1 (l.map lsD)), .d (.sl 1 (l.map lsD))] H K := by
  have ii : ((l.length : Int) = (l.length : Int)) = True := eq_true rfl
  refine ACalls_of Tryd.func8 rfl in_8 (Nat.le_of_ble_eq_true rfl) ?_
  intro F hF
  simp (dsimp := false) only [go_sem, Nat.reduceAdd, Nat.reduceBEq, Nat.reduceEqDiff, Nat.reduceLT, Nat.reduceLeDiff, Nat.reduceMul, Int.reduceToNat, reduceCtorEq, ↓reduceIte, Tryd.ntmps8, Tryd.results8, ks_8, mu_8, nd_8, ti_ag48, ti_hb23, ti_sb24, ti_sl24, strRow, lsD, ii, in_8] at hF
  subst hF
  repeat' (first | with_reducible (first | refine And.intro ?_ ?_ | intro _ | refine AWp_seq ?_ | refine AWp_block ?_ | (refine hKv _ _ (AWp_nop ?_); clear hKv Kv) | (refine hKA ?_; clear hKA hKB KA KB) | (refine hKB ?_; clear hKA hKB KA KB) | refine AWp_skipN ?_ | refine AWp_exitO (by repeat (first | exact Out.hit | apply Out.thenA | apply Out.out rfl)) ?_) | (with_reducible (first | (refine hKv _ _ ?_; clear hKv Kv) | ((first | refine AWp_regC mu_8 ks_8 ?_ | refine AWp_draw nd_8 mu_8 ks_8 ti_mixed (by kernel_rfl) ?_ | refine AWp_regE mu_8 ks_8 ?_ | refine AWp_drawE nd_8 mu_8 ks_8 ti_mixed (by kernel_rfl) ?_); intro Kv hKv) | refine AWp_retR ?_); try simp (dsimp := false) only [go_sem, Nat.reduceAdd, Nat.reduceBEq, Nat.reduceEqDiff, Nat.reduceLT, Nat.reduceLeDiff, Nat.reduceMul, Int.reduceToNat, reduceCtorEq, ↓reduceIte, Tryd.ntmps8, Tryd.results8, ks_8, mu_8, nd_8, ti_ag48, ti_hb23, ti_sb24, ti_sl24, strRow, lsD, ii]) | (refine AWp_condC rfl ?_; intro KA KB hKA hKB; try simp only [onB_true, onB_false, onB_dec, onB_ndec, onB_not, onB_and, onB_or]) | (refine AWp_condA rfl ?_ ?_) | with_reducible (first | refine onB_of ?_ ?_ | rfl) | omega)
  refine AWp_while0 (fun i : Nat => i ≤ l.length) (fun i => [(0, .d (.sl 1 (l.map lsD))), (1, .d (.sl 1 (l.map lsD))), (5, .d (.i .i64 i))]) (fun i => l.length - i) 0 (Nat.zero_le _) ?_ ?_
  · simp (dsimp := false) only [go_sem, Nat.reduceAdd, Nat.reduceBEq, Nat.reduceEqDiff, Nat.reduceLT, Nat.reduceLeDiff, Nat.reduceMul, Int.reduceToNat, reduceCtorEq, ↓reduceIte, Tryd.ntmps8, Tryd.results8, ks_8, mu_8, nd_8, ti_ag48, ti_hb23, ti_sb24, ti_sl24, strRow, lsD, ii]
    first | done | simp
  rintro i hi
  by_cases hil : i < l.length
  · obtain ⟨x, hx⟩ : ∃ x, l[i]? = some x := ⟨l[i], List.getElem?_eq_getElem hil⟩
    have t1 : ((i : Int) < (l.length : Int)) = True := eq_true (by omega)
    have t2 : ((0 : Int) ≤ (i : Int)) = True := eq_true (by omega)
    have hsx := hs x (List.mem_of_getElem? hx)
    have hst := sameTexts_A x hsx
    repeat' (first | with_reducible (first | refine And.intro ?_ ?_ | intro _ | refine AWp_seq ?_ | refine AWp_block ?_ | (refine hKv _ _ (AWp_nop ?_); clear hKv Kv) | (refine hKA ?_; clear hKA hKB KA KB) | (refine hKB ?_; clear hKA hKB KA KB) | refine AWp_skipN ?_ | refine AWp_exitO (by repeat (first | exact Out.hit | apply Out.thenA | apply Out.out rfl)) ?_) | ((first | with_reducible (first | (refine hKv _ _ ?_; clear hKv Kv) | ((first | refine AWp_regC mu_8 ks_8 ?_ | refine AWp_draw nd_8 mu_8 ks_8 ti_mixed (by kernel_rfl) ?_ | refine AWp_regE mu_8 ks_8 ?_ | refine AWp_drawE nd_8 mu_8 ks_8 ti_mixed (by kernel_rfl) ?_); intro Kv hKv) | refine AWp_retR ?_) | refine hst _ _ ?_ | refine QCall_of (hst _ _ (Two_intro _ _)) ?_); try simp (dsimp := false) only [go_sem, Nat.reduceAdd, Nat.reduceBEq, Nat.reduceEqDiff, Nat.reduceLT, Nat.reduceLeDiff, Nat.reduceMul, Int.reduceToNat, reduceCtorEq, ↓reduceIte, Tryd.ntmps8, Tryd.results8, ks_8, mu_8, nd_8, ti_ag48, ti_hb23, ti_sb24, ti_sl24, strRow, lsD, hx, t1, t2]) | (refine AWp_condC rfl ?_; intro KA KB hKA hKB; try simp only [onB_true, onB_false, onB_dec, onB_ndec, onB_not, onB_and, onB_or]) | (refine AWp_condA rfl ?_ ?_) | with_reducible (first | refine onB_of ?_ ?_ | rfl) | omega)
    all_goals first
      | omega
      | exact ⟨i + 1, by omega, by omega, by omega⟩
  · have t1 : ((i : Int) < (l.length : Int)) = False := eq_false (by omega)
    repeat' (first | with_reducible (first | refine And.intro ?_ ?_ | intro _ | refine AWp_seq ?_ | refine AWp_block ?_ | (refine hKv _ _ (AWp_nop ?_); clear hKv Kv) | (refine hKA ?_; clear hKA hKB KA KB) | (refine hKB ?_; clear hKA hKB KA KB) | refine AWp_skipN ?_ | refine AWp_exitO (by repeat (first | exact Out.hit | apply Out.thenA | apply Out.out rfl)) ?_) | (with_reducible (first | (refine hKv _ _ ?_; clear hKv Kv) | ((first | refine AWp_regC mu_8 ks_8 ?_ | refine AWp_draw nd_8 mu_8 ks_8 ti_mixed (by kernel_rfl) ?_ | refine AWp_regE mu_8 ks_8 ?_ | refine AWp_drawE nd_8 mu_8 ks_8 ti_mixed (by kernel_rfl) ?_); intro Kv hKv) | refine AWp_retR ?_); try simp (dsimp := false) only [go_sem, Nat.reduceAdd, Nat.reduceBEq, Nat.reduceEqDiff, Nat.reduceLT, Nat.reduceLeDiff, Nat.reduceMul, Int.reduceToNat, reduceCtorEq, ↓reduceIte, Tryd.ntmps8, Tryd.results8, ks_8, mu_8, nd_8, ti_ag48, ti_hb23, ti_sb24, ti_sl24, strRow, lsD, t1]) | (refine AWp_condC rfl ?_; intro KA KB hKA hKB; try simp only [onB_true, onB_false, onB_dec, onB_ndec, onB_not, onB_and, onB_or]) | (refine AWp_condA rfl ?_ ?_) | with_reducible (first | refine onB_of ?_ ?_ | rfl) | omega)
    all_goals first
      | omega
      | exact keepD hk rfl
end Go.Proofs.YtppalmoicjogaaaDoor
