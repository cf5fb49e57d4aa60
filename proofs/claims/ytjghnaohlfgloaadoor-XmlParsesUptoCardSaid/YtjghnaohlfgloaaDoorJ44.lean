/- Two lists of events that are the same are found so. No condition. -/
import Derived.Test.YtjghnaohlfgloaaDoorJ19
set_option linter.all false
set_option linter.unusedSimpArgs false
set_option linter.unusedVariables false
namespace Go.Proofs.YtjghnaohlfgloaaDoor
open Go Go.Proofs.YtjghnaohlfgloaaDoor.Ab
variable [Glo]
set_option maxHeartbeats 4000000
set_option maxRecDepth 20000
def ks_18 : Nat → List Nat
  | 0 => [0, 1]
  | 1 => [0, 1, 10]
  | 2 => [4]
  | 3 => [0, 1, 5]
  | 4 => [0, 1, 5, 14]
  | 5 => [0, 1, 5]
  | 6 => [0, 1, 5, 25]
  | 7 => [4]
  | 8 => [4]
  | _ => []
def mu_18 : List Nat := []
def in_18 : List Nat := [0, 1]
def nd_18 : Nat → Nat
  | 6 => 8
  | _ => 0
theorem sameEvents_A (l : List Ev) (hlen : l.length ≤ 9223372036854775807) (H : Heap) (K : V → Heap → Prop) (hk : K (.d (.b true)) H) :
    ACalls Tryd.prog 18 [.d (.sl 3 (l.map evD)), .d (.sl 3 (l.map evD))] H K := by
  refine ACalls_of Tryd.func18 rfl in_18 (Nat.le_of_ble_eq_true rfl) ?_
  intro F hF
  simp (dsimp := false) only [go_sem, Nat.reduceAdd, Nat.reduceBEq, Nat.reduceEqDiff, Nat.reduceLT, Nat.reduceLeDiff, Nat.reduceMul, Int.reduceToNat, reduceCtorEq, ↓reduceIte, Tryd.ntmps18, Tryd.results18, ks_18, mu_18, nd_18, ti_ag97, ti_fe97, ti_sb43, ti_sl43, ti_sz97, evD, evV, in_18] at hF
  subst hF
  repeat' (first | with_reducible (first | refine And.intro ?_ ?_ | intro _ | refine AWp_seq ?_ | refine AWp_block ?_ | (refine hKv _ _ (AWp_nop ?_); clear hKv Kv) | (refine hKA ?_; clear hKA hKB KA KB) | (refine hKB ?_; clear hKA hKB KA KB) | refine AWp_skipN ?_ | refine AWp_exitO (by repeat (first | exact Out.hit | apply Out.thenA | apply Out.out rfl)) ?_) | (with_reducible (first | (refine hKv _ _ ?_; clear hKv Kv) | ((first | refine AWp_regC mu_18 ks_18 ?_ | refine AWp_draw nd_18 mu_18 ks_18 ti_mixed (by kernel_rfl) ?_ | refine AWp_regE mu_18 ks_18 ?_ | refine AWp_drawE nd_18 mu_18 ks_18 ti_mixed (by kernel_rfl) ?_); intro Kv hKv) | refine AWp_retR ?_); try simp (dsimp := false) only [go_sem, Nat.reduceAdd, Nat.reduceBEq, Nat.reduceEqDiff, Nat.reduceLT, Nat.reduceLeDiff, Nat.reduceMul, Int.reduceToNat, reduceCtorEq, ↓reduceIte, Tryd.ntmps18, Tryd.results18, ks_18, mu_18, nd_18, ti_ag97, ti_fe97, ti_sb43, ti_sl43, ti_sz97, evD, evV]) | (refine AWp_condC rfl ?_; intro KA KB hKA hKB; try simp only [onB_true, onB_false, onB_dec, onB_ndec, onB_not, onB_and, onB_or]) | (refine AWp_condA rfl ?_ ?_) | with_reducible (first | refine onB_of ?_ ?_ | rfl) | omega)
  refine AWp_while0 (fun i : Nat => i ≤ l.length) (fun i => [(0, .d (.sl 3 (l.map evD))), (1, .d (.sl 3 (l.map evD))), (5, .d (.i .i64 i))]) (fun i => l.length - i) 0 (Nat.zero_le _) ?_ ?_
  · simp (dsimp := false) only [go_sem, Nat.reduceAdd, Nat.reduceBEq, Nat.reduceEqDiff, Nat.reduceLT, Nat.reduceLeDiff, Nat.reduceMul, Int.reduceToNat, reduceCtorEq, ↓reduceIte, Tryd.ntmps18, Tryd.results18, ks_18, mu_18, nd_18, ti_ag97, ti_fe97, ti_sb43, ti_sl43, ti_sz97, evD, evV]
    first | done | simp
  rintro i hi
  repeat' (first | with_reducible (first | refine And.intro ?_ ?_ | intro _ | refine AWp_seq ?_ | refine AWp_block ?_ | (refine hKv _ _ (AWp_nop ?_); clear hKv Kv) | (refine hKA ?_; clear hKA hKB KA KB) | (refine hKB ?_; clear hKA hKB KA KB) | refine AWp_skipN ?_ | refine AWp_exitO (by repeat (first | exact Out.hit | apply Out.thenA | apply Out.out rfl)) ?_) | (with_reducible (first | (refine hKv _ _ ?_; clear hKv Kv) | ((first | refine AWp_regC mu_18 ks_18 ?_ | refine AWp_draw nd_18 mu_18 ks_18 ti_mixed (by kernel_rfl) ?_ | refine AWp_regE mu_18 ks_18 ?_ | refine AWp_drawE nd_18 mu_18 ks_18 ti_mixed (by kernel_rfl) ?_); intro Kv hKv) | refine AWp_retR ?_); try simp (dsimp := false) only [go_sem, Nat.reduceAdd, Nat.reduceBEq, Nat.reduceEqDiff, Nat.reduceLT, Nat.reduceLeDiff, Nat.reduceMul, Int.reduceToNat, reduceCtorEq, ↓reduceIte, Tryd.ntmps18, Tryd.results18, ks_18, mu_18, nd_18, ti_ag97, ti_fe97, ti_sb43, ti_sl43, ti_sz97, evD, evV]) | (refine AWp_condC rfl ?_; intro KA KB hKA hKB; try simp only [onB_true, onB_false, onB_dec, onB_ndec, onB_not, onB_and, onB_or]) | (refine AWp_condA rfl ?_ ?_) | with_reducible (first | refine onB_of ?_ ?_ | rfl) | omega)
  all_goals first
    | exact ⟨i + 1, by omega, by omega, by omega⟩
    | exact keepD hk rfl
    | (exfalso; simp_all)
end Go.Proofs.YtjghnaohlfgloaaDoor
