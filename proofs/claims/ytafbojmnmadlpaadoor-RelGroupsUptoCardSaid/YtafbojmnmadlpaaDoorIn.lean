/- Whether a number lies within bounds: the reference's own test. No condition. -/
import Derived.Test.YtafbojmnmadlpaaDoorTi
set_option linter.all false
set_option linter.unusedSimpArgs false
set_option linter.unusedVariables false
namespace Go.Proofs.YtafbojmnmadlpaaDoor
open Go Go.Proofs.YtafbojmnmadlpaaDoor.Ab
variable [Glo]
set_option maxHeartbeats 1000000
set_option maxRecDepth 20000
/- the live slots of pleacher/pleacherref.In -/
def ks_72 : Nat → List Nat
  | 0 => [0, 1, 2]
  | 1 => [6]
  | _ => []
def mu_72 : List Nat := []
def in_72 : List Nat := [0, 1, 2]
theorem in_A (n l h : Int) (H : Heap) (K : V → Heap → Prop) (hk : K (.d (.b (decide (l ≤ n ∧ n ≤ h)))) H) : ACalls Tryd.prog 72 [.d (.i .i64 n), .d (.i .i64 l), .d (.i .i64 h)] H K := by
  refine ACalls_of Tryd.func72 rfl in_72 (Nat.le_of_ble_eq_true rfl) ?_
  intro F hF
  simp (dsimp := false) only [go_sem, Nat.reduceAdd, Nat.reduceBEq, Nat.reduceEqDiff, Nat.reduceLT, Nat.reduceLeDiff, Nat.reduceMul, Int.reduceToNat, reduceCtorEq, ↓reduceIte, Tryd.ntmps72, Tryd.results72, ks_72, mu_72, in_72] at hF
  subst hF
  repeat' (first
    | with_reducible refine And.intro ?_ ?_
    | with_reducible intro _
    | with_reducible refine AWp_seq ?_
    | with_reducible refine AWp_block ?_
    | (with_reducible refine hKv _ _ (AWp_nop ?_); clear hKv Kv)
    | (with_reducible refine hKv _ _ ?_; clear hKv Kv; simp (dsimp := false) only [go_sem, Nat.reduceAdd, Nat.reduceBEq, Nat.reduceEqDiff, Nat.reduceLT, Nat.reduceLeDiff, Nat.reduceMul, Int.reduceToNat, reduceCtorEq, ↓reduceIte, Tryd.ntmps72, Tryd.results72, ks_72, mu_72])
    | (with_reducible refine hKA ?_; clear hKA hKB KA KB)
    | (with_reducible refine hKB ?_; clear hKA hKB KA KB)
    | (with_reducible refine AWp_regC mu_72 ks_72 ?_; intro Kv hKv; simp (dsimp := false) only [go_sem, Nat.reduceAdd, Nat.reduceBEq, Nat.reduceEqDiff, Nat.reduceLT, Nat.reduceLeDiff, Nat.reduceMul, Int.reduceToNat, reduceCtorEq, ↓reduceIte, Tryd.ntmps72, Tryd.results72, ks_72, mu_72])
    | with_reducible refine AWp_skipN ?_
    | with_reducible refine AWp_exitO (by repeat (first | with_reducible exact Out.hit | with_reducible apply Out.thenA | with_reducible apply Out.out rfl)) ?_
    | (with_reducible refine AWp_retR ?_; simp (dsimp := false) only [go_sem, Nat.reduceAdd, Nat.reduceBEq, Nat.reduceEqDiff, Nat.reduceLT, Nat.reduceLeDiff, Nat.reduceMul, Int.reduceToNat, reduceCtorEq, ↓reduceIte, Tryd.ntmps72, Tryd.results72, ks_72, mu_72])
    | (with_reducible refine AWp_regE mu_72 ks_72 ?_; intro Kv hKv; simp (dsimp := false) only [go_sem, Nat.reduceAdd, Nat.reduceBEq, Nat.reduceEqDiff, Nat.reduceLT, Nat.reduceLeDiff, Nat.reduceMul, Int.reduceToNat, reduceCtorEq, ↓reduceIte, Tryd.ntmps72, Tryd.results72, ks_72, mu_72])
    | (refine AWp_condC rfl ?_; intro KA KB hKA hKB; try simp only [onB_true, onB_false, onB_dec, onB_ndec, onB_not, onB_and, onB_or])
    | (refine AWp_condA rfl ?_ ?_)
    | with_reducible refine onB_of ?_ ?_
    | with_reducible rfl
    | omega)
  all_goals refine keepD hk ?_
  all_goals simp [*]
end Go.Proofs.YtafbojmnmadlpaaDoor
