/- Rows of two relations one behind the other: what the program and the reference make. No condition but that the tables of package unicode/utf8 are there. -/
import Derived.Test.YtafbojmnmadlpaaDoorPj1
import Derived.Test.YtafbojmnmadlpaaDoorCc
set_option linter.all false
set_option linter.unusedSimpArgs false
set_option linter.unusedVariables false
namespace Go.Proofs.YtafbojmnmadlpaaDoor
open Go Go.Proofs.YtafbojmnmadlpaaDoor.Ab
variable [Glo] [U8]
set_option maxHeartbeats 4000000
set_option maxRecDepth 20000

/- the live slots of pleacher/rel.both -/
def ks_53 : Nat → List Nat
  | 0 => [2, 3]
  | 1 => [3, 5]
  | 2 => [3, 5, 9]
  | 3 => [4]
  | 4 => [4]
  | _ => []
def mu_53 : List Nat := []
def in_53 : List Nat := [0, 1]
theorem both_A (a b : Rl) (hA : ShR a) (hB : ShR b) (H : Heap) (K : V → Heap → Prop) (hk : K (.d (.i .i64 (twoFault a b))) H) : ACalls Tryd.prog 53 [rlV a, rlV b] H K := by
  refine ACalls_of Tryd.func53 rfl in_53 (Nat.le_of_ble_eq_true rfl) ?_
  intro F hF
  simp (dsimp := false) only [go_sem, Nat.reduceAdd, Nat.reduceBEq, Nat.reduceEqDiff, Nat.reduceLT, Nat.reduceLeDiff, Nat.reduceMul, Int.reduceToNat, reduceCtorEq, ↓reduceIte, Tryd.ntmps53, Tryd.results53, ks_53, mu_53, ti_ag25, ti_hb43, ti_sz25, itD, itV, rlV, rowD, rlD, in_53] at hF
  subst hF
  repeat' (first
    | with_reducible refine And.intro ?_ ?_
    | with_reducible intro _
    | with_reducible refine AWp_seq ?_
    | with_reducible refine AWp_block ?_
    | (with_reducible refine hKv _ _ (AWp_nop ?_); clear hKv Kv)
    | (with_reducible refine hKv _ _ ?_; clear hKv Kv; simp (dsimp := false) only [go_sem, Nat.reduceAdd, Nat.reduceBEq, Nat.reduceEqDiff, Nat.reduceLT, Nat.reduceLeDiff, Nat.reduceMul, Int.reduceToNat, reduceCtorEq, ↓reduceIte, Tryd.ntmps53, Tryd.results53, ks_53, mu_53, ti_ag25, ti_hb43, ti_sz25, itD, itV, rlV, rowD, rlD])
    | (with_reducible refine hKA ?_; clear hKA hKB KA KB)
    | (with_reducible refine hKB ?_; clear hKA hKB KA KB)
    | (with_reducible refine AWp_regC mu_53 ks_53 ?_; intro Kv hKv; simp (dsimp := false) only [go_sem, Nat.reduceAdd, Nat.reduceBEq, Nat.reduceEqDiff, Nat.reduceLT, Nat.reduceLeDiff, Nat.reduceMul, Int.reduceToNat, reduceCtorEq, ↓reduceIte, Tryd.ntmps53, Tryd.results53, ks_53, mu_53, ti_ag25, ti_hb43, ti_sz25, itD, itV, rlV, rowD, rlD])
    | with_reducible refine AWp_skipN ?_
    | with_reducible refine AWp_exitO (by repeat (first | with_reducible exact Out.hit | with_reducible apply Out.thenA | with_reducible apply Out.out rfl)) ?_
    | (with_reducible refine AWp_retR ?_; simp (dsimp := false) only [go_sem, Nat.reduceAdd, Nat.reduceBEq, Nat.reduceEqDiff, Nat.reduceLT, Nat.reduceLeDiff, Nat.reduceMul, Int.reduceToNat, reduceCtorEq, ↓reduceIte, Tryd.ntmps53, Tryd.results53, ks_53, mu_53, ti_ag25, ti_hb43, ti_sz25, itD, itV, rlV, rowD, rlD])
    | (with_reducible refine AWp_regE mu_53 ks_53 ?_; intro Kv hKv; simp (dsimp := false) only [go_sem, Nat.reduceAdd, Nat.reduceBEq, Nat.reduceEqDiff, Nat.reduceLT, Nat.reduceLeDiff, Nat.reduceMul, Int.reduceToNat, reduceCtorEq, ↓reduceIte, Tryd.ntmps53, Tryd.results53, ks_53, mu_53, ti_ag25, ti_hb43, ti_sz25, itD, itV, rlV, rowD, rlD])
    | (refine AWp_condC rfl ?_; intro KA KB hKA hKB; try simp only [onB_true, onB_false, onB_dec, onB_ndec, onB_not, onB_and, onB_or])
    | (refine AWp_condA rfl ?_ ?_)
    | ((first | refine relCheck_A a hA _ _ ?_ | refine relCheck_A b hB _ _ ?_); try simp (dsimp := false) only [go_sem, Nat.reduceAdd, Nat.reduceBEq, Nat.reduceEqDiff, Nat.reduceLT, Nat.reduceLeDiff, Nat.reduceMul, Int.reduceToNat, reduceCtorEq, ↓reduceIte, Tryd.ntmps53, Tryd.results53, ks_53, mu_53, ti_ag25, ti_hb43, ti_sz25, itD, itV, rlV, rowD, rlD])
    | with_reducible refine onB_of ?_ ?_
    | with_reducible rfl
    | omega)
  all_goals first
    | exact dropD hk (by simp [twoFault, *])
    | exact keepD hk (by simp [twoFault, *])
/- the live slots of pleacher/pleacherref.twoFault -/
def ks_56 : Nat → List Nat
  | 0 => [2, 3]
  | 1 => [3, 5]
  | 2 => [3, 5, 9]
  | 3 => [5]
  | 4 => [4]
  | _ => []
def mu_56 : List Nat := []
def in_56 : List Nat := [0, 1]
theorem refTwoFault_A (a b : Rl) (hA : ShR a) (hB : ShR b) (H : Heap) (K : V → Heap → Prop) (hk : K (.d (.i .i64 (twoFault a b))) H) : ACalls Tryd.prog 56 [rlV a, rlV b] H K := by
  refine ACalls_of Tryd.func56 rfl in_56 (Nat.le_of_ble_eq_true rfl) ?_
  intro F hF
  simp (dsimp := false) only [go_sem, Nat.reduceAdd, Nat.reduceBEq, Nat.reduceEqDiff, Nat.reduceLT, Nat.reduceLeDiff, Nat.reduceMul, Int.reduceToNat, reduceCtorEq, ↓reduceIte, Tryd.ntmps56, Tryd.results56, ks_56, mu_56, ti_ag25, ti_hb47, ti_sz25, itD, itV, rlV, rowD, rlD, in_56] at hF
  subst hF
  repeat' (first
    | with_reducible refine And.intro ?_ ?_
    | with_reducible intro _
    | with_reducible refine AWp_seq ?_
    | with_reducible refine AWp_block ?_
    | (with_reducible refine hKv _ _ (AWp_nop ?_); clear hKv Kv)
    | (with_reducible refine hKv _ _ ?_; clear hKv Kv; simp (dsimp := false) only [go_sem, Nat.reduceAdd, Nat.reduceBEq, Nat.reduceEqDiff, Nat.reduceLT, Nat.reduceLeDiff, Nat.reduceMul, Int.reduceToNat, reduceCtorEq, ↓reduceIte, Tryd.ntmps56, Tryd.results56, ks_56, mu_56, ti_ag25, ti_hb47, ti_sz25, itD, itV, rlV, rowD, rlD])
    | (with_reducible refine hKA ?_; clear hKA hKB KA KB)
    | (with_reducible refine hKB ?_; clear hKA hKB KA KB)
    | (with_reducible refine AWp_regC mu_56 ks_56 ?_; intro Kv hKv; simp (dsimp := false) only [go_sem, Nat.reduceAdd, Nat.reduceBEq, Nat.reduceEqDiff, Nat.reduceLT, Nat.reduceLeDiff, Nat.reduceMul, Int.reduceToNat, reduceCtorEq, ↓reduceIte, Tryd.ntmps56, Tryd.results56, ks_56, mu_56, ti_ag25, ti_hb47, ti_sz25, itD, itV, rlV, rowD, rlD])
    | with_reducible refine AWp_skipN ?_
    | with_reducible refine AWp_exitO (by repeat (first | with_reducible exact Out.hit | with_reducible apply Out.thenA | with_reducible apply Out.out rfl)) ?_
    | (with_reducible refine AWp_retR ?_; simp (dsimp := false) only [go_sem, Nat.reduceAdd, Nat.reduceBEq, Nat.reduceEqDiff, Nat.reduceLT, Nat.reduceLeDiff, Nat.reduceMul, Int.reduceToNat, reduceCtorEq, ↓reduceIte, Tryd.ntmps56, Tryd.results56, ks_56, mu_56, ti_ag25, ti_hb47, ti_sz25, itD, itV, rlV, rowD, rlD])
    | (with_reducible refine AWp_regE mu_56 ks_56 ?_; intro Kv hKv; simp (dsimp := false) only [go_sem, Nat.reduceAdd, Nat.reduceBEq, Nat.reduceEqDiff, Nat.reduceLT, Nat.reduceLeDiff, Nat.reduceMul, Int.reduceToNat, reduceCtorEq, ↓reduceIte, Tryd.ntmps56, Tryd.results56, ks_56, mu_56, ti_ag25, ti_hb47, ti_sz25, itD, itV, rlV, rowD, rlD])
    | (refine AWp_condC rfl ?_; intro KA KB hKA hKB; try simp only [onB_true, onB_false, onB_dec, onB_ndec, onB_not, onB_and, onB_or])
    | (refine AWp_condA rfl ?_ ?_)
    | ((first | refine relFault_A a hA _ _ ?_ | refine relFault_A b hB _ _ ?_); try simp (dsimp := false) only [go_sem, Nat.reduceAdd, Nat.reduceBEq, Nat.reduceEqDiff, Nat.reduceLT, Nat.reduceLeDiff, Nat.reduceMul, Int.reduceToNat, reduceCtorEq, ↓reduceIte, Tryd.ntmps56, Tryd.results56, ks_56, mu_56, ti_ag25, ti_hb47, ti_sz25, itD, itV, rlV, rowD, rlD])
    | with_reducible refine onB_of ?_ ?_
    | with_reducible rfl
    | omega)
  all_goals first
    | exact dropD hk (by simp [twoFault, *])
    | exact keepD hk (by simp [twoFault, *])
theorem cat2Str (x y : List (List UInt8)) (hl : x.length + y.length ≤ 1000000000000) (H : Heap) (K : V → Heap → Prop) (hk : K (.d (.sl 1 ((x ++ y).map strRow))) H) :
    ACalls Tryd.prog 55 [.d (.sl 1 [[.sl 1 (x.map strRow)], [.sl 1 (y.map strRow)]])] H K :=
  concatStr_A [x.map strRow, y.map strRow] (by simp) (by simp; omega) H K (by simpa using hk)
theorem cat2Its (x y : List It) (hl : x.length + y.length ≤ 1000000000000) (H : Heap) (K : V → Heap → Prop) (hk : K (.d (.sl 3 ((x ++ y).map itD))) H) :
    ACalls Tryd.prog 54 [.d (.sl 1 [[.sl 3 (x.map itD)], [.sl 3 (y.map itD)]])] H K :=
  concatIts_A [x.map itD, y.map itD] (by simp) (by simp; omega) H K (by simpa using hk)
theorem ref2Str (x y : List (List UInt8)) (hx : x.length ≤ 1048576) (hy : y.length ≤ 1048576) (H : Heap) (K : V → Heap → Prop) (hk : K (.d (.sl 1 ((x ++ y).map strRow))) H) :
    ACalls Tryd.prog 58 [.d (.sl 1 [[.sl 1 (x.map strRow)], [.sl 1 (y.map strRow)]])] H K :=
  texts_A [x, y] (by simp) (by simp [hx, hy]) (by simp; omega) H K (by simpa using hk)
theorem ref2Its (x y : List It) (hx : x.length ≤ 1048576) (hy : y.length ≤ 1048576) (H : Heap) (K : V → Heap → Prop) (hk : K (.d (.sl 3 ((x ++ y).map itD))) H) :
    ACalls Tryd.prog 59 [.d (.sl 1 [[.sl 3 (x.map itD)], [.sl 3 (y.map itD)]])] H K :=
  items_A [x, y] (by simp) (by simp [hx, hy]) (by simp; omega) H K (by simpa using hk)
theorem ref1Its (x : List It) (hx : x.length ≤ 1048576) (H : Heap) (K : V → Heap → Prop) (hk : K (.d (.sl 3 (x.map itD))) H) :
    ACalls Tryd.prog 59 [.d (.sl 1 [[.sl 3 (x.map itD)]])] H K :=
  items_A [x] (by simp) (by simp [hx]) (by simp; omega) H K (by simpa using hk)


theorem take_le {α : Type} (l : List α) (i : Nat) : (l.take i).length ≤ l.length := by rw [List.length_take]; omega

end Go.Proofs.YtafbojmnmadlpaaDoor
