/- Items: what the reference and the program check of them. No condition but that the tables of package unicode/utf8 are there. -/
import Derived.Test.YtafbojmnmadlpaaDoorXml2
import Derived.Test.YtafbojmnmadlpaaDoorIn
import Derived.Test.YtafbojmnmadlpaaDoorDat
set_option linter.all false
set_option linter.unusedSimpArgs false
set_option linter.unusedVariables false
namespace Go.Proofs.YtafbojmnmadlpaaDoor
open Go Go.Proofs.YtafbojmnmadlpaaDoor.Ab
variable [Glo] [U8]
set_option maxHeartbeats 1000000
set_option maxRecDepth 20000

def itemB (x : It) : Bool :=
  if x.k = 1 then decide (0 ≤ x.n ∧ x.n < 100000 ∧ x.s = [])
  else if x.k = 2 then decide (-1099511627776 ≤ x.n ∧ x.n ≤ 1099511627776 ∧ x.s = [])
  else if x.k = 3 then decide (x.n = 0 ∧ textFault x.s = 0)
  else if x.k = 4 then decide ((x.n = 0 ∨ x.n = 1) ∧ x.s = [])
  else false
def itemFault (x : It) : Int := if itemB x = true then 0 else 12
/- the live slots of pleacher/rel.item -/
def ks_98 : Nat → List Nat
  | 0 => [1]
  | 1 => [1, 4]
  | 2 => [1, 4, 5]
  | 3 => [2]
  | 4 => [1, 4, 20]
  | 5 => [2]
  | 6 => [1, 4, 35]
  | 7 => [2]
  | 8 => [1, 46]
  | 9 => [2]
  | 10 => [2]
  | _ => []
def mu_98 : List Nat := []
def in_98 : List Nat := [0]
theorem item_A (x : It) (hs : x.s.length ≤ 9223372036854775807) (H : Heap) (K : V → Heap → Prop) (hk : K (.d (.b (itemB x))) H) : ACalls Tryd.prog 98 [itV x] H K := by
  refine ACalls_of Tryd.func98 rfl in_98 (Nat.le_of_ble_eq_true rfl) ?_
  intro F hF
  simp (dsimp := false) only [go_sem, Nat.reduceAdd, Nat.reduceBEq, Nat.reduceEqDiff, Nat.reduceLT, Nat.reduceLeDiff, Nat.reduceMul, Int.reduceToNat, reduceCtorEq, ↓reduceIte, Tryd.ntmps98, Tryd.results98, ks_98, mu_98, ti_ag3, ti_ag9, ti_fl35_0, ti_fl35_1, ti_fl35_2, ti_hb114, itD, itV, in_98] at hF
  subst hF
  repeat' (first
    | with_reducible refine And.intro ?_ ?_
    | with_reducible intro _
    | with_reducible refine AWp_seq ?_
    | with_reducible refine AWp_block ?_
    | (with_reducible refine hKv _ _ (AWp_nop ?_); clear hKv Kv)
    | (with_reducible refine hKv _ _ ?_; clear hKv Kv; simp (dsimp := false) only [go_sem, Nat.reduceAdd, Nat.reduceBEq, Nat.reduceEqDiff, Nat.reduceLT, Nat.reduceLeDiff, Nat.reduceMul, Int.reduceToNat, reduceCtorEq, ↓reduceIte, Tryd.ntmps98, Tryd.results98, ks_98, mu_98, ti_ag3, ti_ag9, ti_fl35_0, ti_fl35_1, ti_fl35_2, ti_hb114, itD, itV])
    | (with_reducible refine hKA ?_; clear hKA hKB KA KB)
    | (with_reducible refine hKB ?_; clear hKA hKB KA KB)
    | (with_reducible refine AWp_regC mu_98 ks_98 ?_; intro Kv hKv; simp (dsimp := false) only [go_sem, Nat.reduceAdd, Nat.reduceBEq, Nat.reduceEqDiff, Nat.reduceLT, Nat.reduceLeDiff, Nat.reduceMul, Int.reduceToNat, reduceCtorEq, ↓reduceIte, Tryd.ntmps98, Tryd.results98, ks_98, mu_98, ti_ag3, ti_ag9, ti_fl35_0, ti_fl35_1, ti_fl35_2, ti_hb114, itD, itV])
    | with_reducible refine AWp_skipN ?_
    | with_reducible refine AWp_exitO (by repeat (first | with_reducible exact Out.hit | with_reducible apply Out.thenA | with_reducible apply Out.out rfl)) ?_
    | (with_reducible refine AWp_retR ?_; simp (dsimp := false) only [go_sem, Nat.reduceAdd, Nat.reduceBEq, Nat.reduceEqDiff, Nat.reduceLT, Nat.reduceLeDiff, Nat.reduceMul, Int.reduceToNat, reduceCtorEq, ↓reduceIte, Tryd.ntmps98, Tryd.results98, ks_98, mu_98, ti_ag3, ti_ag9, ti_fl35_0, ti_fl35_1, ti_fl35_2, ti_hb114, itD, itV])
    | (with_reducible refine AWp_regE mu_98 ks_98 ?_; intro Kv hKv; simp (dsimp := false) only [go_sem, Nat.reduceAdd, Nat.reduceBEq, Nat.reduceEqDiff, Nat.reduceLT, Nat.reduceLeDiff, Nat.reduceMul, Int.reduceToNat, reduceCtorEq, ↓reduceIte, Tryd.ntmps98, Tryd.results98, ks_98, mu_98, ti_ag3, ti_ag9, ti_fl35_0, ti_fl35_1, ti_fl35_2, ti_hb114, itD, itV])
    | (refine AWp_condC rfl ?_; intro KA KB hKA hKB; try simp only [onB_true, onB_false, onB_dec, onB_ndec, onB_not, onB_and, onB_or])
    | (refine AWp_condA rfl ?_ ?_)
    | (refine checkText_A _ hs _ _ ?_; try simp (dsimp := false) only [go_sem, Nat.reduceAdd, Nat.reduceBEq, Nat.reduceEqDiff, Nat.reduceLT, Nat.reduceLeDiff, Nat.reduceMul, Int.reduceToNat, reduceCtorEq, ↓reduceIte, Tryd.ntmps98, Tryd.results98, ks_98, mu_98, ti_ag3, ti_ag9, ti_fl35_0, ti_fl35_1, ti_fl35_2, ti_hb114, itD, itV])
    | with_reducible refine onB_of ?_ ?_
    | with_reducible rfl
    | omega)
  all_goals exact keepD hk (by (simp only [V.d.injEq, D.i.injEq, D.b.injEq, D.s.injEq, true_and]; grind [itemB]))
/- the live slots of pleacher/rel.CheckItem -/
def ks_135 : Nat → List Nat
  | 0 => [1]
  | 1 => [5]
  | 2 => [2]
  | 3 => [2]
  | _ => []
def mu_135 : List Nat := []
def in_135 : List Nat := [0]
theorem checkItem_A (x : It) (hs : x.s.length ≤ 9223372036854775807) (H : Heap) (K : V → Heap → Prop) (hk : K (.d (.i .i64 (itemFault x))) H) : ACalls Tryd.prog 135 [itV x] H K := by
  refine ACalls_of Tryd.func135 rfl in_135 (Nat.le_of_ble_eq_true rfl) ?_
  intro F hF
  simp (dsimp := false) only [go_sem, Nat.reduceAdd, Nat.reduceBEq, Nat.reduceEqDiff, Nat.reduceLT, Nat.reduceLeDiff, Nat.reduceMul, Int.reduceToNat, reduceCtorEq, ↓reduceIte, Tryd.ntmps135, Tryd.results135, ks_135, mu_135, ti_ag35, ti_hb98, ti_sz35, itD, itV, in_135] at hF
  subst hF
  repeat' (first
    | with_reducible refine And.intro ?_ ?_
    | with_reducible intro _
    | with_reducible refine AWp_seq ?_
    | with_reducible refine AWp_block ?_
    | (with_reducible refine hKv _ _ (AWp_nop ?_); clear hKv Kv)
    | (with_reducible refine hKv _ _ ?_; clear hKv Kv; simp (dsimp := false) only [go_sem, Nat.reduceAdd, Nat.reduceBEq, Nat.reduceEqDiff, Nat.reduceLT, Nat.reduceLeDiff, Nat.reduceMul, Int.reduceToNat, reduceCtorEq, ↓reduceIte, Tryd.ntmps135, Tryd.results135, ks_135, mu_135, ti_ag35, ti_hb98, ti_sz35, itD, itV])
    | (with_reducible refine hKA ?_; clear hKA hKB KA KB)
    | (with_reducible refine hKB ?_; clear hKA hKB KA KB)
    | (with_reducible refine AWp_regC mu_135 ks_135 ?_; intro Kv hKv; simp (dsimp := false) only [go_sem, Nat.reduceAdd, Nat.reduceBEq, Nat.reduceEqDiff, Nat.reduceLT, Nat.reduceLeDiff, Nat.reduceMul, Int.reduceToNat, reduceCtorEq, ↓reduceIte, Tryd.ntmps135, Tryd.results135, ks_135, mu_135, ti_ag35, ti_hb98, ti_sz35, itD, itV])
    | with_reducible refine AWp_skipN ?_
    | with_reducible refine AWp_exitO (by repeat (first | with_reducible exact Out.hit | with_reducible apply Out.thenA | with_reducible apply Out.out rfl)) ?_
    | (with_reducible refine AWp_retR ?_; simp (dsimp := false) only [go_sem, Nat.reduceAdd, Nat.reduceBEq, Nat.reduceEqDiff, Nat.reduceLT, Nat.reduceLeDiff, Nat.reduceMul, Int.reduceToNat, reduceCtorEq, ↓reduceIte, Tryd.ntmps135, Tryd.results135, ks_135, mu_135, ti_ag35, ti_hb98, ti_sz35, itD, itV])
    | (with_reducible refine AWp_regE mu_135 ks_135 ?_; intro Kv hKv; simp (dsimp := false) only [go_sem, Nat.reduceAdd, Nat.reduceBEq, Nat.reduceEqDiff, Nat.reduceLT, Nat.reduceLeDiff, Nat.reduceMul, Int.reduceToNat, reduceCtorEq, ↓reduceIte, Tryd.ntmps135, Tryd.results135, ks_135, mu_135, ti_ag35, ti_hb98, ti_sz35, itD, itV])
    | (refine AWp_condC rfl ?_; intro KA KB hKA hKB; try simp only [onB_true, onB_false, onB_dec, onB_ndec, onB_not, onB_and, onB_or])
    | (refine AWp_condA rfl ?_ ?_)
    | (refine item_A _ hs _ _ ?_; try simp (dsimp := false) only [go_sem, Nat.reduceAdd, Nat.reduceBEq, Nat.reduceEqDiff, Nat.reduceLT, Nat.reduceLeDiff, Nat.reduceMul, Int.reduceToNat, reduceCtorEq, ↓reduceIte, Tryd.ntmps135, Tryd.results135, ks_135, mu_135, ti_ag35, ti_hb98, ti_sz35, itD, itV])
    | with_reducible refine onB_of ?_ ?_
    | with_reducible rfl
    | omega)
  all_goals exact keepD hk (by (simp only [V.d.injEq, D.i.injEq, D.b.injEq, D.s.injEq, true_and]; grind [itemFault]))
/- the live slots of pleacher/pleacherref.ItemMay -/
def ks_100 : Nat → List Nat
  | 0 => [1]
  | 1 => [1, 4]
  | 2 => [1, 4, 5]
  | 3 => [2]
  | 4 => [1, 4, 15]
  | 5 => [2]
  | 6 => [1, 4, 25]
  | 7 => [2]
  | 8 => [1, 36]
  | 9 => [2]
  | 10 => [2]
  | _ => []
def mu_100 : List Nat := []
def in_100 : List Nat := [0]
theorem itemMay_A (x : It) (hs : x.s.length ≤ 9223372036854775807) (H : Heap) (K : V → Heap → Prop) (hk : K (.d (.b (itemB x))) H) : ACalls Tryd.prog 100 [itV x] H K := by
  refine ACalls_of Tryd.func100 rfl in_100 (Nat.le_of_ble_eq_true rfl) ?_
  intro F hF
  simp (dsimp := false) only [go_sem, Nat.reduceAdd, Nat.reduceBEq, Nat.reduceEqDiff, Nat.reduceLT, Nat.reduceLeDiff, Nat.reduceMul, Int.reduceToNat, reduceCtorEq, ↓reduceIte, Tryd.ntmps100, Tryd.results100, ks_100, mu_100, ti_ag3, ti_ag9, ti_fl35_0, ti_fl35_1, ti_fl35_2, ti_hb72, ti_hb74, itD, itV, in_100] at hF
  subst hF
  repeat' (first
    | with_reducible refine And.intro ?_ ?_
    | with_reducible intro _
    | with_reducible refine AWp_seq ?_
    | with_reducible refine AWp_block ?_
    | (with_reducible refine hKv _ _ (AWp_nop ?_); clear hKv Kv)
    | (with_reducible refine hKv _ _ ?_; clear hKv Kv; simp (dsimp := false) only [go_sem, Nat.reduceAdd, Nat.reduceBEq, Nat.reduceEqDiff, Nat.reduceLT, Nat.reduceLeDiff, Nat.reduceMul, Int.reduceToNat, reduceCtorEq, ↓reduceIte, Tryd.ntmps100, Tryd.results100, ks_100, mu_100, ti_ag3, ti_ag9, ti_fl35_0, ti_fl35_1, ti_fl35_2, ti_hb72, ti_hb74, itD, itV])
    | (with_reducible refine hKA ?_; clear hKA hKB KA KB)
    | (with_reducible refine hKB ?_; clear hKA hKB KA KB)
    | (with_reducible refine AWp_regC mu_100 ks_100 ?_; intro Kv hKv; simp (dsimp := false) only [go_sem, Nat.reduceAdd, Nat.reduceBEq, Nat.reduceEqDiff, Nat.reduceLT, Nat.reduceLeDiff, Nat.reduceMul, Int.reduceToNat, reduceCtorEq, ↓reduceIte, Tryd.ntmps100, Tryd.results100, ks_100, mu_100, ti_ag3, ti_ag9, ti_fl35_0, ti_fl35_1, ti_fl35_2, ti_hb72, ti_hb74, itD, itV])
    | with_reducible refine AWp_skipN ?_
    | with_reducible refine AWp_exitO (by repeat (first | with_reducible exact Out.hit | with_reducible apply Out.thenA | with_reducible apply Out.out rfl)) ?_
    | (with_reducible refine AWp_retR ?_; simp (dsimp := false) only [go_sem, Nat.reduceAdd, Nat.reduceBEq, Nat.reduceEqDiff, Nat.reduceLT, Nat.reduceLeDiff, Nat.reduceMul, Int.reduceToNat, reduceCtorEq, ↓reduceIte, Tryd.ntmps100, Tryd.results100, ks_100, mu_100, ti_ag3, ti_ag9, ti_fl35_0, ti_fl35_1, ti_fl35_2, ti_hb72, ti_hb74, itD, itV])
    | (with_reducible refine AWp_regE mu_100 ks_100 ?_; intro Kv hKv; simp (dsimp := false) only [go_sem, Nat.reduceAdd, Nat.reduceBEq, Nat.reduceEqDiff, Nat.reduceLT, Nat.reduceLeDiff, Nat.reduceMul, Int.reduceToNat, reduceCtorEq, ↓reduceIte, Tryd.ntmps100, Tryd.results100, ks_100, mu_100, ti_ag3, ti_ag9, ti_fl35_0, ti_fl35_1, ti_fl35_2, ti_hb72, ti_hb74, itD, itV])
    | (refine AWp_condC rfl ?_; intro KA KB hKA hKB; try simp only [onB_true, onB_false, onB_dec, onB_ndec, onB_not, onB_and, onB_or])
    | (refine AWp_condA rfl ?_ ?_)
    | ((first | refine valueFault_A _ hs _ _ ?_ | refine in_A _ _ _ _ _ ?_); try simp (dsimp := false) only [go_sem, Nat.reduceAdd, Nat.reduceBEq, Nat.reduceEqDiff, Nat.reduceLT, Nat.reduceLeDiff, Nat.reduceMul, Int.reduceToNat, reduceCtorEq, ↓reduceIte, Tryd.ntmps100, Tryd.results100, ks_100, mu_100, ti_ag3, ti_ag9, ti_fl35_0, ti_fl35_1, ti_fl35_2, ti_hb72, ti_hb74, itD, itV])
    | with_reducible refine onB_of ?_ ?_
    | with_reducible rfl
    | omega)
  all_goals exact keepD hk (by (simp only [V.d.injEq, D.i.injEq, D.b.injEq, D.s.injEq, true_and]; grind [itemB]))
end Go.Proofs.YtafbojmnmadlpaaDoor
