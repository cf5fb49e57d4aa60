/- Nodes: what the program and the reference check of them. No condition but that the tables of package unicode/utf8 are there. -/
import Derived.Test.YtmalccaijjcepaaDoorSt0
set_option linter.all false
set_option linter.unusedSimpArgs false
set_option linter.unusedVariables false
namespace Go.Proofs.YtmalccaijjcepaaDoor
open Go Go.Proofs.YtmalccaijjcepaaDoor.Ab
variable [Glo] [U8]
set_option maxHeartbeats 4000000
set_option maxRecDepth 20000

/-- Texts of nodes are no longer than memory. -/
def Short (l : List Nd) : Prop := ∀ x, x ∈ l → x.nm.length ≤ 9223372036854775807 ∧ x.vl.length ≤ 9223372036854775807
theorem Short.get {l : List Nd} (h : Short l) {i : Nat} {x : Nd} (hx : l[i]? = some x) : x.nm.length ≤ 9223372036854775807 ∧ x.vl.length ≤ 9223372036854775807 := h x (List.mem_of_getElem? hx)
/- the live slots of pleacher/store.sound -/
def ks_34 : Nat → List Nat
  | 0 => [0, 1]
  | 1 => [0, 1, 5]
  | 2 => [0, 1, 5, 40]
  | 3 => [4]
  | 4 => [0, 1, 5, 6]
  | 5 => [0, 1, 5, 69]
  | 6 => [4]
  | 7 => [0, 1, 5, 7]
  | 8 => [0, 1, 5, 92]
  | 9 => [4]
  | 10 => [0, 1, 5, 95]
  | 11 => [4]
  | 12 => [0, 1, 5, 112]
  | 13 => [4]
  | 14 => [1, 5, 8]
  | 15 => [4]
  | _ => []
def mu_34 : List Nat := []
def in_34 : List Nat := [0, 1]
def ro_34 : Nat → List Nat
  | 1 => [5]
  | 14 => [8]
  | _ => []
theorem sound_A (l : List Nd) (i : Nat) (n : Nd) (hn : l[i]? = some n) (hN : l.length ≤ 100000) (hS : Short l) (hg : Good l i) (H : Heap) (K : V → Heap → Prop) (hk : K (.d (.b (soundB l i n (gd l n.up)))) H) :
    ACalls Tryd.prog 34 [.d (.sl 6 (l.map ndD)), .d (.i .i64 i)] H K := by
  have hi := lt_of_get hn
  obtain ⟨s1, s2⟩ := hS.get hn
  refine ACalls_of Tryd.func34 rfl in_34 (Nat.le_of_ble_eq_true rfl) ?_
  intro F hF
  simp (dsimp := false) only [go_sem, Nat.reduceAdd, Nat.reduceBEq, Nat.reduceEqDiff, Nat.reduceLT, Nat.reduceLeDiff, Nat.reduceMul, Int.reduceToNat, reduceCtorEq, ↓reduceIte, Tryd.ntmps34, Tryd.results34, ks_34, mu_34, ro_34, ti_ag3, ti_ag9, ti_ag57, ti_bo4, ti_fl57_0, ti_fl57_1, ti_fl57_2, ti_fl57_3, ti_fl57_4, ti_fl57_5, ti_hb11, ti_hb62, ti_sb29, ti_sl29, ti_sz57, ti_zr57, itD, itV, ndD, ndV, in_34] at hF
  subst hF
  repeat' (first | with_reducible (first | refine And.intro ?_ ?_ | intro _ | refine AWp_seq ?_ | refine AWp_block ?_ | (refine hKv _ _ (AWp_nop ?_); clear hKv Kv) | (refine hKA ?_; clear hKA hKB KA KB) | (refine hKB ?_; clear hKA hKB KA KB) | refine AWp_skipN ?_ | refine AWp_exitO (by repeat (first | exact Out.hit | apply Out.thenA | apply Out.out rfl)) ?_) | ((first | with_reducible (first | (refine hKv _ _ ?_; clear hKv Kv) | ((first | refine AWp_regro mu_34 ks_34 ro_34 ?_ | refine AWp_regC mu_34 ks_34 ?_ | refine AWp_regE mu_34 ks_34 ?_); intro Kv hKv) | refine AWp_retR ?_) | refine checkName_A _ (hS.get (by assumption)).1 _ _ ?_ | refine checkText_A _ (hS.get (by assumption)).2 _ _ ?_); try simp (dsimp := false) only [go_sem, Nat.reduceAdd, Nat.reduceBEq, Nat.reduceEqDiff, Nat.reduceLT, Nat.reduceLeDiff, Nat.reduceMul, Int.reduceToNat, reduceCtorEq, ↓reduceIte, Tryd.ntmps34, Tryd.results34, ks_34, mu_34, ro_34, ti_ag3, ti_ag9, ti_ag57, ti_bo4, ti_fl57_0, ti_fl57_1, ti_fl57_2, ti_fl57_3, ti_fl57_4, ti_fl57_5, ti_hb11, ti_hb62, ti_sb29, ti_sl29, ti_sz57, ti_zr57, itD, itV, ndD, ndV]) | (refine AWp_condC rfl ?_; intro KA KB hKA hKB; try simp only [onB_true, onB_false, onB_dec, onB_ndec, onB_not, onB_and, onB_or]) | (refine AWp_condA rfl ?_ ?_) | with_reducible (first | refine onB_of ?_ ?_ | rfl) | omega)
  all_goals try (have e1 := Option.some.inj (hn.symm.trans ‹l[i]? = some _›); subst e1)
  all_goals try have e2 := gd_of_get' ‹l[Int.toNat _]? = some _›
  all_goals try (have b := good_bd' hg (j := n.up) (by omega) (by omega); rw [e2] at b)
  all_goals first
    | omega
    | exact keepD hk (by (simp only [V.d.injEq, D.i.injEq, D.b.injEq, D.s.injEq, true_and]; grind [soundB]))
/- the live slots of pleacher/pleacherref.nodeMay -/
def ks_35 : Nat → List Nat
  | 0 => [1]
  | 1 => [1, 4]
  | 2 => [1, 4, 5]
  | 3 => [2]
  | 4 => [1, 4, 16]
  | 5 => [2]
  | 6 => [1, 4, 33]
  | 7 => [1, 4, 33]
  | 8 => [2]
  | 9 => [1, 50]
  | 10 => [2]
  | 11 => [2]
  | _ => []
def mu_35 : List Nat := []
def in_35 : List Nat := [0]
theorem nodeMay_A (n : Nd) (s1 : n.nm.length ≤ 9223372036854775807) (s2 : n.vl.length ≤ 9223372036854775807) (H : Heap) (K : V → Heap → Prop) (hk : K (.d (.b (nodeMay n))) H) :
    ACalls Tryd.prog 35 [ndV n] H K := by
  refine ACalls_of Tryd.func35 rfl in_35 (Nat.le_of_ble_eq_true rfl) ?_
  intro F hF
  simp (dsimp := false) only [go_sem, Nat.reduceAdd, Nat.reduceBEq, Nat.reduceEqDiff, Nat.reduceLT, Nat.reduceLeDiff, Nat.reduceMul, Int.reduceToNat, reduceCtorEq, ↓reduceIte, Tryd.ntmps35, Tryd.results35, ks_35, mu_35, ti_ag3, ti_ag9, ti_fl57_0, ti_fl57_1, ti_fl57_2, ti_fl57_3, ti_fl57_5, ti_hb12, ti_hb63, itD, itV, ndD, ndV, in_35] at hF
  subst hF
  repeat' (first | with_reducible (first | refine And.intro ?_ ?_ | intro _ | refine AWp_seq ?_ | refine AWp_block ?_ | (refine hKv _ _ (AWp_nop ?_); clear hKv Kv) | (refine hKA ?_; clear hKA hKB KA KB) | (refine hKB ?_; clear hKA hKB KA KB) | refine AWp_skipN ?_ | refine AWp_exitO (by repeat (first | exact Out.hit | apply Out.thenA | apply Out.out rfl)) ?_) | ((first | with_reducible (first | (refine hKv _ _ ?_; clear hKv Kv) | ((first | refine AWp_regC mu_35 ks_35 ?_ | refine AWp_regE mu_35 ks_35 ?_); intro Kv hKv) | refine AWp_retR ?_) | refine nameFault_A _ s1 _ _ ?_ | refine valueFault_A _ s2 _ _ ?_); try simp (dsimp := false) only [go_sem, Nat.reduceAdd, Nat.reduceBEq, Nat.reduceEqDiff, Nat.reduceLT, Nat.reduceLeDiff, Nat.reduceMul, Int.reduceToNat, reduceCtorEq, ↓reduceIte, Tryd.ntmps35, Tryd.results35, ks_35, mu_35, ti_ag3, ti_ag9, ti_fl57_0, ti_fl57_1, ti_fl57_2, ti_fl57_3, ti_fl57_5, ti_hb12, ti_hb63, itD, itV, ndD, ndV]) | (refine AWp_condC rfl ?_; intro KA KB hKA hKB; try simp only [onB_true, onB_false, onB_dec, onB_ndec, onB_not, onB_and, onB_or]) | (refine AWp_condA rfl ?_ ?_) | with_reducible (first | refine onB_of ?_ ?_ | rfl) | omega)
  all_goals exact keepD hk (by (simp only [V.d.injEq, D.i.injEq, D.b.injEq, D.s.injEq, true_and]; grind [nodeMay]))
end Go.Proofs.YtmalccaijjcepaaDoor
