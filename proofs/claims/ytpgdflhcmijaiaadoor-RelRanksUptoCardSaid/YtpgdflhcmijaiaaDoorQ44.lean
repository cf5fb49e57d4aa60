/- The how many-th of its part a row is: the program. No condition but that the tables of package unicode/utf8 are there. -/
import Derived.Test.YtpgdflhcmijaiaaDoorQ42
import Derived.Test.YtpgdflhcmijaiaaDoorQ43
set_option linter.all false
set_option linter.unusedSimpArgs false
set_option linter.unusedVariables false
namespace Go.Proofs.YtpgdflhcmijaiaaDoor
open Go Go.Proofs.YtpgdflhcmijaiaaDoor.Ab
variable [Glo] [U8]
set_option maxHeartbeats 4000000
set_option maxRecDepth 20000
def rkD (k : Nat) : D := .i .i64 (k : Int)
def rnD (x : Int) : D := .i .i64 x
theorem rep_tab (n : Nat) : List.replicate n [V.d (.i .i64 0)] = tab rkD n (fun k => if k < 0 then k else 0) := by
  rw [tab]
  apply List.ext_getElem
  · simp
  · intro k h1 h2
    simp [rkD]
theorem rep_tabI (n : Nat) : List.replicate n [V.d (.i .i64 0)] = tab rnD n (fun _ => 0) := by
  rw [tab]
  apply List.ext_getElem
  · simp
  · intro k h1 h2
    simp [rnD]
theorem fill_tab {n i : Nat} : tab rkD n (upd (fun k => if k < i then k else 0) i i) = tab rkD n (fun k => if k < i + 1 then k else 0) := by
  refine tab_ext rkD fun k hk => ?_
  simp only [upd]
  by_cases h : k = i
  · subst h; rw [if_pos rfl, if_pos (by omega)]
  · rw [if_neg h]
    by_cases h2 : k < i
    · rw [if_pos h2, if_pos (by omega)]
    · rw [if_neg h2, if_neg (by omega)]
theorem fill_end {n : Nat} : tab rkD n (fun k => if k < n then k else 0) = tab rkD n (fun k => k) :=
  tab_ext rkD fun k hk => if_pos hk
def ks_33 : Nat → List Nat
  | 0 => [1, 2]
  | 1 => [1, 2, 7]
  | 2 => [4, 5]
  | 3 => [4, 5]
  | _ => []
def mu_33 : List Nat := []
def in_33 : List Nat := [0, 1]
theorem within_A (r : Rl) (hS : ShR r) (part : List UInt8) (H : Heap) (K : V → Heap → Prop)
    (hk : K (.tu [.d (.sl 1 (((withinP r.cols part).getD []).map intRow)), .d (.i .i64 (if (withinP r.cols part).isSome = true then 0 else 9))]) H) :
    ACalls Tryd.prog 33 [rlV r, .d (.s part)] H K := by
  by_cases hp : part = []
  · rw [withinP, if_pos hp] at hk
    subst hp
    refine ACalls_of Tryd.func33 rfl in_33 (Nat.le_of_ble_eq_true rfl) ?_
    intro F hF
    simp (dsimp := false) only [go_sem, Nat.reduceAdd, Nat.reduceBEq, Nat.reduceEqDiff, Nat.reduceLT, Nat.reduceLeDiff, Nat.reduceMul, Int.reduceToNat, reduceCtorEq, ↓reduceIte, Tryd.ntmps33, Tryd.results33, ks_33, mu_33, ti_ag25, ti_hb18, ti_sl22, ti_sz25, itD, itV, rlV, rowD, rlD, in_33] at hF
    subst hF
    repeat' (first | with_reducible (first | refine And.intro ?_ ?_ | intro _ | refine AWp_seq ?_ | refine AWp_block ?_ | (refine hKv _ _ (AWp_nop ?_); clear hKv Kv) | (refine hKA ?_; clear hKA hKB KA KB) | (refine hKB ?_; clear hKA hKB KA KB) | refine AWp_skipN ?_ | refine AWp_exitO (by repeat (first | exact Out.hit | apply Out.thenA | apply Out.out rfl)) ?_) | (with_reducible (first | (refine hKv _ _ ?_; clear hKv Kv) | ((first | refine AWp_regC mu_33 ks_33 ?_ | refine AWp_regE mu_33 ks_33 ?_); intro Kv hKv) | refine AWp_retR ?_); try simp (dsimp := false) only [go_sem, Nat.reduceAdd, Nat.reduceBEq, Nat.reduceEqDiff, Nat.reduceLT, Nat.reduceLeDiff, Nat.reduceMul, Int.reduceToNat, reduceCtorEq, ↓reduceIte, Tryd.ntmps33, Tryd.results33, ks_33, mu_33, ti_ag25, ti_hb18, ti_sl22, ti_sz25, itD, itV, rlV, rowD, rlD]) | (refine AWp_condC rfl ?_; intro KA KB hKA hKB; try simp only [onB_true, onB_false, onB_dec, onB_ndec, onB_not, onB_and, onB_or]) | (refine AWp_condA rfl ?_ ?_) | with_reducible (first | refine onB_of ?_ ?_ | rfl) | omega)
    all_goals first
      | exact keepFz hk (Fz_tu2 (.nil _) (.same _)) (by simp [Bel_tu, Bel_d])
  · rw [withinP, if_neg hp] at hk
    have hp' : (part = []) = False := eq_false hp
    refine ACalls_of Tryd.func33 rfl in_33 (Nat.le_of_ble_eq_true rfl) ?_
    intro F hF
    simp (dsimp := false) only [go_sem, Nat.reduceAdd, Nat.reduceBEq, Nat.reduceEqDiff, Nat.reduceLT, Nat.reduceLeDiff, Nat.reduceMul, Int.reduceToNat, reduceCtorEq, ↓reduceIte, Tryd.ntmps33, Tryd.results33, ks_33, mu_33, ti_ag25, ti_hb18, ti_sl22, ti_sz25, itD, itV, rlV, rowD, rlD, hp', in_33] at hF
    subst hF
    repeat' (first | with_reducible (first | refine And.intro ?_ ?_ | intro _ | refine AWp_seq ?_ | refine AWp_block ?_ | (refine hKv _ _ (AWp_nop ?_); clear hKv Kv) | (refine hKA ?_; clear hKA hKB KA KB) | (refine hKB ?_; clear hKA hKB KA KB) | refine AWp_skipN ?_ | refine AWp_exitO (by repeat (first | exact Out.hit | apply Out.thenA | apply Out.out rfl)) ?_) | ((first | with_reducible (first | (refine hKv _ _ ?_; clear hKv Kv) | ((first | refine AWp_regC mu_33 ks_33 ?_ | refine AWp_regE mu_33 ks_33 ?_); intro Kv hKv) | refine AWp_retR ?_) | refine places_A r hS [part] (by simp) _ _ ?_); try simp (dsimp := false) only [go_sem, Nat.reduceAdd, Nat.reduceBEq, Nat.reduceEqDiff, Nat.reduceLT, Nat.reduceLeDiff, Nat.reduceMul, Int.reduceToNat, reduceCtorEq, ↓reduceIte, Tryd.ntmps33, Tryd.results33, ks_33, mu_33, ti_ag25, ti_hb18, ti_sl22, ti_sz25, itD, itV, rlV, rowD, rlD, hp']) | (refine AWp_condC rfl ?_; intro KA KB hKA hKB; try simp only [onB_true, onB_false, onB_dec, onB_ndec, onB_not, onB_and, onB_or]) | (refine AWp_condA rfl ?_ ?_) | with_reducible (first | refine onB_of ?_ ?_ | rfl) | omega)
    all_goals first
      | exact keepFz hk (.same _) (by simp [Bel_tu, Bel_d])
def ks_35 : Nat → List Nat
  | 0 => [0, 1, 2, 3]
  | 1 => [6]
  | _ => []
def mu_35 : List Nat := []
def in_35 : List Nat := [0, 1, 2, 3]
def nd_35 : Nat → Nat
  | 1 => 15
  | _ => 0
theorem rankCmp (ps : List Int) (hps : ps.length ≤ 1048576) (r : Rl) (hat : ∀ row, row ∈ r.rows → ∀ i, i ∈ ps → 0 ≤ i ∧ i < row.length) (m : Nat) : Cmp rkD (rkC ps r.rows) 35 [.rp (rlD r), .rp [.sl 1 (ps.map intRow)]] m fun k => k < r.rows.length := by
  refine ⟨by first | rfl | kernel_rfl, fun v hv => ?_, fun x y H K hx hy hk => ?_⟩
  · simp only [List.mem_cons, List.not_mem_nil, or_false] at hv
    rcases hv with rfl | rfl <;> exact .rp _
  have hl : ∀ r : List It, (projRow ps r).length = ps.length := fun r => by simp [projRow]
  obtain ⟨rx, hrx⟩ : ∃ rx, r.rows[x]? = some rx := ⟨r.rows[x], List.getElem?_eq_getElem hx⟩
  obtain ⟨ry, hry⟩ : ∃ ry, r.rows[y]? = some ry := ⟨r.rows[y], List.getElem?_eq_getElem hy⟩
  show ACalls Tryd.prog 35 [.d (.i .i64 x), .d (.i .i64 y), .rp (rlD r), .rp [.sl 1 (ps.map intRow)]] H K
  have hk' : K (.d (.i .i64 (ordI (projRow ps rx) (projRow ps ry)))) H := by
    have e : rkC ps r.rows x y = ordI (projRow ps rx) (projRow ps ry) := by simp [rkC, List.getD, hrx, hry]
    rw [← e]; exact hk
  have x0 : ((0 : Int) ≤ (x : Int)) = True := eq_true (by omega)
  have x1 : ((x : Int) < (r.rows.length : Int)) = True := eq_true (by omega)
  have y0 : ((0 : Int) ≤ (y : Int)) = True := eq_true (by omega)
  have y1 : ((y : Int) < (r.rows.length : Int)) = True := eq_true (by omega)
  refine ACalls_of Tryd.func35 rfl in_35 (Nat.le_of_ble_eq_true rfl) ?_
  intro F hF
  simp (dsimp := false) only [go_sem, Nat.reduceAdd, Nat.reduceBEq, Nat.reduceEqDiff, Nat.reduceLT, Nat.reduceLeDiff, Nat.reduceMul, Int.reduceToNat, reduceCtorEq, ↓reduceIte, Tryd.ntmps35, Tryd.results35, ks_35, mu_35, nd_35, ti_ag23, ti_ag35, ti_ag44, ti_fl25_1, ti_hb22, ti_hb23, ti_sl23, itD, itV, rlV, rowD, rlD, hrx, hry, x0, x1, y0, y1, in_35] at hF
  subst hF
  repeat' (first | with_reducible (first | refine And.intro ?_ ?_ | intro _ | refine AWp_seq ?_ | refine AWp_block ?_ | (refine hKv _ _ (AWp_nop ?_); clear hKv Kv) | (refine hKA ?_; clear hKA hKB KA KB) | (refine hKB ?_; clear hKA hKB KA KB) | refine AWp_skipN ?_ | refine AWp_exitO (by repeat (first | exact Out.hit | apply Out.thenA | apply Out.out rfl)) ?_) | ((first | with_reducible (first | (refine hKv _ _ ?_; clear hKv Kv) | ((first | refine AWp_regC mu_35 ks_35 ?_ | refine AWp_draw nd_35 mu_35 ks_35 ti_mixed (by kernel_rfl) ?_ | refine AWp_regE mu_35 ks_35 ?_ | refine AWp_drawE nd_35 mu_35 ks_35 ti_mixed (by kernel_rfl) ?_); intro Kv hKv) | refine AWp_retR ?_) | refine these_A rx ps hps (hat rx (List.mem_of_getElem? hrx)) _ _ ?_ | refine QCall_of (these_A rx ps hps (hat rx (List.mem_of_getElem? hrx)) _ _ (Two_intro _ _)) ?_ | refine these_A ry ps hps (hat ry (List.mem_of_getElem? hry)) _ _ ?_ | refine QCall_of (these_A ry ps hps (hat ry (List.mem_of_getElem? hry)) _ _ (Two_intro _ _)) ?_ | refine order_A (projRow ps rx) (projRow ps ry) (by rw [hl]; exact hps) (by rw [hl]; exact hps) _ _ ?_ | refine QCall_of (order_A (projRow ps rx) (projRow ps ry) (by rw [hl]; exact hps) (by rw [hl]; exact hps) _ _ (Two_intro _ _)) ?_); try simp (dsimp := false) only [go_sem, Nat.reduceAdd, Nat.reduceBEq, Nat.reduceEqDiff, Nat.reduceLT, Nat.reduceLeDiff, Nat.reduceMul, Int.reduceToNat, reduceCtorEq, ↓reduceIte, Tryd.ntmps35, Tryd.results35, ks_35, mu_35, nd_35, ti_ag23, ti_ag35, ti_ag44, ti_fl25_1, ti_hb22, ti_hb23, ti_sl23, itD, itV, rlV, rowD, rlD, hrx, hry, x0, x1, y0, y1]) | (refine AWp_condC rfl ?_; intro KA KB hKA hKB; try simp only [onB_true, onB_false, onB_dec, onB_ndec, onB_not, onB_and, onB_or]) | (refine AWp_condA rfl ?_ ?_) | with_reducible (first | refine onB_of ?_ ?_ | rfl) | omega)
  all_goals first
    | omega
    | exact keepD hk' rfl
end Go.Proofs.YtpgdflhcmijaiaaDoor
