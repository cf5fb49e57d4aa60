/- The how many-th of its part each row is: the program's answer. No condition but that the tables of package unicode/utf8 are there. -/
import Derived.Test.YtpgdflhcmijaiaaDoorQ44
set_option linter.all false
set_option linter.unusedSimpArgs false
set_option linter.unusedVariables false
namespace Go.Proofs.YtpgdflhcmijaiaaDoor
open Go Go.Proofs.YtpgdflhcmijaiaaDoor.Ab
variable [Glo] [U8]
set_option maxHeartbeats 4000000
set_option maxRecDepth 20000
theorem dsRows_push (l : List (List D)) (ds : List D) : dsRows ((l.map fun r => r.map V.d) ++ [ds.map V.d]) = some (l ++ [ds]) := by
  have h := data_rows (l ++ [ds])
  rw [List.map_append] at h
  exact h
theorem itD_cells (row : List It) (n : Int) : dsRows (((row.map itD).map fun r => r.map V.d) ++ [[.d (.i .i64 2), .d (.i .i64 n), .d (.s [])]]) = some ((row ++ [(⟨2, n, []⟩ : It)]).map itD) := by
  have h := dsRows_push (row.map itD) (itD (⟨2, n, []⟩ : It))
  rw [List.map_append]
  exact h
theorem strC_cells (l : List (List UInt8)) (s : List UInt8) : dsRows (((l.map strRow).map fun r => r.map V.d) ++ [[.d (.s s)]]) = some ((l ++ [s]).map strRow) := by
  have h := dsRows_push (l.map strRow) (strRow s)
  rw [List.map_append]
  exact h
theorem mapD_bel {m ver e : Nat} {sh : List Kd} {ks : List (List D)} {vs : List V} (h : ∀ v, v ∈ vs → ∃ x, v = .d x) : ObBel m (.row ver e 0 [[.mp sh ks vs]]) := by
  intro row hr v hv
  simp at hr
  subst hr
  simp at hv
  subst hv
  exact .mp _ _ _ fun v hv => by
    obtain ⟨x, rfl⟩ := h v hv
    exact .d _
theorem places_in {r : Rl} {by_ : List (List UInt8)} {ps : List Int} (hf : relFault r = 0) (hp : places r.cols by_ = some ps) : ps.length = by_.length ∧ ∀ row, row ∈ r.rows → ∀ i, i ∈ ps → 0 ≤ i ∧ i < row.length := by
  obtain ⟨_, hN, hall⟩ := relFault_ok hf
  obtain ⟨h1, h2⟩ := placesGo_mem by_ [] ps hp (fun i hi => by cases hi)
  refine ⟨by simpa using h2, fun row hrow i hi => ?_⟩
  have := h1 i hi
  have hl := (hall row hrow).1
  exact ⟨this.1, by omega⟩
theorem within_in {r : Rl} {part : List UInt8} {q : List Int} (hf : relFault r = 0) (hq : withinP r.cols part = some q) : ∀ row, row ∈ r.rows → ∀ i, i ∈ q → 0 ≤ i ∧ i < row.length := by
  unfold withinP at hq
  split at hq
  · cases hq
    intro row _ i hi
    cases hi
  · exact (places_in hf hq).2
theorem within_len {cols : List (List UInt8)} {part : List UInt8} {q : List Int} (hq : withinP cols part = some q) : q.length ≤ 1 := by
  rw [withinP_eq] at hq
  split at hq
  · cases hq; simp
  · split at hq <;> cases hq
    simp
def relA : Ob := .row 0 25 2 [[.d (.c (.slice none 0 0)), .d (.c (.slice none 0 0))]]
theorem relA_bel (m : Nat) : ObBel m relA := bel_nil2 _ _ _
theorem obsIn {m : Nat} {P : Ob → Prop} {l : List Ob} : (∀ ob, ob ∈ l → P ob) ↔ l.foldr (fun o acc => P o ∧ acc) True := by
  induction l with
  | nil => simp
  | cons a l ih => simp [ih]
def ks_10 : Nat → List Nat
  | 0 => [1, 2, 3, 4, 8]
  | 1 => [1, 2, 3, 4, 8, 10]
  | 2 => [1, 2, 3, 4, 8, 10, 27]
  | 3 => [8, 9]
  | 4 => [1, 3, 4, 8, 11, 12]
  | 5 => [1, 3, 4, 8, 11, 12, 37]
  | 6 => [8, 9]
  | 7 => [1, 4, 8, 11, 12, 13]
  | 8 => [1, 4, 8, 11, 12, 13, 47]
  | 9 => [8, 9]
  | 10 => [1, 4, 8, 11, 13, 14]
  | 11 => [1, 4, 8, 11, 13, 14, 55, 56]
  | 12 => [1, 4, 8, 11, 13, 14, 55, 56, 57]
  | 13 => [1, 4, 8, 11, 13, 14, 15, 55, 56]
  | 14 => [1, 4, 8, 11, 13, 14, 55, 56]
  | 15 => [1, 4, 8, 11, 13, 14, 55, 56]
  | 16 => [1, 4, 8, 13, 14]
  | 17 => [1, 4, 8, 13, 14, 16]
  | 18 => [1, 4, 8, 13, 14, 16, 17]
  | 19 => [1, 4, 8, 13, 16, 17, 72, 73, 74]
  | 20 => [1, 4, 8, 13, 16, 17, 72, 73, 74, 75]
  | 21 => [1, 4, 8, 13, 16, 17, 19, 72, 73, 74]
  | 22 => [1, 4, 8, 13, 16, 17, 19, 20, 72, 73, 74]
  | 23 => [1, 4, 8, 13, 16, 17, 19, 20, 72, 73, 74]
  | 24 => [1, 4, 8, 13, 16, 17, 72, 73, 74]
  | 25 => [1, 4, 8, 13, 16, 17, 72, 73, 74]
  | 26 => [1, 4, 8, 17, 21]
  | 27 => [1, 4, 8, 17, 21, 98, 99, 100]
  | 28 => [1, 4, 8, 17, 21, 98, 99, 100, 101]
  | 29 => [1, 4, 8, 17, 21, 22, 23, 98, 99, 100]
  | 30 => [1, 4, 8, 17, 21, 98, 99, 100]
  | 31 => [1, 4, 8, 17, 21, 98, 99, 100]
  | 32 => [8, 9]
  | _ => []
def mu_10 : List Nat := [21]
def in_10 : List Nat := [0, 1, 2, 3]
def ro_10 : Nat → List Nat
  | 4 => [11]
  | _ => []
def xt_10 : Nat → Nat × List Cd
  | 30 => (11, [.q 0 0, .q 0 0, .t, .q 0 0, .q 0 0, .q 1 0, .q 1 0, .q 1 0, .q 1 0, .g, .q 0 0])
  | _ => (0, [])
def gv_10 : Nat → List Bool
  | 32 => [false, false, false, false, false, true]
  | _ => []
theorem rank_A (r : Rl) (hS : ShR r) (name : List UInt8) (hname : name.length ≤ 1048576) (by_ : List (List UInt8)) (hby : by_.length ≤ 1048576) (part : List UInt8) (H : Heap) (K : V → Heap → Prop) (hk : K (relE (ranked r name by_ part).1 (ranked r name by_ part).2) H) :
    ACalls Tryd.prog 10 [rlV r, .d (.s name), .d (.sl 1 (by_.map strRow)), .d (.s part)] H K := by
  have q1 := hS.ncols
  have q2 := hS.nrows
  have hclA : ∀ (l : List Ob), (∀ ob, ob ∈ l → ∀ m, ObBel m ob) → Closed H (H ++ l) := fun l h => closed_app fun ob hob => h ob hob _
  by_cases hf : relFault r = 0
  · cases hp : places r.cols by_ with
    | none =>
      rw [ranked, if_pos hf, hp] at hk
      refine ACalls_of Tryd.func10 rfl in_10 (Nat.le_of_ble_eq_true rfl) ?_
      intro F hF
      simp (dsimp := false) only [go_sem, Nat.reduceAdd, Nat.reduceBEq, Nat.reduceEqDiff, Nat.reduceLT, Nat.reduceLeDiff, Nat.reduceMul, Int.reduceToNat, reduceCtorEq, ↓reduceIte, Tryd.ntmps10, Tryd.results10, ks_10, mu_10, xt_10, gv_10, ro_10, ti_ag3, ti_ag22, ti_ag23, ti_ag25, ti_ag44, ti_fl25_0, ti_fl25_1, ti_hb17, ti_hb18, ti_hb19, ti_hb23, ti_hb24, ti_hb33, ti_hb34, ti_hb35, ti_hb36, ti_hb37, ti_ky9, ti_mp62, ti_pl25, ti_pl49, ti_sb23, ti_sb35, ti_sl22, ti_sl23, ti_sl35, ti_sl44, ti_sz3, ti_sz25, ti_sz35, ti_zr3, ti_zr25, ti_zr35, ti_zr49, ti_zv3, itD, itV, rlV, rowD, rlD, hf, hp, Option.getD_none, Option.isSome_none, Int.reduceEq, not_false_eq_true, in_10] at hF
      subst hF
      repeat' (first | with_reducible (first | refine And.intro ?_ ?_ | intro _ | refine AWp_seq ?_ | refine AWp_block ?_ | (refine hKv _ _ (AWp_nop ?_); clear hKv Kv) | (refine hKA ?_; clear hKA hKB KA KB) | (refine hKB ?_; clear hKA hKB KA KB) | refine AWp_skipN ?_ | refine AWp_exitO (by repeat (first | exact Out.hit | apply Out.thenA | apply Out.out rfl)) ?_) | ((first | with_reducible (first | (refine hKv _ _ ?_; clear hKv Kv) | ((first | refine AWp_regG gv_10 mu_10 ks_10 (by decide) ?_ | refine AWp_regro mu_10 ks_10 ro_10 ?_ | refine AWp_regC mu_10 ks_10 ?_ | refine AWp_drawT xt_10 mu_10 ks_10 (by decide) ti_mixed (by kernel_rfl) ?_ | refine AWp_regE mu_10 ks_10 ?_); intro Kv hKv) | refine AWp_retR ?_) | refine relCheck_A r hS _ _ ?_ | refine QCall_of (relCheck_A r hS _ _ (Two_intro _ _)) ?_ | refine ECall_of (relCheck_A r hS _ _ (Two_intro _ _)) ?_ | refine places_A r hS by_ hby _ _ ?_ | refine QCall_of (places_A r hS by_ hby _ _ (Two_intro _ _)) ?_ | refine ECall_of (places_A r hS by_ hby _ _ (Two_intro _ _)) ?_); try simp (dsimp := false) only [go_sem, Nat.reduceAdd, Nat.reduceBEq, Nat.reduceEqDiff, Nat.reduceLT, Nat.reduceLeDiff, Nat.reduceMul, Int.reduceToNat, reduceCtorEq, ↓reduceIte, Tryd.ntmps10, Tryd.results10, ks_10, mu_10, xt_10, gv_10, ro_10, ti_ag3, ti_ag22, ti_ag23, ti_ag25, ti_ag44, ti_fl25_0, ti_fl25_1, ti_hb17, ti_hb18, ti_hb19, ti_hb23, ti_hb24, ti_hb33, ti_hb34, ti_hb35, ti_hb36, ti_hb37, ti_ky9, ti_mp62, ti_pl25, ti_pl49, ti_sb23, ti_sb35, ti_sl22, ti_sl23, ti_sl35, ti_sl44, ti_sz3, ti_sz25, ti_sz35, ti_zr3, ti_zr25, ti_zr35, ti_zr49, ti_zv3, itD, itV, rlV, rowD, rlD, hf, hp, Option.getD_none, Option.isSome_none, Int.reduceEq, not_false_eq_true]) | (refine AWp_condC rfl ?_; intro KA KB hKA hKB; try simp only [onB_true, onB_false, onB_dec, onB_ndec, onB_not, onB_and, onB_or]) | (refine AWp_condA rfl ?_ ?_) | with_reducible (first | refine onB_of ?_ ?_ | rfl) | omega)
      all_goals first
        | exact dropF hk (fz_rl0 _ _ _) (bel_relE _ _ _)
        | exact hclA _ fun ob hob m => by rw [List.mem_singleton.1 hob]; exact bel_nil2 _ _ _
    | some ps =>
      cases hq : withinP r.cols part with
      | none =>
        rw [ranked, if_pos hf, hp, hq] at hk
        refine ACalls_of Tryd.func10 rfl in_10 (Nat.le_of_ble_eq_true rfl) ?_
        intro F hF
        simp (dsimp := false) only [go_sem, Nat.reduceAdd, Nat.reduceBEq, Nat.reduceEqDiff, Nat.reduceLT, Nat.reduceLeDiff, Nat.reduceMul, Int.reduceToNat, reduceCtorEq, ↓reduceIte, Tryd.ntmps10, Tryd.results10, ks_10, mu_10, xt_10, gv_10, ro_10, ti_ag3, ti_ag22, ti_ag23, ti_ag25, ti_ag44, ti_fl25_0, ti_fl25_1, ti_hb17, ti_hb18, ti_hb19, ti_hb23, ti_hb24, ti_hb33, ti_hb34, ti_hb35, ti_hb36, ti_hb37, ti_ky9, ti_mp62, ti_pl25, ti_pl49, ti_sb23, ti_sb35, ti_sl22, ti_sl23, ti_sl35, ti_sl44, ti_sz3, ti_sz25, ti_sz35, ti_zr3, ti_zr25, ti_zr35, ti_zr49, ti_zv3, itD, itV, rlV, rowD, rlD, hf, hp, hq, Option.getD_none, Option.getD_some, Option.isSome_some, Option.isSome_none, Int.reduceEq, not_false_eq_true, not_true_eq_false, eq_self, in_10] at hF
        subst hF
        repeat' (first | with_reducible (first | refine And.intro ?_ ?_ | intro _ | refine AWp_seq ?_ | refine AWp_block ?_ | (refine hKv _ _ (AWp_nop ?_); clear hKv Kv) | (refine hKA ?_; clear hKA hKB KA KB) | (refine hKB ?_; clear hKA hKB KA KB) | refine AWp_skipN ?_ | refine AWp_exitO (by repeat (first | exact Out.hit | apply Out.thenA | apply Out.out rfl)) ?_) | ((first | with_reducible (first | (refine hKv _ _ ?_; clear hKv Kv) | ((first | refine AWp_regG gv_10 mu_10 ks_10 (by decide) ?_ | refine AWp_regro mu_10 ks_10 ro_10 ?_ | refine AWp_regC mu_10 ks_10 ?_ | refine AWp_drawT xt_10 mu_10 ks_10 (by decide) ti_mixed (by kernel_rfl) ?_ | refine AWp_regE mu_10 ks_10 ?_); intro Kv hKv) | refine AWp_retR ?_) | refine relCheck_A r hS _ _ ?_ | refine QCall_of (relCheck_A r hS _ _ (Two_intro _ _)) ?_ | refine ECall_of (relCheck_A r hS _ _ (Two_intro _ _)) ?_ | refine places_A r hS by_ hby _ _ ?_ | refine QCall_of (places_A r hS by_ hby _ _ (Two_intro _ _)) ?_ | refine ECall_of (places_A r hS by_ hby _ _ (Two_intro _ _)) ?_ | refine within_A r hS part _ _ ?_ | refine QCall_of (within_A r hS part _ _ (Two_intro _ _)) ?_ | refine ECall_of (within_A r hS part _ _ (Two_intro _ _)) ?_); try simp (dsimp := false) only [go_sem, Nat.reduceAdd, Nat.reduceBEq, Nat.reduceEqDiff, Nat.reduceLT, Nat.reduceLeDiff, Nat.reduceMul, Int.reduceToNat, reduceCtorEq, ↓reduceIte, Tryd.ntmps10, Tryd.results10, ks_10, mu_10, xt_10, gv_10, ro_10, ti_ag3, ti_ag22, ti_ag23, ti_ag25, ti_ag44, ti_fl25_0, ti_fl25_1, ti_hb17, ti_hb18, ti_hb19, ti_hb23, ti_hb24, ti_hb33, ti_hb34, ti_hb35, ti_hb36, ti_hb37, ti_ky9, ti_mp62, ti_pl25, ti_pl49, ti_sb23, ti_sb35, ti_sl22, ti_sl23, ti_sl35, ti_sl44, ti_sz3, ti_sz25, ti_sz35, ti_zr3, ti_zr25, ti_zr35, ti_zr49, ti_zv3, itD, itV, rlV, rowD, rlD, hf, hp, hq, Option.getD_none, Option.getD_some, Option.isSome_some, Option.isSome_none, Int.reduceEq, not_false_eq_true, not_true_eq_false, eq_self]) | (refine AWp_condC rfl ?_; intro KA KB hKA hKB; try simp only [onB_true, onB_false, onB_dec, onB_ndec, onB_not, onB_and, onB_or]) | (refine AWp_condA rfl ?_ ?_) | with_reducible (first | refine onB_of ?_ ?_ | rfl) | omega)
        all_goals first
          | exact dropF hk (fz_rl0 _ _ _) (bel_relE _ _ _)
          | exact hclA _ fun ob hob m => by rw [List.mem_singleton.1 hob]; exact bel_nil2 _ _ _
      | some q =>
        rw [ranked, if_pos hf, hp, hq] at hk
        obtain ⟨_, hN, hall⟩ := relFault_ok hf
        have hk : K (relE (made (r.cols ++ [name]) (rkRows ps q r.rows)) (madeFault (r.cols ++ [name]) r.rows.length)) H := hk
        obtain ⟨hpl, hpi⟩ := places_in hf hp
        have hqi : ∀ row, row ∈ r.rows → ∀ i, i ∈ q → 0 ≤ i ∧ i < row.length := within_in hf hq
        have hql : q.length ≤ 1 := within_len hq
        have hba : ∀ m, ObBel m (.row 0 25 2 [[.d (.c (.slice none 0 0)), .d (.c (.slice none 0 0))]]) := fun m => bel_nil2 _ _ _
        refine ACalls_of Tryd.func10 rfl in_10 (Nat.le_of_ble_eq_true rfl) ?_
        intro F hF
        simp (dsimp := false) only [go_sem, Nat.reduceAdd, Nat.reduceBEq, Nat.reduceEqDiff, Nat.reduceLT, Nat.reduceLeDiff, Nat.reduceMul, Int.reduceToNat, reduceCtorEq, ↓reduceIte, Tryd.ntmps10, Tryd.results10, ks_10, mu_10, xt_10, gv_10, ro_10, ti_ag3, ti_ag22, ti_ag23, ti_ag25, ti_ag44, ti_fl25_0, ti_fl25_1, ti_hb17, ti_hb18, ti_hb19, ti_hb23, ti_hb24, ti_hb33, ti_hb34, ti_hb35, ti_hb36, ti_hb37, ti_ky9, ti_mp62, ti_pl25, ti_pl49, ti_sb23, ti_sb35, ti_sl22, ti_sl23, ti_sl35, ti_sl44, ti_sz3, ti_sz25, ti_sz35, ti_zr3, ti_zr25, ti_zr35, ti_zr49, ti_zv3, itD, itV, rlV, rowD, rlD, hf, hp, hq, Option.getD_some, Option.isSome_some, Int.reduceEq, not_true_eq_false, eq_self, in_10] at hF
        subst hF
        repeat' (first | with_reducible (first | refine And.intro ?_ ?_ | intro _ | refine AWp_seq ?_ | refine AWp_block ?_ | (refine hKv _ _ (AWp_nop ?_); clear hKv Kv) | (refine hKA ?_; clear hKA hKB KA KB) | (refine hKB ?_; clear hKA hKB KA KB) | refine AWp_skipN ?_ | refine AWp_exitO (by repeat (first | exact Out.hit | apply Out.thenA | apply Out.out rfl)) ?_) | ((first | with_reducible (first | (refine hKv _ _ ?_; clear hKv Kv) | ((first | refine AWp_regG gv_10 mu_10 ks_10 (by decide) ?_ | refine AWp_regro mu_10 ks_10 ro_10 ?_ | refine AWp_regC mu_10 ks_10 ?_ | refine AWp_drawT xt_10 mu_10 ks_10 (by decide) ti_mixed (by kernel_rfl) ?_ | refine AWp_regE mu_10 ks_10 ?_); intro Kv hKv) | refine AWp_retR ?_) | refine relCheck_A r hS _ _ ?_ | refine QCall_of (relCheck_A r hS _ _ (Two_intro _ _)) ?_ | refine ECall_of (relCheck_A r hS _ _ (Two_intro _ _)) ?_ | refine places_A r hS by_ hby _ _ ?_ | refine QCall_of (places_A r hS by_ hby _ _ (Two_intro _ _)) ?_ | refine ECall_of (places_A r hS by_ hby _ _ (Two_intro _ _)) ?_ | refine within_A r hS part _ _ ?_ | refine QCall_of (within_A r hS part _ _ (Two_intro _ _)) ?_ | refine ECall_of (within_A r hS part _ _ (Two_intro _ _)) ?_); try simp (dsimp := false) only [go_sem, Nat.reduceAdd, Nat.reduceBEq, Nat.reduceEqDiff, Nat.reduceLT, Nat.reduceLeDiff, Nat.reduceMul, Int.reduceToNat, reduceCtorEq, ↓reduceIte, Tryd.ntmps10, Tryd.results10, ks_10, mu_10, xt_10, gv_10, ro_10, ti_ag3, ti_ag22, ti_ag23, ti_ag25, ti_ag44, ti_fl25_0, ti_fl25_1, ti_hb17, ti_hb18, ti_hb19, ti_hb23, ti_hb24, ti_hb33, ti_hb34, ti_hb35, ti_hb36, ti_hb37, ti_ky9, ti_mp62, ti_pl25, ti_pl49, ti_sb23, ti_sb35, ti_sl22, ti_sl23, ti_sl35, ti_sl44, ti_sz3, ti_sz25, ti_sz35, ti_zr3, ti_zr25, ti_zr35, ti_zr49, ti_zv3, itD, itV, rlV, rowD, rlD, hf, hp, hq, Option.getD_some, Option.isSome_some, Int.reduceEq, not_true_eq_false, eq_self]) | (refine AWp_condC rfl ?_; intro KA KB hKA hKB; try simp only [onB_true, onB_false, onB_dec, onB_ndec, onB_not, onB_and, onB_or]) | (refine AWp_condA rfl ?_ ?_) | with_reducible (first | refine onB_of ?_ ?_ | rfl) | omega)
        · exact hclA _ fun ob hob m => by rw [List.mem_singleton.1 hob]; exact bel_nil2 _ _ _
        rw [rep_tab]
        refine AWp_whileH (fun i : Nat => i ≤ r.rows.length)
          (fun i => [(1, .d (.s name)), (4, .rp (rlD r)), (8, .pt H.length 0 0 0), (11, .rp [.sl 1 (ps.map intRow)]), (13, .d (.sl 1 (q.map intRow))), (14, .os (H.length + 1) 0), (55, .d (.i .i64 r.rows.length)), (56, .d (.i .i64 i))])
          (fun i => [.row 0 25 2 [[.d (.c (.slice none 0 0)), .d (.c (.slice none 0 0))]], .row 0 3 1 (tab rkD r.rows.length fun k => if k < i then k else 0)]) (fun i => r.rows.length - i) 0 (Nat.zero_le _) ?_ ?_ ?_ ?_
        · first | rfl | (simp; done)
        · simp (dsimp := false) only [go_sem, Nat.reduceAdd, Nat.reduceBEq, Nat.reduceEqDiff, Nat.reduceLT, Nat.reduceLeDiff, Nat.reduceMul, Int.reduceToNat, reduceCtorEq, ↓reduceIte, Tryd.ntmps10, Tryd.results10, ks_10, mu_10, xt_10, gv_10, ro_10, ti_ag3, ti_ag22, ti_ag23, ti_ag25, ti_ag44, ti_fl25_0, ti_fl25_1, ti_hb17, ti_hb18, ti_hb19, ti_hb23, ti_hb24, ti_hb33, ti_hb34, ti_hb35, ti_hb36, ti_hb37, ti_ky9, ti_mp62, ti_pl25, ti_pl49, ti_sb23, ti_sb35, ti_sl22, ti_sl23, ti_sl35, ti_sl44, ti_sz3, ti_sz25, ti_sz35, ti_zr3, ti_zr25, ti_zr35, ti_zr49, ti_zv3, itD, itV, rlV, rowD, rlD, hf, hp, hq, Option.getD_some, Option.isSome_some, Int.reduceEq, not_true_eq_false, eq_self]
          first | done | (simp; done) | (simp [tab_len]; done)
        · rintro i _ ob hob
          simp only [List.mem_cons, List.not_mem_nil, or_false] at hob
          rcases hob with rfl | rfl
          · exact hba _
          · exact tab_bel rkD _ _ _ _ _
        rintro i hi
        have hcl : ∀ g, Closed H (H ++ [.row 0 25 2 [[.d (.c (.slice none 0 0)), .d (.c (.slice none 0 0))]], .row 0 3 1 (tab rkD r.rows.length g)]) := fun g => hclA _ fun ob hob m => by
          simp only [List.mem_cons, List.not_mem_nil, or_false] at hob
          rcases hob with rfl | rfl
          · exact hba _
          · exact tab_bel rkD _ _ _ _ _
        by_cases hiN : i < r.rows.length
        · have hin' : ((i : Int) < (r.rows.length : Int)) = True := eq_true (by omega)
          have i0 : ((0 : Int) ≤ (i : Int)) = True := eq_true (by omega)
          have ec : (i : Int) + 1 = ((i + 1 : Nat) : Int) := by omega
          have gk := fun g => tab_get rkD (n := r.rows.length) (g := g) (k := i) hiN
          have hts : ∀ g, (tab rkD r.rows.length g).set i [V.d (.i .i64 (i : Int))] = tab rkD r.rows.length (upd g i i) := fun g => tab_set rkD
          repeat' (first | with_reducible (first | refine And.intro ?_ ?_ | intro _ | refine AWp_seq ?_ | refine AWp_block ?_ | (refine hKv _ _ (AWp_nop ?_); clear hKv Kv) | (refine hKA ?_; clear hKA hKB KA KB) | (refine hKB ?_; clear hKA hKB KA KB) | refine AWp_skipN ?_ | refine AWp_exitO (by repeat (first | exact Out.hit | apply Out.thenA | apply Out.out rfl)) ?_) | (with_reducible (first | (refine hKv _ _ ?_; clear hKv Kv) | ((first | refine AWp_regG gv_10 mu_10 ks_10 (by decide) ?_ | refine AWp_regro mu_10 ks_10 ro_10 ?_ | refine AWp_regC mu_10 ks_10 ?_ | refine AWp_drawT xt_10 mu_10 ks_10 (by decide) ti_mixed (by kernel_rfl) ?_ | refine AWp_regE mu_10 ks_10 ?_); intro Kv hKv) | refine AWp_retR ?_); try simp (dsimp := false) only [go_sem, Nat.reduceAdd, Nat.reduceBEq, Nat.reduceEqDiff, Nat.reduceLT, Nat.reduceLeDiff, Nat.reduceMul, Int.reduceToNat, reduceCtorEq, ↓reduceIte, Tryd.ntmps10, Tryd.results10, ks_10, mu_10, xt_10, gv_10, ro_10, ti_ag3, ti_ag22, ti_ag23, ti_ag25, ti_ag44, ti_fl25_0, ti_fl25_1, ti_hb17, ti_hb18, ti_hb19, ti_hb23, ti_hb24, ti_hb33, ti_hb34, ti_hb35, ti_hb36, ti_hb37, ti_ky9, ti_mp62, ti_pl25, ti_pl49, ti_sb23, ti_sb35, ti_sl22, ti_sl23, ti_sl35, ti_sl44, ti_sz3, ti_sz25, ti_sz35, ti_zr3, ti_zr25, ti_zr35, ti_zr49, ti_zv3, itD, itV, rlV, rowD, rlD, hin', i0, gk, hts, tab_len]) | (refine AWp_condC rfl ?_; intro KA KB hKA hKB; try simp only [onB_true, onB_false, onB_dec, onB_ndec, onB_not, onB_and, onB_or]) | (refine AWp_condA rfl ?_ ?_) | with_reducible (first | refine onB_of ?_ ?_ | rfl) | omega)
          all_goals first
            | omega
            | exact hcl _
            | exact ⟨i + 1, by omega, by omega, by rw [fill_tab], by (repeat' (refine And.intro ?_ ?_)) <;> first | rfl | omega | (simp; done) | (simp; omega)⟩
        obtain rfl : i = r.rows.length := by omega
        have hin' : ((r.rows.length : Int) < (r.rows.length : Int)) = False := eq_false (by omega)
        rw [fill_end]
        repeat' (first | with_reducible (first | refine And.intro ?_ ?_ | intro _ | refine AWp_seq ?_ | refine AWp_block ?_ | (refine hKv _ _ (AWp_nop ?_); clear hKv Kv) | (refine hKA ?_; clear hKA hKB KA KB) | (refine hKB ?_; clear hKA hKB KA KB) | refine AWp_skipN ?_ | refine AWp_exitO (by repeat (first | exact Out.hit | apply Out.thenA | apply Out.out rfl)) ?_) | (with_reducible (first | (refine hKv _ _ ?_; clear hKv Kv) | ((first | refine AWp_regG gv_10 mu_10 ks_10 (by decide) ?_ | refine AWp_regro mu_10 ks_10 ro_10 ?_ | refine AWp_regC mu_10 ks_10 ?_ | refine AWp_drawT xt_10 mu_10 ks_10 (by decide) ti_mixed (by kernel_rfl) ?_ | refine AWp_regE mu_10 ks_10 ?_); intro Kv hKv) | refine AWp_retR ?_); try simp (dsimp := false) only [go_sem, Nat.reduceAdd, Nat.reduceBEq, Nat.reduceEqDiff, Nat.reduceLT, Nat.reduceLeDiff, Nat.reduceMul, Int.reduceToNat, reduceCtorEq, ↓reduceIte, Tryd.ntmps10, Tryd.results10, ks_10, mu_10, xt_10, gv_10, ro_10, ti_ag3, ti_ag22, ti_ag23, ti_ag25, ti_ag44, ti_fl25_0, ti_fl25_1, ti_hb17, ti_hb18, ti_hb19, ti_hb23, ti_hb24, ti_hb33, ti_hb34, ti_hb35, ti_hb36, ti_hb37, ti_ky9, ti_mp62, ti_pl25, ti_pl49, ti_sb23, ti_sb35, ti_sl22, ti_sl23, ti_sl35, ti_sl44, ti_sz3, ti_sz25, ti_sz35, ti_zr3, ti_zr25, ti_zr35, ti_zr49, ti_zv3, itD, itV, rlV, rowD, rlD, hin', tab_len]) | (refine AWp_condC rfl ?_; intro KA KB hKA hKB; try simp only [onB_true, onB_false, onB_dec, onB_ndec, onB_not, onB_and, onB_or]) | (refine AWp_condA rfl ?_ ?_) | with_reducible (first | refine onB_of ?_ ?_ | rfl) | omega)
        refine sortStable_A rkD (rkC ps r.rows) (fun x => x) (rkC_weak ps r.rows) _ _ (fun k => k < r.rows.length) (H.length + 1) 0 r.rows.length (fun k => k) (fun k h => h) (by omega) (fun i j h _ => h) _ (rankCmp ps (by omega) r hpi _) _ ((get_appk _ _ 1).trans rfl) fun g hgp hgs => ?_
        have hgl : ∀ k, k < r.rows.length → g k < r.rows.length := fun k hk => by
          obtain ⟨x, _, x2, x3⟩ := (hgp.s (g k)).1 ⟨k, Nat.zero_le _, hk, rfl⟩
          rw [← x3]; exact x2
        have hky : ∀ i, i < r.rows.length → ∀ x, x ∈ projRow q (r.rows.getD i []) → KeyOk x := fun i hi => by
          have hrow := List.getElem_mem hi
          rw [List.getD_eq_getElem?_getD, List.getElem?_eq_getElem hi]
          exact projRow_ok (n := (r.rows[i]).length) (hqi _ hrow) rfl fun x hx => keyOk_of (List.all_eq_true.1 (hall _ hrow).2 x hx) (by have := hS.it _ hrow x hx; omega)
        simp (dsimp := false) only [go_sem, Nat.reduceAdd, Nat.reduceBEq, Nat.reduceEqDiff, Nat.reduceLT, Nat.reduceLeDiff, Nat.reduceMul, Int.reduceToNat, reduceCtorEq, ↓reduceIte, Tryd.ntmps10, Tryd.results10, ks_10, mu_10, xt_10, gv_10, ro_10, ti_ag3, ti_ag22, ti_ag23, ti_ag25, ti_ag44, ti_fl25_0, ti_fl25_1, ti_hb17, ti_hb18, ti_hb19, ti_hb23, ti_hb24, ti_hb33, ti_hb34, ti_hb35, ti_hb36, ti_hb37, ti_ky9, ti_mp62, ti_pl25, ti_pl49, ti_sb23, ti_sb35, ti_sl22, ti_sl23, ti_sl35, ti_sl44, ti_sz3, ti_sz25, ti_sz35, ti_zr3, ti_zr25, ti_zr35, ti_zr49, ti_zv3, itD, itV, rlV, rowD, rlD, sob, tab_len]
        repeat' (first | with_reducible (first | refine And.intro ?_ ?_ | intro _ | refine AWp_seq ?_ | refine AWp_block ?_ | (refine hKv _ _ (AWp_nop ?_); clear hKv Kv) | (refine hKA ?_; clear hKA hKB KA KB) | (refine hKB ?_; clear hKA hKB KA KB) | refine AWp_skipN ?_ | refine AWp_exitO (by repeat (first | exact Out.hit | apply Out.thenA | apply Out.out rfl)) ?_) | (with_reducible (first | (refine hKv _ _ ?_; clear hKv Kv) | ((first | refine AWp_regG gv_10 mu_10 ks_10 (by decide) ?_ | refine AWp_regro mu_10 ks_10 ro_10 ?_ | refine AWp_regC mu_10 ks_10 ?_ | refine AWp_drawT xt_10 mu_10 ks_10 (by decide) ti_mixed (by kernel_rfl) ?_ | refine AWp_regE mu_10 ks_10 ?_); intro Kv hKv) | refine AWp_retR ?_); try simp (dsimp := false) only [go_sem, Nat.reduceAdd, Nat.reduceBEq, Nat.reduceEqDiff, Nat.reduceLT, Nat.reduceLeDiff, Nat.reduceMul, Int.reduceToNat, reduceCtorEq, ↓reduceIte, Tryd.ntmps10, Tryd.results10, ks_10, mu_10, xt_10, gv_10, ro_10, ti_ag3, ti_ag22, ti_ag23, ti_ag25, ti_ag44, ti_fl25_0, ti_fl25_1, ti_hb17, ti_hb18, ti_hb19, ti_hb23, ti_hb24, ti_hb33, ti_hb34, ti_hb35, ti_hb36, ti_hb37, ti_ky9, ti_mp62, ti_pl25, ti_pl49, ti_sb23, ti_sb35, ti_sl22, ti_sl23, ti_sl35, ti_sl44, ti_sz3, ti_sz25, ti_sz35, ti_zr3, ti_zr25, ti_zr35, ti_zr49, ti_zv3, itD, itV, rlV, rowD, rlD, sob, tab_len]) | (refine AWp_condC rfl ?_; intro KA KB hKA hKB; try simp only [onB_true, onB_false, onB_dec, onB_ndec, onB_not, onB_and, onB_or]) | (refine AWp_condA rfl ?_ ?_) | with_reducible (first | refine onB_of ?_ ?_ | rfl) | omega)
        rw [rep_tabI]
        refine AWp_whileH (fun y : Nat × List (List D) × List V => y.1 ≤ r.rows.length ∧ y.2.1.length = y.2.2.length ∧ (∀ k, mget y.2.1 y.2.2 [.s k] (.d (.i .i64 0)) = .d (.i .i64 (cntQ q r.rows g y.1 k))) ∧ ∀ v, v ∈ y.2.2 → ∃ x, v = .d x)
          (fun y => [(1, .d (.s name)), (4, .rp (rlD r)), (8, .pt H.length 0 0 0), (13, .d (.sl 1 (q.map intRow))), (16, .mo (H.length + 2) 0), (17, .os (H.length + 3) 0), (72, .os (H.length + 1) 0), (73, .d (.i .i64 r.rows.length)), (74, .d (.i .i64 y.1))])
          (fun y => [.row 0 25 2 [[.d (.c (.slice none 0 0)), .d (.c (.slice none 0 0))]], .row 0 3 1 (tab rkD r.rows.length g), .row 0 62 0 [[.mp [.s] y.2.1 y.2.2]], .row 0 3 1 (tab rnD r.rows.length (rkT (fun i => (rkN ps q r.rows i : Int)) g y.1))]) (fun y => r.rows.length - y.1) (0, [], []) ⟨Nat.zero_le _, rfl, fun k => by simp [mget, mix, cntQ], fun v hv => by cases hv⟩ ?_ ?_ ?_ ?_
        · first | rfl | (simp; done)
        · simp (dsimp := false) only [go_sem, Nat.reduceAdd, Nat.reduceBEq, Nat.reduceEqDiff, Nat.reduceLT, Nat.reduceLeDiff, Nat.reduceMul, Int.reduceToNat, reduceCtorEq, ↓reduceIte, Tryd.ntmps10, Tryd.results10, ks_10, mu_10, xt_10, gv_10, ro_10, ti_ag3, ti_ag22, ti_ag23, ti_ag25, ti_ag44, ti_fl25_0, ti_fl25_1, ti_hb17, ti_hb18, ti_hb19, ti_hb23, ti_hb24, ti_hb33, ti_hb34, ti_hb35, ti_hb36, ti_hb37, ti_ky9, ti_mp62, ti_pl25, ti_pl49, ti_sb23, ti_sb35, ti_sl22, ti_sl23, ti_sl35, ti_sl44, ti_sz3, ti_sz25, ti_sz35, ti_zr3, ti_zr25, ti_zr35, ti_zr49, ti_zv3, itD, itV, rlV, rowD, rlD, sob, tab_len]
          first | done | (simp; done) | (simp [tab_len]; done)
        · rintro ⟨t, ks, vs⟩ ⟨_, _, _, h4⟩ ob hob
          simp only [List.mem_cons, List.not_mem_nil, or_false] at hob
          rcases hob with rfl | rfl | rfl | rfl
          · exact hba _
          · exact tab_bel rkD _ _ _ _ _
          · exact mapD_bel h4
          · exact tab_bel rnD _ _ _ _ _
        rintro ⟨t, ks, vs⟩ ⟨ht, h2, h3, h4⟩
        simp only [] at ht h2 h3 h4 ⊢
        have hcl2 : ∀ ks vs f, (∀ v, v ∈ vs → ∃ x, v = V.d x) → Closed H (H ++ [.row 0 25 2 [[.d (.c (.slice none 0 0)), .d (.c (.slice none 0 0))]], .row 0 3 1 (tab rkD r.rows.length g), .row 0 62 0 [[.mp [.s] ks vs]], .row 0 3 1 (tab rnD r.rows.length f)]) := fun ks vs f h => hclA _ fun ob hob m => by
          simp only [List.mem_cons, List.not_mem_nil, or_false] at hob
          rcases hob with rfl | rfl | rfl | rfl
          · exact hba _
          · exact tab_bel rkD _ _ _ _ _
          · exact mapD_bel h
          · exact tab_bel rnD _ _ _ _ _
        by_cases htN : t < r.rows.length
        · have ht' : ((t : Int) < (r.rows.length : Int)) = True := eq_true (by omega)
          have t0 : ((0 : Int) ≤ (t : Int)) = True := eq_true (by omega)
          have hgt := hgl t htN
          have g0 : ((0 : Int) ≤ (g t : Int)) = True := eq_true (by omega)
          have g1 : ((g t : Int) < (r.rows.length : Int)) = True := eq_true (by omega)
          have gk := tab_get rkD (n := r.rows.length) (g := g) (k := t) htN
          have gr := fun f => tab_get rnD (n := r.rows.length) (g := f) (k := g t) hgt
          have hts : ∀ f (x : Int), (tab rnD r.rows.length f).set (g t) [V.d (.i .i64 x)] = tab rnD r.rows.length (upd f (g t) x) := fun f x => tab_set rnD
          obtain ⟨row, hrow⟩ : ∃ row, r.rows[g t]? = some row := ⟨r.rows[g t], List.getElem?_eq_getElem hgt⟩
          have hmem := List.mem_of_getElem? hrow
          have hkS : ∀ x, x ∈ projRow q row → x.s.length ≤ 1048576 := fun x hx => by
            obtain ⟨i, i1, rfl⟩ := List.mem_map.1 hx
            have := hqi row hmem i i1
            have hlt : i.toNat < row.length := by omega
            rw [rg_get (List.getElem?_eq_getElem hlt)]
            exact hS.it row hmem _ (List.getElem_mem hlt)
          have hcn := cntQ_le q r.rows g t (keyL (projRow q row))
          have e1 : kyL q r.rows (g t) = keyL (projRow q row) := by simp [kyL, List.getD, hrow]
          have hrk := rkN_eq hgp hgs hky htN
          rw [e1] at hrk
          have m1 := h3 (keyL (projRow q row))
          have m2 := mget_put (k := [.s (keyL (projRow q row))]) (z := .d (.i .i64 0)) (v := .d (.i .i64 ((cntQ q r.rows g t (keyL (projRow q row)) : Int) + 1))) h2
          have e2 : (cntQ q r.rows g t (keyL (projRow q row)) : Int) + 1 = rkN ps q r.rows (g t) := by omega
          repeat' (first | with_reducible (first | refine And.intro ?_ ?_ | intro _ | refine AWp_seq ?_ | refine AWp_block ?_ | (refine hKv _ _ (AWp_nop ?_); clear hKv Kv) | (refine hKA ?_; clear hKA hKB KA KB) | (refine hKB ?_; clear hKA hKB KA KB) | refine AWp_skipN ?_ | refine AWp_exitO (by repeat (first | exact Out.hit | apply Out.thenA | apply Out.out rfl)) ?_) | ((first | with_reducible (first | (refine hKv _ _ ?_; clear hKv Kv) | ((first | refine AWp_regG gv_10 mu_10 ks_10 (by decide) ?_ | refine AWp_regro mu_10 ks_10 ro_10 ?_ | refine AWp_regC mu_10 ks_10 ?_ | refine AWp_drawT xt_10 mu_10 ks_10 (by decide) ti_mixed (by kernel_rfl) ?_ | refine AWp_regE mu_10 ks_10 ?_); intro Kv hKv) | refine AWp_retR ?_) | refine these_A row q (by omega) (hqi row hmem) _ _ ?_ | refine QCall_of (these_A row q (by omega) (hqi row hmem) _ _ (Two_intro _ _)) ?_ | refine ECall_of (these_A row q (by omega) (hqi row hmem) _ _ (Two_intro _ _)) ?_ | refine key_A (projRow q row) (by rw [projRow, List.length_map]; omega) hkS _ _ ?_ | refine QCall_of (key_A (projRow q row) (by rw [projRow, List.length_map]; omega) hkS _ _ (Two_intro _ _)) ?_ | refine ECall_of (key_A (projRow q row) (by rw [projRow, List.length_map]; omega) hkS _ _ (Two_intro _ _)) ?_); try simp (dsimp := false) only [go_sem, Nat.reduceAdd, Nat.reduceBEq, Nat.reduceEqDiff, Nat.reduceLT, Nat.reduceLeDiff, Nat.reduceMul, Int.reduceToNat, reduceCtorEq, ↓reduceIte, Tryd.ntmps10, Tryd.results10, ks_10, mu_10, xt_10, gv_10, ro_10, ti_ag3, ti_ag22, ti_ag23, ti_ag25, ti_ag44, ti_fl25_0, ti_fl25_1, ti_hb17, ti_hb18, ti_hb19, ti_hb23, ti_hb24, ti_hb33, ti_hb34, ti_hb35, ti_hb36, ti_hb37, ti_ky9, ti_mp62, ti_pl25, ti_pl49, ti_sb23, ti_sb35, ti_sl22, ti_sl23, ti_sl35, ti_sl44, ti_sz3, ti_sz25, ti_sz35, ti_zr3, ti_zr25, ti_zr35, ti_zr49, ti_zv3, itD, itV, rlV, rowD, rlD, ht', t0, g0, g1, gk, gr, hts, hrow, m1, m2, tab_len, rkD]) | (refine AWp_condC rfl ?_; intro KA KB hKA hKB; try simp only [onB_true, onB_false, onB_dec, onB_ndec, onB_not, onB_and, onB_or]) | (refine AWp_condA rfl ?_ ?_) | with_reducible (first | refine onB_of ?_ ?_ | rfl) | omega)
          all_goals first
            | omega
            | exact hcl2 _ _ _ h4
            | exact hcl2 _ _ _ (mput_all h4 ⟨_, rfl⟩)
            | skip
          refine ⟨(t + 1, mputK ks [.s (keyL (projRow q row))], mputV ks vs [.s (keyL (projRow q row))] (.d (.i .i64 ((cntQ q r.rows g t (keyL (projRow q row)) : Int) + 1)))), ⟨by show t + 1 ≤ r.rows.length; omega, mput_len h2, fun k => ?_, mput_all h4 ⟨_, rfl⟩⟩, by show r.rows.length - (t + 1) < r.rows.length - t; omega, ?_, ?_⟩
          · show mget (mputK ks [.s (keyL (projRow q row))]) (mputV ks vs [.s (keyL (projRow q row))] _) [.s k] _ = .d (.i .i64 (cntQ q r.rows g (t + 1) k))
            rw [cntQ_succ, e1]
            by_cases hkk : k = keyL (projRow q row)
            · subst hkk
              rw [mget_put h2, if_pos rfl]
              rfl
            · rw [mget_put_ne h2 (by simpa using hkk), if_neg hkk]
              exact h3 k
          · rw [e2]
            first | rfl
          · first | rfl | ((repeat' (refine And.intro ?_ ?_)) <;> first | rfl | omega | (simp; done) | (simp; omega))
        obtain rfl : t = r.rows.length := by omega
        have ht' : ((r.rows.length : Int) < (r.rows.length : Int)) = False := eq_false (by omega)
        have hend : tab rnD r.rows.length (rkT (fun i => (rkN ps q r.rows i : Int)) g r.rows.length) = tab rnD r.rows.length (fun i => (rkN ps q r.rows i : Int)) := tab_ext rnD fun k hk => rkT_end hgp k hk
        rw [hend]
        repeat' (first | with_reducible (first | refine And.intro ?_ ?_ | intro _ | refine AWp_seq ?_ | refine AWp_block ?_ | (refine hKv _ _ (AWp_nop ?_); clear hKv Kv) | (refine hKA ?_; clear hKA hKB KA KB) | (refine hKB ?_; clear hKA hKB KA KB) | refine AWp_skipN ?_ | refine AWp_exitO (by repeat (first | exact Out.hit | apply Out.thenA | apply Out.out rfl)) ?_) | (with_reducible (first | (refine hKv _ _ ?_; clear hKv Kv) | ((first | refine AWp_regG gv_10 mu_10 ks_10 (by decide) ?_ | refine AWp_regro mu_10 ks_10 ro_10 ?_ | refine AWp_regC mu_10 ks_10 ?_ | refine AWp_drawT xt_10 mu_10 ks_10 (by decide) ti_mixed (by kernel_rfl) ?_ | refine AWp_regE mu_10 ks_10 ?_); intro Kv hKv) | refine AWp_retR ?_); try simp (dsimp := false) only [go_sem, Nat.reduceAdd, Nat.reduceBEq, Nat.reduceEqDiff, Nat.reduceLT, Nat.reduceLeDiff, Nat.reduceMul, Int.reduceToNat, reduceCtorEq, ↓reduceIte, Tryd.ntmps10, Tryd.results10, ks_10, mu_10, xt_10, gv_10, ro_10, ti_ag3, ti_ag22, ti_ag23, ti_ag25, ti_ag44, ti_fl25_0, ti_fl25_1, ti_hb17, ti_hb18, ti_hb19, ti_hb23, ti_hb24, ti_hb33, ti_hb34, ti_hb35, ti_hb36, ti_hb37, ti_ky9, ti_mp62, ti_pl25, ti_pl49, ti_sb23, ti_sb35, ti_sl22, ti_sl23, ti_sl35, ti_sl44, ti_sz3, ti_sz25, ti_sz35, ti_zr3, ti_zr25, ti_zr35, ti_zr49, ti_zv3, itD, itV, rlV, rowD, rlD, ht', tab_len]) | (refine AWp_condC rfl ?_; intro KA KB hKA hKB; try simp only [onB_true, onB_false, onB_dec, onB_ndec, onB_not, onB_and, onB_or]) | (refine AWp_condA rfl ?_ ?_) | with_reducible (first | refine onB_of ?_ ?_ | rfl) | omega)
        have hcl3 : ∀ (G : List Ob), (∀ ob, ob ∈ G → ∀ m, ObBel m ob) → ∀ ob, ob ∈ ([.row 0 25 2 [[.d (.c (.slice none 0 0)), .d (.c (.slice none 0 0))]], .row 0 3 1 (tab rkD r.rows.length g), .row 0 62 0 [[.mp [.s] ks vs]], .row 0 3 1 (tab rnD r.rows.length fun i => (rkN ps q r.rows i : Int))] ++ G : List Ob) → ∀ m, ObBel m ob := fun G hG ob hob m => by
          rcases List.mem_append.1 hob with hob | hob
          · simp only [List.mem_cons, List.not_mem_nil, or_false] at hob
            rcases hob with rfl | rfl | rfl | rfl
            · exact hba _
            · exact tab_bel rkD _ _ _ _ _
            · exact mapD_bel h4
            · exact tab_bel rnD _ _ _ _ _
          · exact hG ob hob m
        refine AWp_whileD (fun i : Nat => i ≤ r.rows.length)
          (fun i => [(1, .d (.s name)), (4, .rp (rlD r)), (8, .pt H.length 0 0 0), (17, .os (H.length + 3) 0), (21, .os (H.length + 4) i), (98, .d (.sl 1 (r.rows.map rowD))), (99, .d (.i .i64 r.rows.length)), (100, .d (.i .i64 i))])
          (fun i => [.row 0 25 2 [[.d (.c (.slice none 0 0)), .d (.c (.slice none 0 0))]], .row 0 3 1 (tab rkD r.rows.length g), .row 0 62 0 [[.mp [.s] ks vs]], .row 0 3 1 (tab rnD r.rows.length fun i => (rkN ps q r.rows i : Int)), .row i 44 1 (((rkRows ps q r.rows).take i).map rowC)]) (fun i => r.rows.length - i) 0 (Nat.zero_le _) ⟨[], ?_⟩ ?_ ?_ ?_
        · first | rfl | (simp; done)
        · simp (dsimp := false) only [go_sem, Nat.reduceAdd, Nat.reduceBEq, Nat.reduceEqDiff, Nat.reduceLT, Nat.reduceLeDiff, Nat.reduceMul, Int.reduceToNat, reduceCtorEq, ↓reduceIte, Tryd.ntmps10, Tryd.results10, ks_10, mu_10, xt_10, gv_10, ro_10, ti_ag3, ti_ag22, ti_ag23, ti_ag25, ti_ag44, ti_fl25_0, ti_fl25_1, ti_hb17, ti_hb18, ti_hb19, ti_hb23, ti_hb24, ti_hb33, ti_hb34, ti_hb35, ti_hb36, ti_hb37, ti_ky9, ti_mp62, ti_pl25, ti_pl49, ti_sb23, ti_sb35, ti_sl22, ti_sl23, ti_sl35, ti_sl44, ti_sz3, ti_sz25, ti_sz35, ti_zr3, ti_zr25, ti_zr35, ti_zr49, ti_zv3, itD, itV, rlV, rowD, rlD, ht', tab_len]
          first | done | (simp; done) | (simp [tab_len]; done)
        · rintro i _ ob hob
          exact hcl3 _ (fun ob hob m => by rw [List.mem_singleton.1 hob]; exact obBel_rows _ _ _ _ _) ob hob _
        rintro i hi
        by_cases hiN : i < r.rows.length
        · obtain ⟨row, hrow⟩ : ∃ row, r.rows[i]? = some row := ⟨r.rows[i], List.getElem?_eq_getElem hiN⟩
          have hin2 : ((i : Int) < (r.rows.length : Int)) = True := eq_true (by omega)
          have i0 : ((0 : Int) ≤ (i : Int)) = True := eq_true (by omega)
          have hmem := List.mem_of_getElem? hrow
          have hrl := hS.row row hmem
          have htk := rkRows_take (ps := ps) (q := q) hrow
          have hlt : (((rkRows ps q r.rows).take i).map rowC).length = i := by rw [List.length_map, List.length_take, rkRows_len]; omega
          have gr := tab_get rnD (n := r.rows.length) (g := fun i => (rkN ps q r.rows i : Int)) (k := i) hiN
          have hds := itD_cells row (rkN ps q r.rows i)
          have h56 : H.length + 5 + 1 = H.length + 6 := rfl
          repeat' (first | with_reducible (first | refine And.intro ?_ ?_ | intro _ | refine AWp_seq ?_ | refine AWp_block ?_ | (refine hKv _ _ (AWp_nop ?_); clear hKv Kv) | (refine hKA ?_; clear hKA hKB KA KB) | (refine hKB ?_; clear hKA hKB KA KB) | refine AWp_skipN ?_ | refine AWp_exitO (by repeat (first | exact Out.hit | apply Out.thenA | apply Out.out rfl)) ?_) | ((first | with_reducible (first | (refine hKv _ _ ?_; clear hKv Kv) | ((first | refine AWp_regG gv_10 mu_10 ks_10 (by decide) ?_ | refine AWp_regro mu_10 ks_10 ro_10 ?_ | refine AWp_regC mu_10 ks_10 ?_ | refine AWp_drawT xt_10 mu_10 ks_10 (by decide) ti_mixed (by kernel_rfl) ?_ | refine AWp_regE mu_10 ks_10 ?_); intro Kv hKv) | refine AWp_retR ?_) | refine RkO.cloneItsO_A (row.map itD) (by rw [List.length_map]; omega) _ _ ?_ | refine QCall_of (RkO.cloneItsO_A (row.map itD) (by rw [List.length_map]; omega) _ _ (Two_intro _ _)) ?_ | refine ECall_of (RkO.cloneItsO_A (row.map itD) (by rw [List.length_map]; omega) _ _ (Two_intro _ _)) ?_); try simp (dsimp := false) only [go_sem, Nat.reduceAdd, Nat.reduceBEq, Nat.reduceEqDiff, Nat.reduceLT, Nat.reduceLeDiff, Nat.reduceMul, Int.reduceToNat, reduceCtorEq, ↓reduceIte, Tryd.ntmps10, Tryd.results10, ks_10, mu_10, xt_10, gv_10, ro_10, ti_ag3, ti_ag22, ti_ag23, ti_ag25, ti_ag44, ti_fl25_0, ti_fl25_1, ti_hb17, ti_hb18, ti_hb19, ti_hb23, ti_hb24, ti_hb33, ti_hb34, ti_hb35, ti_hb36, ti_hb37, ti_ky9, ti_mp62, ti_pl25, ti_pl49, ti_sb23, ti_sb35, ti_sl22, ti_sl23, ti_sl35, ti_sl44, ti_sz3, ti_sz25, ti_sz35, ti_zr3, ti_zr25, ti_zr35, ti_zr49, ti_zv3, itD, itV, rlV, rowD, rlD, h56, hin2, i0, gr, rnD, hrow, hlt, hds, tab_len]) | (refine AWp_condC rfl ?_; intro KA KB hKA hKB; try simp only [onB_true, onB_false, onB_dec, onB_ndec, onB_not, onB_and, onB_or]) | (refine AWp_condA rfl ?_ ?_) | with_reducible (first | refine onB_of ?_ ?_ | rfl) | omega)
          all_goals first
            | omega
            | exact hclA _ (hcl3 [_] fun ob hob m => by rw [List.mem_singleton.1 hob]; exact obBel_rows _ _ _ _ _)
            | skip
          refine ⟨i + 1, [.row 0 49 3 [], .dead], by omega, by omega, ?_, by omega, by omega, rfl, by omega, by omega⟩
          rw [htk, List.map_append (f := rowC)]
          rfl
        obtain rfl : i = r.rows.length := by omega
        have hin2 : ((r.rows.length : Int) < (r.rows.length : Int)) = False := eq_false (by omega)
        rw [List.take_of_length_le (by rw [rkRows_len]; exact Nat.le_refl _)]
        have hsl := rkRows_len ps q r.rows
        have hds := strC_cells r.cols name
        have hcs : ∀ s, s ∈ r.cols ++ [name] → s.length ≤ 1048576 := fun s hs => by
          rcases List.mem_append.1 hs with hs | hs
          · exact hS.col s hs
          · rw [List.mem_singleton.1 hs]; exact hname
        obtain ⟨hcl0, _, _⟩ := relFault_ok hf
        have hcl8 : (r.cols ++ [name]).length ≤ 1048576 := by
          have : r.cols.length ≤ 8 := by
            unfold colsFault at hcl0
            split at hcl0
            · assumption
            · cases hcl0
          rw [List.length_append, List.length_cons, List.length_nil]
          omega
        rw [← hsl] at hk
        have h56 : H.length + 5 + 1 = H.length + 6 := rfl
        repeat' (first | with_reducible (first | refine And.intro ?_ ?_ | intro _ | refine AWp_seq ?_ | refine AWp_block ?_ | (refine hKv _ _ (AWp_nop ?_); clear hKv Kv) | (refine hKA ?_; clear hKA hKB KA KB) | (refine hKB ?_; clear hKA hKB KA KB) | refine AWp_skipN ?_ | refine AWp_exitO (by repeat (first | exact Out.hit | apply Out.thenA | apply Out.out rfl)) ?_) | ((first | with_reducible (first | (refine hKv _ _ ?_; clear hKv Kv) | ((first | refine AWp_regG gv_10 mu_10 ks_10 (by decide) ?_ | refine AWp_regro mu_10 ks_10 ro_10 ?_ | refine AWp_regC mu_10 ks_10 ?_ | refine AWp_drawT xt_10 mu_10 ks_10 (by decide) ti_mixed (by kernel_rfl) ?_ | refine AWp_regE mu_10 ks_10 ?_); intro Kv hKv) | refine AWp_retR ?_) | refine RkO.cloneStrsO_A (r.cols.map strRow) (by rw [List.length_map]; omega) _ _ ?_ | refine QCall_of (RkO.cloneStrsO_A (r.cols.map strRow) (by rw [List.length_map]; omega) _ _ (Two_intro _ _)) ?_ | refine ECall_of (RkO.cloneStrsO_A (r.cols.map strRow) (by rw [List.length_map]; omega) _ _ (Two_intro _ _)) ?_ | refine finishedO_A (r.cols ++ [name]) _ _ _ _ hcl8 hcs (by rw [List.length_map]; omega) _ _ ((get_appk _ _ 4).trans rfl) ?_ | refine QCall_of (finishedO_A (r.cols ++ [name]) _ _ _ _ hcl8 hcs (by rw [List.length_map]; omega) _ _ ((get_appk _ _ 4).trans rfl) (Two_intro _ _)) ?_ | refine ECall_of (finishedO_A (r.cols ++ [name]) _ _ _ _ hcl8 hcs (by rw [List.length_map]; omega) _ _ ((get_appk _ _ 4).trans rfl) (Two_intro _ _)) ?_); try simp (dsimp := false) only [go_sem, Nat.reduceAdd, Nat.reduceBEq, Nat.reduceEqDiff, Nat.reduceLT, Nat.reduceLeDiff, Nat.reduceMul, Int.reduceToNat, reduceCtorEq, ↓reduceIte, Tryd.ntmps10, Tryd.results10, ks_10, mu_10, xt_10, gv_10, ro_10, ti_ag3, ti_ag22, ti_ag23, ti_ag25, ti_ag44, ti_fl25_0, ti_fl25_1, ti_hb17, ti_hb18, ti_hb19, ti_hb23, ti_hb24, ti_hb33, ti_hb34, ti_hb35, ti_hb36, ti_hb37, ti_ky9, ti_mp62, ti_pl25, ti_pl49, ti_sb23, ti_sb35, ti_sl22, ti_sl23, ti_sl35, ti_sl44, ti_sz3, ti_sz25, ti_sz35, ti_zr3, ti_zr25, ti_zr35, ti_zr49, ti_zv3, itD, itV, rlV, rowD, rlD, finQ, h56, hin2, hds]) | (refine AWp_condC rfl ?_; intro KA KB hKA hKB; try simp only [onB_true, onB_false, onB_dec, onB_ndec, onB_not, onB_and, onB_or]) | (refine AWp_condA rfl ?_ ?_) | with_reducible (first | refine onB_of ?_ ?_ | rfl) | omega)
        all_goals first
          | omega
          | exact fin_ret hk (by assumption) (by omega) (get_appk _ _ 4)
          | exact fin_bad hk rfl (by assumption)
  · rw [ranked, if_neg hf] at hk
    have hf' : (relFault r = 0) = False := eq_false hf
    refine ACalls_of Tryd.func10 rfl in_10 (Nat.le_of_ble_eq_true rfl) ?_
    intro F hF
    simp (dsimp := false) only [go_sem, Nat.reduceAdd, Nat.reduceBEq, Nat.reduceEqDiff, Nat.reduceLT, Nat.reduceLeDiff, Nat.reduceMul, Int.reduceToNat, reduceCtorEq, ↓reduceIte, Tryd.ntmps10, Tryd.results10, ks_10, mu_10, xt_10, gv_10, ro_10, ti_ag3, ti_ag22, ti_ag23, ti_ag25, ti_ag44, ti_fl25_0, ti_fl25_1, ti_hb17, ti_hb18, ti_hb19, ti_hb23, ti_hb24, ti_hb33, ti_hb34, ti_hb35, ti_hb36, ti_hb37, ti_ky9, ti_mp62, ti_pl25, ti_pl49, ti_sb23, ti_sb35, ti_sl22, ti_sl23, ti_sl35, ti_sl44, ti_sz3, ti_sz25, ti_sz35, ti_zr3, ti_zr25, ti_zr35, ti_zr49, ti_zv3, itD, itV, rlV, rowD, rlD, hf', not_false_eq_true, in_10] at hF
    subst hF
    repeat' (first | with_reducible (first | refine And.intro ?_ ?_ | intro _ | refine AWp_seq ?_ | refine AWp_block ?_ | (refine hKv _ _ (AWp_nop ?_); clear hKv Kv) | (refine hKA ?_; clear hKA hKB KA KB) | (refine hKB ?_; clear hKA hKB KA KB) | refine AWp_skipN ?_ | refine AWp_exitO (by repeat (first | exact Out.hit | apply Out.thenA | apply Out.out rfl)) ?_) | ((first | with_reducible (first | (refine hKv _ _ ?_; clear hKv Kv) | ((first | refine AWp_regG gv_10 mu_10 ks_10 (by decide) ?_ | refine AWp_regro mu_10 ks_10 ro_10 ?_ | refine AWp_regC mu_10 ks_10 ?_ | refine AWp_drawT xt_10 mu_10 ks_10 (by decide) ti_mixed (by kernel_rfl) ?_ | refine AWp_regE mu_10 ks_10 ?_); intro Kv hKv) | refine AWp_retR ?_) | refine relCheck_A r hS _ _ ?_ | refine QCall_of (relCheck_A r hS _ _ (Two_intro _ _)) ?_ | refine ECall_of (relCheck_A r hS _ _ (Two_intro _ _)) ?_); try simp (dsimp := false) only [go_sem, Nat.reduceAdd, Nat.reduceBEq, Nat.reduceEqDiff, Nat.reduceLT, Nat.reduceLeDiff, Nat.reduceMul, Int.reduceToNat, reduceCtorEq, ↓reduceIte, Tryd.ntmps10, Tryd.results10, ks_10, mu_10, xt_10, gv_10, ro_10, ti_ag3, ti_ag22, ti_ag23, ti_ag25, ti_ag44, ti_fl25_0, ti_fl25_1, ti_hb17, ti_hb18, ti_hb19, ti_hb23, ti_hb24, ti_hb33, ti_hb34, ti_hb35, ti_hb36, ti_hb37, ti_ky9, ti_mp62, ti_pl25, ti_pl49, ti_sb23, ti_sb35, ti_sl22, ti_sl23, ti_sl35, ti_sl44, ti_sz3, ti_sz25, ti_sz35, ti_zr3, ti_zr25, ti_zr35, ti_zr49, ti_zv3, itD, itV, rlV, rowD, rlD, hf', not_false_eq_true]) | (refine AWp_condC rfl ?_; intro KA KB hKA hKB; try simp only [onB_true, onB_false, onB_dec, onB_ndec, onB_not, onB_and, onB_or]) | (refine AWp_condA rfl ?_ ?_) | with_reducible (first | refine onB_of ?_ ?_ | rfl) | omega)
    all_goals first
      | exact dropF hk (fz_rl0 _ _ _) (bel_relE _ _ _)
end Go.Proofs.YtpgdflhcmijaiaaDoor
