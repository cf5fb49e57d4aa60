/- Rows that are there once: what the reference makes. No condition but that the tables of package unicode/utf8 are there. -/
import Derived.Test.YtafbojmnmadlpaaDoorUq
set_option linter.all false
set_option linter.unusedSimpArgs false
set_option linter.unusedVariables false
namespace Go.Proofs.YtafbojmnmadlpaaDoor
open Go Go.Proofs.YtafbojmnmadlpaaDoor.Ab
variable [Glo] [U8]
set_option maxHeartbeats 4000000
set_option maxRecDepth 20000

/- the live slots of pleacher/pleacherref.UniqueOf -/
def ks_24 : Nat → List Nat
  | 0 => [1, 2, 4]
  | 1 => [1, 2, 4, 6]
  | 2 => [2, 4, 6, 7, 8]
  | 3 => [2, 4, 6, 7, 27]
  | 4 => [2, 4, 6, 7]
  | 5 => [2, 4, 6, 7, 29]
  | 6 => [4, 5]
  | 7 => [2, 4, 7, 9]
  | 8 => [2, 4, 7, 9, 10]
  | 9 => [2, 4, 7, 9, 10, 36]
  | 10 => [2, 4, 7, 9, 10]
  | 11 => [2, 4, 7, 9, 10, 11]
  | 12 => [2, 4, 7, 9, 10, 11, 12]
  | 13 => [2, 4, 7, 9, 10, 11, 12, 46]
  | 14 => [2, 4, 7, 9, 10, 11, 12]
  | 15 => [2, 4, 7, 9, 10, 11, 12]
  | 16 => [2, 4, 7, 9, 10, 64]
  | 17 => [2, 4, 7, 9, 10, 13]
  | 18 => [2, 4, 7, 9, 10]
  | 19 => [4, 5]
  | _ => []
def mu_24 : List Nat := [9]
def in_24 : List Nat := [0, 1]
def nd_24 : Nat → Nat
  | 15 => 14
  | _ => 0
theorem uniqueOf_A (r : Rl) (hS : ShR r) (cols : List (List UInt8)) (hc : cols.length ≤ 1048576) (H : Heap) (K : V → Heap → Prop) (hk : K (relE (uniqued r cols).1 (uniqued r cols).2) H) :
    ACalls Tryd.prog 24 [rlV r, .d (.sl 1 (cols.map strRow))] H K := by
  have q1 := hS.ncols
  have q2 := hS.nrows
  by_cases hf : relFault r = 0
  · cases hp : places r.cols cols with
    | none =>
      rw [uniqued, if_pos hf, hp] at hk
      
      refine ACalls_of Tryd.func24 rfl in_24 (Nat.le_of_ble_eq_true rfl) ?_
      intro F hF
      simp (dsimp := false) only [go_sem, Nat.reduceAdd, Nat.reduceBEq, Nat.reduceEqDiff, Nat.reduceLT, Nat.reduceLeDiff, Nat.reduceMul, Int.reduceToNat, reduceCtorEq, ↓reduceIte, Tryd.ntmps24, Tryd.results24, ks_24, mu_24, nd_24, ti_ag22, ti_ag23, ti_ag25, ti_ag68, ti_fl25_0, ti_fl25_1, ti_hb47, ti_hb50, ti_hb59, ti_hb67, ti_hb68, ti_hb69, ti_pl25, ti_sb23, ti_sl23, ti_sz25, ti_zr25, itD, itV, rlV, rowD, rlD, hf, hp, Option.getD_none, Option.isSome_none, in_24] at hF
      subst hF
      repeat' (first
        | with_reducible refine And.intro ?_ ?_
        | with_reducible intro _
        | with_reducible refine AWp_seq ?_
        | with_reducible refine AWp_block ?_
        | (with_reducible refine hKv _ _ (AWp_nop ?_); clear hKv Kv)
        | (with_reducible refine hKv _ _ ?_; clear hKv Kv; simp (dsimp := false) only [go_sem, Nat.reduceAdd, Nat.reduceBEq, Nat.reduceEqDiff, Nat.reduceLT, Nat.reduceLeDiff, Nat.reduceMul, Int.reduceToNat, reduceCtorEq, ↓reduceIte, Tryd.ntmps24, Tryd.results24, ks_24, mu_24, nd_24, ti_ag22, ti_ag23, ti_ag25, ti_ag68, ti_fl25_0, ti_fl25_1, ti_hb47, ti_hb50, ti_hb59, ti_hb67, ti_hb68, ti_hb69, ti_pl25, ti_sb23, ti_sl23, ti_sz25, ti_zr25, itD, itV, rlV, rowD, rlD, hf, hp, Option.getD_none, Option.isSome_none])
        | (with_reducible refine hKA ?_; clear hKA hKB KA KB)
        | (with_reducible refine hKB ?_; clear hKA hKB KA KB)
        | (with_reducible refine AWp_regC mu_24 ks_24 ?_; intro Kv hKv; simp (dsimp := false) only [go_sem, Nat.reduceAdd, Nat.reduceBEq, Nat.reduceEqDiff, Nat.reduceLT, Nat.reduceLeDiff, Nat.reduceMul, Int.reduceToNat, reduceCtorEq, ↓reduceIte, Tryd.ntmps24, Tryd.results24, ks_24, mu_24, nd_24, ti_ag22, ti_ag23, ti_ag25, ti_ag68, ti_fl25_0, ti_fl25_1, ti_hb47, ti_hb50, ti_hb59, ti_hb67, ti_hb68, ti_hb69, ti_pl25, ti_sb23, ti_sl23, ti_sz25, ti_zr25, itD, itV, rlV, rowD, rlD, hf, hp, Option.getD_none, Option.isSome_none])
        | (with_reducible refine AWp_draw nd_24 mu_24 ks_24 ti_mixed (by kernel_rfl) ?_; intro Kv hKv; simp (dsimp := false) only [go_sem, Nat.reduceAdd, Nat.reduceBEq, Nat.reduceEqDiff, Nat.reduceLT, Nat.reduceLeDiff, Nat.reduceMul, Int.reduceToNat, reduceCtorEq, ↓reduceIte, Tryd.ntmps24, Tryd.results24, ks_24, mu_24, nd_24, ti_ag22, ti_ag23, ti_ag25, ti_ag68, ti_fl25_0, ti_fl25_1, ti_hb47, ti_hb50, ti_hb59, ti_hb67, ti_hb68, ti_hb69, ti_pl25, ti_sb23, ti_sl23, ti_sz25, ti_zr25, itD, itV, rlV, rowD, rlD, hf, hp, Option.getD_none, Option.isSome_none])
        | with_reducible refine AWp_skipN ?_
        | with_reducible refine AWp_exitO (by repeat (first | with_reducible exact Out.hit | with_reducible apply Out.thenA | with_reducible apply Out.out rfl)) ?_
        | (with_reducible refine AWp_retR ?_; simp (dsimp := false) only [go_sem, Nat.reduceAdd, Nat.reduceBEq, Nat.reduceEqDiff, Nat.reduceLT, Nat.reduceLeDiff, Nat.reduceMul, Int.reduceToNat, reduceCtorEq, ↓reduceIte, Tryd.ntmps24, Tryd.results24, ks_24, mu_24, nd_24, ti_ag22, ti_ag23, ti_ag25, ti_ag68, ti_fl25_0, ti_fl25_1, ti_hb47, ti_hb50, ti_hb59, ti_hb67, ti_hb68, ti_hb69, ti_pl25, ti_sb23, ti_sl23, ti_sz25, ti_zr25, itD, itV, rlV, rowD, rlD, hf, hp, Option.getD_none, Option.isSome_none])
        | (with_reducible refine AWp_regE mu_24 ks_24 ?_; intro Kv hKv; simp (dsimp := false) only [go_sem, Nat.reduceAdd, Nat.reduceBEq, Nat.reduceEqDiff, Nat.reduceLT, Nat.reduceLeDiff, Nat.reduceMul, Int.reduceToNat, reduceCtorEq, ↓reduceIte, Tryd.ntmps24, Tryd.results24, ks_24, mu_24, nd_24, ti_ag22, ti_ag23, ti_ag25, ti_ag68, ti_fl25_0, ti_fl25_1, ti_hb47, ti_hb50, ti_hb59, ti_hb67, ti_hb68, ti_hb69, ti_pl25, ti_sb23, ti_sl23, ti_sz25, ti_zr25, itD, itV, rlV, rowD, rlD, hf, hp, Option.getD_none, Option.isSome_none])
        | (with_reducible refine AWp_drawE nd_24 mu_24 ks_24 ti_mixed (by kernel_rfl) ?_; intro Kv hKv; simp (dsimp := false) only [go_sem, Nat.reduceAdd, Nat.reduceBEq, Nat.reduceEqDiff, Nat.reduceLT, Nat.reduceLeDiff, Nat.reduceMul, Int.reduceToNat, reduceCtorEq, ↓reduceIte, Tryd.ntmps24, Tryd.results24, ks_24, mu_24, nd_24, ti_ag22, ti_ag23, ti_ag25, ti_ag68, ti_fl25_0, ti_fl25_1, ti_hb47, ti_hb50, ti_hb59, ti_hb67, ti_hb68, ti_hb69, ti_pl25, ti_sb23, ti_sl23, ti_sz25, ti_zr25, itD, itV, rlV, rowD, rlD, hf, hp, Option.getD_none, Option.isSome_none])
        | (refine AWp_condC rfl ?_; intro KA KB hKA hKB; try simp only [onB_true, onB_false, onB_dec, onB_ndec, onB_not, onB_and, onB_or])
        | (refine AWp_condA rfl ?_ ?_)
        | (refine relFault_A r hS _ _ ?_; try simp (dsimp := false) only [go_sem, Nat.reduceAdd, Nat.reduceBEq, Nat.reduceEqDiff, Nat.reduceLT, Nat.reduceLeDiff, Nat.reduceMul, Int.reduceToNat, reduceCtorEq, ↓reduceIte, Tryd.ntmps24, Tryd.results24, ks_24, mu_24, nd_24, ti_ag22, ti_ag23, ti_ag25, ti_ag68, ti_fl25_0, ti_fl25_1, ti_hb47, ti_hb50, ti_hb59, ti_hb67, ti_hb68, ti_hb69, ti_pl25, ti_sb23, ti_sl23, ti_sz25, ti_zr25, itD, itV, rlV, rowD, rlD, hf, hp, Option.getD_none, Option.isSome_none])
        | (refine QCall_of (relFault_A r hS _ _ (Two_intro _ _)) ?_; try simp (dsimp := false) only [go_sem, Nat.reduceAdd, Nat.reduceBEq, Nat.reduceEqDiff, Nat.reduceLT, Nat.reduceLeDiff, Nat.reduceMul, Int.reduceToNat, reduceCtorEq, ↓reduceIte, Tryd.ntmps24, Tryd.results24, ks_24, mu_24, nd_24, ti_ag22, ti_ag23, ti_ag25, ti_ag68, ti_fl25_0, ti_fl25_1, ti_hb47, ti_hb50, ti_hb59, ti_hb67, ti_hb68, ti_hb69, ti_pl25, ti_sb23, ti_sl23, ti_sz25, ti_zr25, itD, itV, rlV, rowD, rlD, hf, hp, Option.getD_none, Option.isSome_none])
        | (refine colsAt_A r hS cols hc _ _ ?_; try simp (dsimp := false) only [go_sem, Nat.reduceAdd, Nat.reduceBEq, Nat.reduceEqDiff, Nat.reduceLT, Nat.reduceLeDiff, Nat.reduceMul, Int.reduceToNat, reduceCtorEq, ↓reduceIte, Tryd.ntmps24, Tryd.results24, ks_24, mu_24, nd_24, ti_ag22, ti_ag23, ti_ag25, ti_ag68, ti_fl25_0, ti_fl25_1, ti_hb47, ti_hb50, ti_hb59, ti_hb67, ti_hb68, ti_hb69, ti_pl25, ti_sb23, ti_sl23, ti_sz25, ti_zr25, itD, itV, rlV, rowD, rlD, hf, hp, Option.getD_none, Option.isSome_none])
        | (refine QCall_of (colsAt_A r hS cols hc _ _ (Two_intro _ _)) ?_; try simp (dsimp := false) only [go_sem, Nat.reduceAdd, Nat.reduceBEq, Nat.reduceEqDiff, Nat.reduceLT, Nat.reduceLeDiff, Nat.reduceMul, Int.reduceToNat, reduceCtorEq, ↓reduceIte, Tryd.ntmps24, Tryd.results24, ks_24, mu_24, nd_24, ti_ag22, ti_ag23, ti_ag25, ti_ag68, ti_fl25_0, ti_fl25_1, ti_hb47, ti_hb50, ti_hb59, ti_hb67, ti_hb68, ti_hb69, ti_pl25, ti_sb23, ti_sl23, ti_sz25, ti_zr25, itD, itV, rlV, rowD, rlD, hf, hp, Option.getD_none, Option.isSome_none])
        | with_reducible refine onB_of ?_ ?_
        | with_reducible rfl
        | omega)
      all_goals first
        | exact dropF hk (fz_rl0 _ _ _) (bel_relE _ _ _)
        | omega
    | some at_ =>
      rw [uniqued, if_pos hf, hp] at hk
      simp only [] at hk
      obtain ⟨_, hN, hall⟩ := relFault_ok hf
      obtain ⟨hmem, hatl⟩ := places_mem hp
      
      refine ACalls_of Tryd.func24 rfl in_24 (Nat.le_of_ble_eq_true rfl) ?_
      intro F hF
      simp (dsimp := false) only [go_sem, Nat.reduceAdd, Nat.reduceBEq, Nat.reduceEqDiff, Nat.reduceLT, Nat.reduceLeDiff, Nat.reduceMul, Int.reduceToNat, reduceCtorEq, ↓reduceIte, Tryd.ntmps24, Tryd.results24, ks_24, mu_24, nd_24, ti_ag22, ti_ag23, ti_ag25, ti_ag68, ti_fl25_0, ti_fl25_1, ti_hb47, ti_hb50, ti_hb59, ti_hb67, ti_hb68, ti_hb69, ti_pl25, ti_sb23, ti_sl23, ti_sz25, ti_zr25, itD, itV, rlV, rowD, rlD, hf, hp, Option.getD_some, Option.isSome_some, in_24] at hF
      subst hF
      repeat' (first
        | with_reducible refine And.intro ?_ ?_
        | with_reducible intro _
        | with_reducible refine AWp_seq ?_
        | with_reducible refine AWp_block ?_
        | (with_reducible refine hKv _ _ (AWp_nop ?_); clear hKv Kv)
        | (with_reducible refine hKv _ _ ?_; clear hKv Kv; simp (dsimp := false) only [go_sem, Nat.reduceAdd, Nat.reduceBEq, Nat.reduceEqDiff, Nat.reduceLT, Nat.reduceLeDiff, Nat.reduceMul, Int.reduceToNat, reduceCtorEq, ↓reduceIte, Tryd.ntmps24, Tryd.results24, ks_24, mu_24, nd_24, ti_ag22, ti_ag23, ti_ag25, ti_ag68, ti_fl25_0, ti_fl25_1, ti_hb47, ti_hb50, ti_hb59, ti_hb67, ti_hb68, ti_hb69, ti_pl25, ti_sb23, ti_sl23, ti_sz25, ti_zr25, itD, itV, rlV, rowD, rlD, hf, hp, Option.getD_some, Option.isSome_some])
        | (with_reducible refine hKA ?_; clear hKA hKB KA KB)
        | (with_reducible refine hKB ?_; clear hKA hKB KA KB)
        | (with_reducible refine AWp_regC mu_24 ks_24 ?_; intro Kv hKv; simp (dsimp := false) only [go_sem, Nat.reduceAdd, Nat.reduceBEq, Nat.reduceEqDiff, Nat.reduceLT, Nat.reduceLeDiff, Nat.reduceMul, Int.reduceToNat, reduceCtorEq, ↓reduceIte, Tryd.ntmps24, Tryd.results24, ks_24, mu_24, nd_24, ti_ag22, ti_ag23, ti_ag25, ti_ag68, ti_fl25_0, ti_fl25_1, ti_hb47, ti_hb50, ti_hb59, ti_hb67, ti_hb68, ti_hb69, ti_pl25, ti_sb23, ti_sl23, ti_sz25, ti_zr25, itD, itV, rlV, rowD, rlD, hf, hp, Option.getD_some, Option.isSome_some])
        | (with_reducible refine AWp_draw nd_24 mu_24 ks_24 ti_mixed (by kernel_rfl) ?_; intro Kv hKv; simp (dsimp := false) only [go_sem, Nat.reduceAdd, Nat.reduceBEq, Nat.reduceEqDiff, Nat.reduceLT, Nat.reduceLeDiff, Nat.reduceMul, Int.reduceToNat, reduceCtorEq, ↓reduceIte, Tryd.ntmps24, Tryd.results24, ks_24, mu_24, nd_24, ti_ag22, ti_ag23, ti_ag25, ti_ag68, ti_fl25_0, ti_fl25_1, ti_hb47, ti_hb50, ti_hb59, ti_hb67, ti_hb68, ti_hb69, ti_pl25, ti_sb23, ti_sl23, ti_sz25, ti_zr25, itD, itV, rlV, rowD, rlD, hf, hp, Option.getD_some, Option.isSome_some])
        | with_reducible refine AWp_skipN ?_
        | with_reducible refine AWp_exitO (by repeat (first | with_reducible exact Out.hit | with_reducible apply Out.thenA | with_reducible apply Out.out rfl)) ?_
        | (with_reducible refine AWp_retR ?_; simp (dsimp := false) only [go_sem, Nat.reduceAdd, Nat.reduceBEq, Nat.reduceEqDiff, Nat.reduceLT, Nat.reduceLeDiff, Nat.reduceMul, Int.reduceToNat, reduceCtorEq, ↓reduceIte, Tryd.ntmps24, Tryd.results24, ks_24, mu_24, nd_24, ti_ag22, ti_ag23, ti_ag25, ti_ag68, ti_fl25_0, ti_fl25_1, ti_hb47, ti_hb50, ti_hb59, ti_hb67, ti_hb68, ti_hb69, ti_pl25, ti_sb23, ti_sl23, ti_sz25, ti_zr25, itD, itV, rlV, rowD, rlD, hf, hp, Option.getD_some, Option.isSome_some])
        | (with_reducible refine AWp_regE mu_24 ks_24 ?_; intro Kv hKv; simp (dsimp := false) only [go_sem, Nat.reduceAdd, Nat.reduceBEq, Nat.reduceEqDiff, Nat.reduceLT, Nat.reduceLeDiff, Nat.reduceMul, Int.reduceToNat, reduceCtorEq, ↓reduceIte, Tryd.ntmps24, Tryd.results24, ks_24, mu_24, nd_24, ti_ag22, ti_ag23, ti_ag25, ti_ag68, ti_fl25_0, ti_fl25_1, ti_hb47, ti_hb50, ti_hb59, ti_hb67, ti_hb68, ti_hb69, ti_pl25, ti_sb23, ti_sl23, ti_sz25, ti_zr25, itD, itV, rlV, rowD, rlD, hf, hp, Option.getD_some, Option.isSome_some])
        | (with_reducible refine AWp_drawE nd_24 mu_24 ks_24 ti_mixed (by kernel_rfl) ?_; intro Kv hKv; simp (dsimp := false) only [go_sem, Nat.reduceAdd, Nat.reduceBEq, Nat.reduceEqDiff, Nat.reduceLT, Nat.reduceLeDiff, Nat.reduceMul, Int.reduceToNat, reduceCtorEq, ↓reduceIte, Tryd.ntmps24, Tryd.results24, ks_24, mu_24, nd_24, ti_ag22, ti_ag23, ti_ag25, ti_ag68, ti_fl25_0, ti_fl25_1, ti_hb47, ti_hb50, ti_hb59, ti_hb67, ti_hb68, ti_hb69, ti_pl25, ti_sb23, ti_sl23, ti_sz25, ti_zr25, itD, itV, rlV, rowD, rlD, hf, hp, Option.getD_some, Option.isSome_some])
        | (refine AWp_condC rfl ?_; intro KA KB hKA hKB; try simp only [onB_true, onB_false, onB_dec, onB_ndec, onB_not, onB_and, onB_or])
        | (refine AWp_condA rfl ?_ ?_)
        | (refine relFault_A r hS _ _ ?_; try simp (dsimp := false) only [go_sem, Nat.reduceAdd, Nat.reduceBEq, Nat.reduceEqDiff, Nat.reduceLT, Nat.reduceLeDiff, Nat.reduceMul, Int.reduceToNat, reduceCtorEq, ↓reduceIte, Tryd.ntmps24, Tryd.results24, ks_24, mu_24, nd_24, ti_ag22, ti_ag23, ti_ag25, ti_ag68, ti_fl25_0, ti_fl25_1, ti_hb47, ti_hb50, ti_hb59, ti_hb67, ti_hb68, ti_hb69, ti_pl25, ti_sb23, ti_sl23, ti_sz25, ti_zr25, itD, itV, rlV, rowD, rlD, hf, hp, Option.getD_some, Option.isSome_some])
        | (refine QCall_of (relFault_A r hS _ _ (Two_intro _ _)) ?_; try simp (dsimp := false) only [go_sem, Nat.reduceAdd, Nat.reduceBEq, Nat.reduceEqDiff, Nat.reduceLT, Nat.reduceLeDiff, Nat.reduceMul, Int.reduceToNat, reduceCtorEq, ↓reduceIte, Tryd.ntmps24, Tryd.results24, ks_24, mu_24, nd_24, ti_ag22, ti_ag23, ti_ag25, ti_ag68, ti_fl25_0, ti_fl25_1, ti_hb47, ti_hb50, ti_hb59, ti_hb67, ti_hb68, ti_hb69, ti_pl25, ti_sb23, ti_sl23, ti_sz25, ti_zr25, itD, itV, rlV, rowD, rlD, hf, hp, Option.getD_some, Option.isSome_some])
        | (refine colsAt_A r hS cols hc _ _ ?_; try simp (dsimp := false) only [go_sem, Nat.reduceAdd, Nat.reduceBEq, Nat.reduceEqDiff, Nat.reduceLT, Nat.reduceLeDiff, Nat.reduceMul, Int.reduceToNat, reduceCtorEq, ↓reduceIte, Tryd.ntmps24, Tryd.results24, ks_24, mu_24, nd_24, ti_ag22, ti_ag23, ti_ag25, ti_ag68, ti_fl25_0, ti_fl25_1, ti_hb47, ti_hb50, ti_hb59, ti_hb67, ti_hb68, ti_hb69, ti_pl25, ti_sb23, ti_sl23, ti_sz25, ti_zr25, itD, itV, rlV, rowD, rlD, hf, hp, Option.getD_some, Option.isSome_some])
        | (refine QCall_of (colsAt_A r hS cols hc _ _ (Two_intro _ _)) ?_; try simp (dsimp := false) only [go_sem, Nat.reduceAdd, Nat.reduceBEq, Nat.reduceEqDiff, Nat.reduceLT, Nat.reduceLeDiff, Nat.reduceMul, Int.reduceToNat, reduceCtorEq, ↓reduceIte, Tryd.ntmps24, Tryd.results24, ks_24, mu_24, nd_24, ti_ag22, ti_ag23, ti_ag25, ti_ag68, ti_fl25_0, ti_fl25_1, ti_hb47, ti_hb50, ti_hb59, ti_hb67, ti_hb68, ti_hb69, ti_pl25, ti_sb23, ti_sl23, ti_sz25, ti_zr25, itD, itV, rlV, rowD, rlD, hf, hp, Option.getD_some, Option.isSome_some])
        | with_reducible refine onB_of ?_ ?_
        | with_reducible rfl
        | omega)
      refine AWp_whileH (fun y : Nat × List (List It) => y.1 ≤ r.rows.length ∧ y.2.length ≤ y.1 ∧ (∀ row, row ∈ y.2 → row ∈ r.rows) ∧ uniqGo at_ (r.rows.drop y.1) y.2 = uniqGo at_ r.rows [])
        (fun y => [(2, .rp (rlD r)), (4, .pt H.length 0 0 0), (7, .d (.sl 1 (at_.map intRow))), (9, .os (H.length + 1) y.2.length), (10, .d (.i .i64 y.1))])
        (fun y => [.row 0 25 2 [[.d (.c (.slice none 0 0)), .d (.c (.slice none 0 0))]], .row y.2.length 68 1 (y.2.map rowC)]) (fun y => r.rows.length - y.1) (0, []) ⟨Nat.zero_le _, Nat.le_refl _, by simp, rfl⟩ ?_ ?_ ?_ ?_
      · first | rfl
      · simp (dsimp := false) only [go_sem, Nat.reduceAdd, Nat.reduceBEq, Nat.reduceEqDiff, Nat.reduceLT, Nat.reduceLeDiff, Nat.reduceMul, Int.reduceToNat, reduceCtorEq, ↓reduceIte, Tryd.ntmps24, Tryd.results24, ks_24, mu_24, nd_24, ti_ag22, ti_ag23, ti_ag25, ti_ag68, ti_fl25_0, ti_fl25_1, ti_hb47, ti_hb50, ti_hb59, ti_hb67, ti_hb68, ti_hb69, ti_pl25, ti_sb23, ti_sl23, ti_sz25, ti_zr25, itD, itV, rlV, rowD, rlD, hf, hp, Option.getD_some, Option.isSome_some]
        first | done | simp
      · rintro ⟨i, acc⟩ _ ob hob
        simp only [List.mem_cons, List.not_mem_nil, or_false] at hob
        rcases hob with rfl | rfl
        · exact bel_nil2 _ _ _
        · exact obBel_rows _ _ _ _ _
      rintro ⟨i, acc⟩ ⟨h1, h2, h4, h3⟩
      simp only [] at h1 h2 h3 h4 ⊢
      by_cases hiN : i < r.rows.length
      · obtain ⟨row, hrow⟩ : ∃ row, r.rows[i]? = some row := ⟨r.rows[i], List.getElem?_eq_getElem hiN⟩
        have hrl := (hall row (List.mem_of_getElem? hrow)).1
        have hrs := (hS.get hrow).1
        have hpl : (projRow at_ row).length ≤ 1048576 := by rw [projRow_len]; omega
        
        repeat' (first
          | with_reducible refine And.intro ?_ ?_
          | with_reducible intro _
          | with_reducible refine AWp_seq ?_
          | with_reducible refine AWp_block ?_
          | (with_reducible refine hKv _ _ (AWp_nop ?_); clear hKv Kv)
          | (with_reducible refine hKv _ _ ?_; clear hKv Kv; simp (dsimp := false) only [go_sem, Nat.reduceAdd, Nat.reduceBEq, Nat.reduceEqDiff, Nat.reduceLT, Nat.reduceLeDiff, Nat.reduceMul, Int.reduceToNat, reduceCtorEq, ↓reduceIte, Tryd.ntmps24, Tryd.results24, ks_24, mu_24, nd_24, ti_ag22, ti_ag23, ti_ag25, ti_ag68, ti_fl25_0, ti_fl25_1, ti_hb47, ti_hb50, ti_hb59, ti_hb67, ti_hb68, ti_hb69, ti_pl25, ti_sb23, ti_sl23, ti_sz25, ti_zr25, itD, itV, rlV, rowD, rlD, hrow])
          | (with_reducible refine hKA ?_; clear hKA hKB KA KB)
          | (with_reducible refine hKB ?_; clear hKA hKB KA KB)
          | (with_reducible refine AWp_regC mu_24 ks_24 ?_; intro Kv hKv; simp (dsimp := false) only [go_sem, Nat.reduceAdd, Nat.reduceBEq, Nat.reduceEqDiff, Nat.reduceLT, Nat.reduceLeDiff, Nat.reduceMul, Int.reduceToNat, reduceCtorEq, ↓reduceIte, Tryd.ntmps24, Tryd.results24, ks_24, mu_24, nd_24, ti_ag22, ti_ag23, ti_ag25, ti_ag68, ti_fl25_0, ti_fl25_1, ti_hb47, ti_hb50, ti_hb59, ti_hb67, ti_hb68, ti_hb69, ti_pl25, ti_sb23, ti_sl23, ti_sz25, ti_zr25, itD, itV, rlV, rowD, rlD, hrow])
          | (with_reducible refine AWp_draw nd_24 mu_24 ks_24 ti_mixed (by kernel_rfl) ?_; intro Kv hKv; simp (dsimp := false) only [go_sem, Nat.reduceAdd, Nat.reduceBEq, Nat.reduceEqDiff, Nat.reduceLT, Nat.reduceLeDiff, Nat.reduceMul, Int.reduceToNat, reduceCtorEq, ↓reduceIte, Tryd.ntmps24, Tryd.results24, ks_24, mu_24, nd_24, ti_ag22, ti_ag23, ti_ag25, ti_ag68, ti_fl25_0, ti_fl25_1, ti_hb47, ti_hb50, ti_hb59, ti_hb67, ti_hb68, ti_hb69, ti_pl25, ti_sb23, ti_sl23, ti_sz25, ti_zr25, itD, itV, rlV, rowD, rlD, hrow])
          | with_reducible refine AWp_skipN ?_
          | with_reducible refine AWp_exitO (by repeat (first | with_reducible exact Out.hit | with_reducible apply Out.thenA | with_reducible apply Out.out rfl)) ?_
          | (with_reducible refine AWp_retR ?_; simp (dsimp := false) only [go_sem, Nat.reduceAdd, Nat.reduceBEq, Nat.reduceEqDiff, Nat.reduceLT, Nat.reduceLeDiff, Nat.reduceMul, Int.reduceToNat, reduceCtorEq, ↓reduceIte, Tryd.ntmps24, Tryd.results24, ks_24, mu_24, nd_24, ti_ag22, ti_ag23, ti_ag25, ti_ag68, ti_fl25_0, ti_fl25_1, ti_hb47, ti_hb50, ti_hb59, ti_hb67, ti_hb68, ti_hb69, ti_pl25, ti_sb23, ti_sl23, ti_sz25, ti_zr25, itD, itV, rlV, rowD, rlD, hrow])
          | (with_reducible refine AWp_regE mu_24 ks_24 ?_; intro Kv hKv; simp (dsimp := false) only [go_sem, Nat.reduceAdd, Nat.reduceBEq, Nat.reduceEqDiff, Nat.reduceLT, Nat.reduceLeDiff, Nat.reduceMul, Int.reduceToNat, reduceCtorEq, ↓reduceIte, Tryd.ntmps24, Tryd.results24, ks_24, mu_24, nd_24, ti_ag22, ti_ag23, ti_ag25, ti_ag68, ti_fl25_0, ti_fl25_1, ti_hb47, ti_hb50, ti_hb59, ti_hb67, ti_hb68, ti_hb69, ti_pl25, ti_sb23, ti_sl23, ti_sz25, ti_zr25, itD, itV, rlV, rowD, rlD, hrow])
          | (with_reducible refine AWp_drawE nd_24 mu_24 ks_24 ti_mixed (by kernel_rfl) ?_; intro Kv hKv; simp (dsimp := false) only [go_sem, Nat.reduceAdd, Nat.reduceBEq, Nat.reduceEqDiff, Nat.reduceLT, Nat.reduceLeDiff, Nat.reduceMul, Int.reduceToNat, reduceCtorEq, ↓reduceIte, Tryd.ntmps24, Tryd.results24, ks_24, mu_24, nd_24, ti_ag22, ti_ag23, ti_ag25, ti_ag68, ti_fl25_0, ti_fl25_1, ti_hb47, ti_hb50, ti_hb59, ti_hb67, ti_hb68, ti_hb69, ti_pl25, ti_sb23, ti_sl23, ti_sz25, ti_zr25, itD, itV, rlV, rowD, rlD, hrow])
          | (refine AWp_condC rfl ?_; intro KA KB hKA hKB; try simp only [onB_true, onB_false, onB_dec, onB_ndec, onB_not, onB_and, onB_or])
          | (refine AWp_condA rfl ?_ ?_)
          | with_reducible refine onB_of ?_ ?_
          | with_reducible rfl
          | omega)
        refine AWp_whileH (fun y : Nat × Bool => y.1 ≤ acc.length ∧ (y.2 = true ↔ projRow at_ row ∈ (acc.take y.1).map (projRow at_))) (fun y => [(2, .rp (rlD r)), (4, .pt H.length 0 0 0), (7, .d (.sl 1 (at_.map intRow))), (9, .os (H.length + 1) acc.length), (10, .d (.i .i64 i)), (11, .d (.b y.2)), (12, .d (.i .i64 y.1))])
          (fun y => [.row 0 25 2 [[.d (.c (.slice none 0 0)), .d (.c (.slice none 0 0))]], .row acc.length 68 1 (acc.map rowC)]) (fun y => acc.length - y.1) (0, false) ⟨Nat.zero_le _, by simp⟩ rfl ?_ ?_ ?_
        · simp (dsimp := false) only [go_sem, Nat.reduceAdd, Nat.reduceBEq, Nat.reduceEqDiff, Nat.reduceLT, Nat.reduceLeDiff, Nat.reduceMul, Int.reduceToNat, reduceCtorEq, ↓reduceIte, Tryd.ntmps24, Tryd.results24, ks_24, mu_24, nd_24, ti_ag22, ti_ag23, ti_ag25, ti_ag68, ti_fl25_0, ti_fl25_1, ti_hb47, ti_hb50, ti_hb59, ti_hb67, ti_hb68, ti_hb69, ti_pl25, ti_sb23, ti_sl23, ti_sz25, ti_zr25, itD, itV, rlV, rowD, rlD, hrow]
          first | done | simp
        · rintro ⟨k, t⟩ _ ob hob
          simp only [List.mem_cons, List.not_mem_nil, or_false] at hob
          rcases hob with rfl | rfl
          · exact bel_nil2 _ _ _
          · exact obBel_rows _ _ _ _ _
        rintro ⟨k, t⟩ ⟨g1, g2⟩
        simp only [] at g1 g2 ⊢
        have fin : ∀ t' : Bool, (t' = true ↔ projRow at_ row ∈ acc.map (projRow at_)) → uniqGo at_ (r.rows.drop (i + 1)) (if t' = true then acc else acc ++ [row]) = uniqGo at_ r.rows [] := fun t' ht => by
          by_cases hin : projRow at_ row ∈ acc.map (projRow at_)
          · rw [if_pos (ht.2 hin), ← uniqGo_hit hrow hin]; exact h3
          · rw [if_neg (fun h => hin (ht.1 h)), ← uniqGo_miss hrow hin]; exact h3
        by_cases hkl : k < acc.length
        · obtain ⟨rk, hrk⟩ : ∃ rk, acc[k]? = some rk := ⟨acc[k], List.getElem?_eq_getElem hkl⟩
          have hrkl := (hall rk (h4 rk (List.mem_of_getElem? hrk))).1
          have hrkC : (acc.map rowC)[k]? = some (rowC rk) := by rw [List.getElem?_map, hrk]; rfl
          cases t with
          | false =>
            
            repeat' (first
              | with_reducible refine And.intro ?_ ?_
              | with_reducible intro _
              | with_reducible refine AWp_seq ?_
              | with_reducible refine AWp_block ?_
              | (with_reducible refine hKv _ _ (AWp_nop ?_); clear hKv Kv)
              | (with_reducible refine hKv _ _ ?_; clear hKv Kv; simp (dsimp := false) only [go_sem, Nat.reduceAdd, Nat.reduceBEq, Nat.reduceEqDiff, Nat.reduceLT, Nat.reduceLeDiff, Nat.reduceMul, Int.reduceToNat, reduceCtorEq, ↓reduceIte, Tryd.ntmps24, Tryd.results24, ks_24, mu_24, nd_24, ti_ag22, ti_ag23, ti_ag25, ti_ag68, ti_fl25_0, ti_fl25_1, ti_hb47, ti_hb50, ti_hb59, ti_hb67, ti_hb68, ti_hb69, ti_pl25, ti_sb23, ti_sl23, ti_sz25, ti_zr25, itD, itV, rlV, rowD, rlD, hrow, hrk, rowC])
              | (with_reducible refine hKA ?_; clear hKA hKB KA KB)
              | (with_reducible refine hKB ?_; clear hKA hKB KA KB)
              | (with_reducible refine AWp_regC mu_24 ks_24 ?_; intro Kv hKv; simp (dsimp := false) only [go_sem, Nat.reduceAdd, Nat.reduceBEq, Nat.reduceEqDiff, Nat.reduceLT, Nat.reduceLeDiff, Nat.reduceMul, Int.reduceToNat, reduceCtorEq, ↓reduceIte, Tryd.ntmps24, Tryd.results24, ks_24, mu_24, nd_24, ti_ag22, ti_ag23, ti_ag25, ti_ag68, ti_fl25_0, ti_fl25_1, ti_hb47, ti_hb50, ti_hb59, ti_hb67, ti_hb68, ti_hb69, ti_pl25, ti_sb23, ti_sl23, ti_sz25, ti_zr25, itD, itV, rlV, rowD, rlD, hrow, hrk, rowC])
              | (with_reducible refine AWp_draw nd_24 mu_24 ks_24 ti_mixed (by kernel_rfl) ?_; intro Kv hKv; simp (dsimp := false) only [go_sem, Nat.reduceAdd, Nat.reduceBEq, Nat.reduceEqDiff, Nat.reduceLT, Nat.reduceLeDiff, Nat.reduceMul, Int.reduceToNat, reduceCtorEq, ↓reduceIte, Tryd.ntmps24, Tryd.results24, ks_24, mu_24, nd_24, ti_ag22, ti_ag23, ti_ag25, ti_ag68, ti_fl25_0, ti_fl25_1, ti_hb47, ti_hb50, ti_hb59, ti_hb67, ti_hb68, ti_hb69, ti_pl25, ti_sb23, ti_sl23, ti_sz25, ti_zr25, itD, itV, rlV, rowD, rlD, hrow, hrk, rowC])
              | with_reducible refine AWp_skipN ?_
              | with_reducible refine AWp_exitO (by repeat (first | with_reducible exact Out.hit | with_reducible apply Out.thenA | with_reducible apply Out.out rfl)) ?_
              | (with_reducible refine AWp_retR ?_; simp (dsimp := false) only [go_sem, Nat.reduceAdd, Nat.reduceBEq, Nat.reduceEqDiff, Nat.reduceLT, Nat.reduceLeDiff, Nat.reduceMul, Int.reduceToNat, reduceCtorEq, ↓reduceIte, Tryd.ntmps24, Tryd.results24, ks_24, mu_24, nd_24, ti_ag22, ti_ag23, ti_ag25, ti_ag68, ti_fl25_0, ti_fl25_1, ti_hb47, ti_hb50, ti_hb59, ti_hb67, ti_hb68, ti_hb69, ti_pl25, ti_sb23, ti_sl23, ti_sz25, ti_zr25, itD, itV, rlV, rowD, rlD, hrow, hrk, rowC])
              | (with_reducible refine AWp_regE mu_24 ks_24 ?_; intro Kv hKv; simp (dsimp := false) only [go_sem, Nat.reduceAdd, Nat.reduceBEq, Nat.reduceEqDiff, Nat.reduceLT, Nat.reduceLeDiff, Nat.reduceMul, Int.reduceToNat, reduceCtorEq, ↓reduceIte, Tryd.ntmps24, Tryd.results24, ks_24, mu_24, nd_24, ti_ag22, ti_ag23, ti_ag25, ti_ag68, ti_fl25_0, ti_fl25_1, ti_hb47, ti_hb50, ti_hb59, ti_hb67, ti_hb68, ti_hb69, ti_pl25, ti_sb23, ti_sl23, ti_sz25, ti_zr25, itD, itV, rlV, rowD, rlD, hrow, hrk, rowC])
              | (with_reducible refine AWp_drawE nd_24 mu_24 ks_24 ti_mixed (by kernel_rfl) ?_; intro Kv hKv; simp (dsimp := false) only [go_sem, Nat.reduceAdd, Nat.reduceBEq, Nat.reduceEqDiff, Nat.reduceLT, Nat.reduceLeDiff, Nat.reduceMul, Int.reduceToNat, reduceCtorEq, ↓reduceIte, Tryd.ntmps24, Tryd.results24, ks_24, mu_24, nd_24, ti_ag22, ti_ag23, ti_ag25, ti_ag68, ti_fl25_0, ti_fl25_1, ti_hb47, ti_hb50, ti_hb59, ti_hb67, ti_hb68, ti_hb69, ti_pl25, ti_sb23, ti_sl23, ti_sz25, ti_zr25, itD, itV, rlV, rowD, rlD, hrow, hrk, rowC])
              | (refine AWp_condC rfl ?_; intro KA KB hKA hKB; try simp only [onB_true, onB_false, onB_dec, onB_ndec, onB_not, onB_and, onB_or])
              | (refine AWp_condA rfl ?_ ?_)
              | (refine picks_A row at_ (by omega) (fun j hj => by have := hmem j hj; omega) _ _ ?_; try simp (dsimp := false) only [go_sem, Nat.reduceAdd, Nat.reduceBEq, Nat.reduceEqDiff, Nat.reduceLT, Nat.reduceLeDiff, Nat.reduceMul, Int.reduceToNat, reduceCtorEq, ↓reduceIte, Tryd.ntmps24, Tryd.results24, ks_24, mu_24, nd_24, ti_ag22, ti_ag23, ti_ag25, ti_ag68, ti_fl25_0, ti_fl25_1, ti_hb47, ti_hb50, ti_hb59, ti_hb67, ti_hb68, ti_hb69, ti_pl25, ti_sb23, ti_sl23, ti_sz25, ti_zr25, itD, itV, rlV, rowD, rlD, hrow, hrk, rowC])
              | (refine QCall_of (picks_A row at_ (by omega) (fun j hj => by have := hmem j hj; omega) _ _ (Two_intro _ _)) ?_; try simp (dsimp := false) only [go_sem, Nat.reduceAdd, Nat.reduceBEq, Nat.reduceEqDiff, Nat.reduceLT, Nat.reduceLeDiff, Nat.reduceMul, Int.reduceToNat, reduceCtorEq, ↓reduceIte, Tryd.ntmps24, Tryd.results24, ks_24, mu_24, nd_24, ti_ag22, ti_ag23, ti_ag25, ti_ag68, ti_fl25_0, ti_fl25_1, ti_hb47, ti_hb50, ti_hb59, ti_hb67, ti_hb68, ti_hb69, ti_pl25, ti_sb23, ti_sl23, ti_sz25, ti_zr25, itD, itV, rlV, rowD, rlD, hrow, hrk, rowC])
              | (refine picks_A rk at_ (by omega) (fun j hj => by have := hmem j hj; omega) _ _ ?_; try simp (dsimp := false) only [go_sem, Nat.reduceAdd, Nat.reduceBEq, Nat.reduceEqDiff, Nat.reduceLT, Nat.reduceLeDiff, Nat.reduceMul, Int.reduceToNat, reduceCtorEq, ↓reduceIte, Tryd.ntmps24, Tryd.results24, ks_24, mu_24, nd_24, ti_ag22, ti_ag23, ti_ag25, ti_ag68, ti_fl25_0, ti_fl25_1, ti_hb47, ti_hb50, ti_hb59, ti_hb67, ti_hb68, ti_hb69, ti_pl25, ti_sb23, ti_sl23, ti_sz25, ti_zr25, itD, itV, rlV, rowD, rlD, hrow, hrk, rowC])
              | (refine QCall_of (picks_A rk at_ (by omega) (fun j hj => by have := hmem j hj; omega) _ _ (Two_intro _ _)) ?_; try simp (dsimp := false) only [go_sem, Nat.reduceAdd, Nat.reduceBEq, Nat.reduceEqDiff, Nat.reduceLT, Nat.reduceLeDiff, Nat.reduceMul, Int.reduceToNat, reduceCtorEq, ↓reduceIte, Tryd.ntmps24, Tryd.results24, ks_24, mu_24, nd_24, ti_ag22, ti_ag23, ti_ag25, ti_ag68, ti_fl25_0, ti_fl25_1, ti_hb47, ti_hb50, ti_hb59, ti_hb67, ti_hb68, ti_hb69, ti_pl25, ti_sb23, ti_sl23, ti_sz25, ti_zr25, itD, itV, rlV, rowD, rlD, hrow, hrk, rowC])
              | (refine refSameItems_A _ _ (by rw [projRow_len]; omega) (by rw [projRow_len]; omega) _ _ ?_; try simp (dsimp := false) only [go_sem, Nat.reduceAdd, Nat.reduceBEq, Nat.reduceEqDiff, Nat.reduceLT, Nat.reduceLeDiff, Nat.reduceMul, Int.reduceToNat, reduceCtorEq, ↓reduceIte, Tryd.ntmps24, Tryd.results24, ks_24, mu_24, nd_24, ti_ag22, ti_ag23, ti_ag25, ti_ag68, ti_fl25_0, ti_fl25_1, ti_hb47, ti_hb50, ti_hb59, ti_hb67, ti_hb68, ti_hb69, ti_pl25, ti_sb23, ti_sl23, ti_sz25, ti_zr25, itD, itV, rlV, rowD, rlD, hrow, hrk, rowC])
              | (refine QCall_of (refSameItems_A _ _ (by rw [projRow_len]; omega) (by rw [projRow_len]; omega) _ _ (Two_intro _ _)) ?_; try simp (dsimp := false) only [go_sem, Nat.reduceAdd, Nat.reduceBEq, Nat.reduceEqDiff, Nat.reduceLT, Nat.reduceLeDiff, Nat.reduceMul, Int.reduceToNat, reduceCtorEq, ↓reduceIte, Tryd.ntmps24, Tryd.results24, ks_24, mu_24, nd_24, ti_ag22, ti_ag23, ti_ag25, ti_ag68, ti_fl25_0, ti_fl25_1, ti_hb47, ti_hb50, ti_hb59, ti_hb67, ti_hb68, ti_hb69, ti_pl25, ti_sb23, ti_sl23, ti_sz25, ti_zr25, itD, itV, rlV, rowD, rlD, hrow, hrk, rowC])
              | with_reducible refine onB_of ?_ ?_
              | with_reducible rfl
              | omega)
            exact ⟨(k + 1, decide (projRow at_ row = projRow at_ rk)), ⟨by show k + 1 ≤ acc.length; omega, by
              have g3 : projRow at_ row ∉ (acc.take k).map (projRow at_) := fun h => by have := g2.2 h; cases this
              show decide (projRow at_ row = projRow at_ rk) = true ↔ _
              rw [take_of_get hrk, List.map_append, List.mem_append, decide_eq_true_eq]
              exact ⟨fun h => .inr (by simp [h]), fun h => h.elim (fun h => absurd h g3) fun h => by simpa using h⟩⟩, by show acc.length - (k + 1) < acc.length - k; omega, by (repeat' (refine And.intro ?_ ?_)) <;> first | rfl | omega | simp⟩
          | true =>
            have f1 := fin true ⟨fun _ => by
              obtain ⟨x, hx, e⟩ := List.mem_map.1 (g2.1 rfl)
              exact List.mem_map.2 ⟨x, List.mem_of_mem_take hx, e⟩, fun _ => rfl⟩
            
            repeat' (first
              | with_reducible refine And.intro ?_ ?_
              | with_reducible intro _
              | with_reducible refine AWp_seq ?_
              | with_reducible refine AWp_block ?_
              | (with_reducible refine hKv _ _ (AWp_nop ?_); clear hKv Kv)
              | (with_reducible refine hKv _ _ ?_; clear hKv Kv; simp (dsimp := false) only [go_sem, Nat.reduceAdd, Nat.reduceBEq, Nat.reduceEqDiff, Nat.reduceLT, Nat.reduceLeDiff, Nat.reduceMul, Int.reduceToNat, reduceCtorEq, ↓reduceIte, Tryd.ntmps24, Tryd.results24, ks_24, mu_24, nd_24, ti_ag22, ti_ag23, ti_ag25, ti_ag68, ti_fl25_0, ti_fl25_1, ti_hb47, ti_hb50, ti_hb59, ti_hb67, ti_hb68, ti_hb69, ti_pl25, ti_sb23, ti_sl23, ti_sz25, ti_zr25, itD, itV, rlV, rowD, rlD, hrow])
              | (with_reducible refine hKA ?_; clear hKA hKB KA KB)
              | (with_reducible refine hKB ?_; clear hKA hKB KA KB)
              | (with_reducible refine AWp_regC mu_24 ks_24 ?_; intro Kv hKv; simp (dsimp := false) only [go_sem, Nat.reduceAdd, Nat.reduceBEq, Nat.reduceEqDiff, Nat.reduceLT, Nat.reduceLeDiff, Nat.reduceMul, Int.reduceToNat, reduceCtorEq, ↓reduceIte, Tryd.ntmps24, Tryd.results24, ks_24, mu_24, nd_24, ti_ag22, ti_ag23, ti_ag25, ti_ag68, ti_fl25_0, ti_fl25_1, ti_hb47, ti_hb50, ti_hb59, ti_hb67, ti_hb68, ti_hb69, ti_pl25, ti_sb23, ti_sl23, ti_sz25, ti_zr25, itD, itV, rlV, rowD, rlD, hrow])
              | (with_reducible refine AWp_draw nd_24 mu_24 ks_24 ti_mixed (by kernel_rfl) ?_; intro Kv hKv; simp (dsimp := false) only [go_sem, Nat.reduceAdd, Nat.reduceBEq, Nat.reduceEqDiff, Nat.reduceLT, Nat.reduceLeDiff, Nat.reduceMul, Int.reduceToNat, reduceCtorEq, ↓reduceIte, Tryd.ntmps24, Tryd.results24, ks_24, mu_24, nd_24, ti_ag22, ti_ag23, ti_ag25, ti_ag68, ti_fl25_0, ti_fl25_1, ti_hb47, ti_hb50, ti_hb59, ti_hb67, ti_hb68, ti_hb69, ti_pl25, ti_sb23, ti_sl23, ti_sz25, ti_zr25, itD, itV, rlV, rowD, rlD, hrow])
              | with_reducible refine AWp_skipN ?_
              | with_reducible refine AWp_exitO (by repeat (first | with_reducible exact Out.hit | with_reducible apply Out.thenA | with_reducible apply Out.out rfl)) ?_
              | (with_reducible refine AWp_retR ?_; simp (dsimp := false) only [go_sem, Nat.reduceAdd, Nat.reduceBEq, Nat.reduceEqDiff, Nat.reduceLT, Nat.reduceLeDiff, Nat.reduceMul, Int.reduceToNat, reduceCtorEq, ↓reduceIte, Tryd.ntmps24, Tryd.results24, ks_24, mu_24, nd_24, ti_ag22, ti_ag23, ti_ag25, ti_ag68, ti_fl25_0, ti_fl25_1, ti_hb47, ti_hb50, ti_hb59, ti_hb67, ti_hb68, ti_hb69, ti_pl25, ti_sb23, ti_sl23, ti_sz25, ti_zr25, itD, itV, rlV, rowD, rlD, hrow])
              | (with_reducible refine AWp_regE mu_24 ks_24 ?_; intro Kv hKv; simp (dsimp := false) only [go_sem, Nat.reduceAdd, Nat.reduceBEq, Nat.reduceEqDiff, Nat.reduceLT, Nat.reduceLeDiff, Nat.reduceMul, Int.reduceToNat, reduceCtorEq, ↓reduceIte, Tryd.ntmps24, Tryd.results24, ks_24, mu_24, nd_24, ti_ag22, ti_ag23, ti_ag25, ti_ag68, ti_fl25_0, ti_fl25_1, ti_hb47, ti_hb50, ti_hb59, ti_hb67, ti_hb68, ti_hb69, ti_pl25, ti_sb23, ti_sl23, ti_sz25, ti_zr25, itD, itV, rlV, rowD, rlD, hrow])
              | (with_reducible refine AWp_drawE nd_24 mu_24 ks_24 ti_mixed (by kernel_rfl) ?_; intro Kv hKv; simp (dsimp := false) only [go_sem, Nat.reduceAdd, Nat.reduceBEq, Nat.reduceEqDiff, Nat.reduceLT, Nat.reduceLeDiff, Nat.reduceMul, Int.reduceToNat, reduceCtorEq, ↓reduceIte, Tryd.ntmps24, Tryd.results24, ks_24, mu_24, nd_24, ti_ag22, ti_ag23, ti_ag25, ti_ag68, ti_fl25_0, ti_fl25_1, ti_hb47, ti_hb50, ti_hb59, ti_hb67, ti_hb68, ti_hb69, ti_pl25, ti_sb23, ti_sl23, ti_sz25, ti_zr25, itD, itV, rlV, rowD, rlD, hrow])
              | (refine AWp_condC rfl ?_; intro KA KB hKA hKB; try simp only [onB_true, onB_false, onB_dec, onB_ndec, onB_not, onB_and, onB_or])
              | (refine AWp_condA rfl ?_ ?_)
              | (refine items_A [row] (by simp) (by simpa using hrs) (by simp; omega) _ _ ?_; try simp (dsimp := false) only [go_sem, Nat.reduceAdd, Nat.reduceBEq, Nat.reduceEqDiff, Nat.reduceLT, Nat.reduceLeDiff, Nat.reduceMul, Int.reduceToNat, reduceCtorEq, ↓reduceIte, Tryd.ntmps24, Tryd.results24, ks_24, mu_24, nd_24, ti_ag22, ti_ag23, ti_ag25, ti_ag68, ti_fl25_0, ti_fl25_1, ti_hb47, ti_hb50, ti_hb59, ti_hb67, ti_hb68, ti_hb69, ti_pl25, ti_sb23, ti_sl23, ti_sz25, ti_zr25, itD, itV, rlV, rowD, rlD, hrow])
              | (refine QCall_of (items_A [row] (by simp) (by simpa using hrs) (by simp; omega) _ _ (Two_intro _ _)) ?_; try simp (dsimp := false) only [go_sem, Nat.reduceAdd, Nat.reduceBEq, Nat.reduceEqDiff, Nat.reduceLT, Nat.reduceLeDiff, Nat.reduceMul, Int.reduceToNat, reduceCtorEq, ↓reduceIte, Tryd.ntmps24, Tryd.results24, ks_24, mu_24, nd_24, ti_ag22, ti_ag23, ti_ag25, ti_ag68, ti_fl25_0, ti_fl25_1, ti_hb47, ti_hb50, ti_hb59, ti_hb67, ti_hb68, ti_hb69, ti_pl25, ti_sb23, ti_sl23, ti_sz25, ti_zr25, itD, itV, rlV, rowD, rlD, hrow])
              | with_reducible refine onB_of ?_ ?_
              | with_reducible rfl
              | omega)
            exact ⟨(i + 1, acc), ⟨by show i + 1 ≤ r.rows.length; omega, by show acc.length ≤ i + 1; omega, h4, by simpa using f1⟩, by show r.rows.length - (i + 1) < r.rows.length - i; omega, rfl, by omega, rfl, by omega, by simp⟩
        · have e : k = acc.length := by omega
          subst e
          rw [List.take_length] at g2
          have f1 := fin t g2
          cases t with
          | false =>
            
            repeat' (first
              | with_reducible refine And.intro ?_ ?_
              | with_reducible intro _
              | with_reducible refine AWp_seq ?_
              | with_reducible refine AWp_block ?_
              | (with_reducible refine hKv _ _ (AWp_nop ?_); clear hKv Kv)
              | (with_reducible refine hKv _ _ ?_; clear hKv Kv; simp (dsimp := false) only [go_sem, Nat.reduceAdd, Nat.reduceBEq, Nat.reduceEqDiff, Nat.reduceLT, Nat.reduceLeDiff, Nat.reduceMul, Int.reduceToNat, reduceCtorEq, ↓reduceIte, Tryd.ntmps24, Tryd.results24, ks_24, mu_24, nd_24, ti_ag22, ti_ag23, ti_ag25, ti_ag68, ti_fl25_0, ti_fl25_1, ti_hb47, ti_hb50, ti_hb59, ti_hb67, ti_hb68, ti_hb69, ti_pl25, ti_sb23, ti_sl23, ti_sz25, ti_zr25, itD, itV, rlV, rowD, rlD, hrow])
              | (with_reducible refine hKA ?_; clear hKA hKB KA KB)
              | (with_reducible refine hKB ?_; clear hKA hKB KA KB)
              | (with_reducible refine AWp_regC mu_24 ks_24 ?_; intro Kv hKv; simp (dsimp := false) only [go_sem, Nat.reduceAdd, Nat.reduceBEq, Nat.reduceEqDiff, Nat.reduceLT, Nat.reduceLeDiff, Nat.reduceMul, Int.reduceToNat, reduceCtorEq, ↓reduceIte, Tryd.ntmps24, Tryd.results24, ks_24, mu_24, nd_24, ti_ag22, ti_ag23, ti_ag25, ti_ag68, ti_fl25_0, ti_fl25_1, ti_hb47, ti_hb50, ti_hb59, ti_hb67, ti_hb68, ti_hb69, ti_pl25, ti_sb23, ti_sl23, ti_sz25, ti_zr25, itD, itV, rlV, rowD, rlD, hrow])
              | (with_reducible refine AWp_draw nd_24 mu_24 ks_24 ti_mixed (by kernel_rfl) ?_; intro Kv hKv; simp (dsimp := false) only [go_sem, Nat.reduceAdd, Nat.reduceBEq, Nat.reduceEqDiff, Nat.reduceLT, Nat.reduceLeDiff, Nat.reduceMul, Int.reduceToNat, reduceCtorEq, ↓reduceIte, Tryd.ntmps24, Tryd.results24, ks_24, mu_24, nd_24, ti_ag22, ti_ag23, ti_ag25, ti_ag68, ti_fl25_0, ti_fl25_1, ti_hb47, ti_hb50, ti_hb59, ti_hb67, ti_hb68, ti_hb69, ti_pl25, ti_sb23, ti_sl23, ti_sz25, ti_zr25, itD, itV, rlV, rowD, rlD, hrow])
              | with_reducible refine AWp_skipN ?_
              | with_reducible refine AWp_exitO (by repeat (first | with_reducible exact Out.hit | with_reducible apply Out.thenA | with_reducible apply Out.out rfl)) ?_
              | (with_reducible refine AWp_retR ?_; simp (dsimp := false) only [go_sem, Nat.reduceAdd, Nat.reduceBEq, Nat.reduceEqDiff, Nat.reduceLT, Nat.reduceLeDiff, Nat.reduceMul, Int.reduceToNat, reduceCtorEq, ↓reduceIte, Tryd.ntmps24, Tryd.results24, ks_24, mu_24, nd_24, ti_ag22, ti_ag23, ti_ag25, ti_ag68, ti_fl25_0, ti_fl25_1, ti_hb47, ti_hb50, ti_hb59, ti_hb67, ti_hb68, ti_hb69, ti_pl25, ti_sb23, ti_sl23, ti_sz25, ti_zr25, itD, itV, rlV, rowD, rlD, hrow])
              | (with_reducible refine AWp_regE mu_24 ks_24 ?_; intro Kv hKv; simp (dsimp := false) only [go_sem, Nat.reduceAdd, Nat.reduceBEq, Nat.reduceEqDiff, Nat.reduceLT, Nat.reduceLeDiff, Nat.reduceMul, Int.reduceToNat, reduceCtorEq, ↓reduceIte, Tryd.ntmps24, Tryd.results24, ks_24, mu_24, nd_24, ti_ag22, ti_ag23, ti_ag25, ti_ag68, ti_fl25_0, ti_fl25_1, ti_hb47, ti_hb50, ti_hb59, ti_hb67, ti_hb68, ti_hb69, ti_pl25, ti_sb23, ti_sl23, ti_sz25, ti_zr25, itD, itV, rlV, rowD, rlD, hrow])
              | (with_reducible refine AWp_drawE nd_24 mu_24 ks_24 ti_mixed (by kernel_rfl) ?_; intro Kv hKv; simp (dsimp := false) only [go_sem, Nat.reduceAdd, Nat.reduceBEq, Nat.reduceEqDiff, Nat.reduceLT, Nat.reduceLeDiff, Nat.reduceMul, Int.reduceToNat, reduceCtorEq, ↓reduceIte, Tryd.ntmps24, Tryd.results24, ks_24, mu_24, nd_24, ti_ag22, ti_ag23, ti_ag25, ti_ag68, ti_fl25_0, ti_fl25_1, ti_hb47, ti_hb50, ti_hb59, ti_hb67, ti_hb68, ti_hb69, ti_pl25, ti_sb23, ti_sl23, ti_sz25, ti_zr25, itD, itV, rlV, rowD, rlD, hrow])
              | (refine AWp_condC rfl ?_; intro KA KB hKA hKB; try simp only [onB_true, onB_false, onB_dec, onB_ndec, onB_not, onB_and, onB_or])
              | (refine AWp_condA rfl ?_ ?_)
              | (refine items_A [row] (by simp) (by simpa using hrs) (by simp; omega) _ _ ?_; try simp (dsimp := false) only [go_sem, Nat.reduceAdd, Nat.reduceBEq, Nat.reduceEqDiff, Nat.reduceLT, Nat.reduceLeDiff, Nat.reduceMul, Int.reduceToNat, reduceCtorEq, ↓reduceIte, Tryd.ntmps24, Tryd.results24, ks_24, mu_24, nd_24, ti_ag22, ti_ag23, ti_ag25, ti_ag68, ti_fl25_0, ti_fl25_1, ti_hb47, ti_hb50, ti_hb59, ti_hb67, ti_hb68, ti_hb69, ti_pl25, ti_sb23, ti_sl23, ti_sz25, ti_zr25, itD, itV, rlV, rowD, rlD, hrow])
              | (refine QCall_of (items_A [row] (by simp) (by simpa using hrs) (by simp; omega) _ _ (Two_intro _ _)) ?_; try simp (dsimp := false) only [go_sem, Nat.reduceAdd, Nat.reduceBEq, Nat.reduceEqDiff, Nat.reduceLT, Nat.reduceLeDiff, Nat.reduceMul, Int.reduceToNat, reduceCtorEq, ↓reduceIte, Tryd.ntmps24, Tryd.results24, ks_24, mu_24, nd_24, ti_ag22, ti_ag23, ti_ag25, ti_ag68, ti_fl25_0, ti_fl25_1, ti_hb47, ti_hb50, ti_hb59, ti_hb67, ti_hb68, ti_hb69, ti_pl25, ti_sb23, ti_sl23, ti_sz25, ti_zr25, itD, itV, rlV, rowD, rlD, hrow])
              | with_reducible refine onB_of ?_ ?_
              | with_reducible rfl
              | omega)
            exact ⟨(i + 1, acc ++ [row]), ⟨by show i + 1 ≤ r.rows.length; omega, by simp; omega, fun x hx => (List.mem_append.1 hx).elim (h4 x) fun h => by rw [List.mem_singleton] at h; subst h; exact List.mem_of_getElem? hrow, by simpa using f1⟩, by show r.rows.length - (i + 1) < r.rows.length - i; omega, by simp [rowC], by omega, by simp, by omega, by simp⟩
          | true =>
            
            repeat' (first
              | with_reducible refine And.intro ?_ ?_
              | with_reducible intro _
              | with_reducible refine AWp_seq ?_
              | with_reducible refine AWp_block ?_
              | (with_reducible refine hKv _ _ (AWp_nop ?_); clear hKv Kv)
              | (with_reducible refine hKv _ _ ?_; clear hKv Kv; simp (dsimp := false) only [go_sem, Nat.reduceAdd, Nat.reduceBEq, Nat.reduceEqDiff, Nat.reduceLT, Nat.reduceLeDiff, Nat.reduceMul, Int.reduceToNat, reduceCtorEq, ↓reduceIte, Tryd.ntmps24, Tryd.results24, ks_24, mu_24, nd_24, ti_ag22, ti_ag23, ti_ag25, ti_ag68, ti_fl25_0, ti_fl25_1, ti_hb47, ti_hb50, ti_hb59, ti_hb67, ti_hb68, ti_hb69, ti_pl25, ti_sb23, ti_sl23, ti_sz25, ti_zr25, itD, itV, rlV, rowD, rlD, hrow])
              | (with_reducible refine hKA ?_; clear hKA hKB KA KB)
              | (with_reducible refine hKB ?_; clear hKA hKB KA KB)
              | (with_reducible refine AWp_regC mu_24 ks_24 ?_; intro Kv hKv; simp (dsimp := false) only [go_sem, Nat.reduceAdd, Nat.reduceBEq, Nat.reduceEqDiff, Nat.reduceLT, Nat.reduceLeDiff, Nat.reduceMul, Int.reduceToNat, reduceCtorEq, ↓reduceIte, Tryd.ntmps24, Tryd.results24, ks_24, mu_24, nd_24, ti_ag22, ti_ag23, ti_ag25, ti_ag68, ti_fl25_0, ti_fl25_1, ti_hb47, ti_hb50, ti_hb59, ti_hb67, ti_hb68, ti_hb69, ti_pl25, ti_sb23, ti_sl23, ti_sz25, ti_zr25, itD, itV, rlV, rowD, rlD, hrow])
              | (with_reducible refine AWp_draw nd_24 mu_24 ks_24 ti_mixed (by kernel_rfl) ?_; intro Kv hKv; simp (dsimp := false) only [go_sem, Nat.reduceAdd, Nat.reduceBEq, Nat.reduceEqDiff, Nat.reduceLT, Nat.reduceLeDiff, Nat.reduceMul, Int.reduceToNat, reduceCtorEq, ↓reduceIte, Tryd.ntmps24, Tryd.results24, ks_24, mu_24, nd_24, ti_ag22, ti_ag23, ti_ag25, ti_ag68, ti_fl25_0, ti_fl25_1, ti_hb47, ti_hb50, ti_hb59, ti_hb67, ti_hb68, ti_hb69, ti_pl25, ti_sb23, ti_sl23, ti_sz25, ti_zr25, itD, itV, rlV, rowD, rlD, hrow])
              | with_reducible refine AWp_skipN ?_
              | with_reducible refine AWp_exitO (by repeat (first | with_reducible exact Out.hit | with_reducible apply Out.thenA | with_reducible apply Out.out rfl)) ?_
              | (with_reducible refine AWp_retR ?_; simp (dsimp := false) only [go_sem, Nat.reduceAdd, Nat.reduceBEq, Nat.reduceEqDiff, Nat.reduceLT, Nat.reduceLeDiff, Nat.reduceMul, Int.reduceToNat, reduceCtorEq, ↓reduceIte, Tryd.ntmps24, Tryd.results24, ks_24, mu_24, nd_24, ti_ag22, ti_ag23, ti_ag25, ti_ag68, ti_fl25_0, ti_fl25_1, ti_hb47, ti_hb50, ti_hb59, ti_hb67, ti_hb68, ti_hb69, ti_pl25, ti_sb23, ti_sl23, ti_sz25, ti_zr25, itD, itV, rlV, rowD, rlD, hrow])
              | (with_reducible refine AWp_regE mu_24 ks_24 ?_; intro Kv hKv; simp (dsimp := false) only [go_sem, Nat.reduceAdd, Nat.reduceBEq, Nat.reduceEqDiff, Nat.reduceLT, Nat.reduceLeDiff, Nat.reduceMul, Int.reduceToNat, reduceCtorEq, ↓reduceIte, Tryd.ntmps24, Tryd.results24, ks_24, mu_24, nd_24, ti_ag22, ti_ag23, ti_ag25, ti_ag68, ti_fl25_0, ti_fl25_1, ti_hb47, ti_hb50, ti_hb59, ti_hb67, ti_hb68, ti_hb69, ti_pl25, ti_sb23, ti_sl23, ti_sz25, ti_zr25, itD, itV, rlV, rowD, rlD, hrow])
              | (with_reducible refine AWp_drawE nd_24 mu_24 ks_24 ti_mixed (by kernel_rfl) ?_; intro Kv hKv; simp (dsimp := false) only [go_sem, Nat.reduceAdd, Nat.reduceBEq, Nat.reduceEqDiff, Nat.reduceLT, Nat.reduceLeDiff, Nat.reduceMul, Int.reduceToNat, reduceCtorEq, ↓reduceIte, Tryd.ntmps24, Tryd.results24, ks_24, mu_24, nd_24, ti_ag22, ti_ag23, ti_ag25, ti_ag68, ti_fl25_0, ti_fl25_1, ti_hb47, ti_hb50, ti_hb59, ti_hb67, ti_hb68, ti_hb69, ti_pl25, ti_sb23, ti_sl23, ti_sz25, ti_zr25, itD, itV, rlV, rowD, rlD, hrow])
              | (refine AWp_condC rfl ?_; intro KA KB hKA hKB; try simp only [onB_true, onB_false, onB_dec, onB_ndec, onB_not, onB_and, onB_or])
              | (refine AWp_condA rfl ?_ ?_)
              | (refine items_A [row] (by simp) (by simpa using hrs) (by simp; omega) _ _ ?_; try simp (dsimp := false) only [go_sem, Nat.reduceAdd, Nat.reduceBEq, Nat.reduceEqDiff, Nat.reduceLT, Nat.reduceLeDiff, Nat.reduceMul, Int.reduceToNat, reduceCtorEq, ↓reduceIte, Tryd.ntmps24, Tryd.results24, ks_24, mu_24, nd_24, ti_ag22, ti_ag23, ti_ag25, ti_ag68, ti_fl25_0, ti_fl25_1, ti_hb47, ti_hb50, ti_hb59, ti_hb67, ti_hb68, ti_hb69, ti_pl25, ti_sb23, ti_sl23, ti_sz25, ti_zr25, itD, itV, rlV, rowD, rlD, hrow])
              | (refine QCall_of (items_A [row] (by simp) (by simpa using hrs) (by simp; omega) _ _ (Two_intro _ _)) ?_; try simp (dsimp := false) only [go_sem, Nat.reduceAdd, Nat.reduceBEq, Nat.reduceEqDiff, Nat.reduceLT, Nat.reduceLeDiff, Nat.reduceMul, Int.reduceToNat, reduceCtorEq, ↓reduceIte, Tryd.ntmps24, Tryd.results24, ks_24, mu_24, nd_24, ti_ag22, ti_ag23, ti_ag25, ti_ag68, ti_fl25_0, ti_fl25_1, ti_hb47, ti_hb50, ti_hb59, ti_hb67, ti_hb68, ti_hb69, ti_pl25, ti_sb23, ti_sl23, ti_sz25, ti_zr25, itD, itV, rlV, rowD, rlD, hrow])
              | with_reducible refine onB_of ?_ ?_
              | with_reducible rfl
              | omega)
            exact ⟨(i + 1, acc), ⟨by show i + 1 ≤ r.rows.length; omega, by show acc.length ≤ i + 1; omega, h4, by simpa using f1⟩, by show r.rows.length - (i + 1) < r.rows.length - i; omega, rfl, by omega, rfl, by omega, by simp⟩
      · 
        repeat' (first
          | with_reducible refine And.intro ?_ ?_
          | with_reducible intro _
          | with_reducible refine AWp_seq ?_
          | with_reducible refine AWp_block ?_
          | (with_reducible refine hKv _ _ (AWp_nop ?_); clear hKv Kv)
          | (with_reducible refine hKv _ _ ?_; clear hKv Kv; simp (dsimp := false) only [go_sem, Nat.reduceAdd, Nat.reduceBEq, Nat.reduceEqDiff, Nat.reduceLT, Nat.reduceLeDiff, Nat.reduceMul, Int.reduceToNat, reduceCtorEq, ↓reduceIte, Tryd.ntmps24, Tryd.results24, ks_24, mu_24, nd_24, ti_ag22, ti_ag23, ti_ag25, ti_ag68, ti_fl25_0, ti_fl25_1, ti_hb47, ti_hb50, ti_hb59, ti_hb67, ti_hb68, ti_hb69, ti_pl25, ti_sb23, ti_sl23, ti_sz25, ti_zr25, itD, itV, rlV, rowD, rlD, finQ])
          | (with_reducible refine hKA ?_; clear hKA hKB KA KB)
          | (with_reducible refine hKB ?_; clear hKA hKB KA KB)
          | (with_reducible refine AWp_regC mu_24 ks_24 ?_; intro Kv hKv; simp (dsimp := false) only [go_sem, Nat.reduceAdd, Nat.reduceBEq, Nat.reduceEqDiff, Nat.reduceLT, Nat.reduceLeDiff, Nat.reduceMul, Int.reduceToNat, reduceCtorEq, ↓reduceIte, Tryd.ntmps24, Tryd.results24, ks_24, mu_24, nd_24, ti_ag22, ti_ag23, ti_ag25, ti_ag68, ti_fl25_0, ti_fl25_1, ti_hb47, ti_hb50, ti_hb59, ti_hb67, ti_hb68, ti_hb69, ti_pl25, ti_sb23, ti_sl23, ti_sz25, ti_zr25, itD, itV, rlV, rowD, rlD, finQ])
          | (with_reducible refine AWp_draw nd_24 mu_24 ks_24 ti_mixed (by kernel_rfl) ?_; intro Kv hKv; simp (dsimp := false) only [go_sem, Nat.reduceAdd, Nat.reduceBEq, Nat.reduceEqDiff, Nat.reduceLT, Nat.reduceLeDiff, Nat.reduceMul, Int.reduceToNat, reduceCtorEq, ↓reduceIte, Tryd.ntmps24, Tryd.results24, ks_24, mu_24, nd_24, ti_ag22, ti_ag23, ti_ag25, ti_ag68, ti_fl25_0, ti_fl25_1, ti_hb47, ti_hb50, ti_hb59, ti_hb67, ti_hb68, ti_hb69, ti_pl25, ti_sb23, ti_sl23, ti_sz25, ti_zr25, itD, itV, rlV, rowD, rlD, finQ])
          | with_reducible refine AWp_skipN ?_
          | with_reducible refine AWp_exitO (by repeat (first | with_reducible exact Out.hit | with_reducible apply Out.thenA | with_reducible apply Out.out rfl)) ?_
          | (with_reducible refine AWp_retR ?_; simp (dsimp := false) only [go_sem, Nat.reduceAdd, Nat.reduceBEq, Nat.reduceEqDiff, Nat.reduceLT, Nat.reduceLeDiff, Nat.reduceMul, Int.reduceToNat, reduceCtorEq, ↓reduceIte, Tryd.ntmps24, Tryd.results24, ks_24, mu_24, nd_24, ti_ag22, ti_ag23, ti_ag25, ti_ag68, ti_fl25_0, ti_fl25_1, ti_hb47, ti_hb50, ti_hb59, ti_hb67, ti_hb68, ti_hb69, ti_pl25, ti_sb23, ti_sl23, ti_sz25, ti_zr25, itD, itV, rlV, rowD, rlD, finQ])
          | (with_reducible refine AWp_regE mu_24 ks_24 ?_; intro Kv hKv; simp (dsimp := false) only [go_sem, Nat.reduceAdd, Nat.reduceBEq, Nat.reduceEqDiff, Nat.reduceLT, Nat.reduceLeDiff, Nat.reduceMul, Int.reduceToNat, reduceCtorEq, ↓reduceIte, Tryd.ntmps24, Tryd.results24, ks_24, mu_24, nd_24, ti_ag22, ti_ag23, ti_ag25, ti_ag68, ti_fl25_0, ti_fl25_1, ti_hb47, ti_hb50, ti_hb59, ti_hb67, ti_hb68, ti_hb69, ti_pl25, ti_sb23, ti_sl23, ti_sz25, ti_zr25, itD, itV, rlV, rowD, rlD, finQ])
          | (with_reducible refine AWp_drawE nd_24 mu_24 ks_24 ti_mixed (by kernel_rfl) ?_; intro Kv hKv; simp (dsimp := false) only [go_sem, Nat.reduceAdd, Nat.reduceBEq, Nat.reduceEqDiff, Nat.reduceLT, Nat.reduceLeDiff, Nat.reduceMul, Int.reduceToNat, reduceCtorEq, ↓reduceIte, Tryd.ntmps24, Tryd.results24, ks_24, mu_24, nd_24, ti_ag22, ti_ag23, ti_ag25, ti_ag68, ti_fl25_0, ti_fl25_1, ti_hb47, ti_hb50, ti_hb59, ti_hb67, ti_hb68, ti_hb69, ti_pl25, ti_sb23, ti_sl23, ti_sz25, ti_zr25, itD, itV, rlV, rowD, rlD, finQ])
          | (refine AWp_condC rfl ?_; intro KA KB hKA hKB; try simp only [onB_true, onB_false, onB_dec, onB_ndec, onB_not, onB_and, onB_or])
          | (refine AWp_condA rfl ?_ ?_)
          | (refine relOfO_A r.cols _ _ _ _ q1 hS.col (by rw [List.length_map]; omega) _ _ ((get_appk _ _ 1).trans rfl) ?_; try simp (dsimp := false) only [go_sem, Nat.reduceAdd, Nat.reduceBEq, Nat.reduceEqDiff, Nat.reduceLT, Nat.reduceLeDiff, Nat.reduceMul, Int.reduceToNat, reduceCtorEq, ↓reduceIte, Tryd.ntmps24, Tryd.results24, ks_24, mu_24, nd_24, ti_ag22, ti_ag23, ti_ag25, ti_ag68, ti_fl25_0, ti_fl25_1, ti_hb47, ti_hb50, ti_hb59, ti_hb67, ti_hb68, ti_hb69, ti_pl25, ti_sb23, ti_sl23, ti_sz25, ti_zr25, itD, itV, rlV, rowD, rlD, finQ])
          | (refine QCall_of (relOfO_A r.cols _ _ _ _ q1 hS.col (by rw [List.length_map]; omega) _ _ ((get_appk _ _ 1).trans rfl) (Two_intro _ _)) ?_; try simp (dsimp := false) only [go_sem, Nat.reduceAdd, Nat.reduceBEq, Nat.reduceEqDiff, Nat.reduceLT, Nat.reduceLeDiff, Nat.reduceMul, Int.reduceToNat, reduceCtorEq, ↓reduceIte, Tryd.ntmps24, Tryd.results24, ks_24, mu_24, nd_24, ti_ag22, ti_ag23, ti_ag25, ti_ag68, ti_fl25_0, ti_fl25_1, ti_hb47, ti_hb50, ti_hb59, ti_hb67, ti_hb68, ti_hb69, ti_pl25, ti_sb23, ti_sl23, ti_sz25, ti_zr25, itD, itV, rlV, rowD, rlD, finQ])
          | with_reducible refine onB_of ?_ ?_
          | with_reducible rfl
          | omega)
        all_goals
          have e : i = r.rows.length := by omega
          subst e
          rw [List.drop_length, uniqGo] at h3
          rw [← h3] at hk
        · exact fin_ret hk (by assumption) (by omega) (get_appk _ _ 1)
        · exact fin_bad hk rfl (by assumption)
  · rw [uniqued, if_neg hf] at hk
    
    refine ACalls_of Tryd.func24 rfl in_24 (Nat.le_of_ble_eq_true rfl) ?_
    intro F hF
    simp (dsimp := false) only [go_sem, Nat.reduceAdd, Nat.reduceBEq, Nat.reduceEqDiff, Nat.reduceLT, Nat.reduceLeDiff, Nat.reduceMul, Int.reduceToNat, reduceCtorEq, ↓reduceIte, Tryd.ntmps24, Tryd.results24, ks_24, mu_24, nd_24, ti_ag22, ti_ag23, ti_ag25, ti_ag68, ti_fl25_0, ti_fl25_1, ti_hb47, ti_hb50, ti_hb59, ti_hb67, ti_hb68, ti_hb69, ti_pl25, ti_sb23, ti_sl23, ti_sz25, ti_zr25, itD, itV, rlV, rowD, rlD, hf, in_24] at hF
    subst hF
    repeat' (first
      | with_reducible refine And.intro ?_ ?_
      | with_reducible intro _
      | with_reducible refine AWp_seq ?_
      | with_reducible refine AWp_block ?_
      | (with_reducible refine hKv _ _ (AWp_nop ?_); clear hKv Kv)
      | (with_reducible refine hKv _ _ ?_; clear hKv Kv; simp (dsimp := false) only [go_sem, Nat.reduceAdd, Nat.reduceBEq, Nat.reduceEqDiff, Nat.reduceLT, Nat.reduceLeDiff, Nat.reduceMul, Int.reduceToNat, reduceCtorEq, ↓reduceIte, Tryd.ntmps24, Tryd.results24, ks_24, mu_24, nd_24, ti_ag22, ti_ag23, ti_ag25, ti_ag68, ti_fl25_0, ti_fl25_1, ti_hb47, ti_hb50, ti_hb59, ti_hb67, ti_hb68, ti_hb69, ti_pl25, ti_sb23, ti_sl23, ti_sz25, ti_zr25, itD, itV, rlV, rowD, rlD, hf])
      | (with_reducible refine hKA ?_; clear hKA hKB KA KB)
      | (with_reducible refine hKB ?_; clear hKA hKB KA KB)
      | (with_reducible refine AWp_regC mu_24 ks_24 ?_; intro Kv hKv; simp (dsimp := false) only [go_sem, Nat.reduceAdd, Nat.reduceBEq, Nat.reduceEqDiff, Nat.reduceLT, Nat.reduceLeDiff, Nat.reduceMul, Int.reduceToNat, reduceCtorEq, ↓reduceIte, Tryd.ntmps24, Tryd.results24, ks_24, mu_24, nd_24, ti_ag22, ti_ag23, ti_ag25, ti_ag68, ti_fl25_0, ti_fl25_1, ti_hb47, ti_hb50, ti_hb59, ti_hb67, ti_hb68, ti_hb69, ti_pl25, ti_sb23, ti_sl23, ti_sz25, ti_zr25, itD, itV, rlV, rowD, rlD, hf])
      | (with_reducible refine AWp_draw nd_24 mu_24 ks_24 ti_mixed (by kernel_rfl) ?_; intro Kv hKv; simp (dsimp := false) only [go_sem, Nat.reduceAdd, Nat.reduceBEq, Nat.reduceEqDiff, Nat.reduceLT, Nat.reduceLeDiff, Nat.reduceMul, Int.reduceToNat, reduceCtorEq, ↓reduceIte, Tryd.ntmps24, Tryd.results24, ks_24, mu_24, nd_24, ti_ag22, ti_ag23, ti_ag25, ti_ag68, ti_fl25_0, ti_fl25_1, ti_hb47, ti_hb50, ti_hb59, ti_hb67, ti_hb68, ti_hb69, ti_pl25, ti_sb23, ti_sl23, ti_sz25, ti_zr25, itD, itV, rlV, rowD, rlD, hf])
      | with_reducible refine AWp_skipN ?_
      | with_reducible refine AWp_exitO (by repeat (first | with_reducible exact Out.hit | with_reducible apply Out.thenA | with_reducible apply Out.out rfl)) ?_
      | (with_reducible refine AWp_retR ?_; simp (dsimp := false) only [go_sem, Nat.reduceAdd, Nat.reduceBEq, Nat.reduceEqDiff, Nat.reduceLT, Nat.reduceLeDiff, Nat.reduceMul, Int.reduceToNat, reduceCtorEq, ↓reduceIte, Tryd.ntmps24, Tryd.results24, ks_24, mu_24, nd_24, ti_ag22, ti_ag23, ti_ag25, ti_ag68, ti_fl25_0, ti_fl25_1, ti_hb47, ti_hb50, ti_hb59, ti_hb67, ti_hb68, ti_hb69, ti_pl25, ti_sb23, ti_sl23, ti_sz25, ti_zr25, itD, itV, rlV, rowD, rlD, hf])
      | (with_reducible refine AWp_regE mu_24 ks_24 ?_; intro Kv hKv; simp (dsimp := false) only [go_sem, Nat.reduceAdd, Nat.reduceBEq, Nat.reduceEqDiff, Nat.reduceLT, Nat.reduceLeDiff, Nat.reduceMul, Int.reduceToNat, reduceCtorEq, ↓reduceIte, Tryd.ntmps24, Tryd.results24, ks_24, mu_24, nd_24, ti_ag22, ti_ag23, ti_ag25, ti_ag68, ti_fl25_0, ti_fl25_1, ti_hb47, ti_hb50, ti_hb59, ti_hb67, ti_hb68, ti_hb69, ti_pl25, ti_sb23, ti_sl23, ti_sz25, ti_zr25, itD, itV, rlV, rowD, rlD, hf])
      | (with_reducible refine AWp_drawE nd_24 mu_24 ks_24 ti_mixed (by kernel_rfl) ?_; intro Kv hKv; simp (dsimp := false) only [go_sem, Nat.reduceAdd, Nat.reduceBEq, Nat.reduceEqDiff, Nat.reduceLT, Nat.reduceLeDiff, Nat.reduceMul, Int.reduceToNat, reduceCtorEq, ↓reduceIte, Tryd.ntmps24, Tryd.results24, ks_24, mu_24, nd_24, ti_ag22, ti_ag23, ti_ag25, ti_ag68, ti_fl25_0, ti_fl25_1, ti_hb47, ti_hb50, ti_hb59, ti_hb67, ti_hb68, ti_hb69, ti_pl25, ti_sb23, ti_sl23, ti_sz25, ti_zr25, itD, itV, rlV, rowD, rlD, hf])
      | (refine AWp_condC rfl ?_; intro KA KB hKA hKB; try simp only [onB_true, onB_false, onB_dec, onB_ndec, onB_not, onB_and, onB_or])
      | (refine AWp_condA rfl ?_ ?_)
      | (refine relFault_A r hS _ _ ?_; try simp (dsimp := false) only [go_sem, Nat.reduceAdd, Nat.reduceBEq, Nat.reduceEqDiff, Nat.reduceLT, Nat.reduceLeDiff, Nat.reduceMul, Int.reduceToNat, reduceCtorEq, ↓reduceIte, Tryd.ntmps24, Tryd.results24, ks_24, mu_24, nd_24, ti_ag22, ti_ag23, ti_ag25, ti_ag68, ti_fl25_0, ti_fl25_1, ti_hb47, ti_hb50, ti_hb59, ti_hb67, ti_hb68, ti_hb69, ti_pl25, ti_sb23, ti_sl23, ti_sz25, ti_zr25, itD, itV, rlV, rowD, rlD, hf])
      | (refine QCall_of (relFault_A r hS _ _ (Two_intro _ _)) ?_; try simp (dsimp := false) only [go_sem, Nat.reduceAdd, Nat.reduceBEq, Nat.reduceEqDiff, Nat.reduceLT, Nat.reduceLeDiff, Nat.reduceMul, Int.reduceToNat, reduceCtorEq, ↓reduceIte, Tryd.ntmps24, Tryd.results24, ks_24, mu_24, nd_24, ti_ag22, ti_ag23, ti_ag25, ti_ag68, ti_fl25_0, ti_fl25_1, ti_hb47, ti_hb50, ti_hb59, ti_hb67, ti_hb68, ti_hb69, ti_pl25, ti_sb23, ti_sl23, ti_sz25, ti_zr25, itD, itV, rlV, rowD, rlD, hf])
      | (refine colsAt_A r hS cols hc _ _ ?_; try simp (dsimp := false) only [go_sem, Nat.reduceAdd, Nat.reduceBEq, Nat.reduceEqDiff, Nat.reduceLT, Nat.reduceLeDiff, Nat.reduceMul, Int.reduceToNat, reduceCtorEq, ↓reduceIte, Tryd.ntmps24, Tryd.results24, ks_24, mu_24, nd_24, ti_ag22, ti_ag23, ti_ag25, ti_ag68, ti_fl25_0, ti_fl25_1, ti_hb47, ti_hb50, ti_hb59, ti_hb67, ti_hb68, ti_hb69, ti_pl25, ti_sb23, ti_sl23, ti_sz25, ti_zr25, itD, itV, rlV, rowD, rlD, hf])
      | (refine QCall_of (colsAt_A r hS cols hc _ _ (Two_intro _ _)) ?_; try simp (dsimp := false) only [go_sem, Nat.reduceAdd, Nat.reduceBEq, Nat.reduceEqDiff, Nat.reduceLT, Nat.reduceLeDiff, Nat.reduceMul, Int.reduceToNat, reduceCtorEq, ↓reduceIte, Tryd.ntmps24, Tryd.results24, ks_24, mu_24, nd_24, ti_ag22, ti_ag23, ti_ag25, ti_ag68, ti_fl25_0, ti_fl25_1, ti_hb47, ti_hb50, ti_hb59, ti_hb67, ti_hb68, ti_hb69, ti_pl25, ti_sb23, ti_sl23, ti_sz25, ti_zr25, itD, itV, rlV, rowD, rlD, hf])
      | with_reducible refine onB_of ?_ ?_
      | with_reducible rfl
      | omega)
    all_goals exact dropF hk (fz_rl0 _ _ _) (bel_relE _ _ _)
end Go.Proofs.YtafbojmnmadlpaaDoor
