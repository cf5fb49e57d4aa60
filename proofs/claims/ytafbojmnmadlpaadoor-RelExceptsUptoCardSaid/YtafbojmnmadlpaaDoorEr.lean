/- Rows that are not there: what the reference makes. No condition but that the tables of package unicode/utf8 are there. -/
import Derived.Test.YtafbojmnmadlpaaDoorUq
import Derived.Test.YtafbojmnmadlpaaDoorPj2
set_option linter.all false
set_option linter.unusedSimpArgs false
set_option linter.unusedVariables false
namespace Go.Proofs.YtafbojmnmadlpaaDoor
open Go Go.Proofs.YtafbojmnmadlpaaDoor.Ab
variable [Glo] [U8]
set_option maxHeartbeats 4000000
set_option maxRecDepth 20000

/- the live slots of pleacher/pleacherref.ExceptedOf -/
def ks_26 : Nat → List Nat
  | 0 => [2, 3, 4, 6]
  | 1 => [2, 3, 4, 6, 8]
  | 2 => [2, 3, 4, 6, 8, 9, 10]
  | 3 => [3, 4, 6, 8, 9, 10, 11, 12]
  | 4 => [3, 4, 6, 8, 9, 11, 42]
  | 5 => [3, 4, 6, 8, 9, 11]
  | 6 => [3, 4, 6, 8, 9, 11, 44]
  | 7 => [6, 7]
  | 8 => [3, 4, 6, 9, 11, 13]
  | 9 => [3, 4, 6, 9, 11, 13, 14]
  | 10 => [3, 4, 6, 9, 11, 13, 14, 51]
  | 11 => [3, 4, 6, 9, 11, 13, 14]
  | 12 => [3, 4, 6, 9, 11, 13, 14, 15]
  | 13 => [3, 4, 6, 9, 11, 13, 14, 15, 16]
  | 14 => [3, 4, 6, 9, 11, 13, 14, 15, 16, 62]
  | 15 => [3, 4, 6, 9, 11, 13, 14, 15, 16]
  | 16 => [3, 4, 6, 9, 11, 13, 14, 15, 16]
  | 17 => [3, 4, 6, 9, 11, 13, 14, 81]
  | 18 => [3, 4, 6, 9, 11, 13, 14, 17]
  | 19 => [3, 4, 6, 9, 11, 13, 14]
  | 20 => [6, 7]
  | _ => []
def mu_26 : List Nat := [13]
def in_26 : List Nat := [0, 1, 2]
def nd_26 : Nat → Nat
  | 16 => 15
  | _ => 0
theorem exceptedOf_A (a b : Rl) (hA : ShR a) (hB : ShR b) (cols : List (List UInt8)) (hc : cols.length ≤ 1048576) (H : Heap) (K : V → Heap → Prop) (hk : K (relE (excepted a b cols).1 (excepted a b cols).2) H) :
    ACalls Tryd.prog 26 [rlV a, rlV b, .d (.sl 1 (cols.map strRow))] H K := by
  have q1 := hA.ncols
  have q2 := hA.nrows
  have q3 := hB.nrows
  by_cases hf : twoFault a b = 0
  · cases hp : places a.cols cols with
    | none =>
      rw [excepted, if_pos hf, hp] at hk
      simp only [] at hk
      
      refine ACalls_of Tryd.func26 rfl in_26 (Nat.le_of_ble_eq_true rfl) ?_
      intro F hF
      simp (dsimp := false) only [go_sem, Nat.reduceAdd, Nat.reduceBEq, Nat.reduceEqDiff, Nat.reduceLT, Nat.reduceLeDiff, Nat.reduceMul, Int.reduceToNat, reduceCtorEq, ↓reduceIte, Tryd.ntmps26, Tryd.results26, ks_26, mu_26, nd_26, ti_ag22, ti_ag23, ti_ag25, ti_ag68, ti_fl25_0, ti_fl25_1, ti_hb50, ti_hb56, ti_hb59, ti_hb67, ti_hb68, ti_hb69, ti_pl25, ti_sb23, ti_sl23, ti_sz25, ti_zr25, itD, itV, rlV, rowD, rlD, hf, hp, Option.getD_none, Option.isSome_none, in_26] at hF
      subst hF
      repeat' (first
        | with_reducible refine And.intro ?_ ?_
        | with_reducible intro _
        | with_reducible refine AWp_seq ?_
        | with_reducible refine AWp_block ?_
        | (with_reducible refine hKv _ _ (AWp_nop ?_); clear hKv Kv)
        | (with_reducible refine hKv _ _ ?_; clear hKv Kv; simp (dsimp := false) only [go_sem, Nat.reduceAdd, Nat.reduceBEq, Nat.reduceEqDiff, Nat.reduceLT, Nat.reduceLeDiff, Nat.reduceMul, Int.reduceToNat, reduceCtorEq, ↓reduceIte, Tryd.ntmps26, Tryd.results26, ks_26, mu_26, nd_26, ti_ag22, ti_ag23, ti_ag25, ti_ag68, ti_fl25_0, ti_fl25_1, ti_hb50, ti_hb56, ti_hb59, ti_hb67, ti_hb68, ti_hb69, ti_pl25, ti_sb23, ti_sl23, ti_sz25, ti_zr25, itD, itV, rlV, rowD, rlD, hf, hp, Option.getD_none, Option.isSome_none])
        | (with_reducible refine hKA ?_; clear hKA hKB KA KB)
        | (with_reducible refine hKB ?_; clear hKA hKB KA KB)
        | (with_reducible refine AWp_regC mu_26 ks_26 ?_; intro Kv hKv; simp (dsimp := false) only [go_sem, Nat.reduceAdd, Nat.reduceBEq, Nat.reduceEqDiff, Nat.reduceLT, Nat.reduceLeDiff, Nat.reduceMul, Int.reduceToNat, reduceCtorEq, ↓reduceIte, Tryd.ntmps26, Tryd.results26, ks_26, mu_26, nd_26, ti_ag22, ti_ag23, ti_ag25, ti_ag68, ti_fl25_0, ti_fl25_1, ti_hb50, ti_hb56, ti_hb59, ti_hb67, ti_hb68, ti_hb69, ti_pl25, ti_sb23, ti_sl23, ti_sz25, ti_zr25, itD, itV, rlV, rowD, rlD, hf, hp, Option.getD_none, Option.isSome_none])
        | (with_reducible refine AWp_draw nd_26 mu_26 ks_26 ti_mixed (by kernel_rfl) ?_; intro Kv hKv; simp (dsimp := false) only [go_sem, Nat.reduceAdd, Nat.reduceBEq, Nat.reduceEqDiff, Nat.reduceLT, Nat.reduceLeDiff, Nat.reduceMul, Int.reduceToNat, reduceCtorEq, ↓reduceIte, Tryd.ntmps26, Tryd.results26, ks_26, mu_26, nd_26, ti_ag22, ti_ag23, ti_ag25, ti_ag68, ti_fl25_0, ti_fl25_1, ti_hb50, ti_hb56, ti_hb59, ti_hb67, ti_hb68, ti_hb69, ti_pl25, ti_sb23, ti_sl23, ti_sz25, ti_zr25, itD, itV, rlV, rowD, rlD, hf, hp, Option.getD_none, Option.isSome_none])
        | with_reducible refine AWp_skipN ?_
        | with_reducible refine AWp_exitO (by repeat (first | with_reducible exact Out.hit | with_reducible apply Out.thenA | with_reducible apply Out.out rfl)) ?_
        | (with_reducible refine AWp_retR ?_; simp (dsimp := false) only [go_sem, Nat.reduceAdd, Nat.reduceBEq, Nat.reduceEqDiff, Nat.reduceLT, Nat.reduceLeDiff, Nat.reduceMul, Int.reduceToNat, reduceCtorEq, ↓reduceIte, Tryd.ntmps26, Tryd.results26, ks_26, mu_26, nd_26, ti_ag22, ti_ag23, ti_ag25, ti_ag68, ti_fl25_0, ti_fl25_1, ti_hb50, ti_hb56, ti_hb59, ti_hb67, ti_hb68, ti_hb69, ti_pl25, ti_sb23, ti_sl23, ti_sz25, ti_zr25, itD, itV, rlV, rowD, rlD, hf, hp, Option.getD_none, Option.isSome_none])
        | (with_reducible refine AWp_regE mu_26 ks_26 ?_; intro Kv hKv; simp (dsimp := false) only [go_sem, Nat.reduceAdd, Nat.reduceBEq, Nat.reduceEqDiff, Nat.reduceLT, Nat.reduceLeDiff, Nat.reduceMul, Int.reduceToNat, reduceCtorEq, ↓reduceIte, Tryd.ntmps26, Tryd.results26, ks_26, mu_26, nd_26, ti_ag22, ti_ag23, ti_ag25, ti_ag68, ti_fl25_0, ti_fl25_1, ti_hb50, ti_hb56, ti_hb59, ti_hb67, ti_hb68, ti_hb69, ti_pl25, ti_sb23, ti_sl23, ti_sz25, ti_zr25, itD, itV, rlV, rowD, rlD, hf, hp, Option.getD_none, Option.isSome_none])
        | (with_reducible refine AWp_drawE nd_26 mu_26 ks_26 ti_mixed (by kernel_rfl) ?_; intro Kv hKv; simp (dsimp := false) only [go_sem, Nat.reduceAdd, Nat.reduceBEq, Nat.reduceEqDiff, Nat.reduceLT, Nat.reduceLeDiff, Nat.reduceMul, Int.reduceToNat, reduceCtorEq, ↓reduceIte, Tryd.ntmps26, Tryd.results26, ks_26, mu_26, nd_26, ti_ag22, ti_ag23, ti_ag25, ti_ag68, ti_fl25_0, ti_fl25_1, ti_hb50, ti_hb56, ti_hb59, ti_hb67, ti_hb68, ti_hb69, ti_pl25, ti_sb23, ti_sl23, ti_sz25, ti_zr25, itD, itV, rlV, rowD, rlD, hf, hp, Option.getD_none, Option.isSome_none])
        | (refine AWp_condC rfl ?_; intro KA KB hKA hKB; try simp only [onB_true, onB_false, onB_dec, onB_ndec, onB_not, onB_and, onB_or])
        | (refine AWp_condA rfl ?_ ?_)
        | (refine refTwoFault_A a b hA hB _ _ ?_; try simp (dsimp := false) only [go_sem, Nat.reduceAdd, Nat.reduceBEq, Nat.reduceEqDiff, Nat.reduceLT, Nat.reduceLeDiff, Nat.reduceMul, Int.reduceToNat, reduceCtorEq, ↓reduceIte, Tryd.ntmps26, Tryd.results26, ks_26, mu_26, nd_26, ti_ag22, ti_ag23, ti_ag25, ti_ag68, ti_fl25_0, ti_fl25_1, ti_hb50, ti_hb56, ti_hb59, ti_hb67, ti_hb68, ti_hb69, ti_pl25, ti_sb23, ti_sl23, ti_sz25, ti_zr25, itD, itV, rlV, rowD, rlD, hf, hp, Option.getD_none, Option.isSome_none])
        | (refine QCall_of (refTwoFault_A a b hA hB _ _ (Two_intro _ _)) ?_; try simp (dsimp := false) only [go_sem, Nat.reduceAdd, Nat.reduceBEq, Nat.reduceEqDiff, Nat.reduceLT, Nat.reduceLeDiff, Nat.reduceMul, Int.reduceToNat, reduceCtorEq, ↓reduceIte, Tryd.ntmps26, Tryd.results26, ks_26, mu_26, nd_26, ti_ag22, ti_ag23, ti_ag25, ti_ag68, ti_fl25_0, ti_fl25_1, ti_hb50, ti_hb56, ti_hb59, ti_hb67, ti_hb68, ti_hb69, ti_pl25, ti_sb23, ti_sl23, ti_sz25, ti_zr25, itD, itV, rlV, rowD, rlD, hf, hp, Option.getD_none, Option.isSome_none])
        | (refine colsAt_A a hA cols hc _ _ ?_; try simp (dsimp := false) only [go_sem, Nat.reduceAdd, Nat.reduceBEq, Nat.reduceEqDiff, Nat.reduceLT, Nat.reduceLeDiff, Nat.reduceMul, Int.reduceToNat, reduceCtorEq, ↓reduceIte, Tryd.ntmps26, Tryd.results26, ks_26, mu_26, nd_26, ti_ag22, ti_ag23, ti_ag25, ti_ag68, ti_fl25_0, ti_fl25_1, ti_hb50, ti_hb56, ti_hb59, ti_hb67, ti_hb68, ti_hb69, ti_pl25, ti_sb23, ti_sl23, ti_sz25, ti_zr25, itD, itV, rlV, rowD, rlD, hf, hp, Option.getD_none, Option.isSome_none])
        | (refine QCall_of (colsAt_A a hA cols hc _ _ (Two_intro _ _)) ?_; try simp (dsimp := false) only [go_sem, Nat.reduceAdd, Nat.reduceBEq, Nat.reduceEqDiff, Nat.reduceLT, Nat.reduceLeDiff, Nat.reduceMul, Int.reduceToNat, reduceCtorEq, ↓reduceIte, Tryd.ntmps26, Tryd.results26, ks_26, mu_26, nd_26, ti_ag22, ti_ag23, ti_ag25, ti_ag68, ti_fl25_0, ti_fl25_1, ti_hb50, ti_hb56, ti_hb59, ti_hb67, ti_hb68, ti_hb69, ti_pl25, ti_sb23, ti_sl23, ti_sz25, ti_zr25, itD, itV, rlV, rowD, rlD, hf, hp, Option.getD_none, Option.isSome_none])
        | (refine colsAt_A b hB cols hc _ _ ?_; try simp (dsimp := false) only [go_sem, Nat.reduceAdd, Nat.reduceBEq, Nat.reduceEqDiff, Nat.reduceLT, Nat.reduceLeDiff, Nat.reduceMul, Int.reduceToNat, reduceCtorEq, ↓reduceIte, Tryd.ntmps26, Tryd.results26, ks_26, mu_26, nd_26, ti_ag22, ti_ag23, ti_ag25, ti_ag68, ti_fl25_0, ti_fl25_1, ti_hb50, ti_hb56, ti_hb59, ti_hb67, ti_hb68, ti_hb69, ti_pl25, ti_sb23, ti_sl23, ti_sz25, ti_zr25, itD, itV, rlV, rowD, rlD, hf, hp, Option.getD_none, Option.isSome_none])
        | (refine QCall_of (colsAt_A b hB cols hc _ _ (Two_intro _ _)) ?_; try simp (dsimp := false) only [go_sem, Nat.reduceAdd, Nat.reduceBEq, Nat.reduceEqDiff, Nat.reduceLT, Nat.reduceLeDiff, Nat.reduceMul, Int.reduceToNat, reduceCtorEq, ↓reduceIte, Tryd.ntmps26, Tryd.results26, ks_26, mu_26, nd_26, ti_ag22, ti_ag23, ti_ag25, ti_ag68, ti_fl25_0, ti_fl25_1, ti_hb50, ti_hb56, ti_hb59, ti_hb67, ti_hb68, ti_hb69, ti_pl25, ti_sb23, ti_sl23, ti_sz25, ti_zr25, itD, itV, rlV, rowD, rlD, hf, hp, Option.getD_none, Option.isSome_none])
        | with_reducible refine onB_of ?_ ?_
        | with_reducible rfl
        | omega)
      all_goals first
        | exact dropF hk (fz_rl0 _ _ _) (bel_relE _ _ _)
        | omega
    | some p =>
      cases hq : places b.cols cols with
      | none =>
        rw [excepted, if_pos hf, hp, hq] at hk
        simp only [] at hk
        
        refine ACalls_of Tryd.func26 rfl in_26 (Nat.le_of_ble_eq_true rfl) ?_
        intro F hF
        simp (dsimp := false) only [go_sem, Nat.reduceAdd, Nat.reduceBEq, Nat.reduceEqDiff, Nat.reduceLT, Nat.reduceLeDiff, Nat.reduceMul, Int.reduceToNat, reduceCtorEq, ↓reduceIte, Tryd.ntmps26, Tryd.results26, ks_26, mu_26, nd_26, ti_ag22, ti_ag23, ti_ag25, ti_ag68, ti_fl25_0, ti_fl25_1, ti_hb50, ti_hb56, ti_hb59, ti_hb67, ti_hb68, ti_hb69, ti_pl25, ti_sb23, ti_sl23, ti_sz25, ti_zr25, itD, itV, rlV, rowD, rlD, hf, hp, hq, Option.getD_none, Option.isSome_none, Option.getD_some, Option.isSome_some, in_26] at hF
        subst hF
        repeat' (first
          | with_reducible refine And.intro ?_ ?_
          | with_reducible intro _
          | with_reducible refine AWp_seq ?_
          | with_reducible refine AWp_block ?_
          | (with_reducible refine hKv _ _ (AWp_nop ?_); clear hKv Kv)
          | (with_reducible refine hKv _ _ ?_; clear hKv Kv; simp (dsimp := false) only [go_sem, Nat.reduceAdd, Nat.reduceBEq, Nat.reduceEqDiff, Nat.reduceLT, Nat.reduceLeDiff, Nat.reduceMul, Int.reduceToNat, reduceCtorEq, ↓reduceIte, Tryd.ntmps26, Tryd.results26, ks_26, mu_26, nd_26, ti_ag22, ti_ag23, ti_ag25, ti_ag68, ti_fl25_0, ti_fl25_1, ti_hb50, ti_hb56, ti_hb59, ti_hb67, ti_hb68, ti_hb69, ti_pl25, ti_sb23, ti_sl23, ti_sz25, ti_zr25, itD, itV, rlV, rowD, rlD, hf, hp, hq, Option.getD_none, Option.isSome_none, Option.getD_some, Option.isSome_some])
          | (with_reducible refine hKA ?_; clear hKA hKB KA KB)
          | (with_reducible refine hKB ?_; clear hKA hKB KA KB)
          | (with_reducible refine AWp_regC mu_26 ks_26 ?_; intro Kv hKv; simp (dsimp := false) only [go_sem, Nat.reduceAdd, Nat.reduceBEq, Nat.reduceEqDiff, Nat.reduceLT, Nat.reduceLeDiff, Nat.reduceMul, Int.reduceToNat, reduceCtorEq, ↓reduceIte, Tryd.ntmps26, Tryd.results26, ks_26, mu_26, nd_26, ti_ag22, ti_ag23, ti_ag25, ti_ag68, ti_fl25_0, ti_fl25_1, ti_hb50, ti_hb56, ti_hb59, ti_hb67, ti_hb68, ti_hb69, ti_pl25, ti_sb23, ti_sl23, ti_sz25, ti_zr25, itD, itV, rlV, rowD, rlD, hf, hp, hq, Option.getD_none, Option.isSome_none, Option.getD_some, Option.isSome_some])
          | (with_reducible refine AWp_draw nd_26 mu_26 ks_26 ti_mixed (by kernel_rfl) ?_; intro Kv hKv; simp (dsimp := false) only [go_sem, Nat.reduceAdd, Nat.reduceBEq, Nat.reduceEqDiff, Nat.reduceLT, Nat.reduceLeDiff, Nat.reduceMul, Int.reduceToNat, reduceCtorEq, ↓reduceIte, Tryd.ntmps26, Tryd.results26, ks_26, mu_26, nd_26, ti_ag22, ti_ag23, ti_ag25, ti_ag68, ti_fl25_0, ti_fl25_1, ti_hb50, ti_hb56, ti_hb59, ti_hb67, ti_hb68, ti_hb69, ti_pl25, ti_sb23, ti_sl23, ti_sz25, ti_zr25, itD, itV, rlV, rowD, rlD, hf, hp, hq, Option.getD_none, Option.isSome_none, Option.getD_some, Option.isSome_some])
          | with_reducible refine AWp_skipN ?_
          | with_reducible refine AWp_exitO (by repeat (first | with_reducible exact Out.hit | with_reducible apply Out.thenA | with_reducible apply Out.out rfl)) ?_
          | (with_reducible refine AWp_retR ?_; simp (dsimp := false) only [go_sem, Nat.reduceAdd, Nat.reduceBEq, Nat.reduceEqDiff, Nat.reduceLT, Nat.reduceLeDiff, Nat.reduceMul, Int.reduceToNat, reduceCtorEq, ↓reduceIte, Tryd.ntmps26, Tryd.results26, ks_26, mu_26, nd_26, ti_ag22, ti_ag23, ti_ag25, ti_ag68, ti_fl25_0, ti_fl25_1, ti_hb50, ti_hb56, ti_hb59, ti_hb67, ti_hb68, ti_hb69, ti_pl25, ti_sb23, ti_sl23, ti_sz25, ti_zr25, itD, itV, rlV, rowD, rlD, hf, hp, hq, Option.getD_none, Option.isSome_none, Option.getD_some, Option.isSome_some])
          | (with_reducible refine AWp_regE mu_26 ks_26 ?_; intro Kv hKv; simp (dsimp := false) only [go_sem, Nat.reduceAdd, Nat.reduceBEq, Nat.reduceEqDiff, Nat.reduceLT, Nat.reduceLeDiff, Nat.reduceMul, Int.reduceToNat, reduceCtorEq, ↓reduceIte, Tryd.ntmps26, Tryd.results26, ks_26, mu_26, nd_26, ti_ag22, ti_ag23, ti_ag25, ti_ag68, ti_fl25_0, ti_fl25_1, ti_hb50, ti_hb56, ti_hb59, ti_hb67, ti_hb68, ti_hb69, ti_pl25, ti_sb23, ti_sl23, ti_sz25, ti_zr25, itD, itV, rlV, rowD, rlD, hf, hp, hq, Option.getD_none, Option.isSome_none, Option.getD_some, Option.isSome_some])
          | (with_reducible refine AWp_drawE nd_26 mu_26 ks_26 ti_mixed (by kernel_rfl) ?_; intro Kv hKv; simp (dsimp := false) only [go_sem, Nat.reduceAdd, Nat.reduceBEq, Nat.reduceEqDiff, Nat.reduceLT, Nat.reduceLeDiff, Nat.reduceMul, Int.reduceToNat, reduceCtorEq, ↓reduceIte, Tryd.ntmps26, Tryd.results26, ks_26, mu_26, nd_26, ti_ag22, ti_ag23, ti_ag25, ti_ag68, ti_fl25_0, ti_fl25_1, ti_hb50, ti_hb56, ti_hb59, ti_hb67, ti_hb68, ti_hb69, ti_pl25, ti_sb23, ti_sl23, ti_sz25, ti_zr25, itD, itV, rlV, rowD, rlD, hf, hp, hq, Option.getD_none, Option.isSome_none, Option.getD_some, Option.isSome_some])
          | (refine AWp_condC rfl ?_; intro KA KB hKA hKB; try simp only [onB_true, onB_false, onB_dec, onB_ndec, onB_not, onB_and, onB_or])
          | (refine AWp_condA rfl ?_ ?_)
          | (refine refTwoFault_A a b hA hB _ _ ?_; try simp (dsimp := false) only [go_sem, Nat.reduceAdd, Nat.reduceBEq, Nat.reduceEqDiff, Nat.reduceLT, Nat.reduceLeDiff, Nat.reduceMul, Int.reduceToNat, reduceCtorEq, ↓reduceIte, Tryd.ntmps26, Tryd.results26, ks_26, mu_26, nd_26, ti_ag22, ti_ag23, ti_ag25, ti_ag68, ti_fl25_0, ti_fl25_1, ti_hb50, ti_hb56, ti_hb59, ti_hb67, ti_hb68, ti_hb69, ti_pl25, ti_sb23, ti_sl23, ti_sz25, ti_zr25, itD, itV, rlV, rowD, rlD, hf, hp, hq, Option.getD_none, Option.isSome_none, Option.getD_some, Option.isSome_some])
          | (refine QCall_of (refTwoFault_A a b hA hB _ _ (Two_intro _ _)) ?_; try simp (dsimp := false) only [go_sem, Nat.reduceAdd, Nat.reduceBEq, Nat.reduceEqDiff, Nat.reduceLT, Nat.reduceLeDiff, Nat.reduceMul, Int.reduceToNat, reduceCtorEq, ↓reduceIte, Tryd.ntmps26, Tryd.results26, ks_26, mu_26, nd_26, ti_ag22, ti_ag23, ti_ag25, ti_ag68, ti_fl25_0, ti_fl25_1, ti_hb50, ti_hb56, ti_hb59, ti_hb67, ti_hb68, ti_hb69, ti_pl25, ti_sb23, ti_sl23, ti_sz25, ti_zr25, itD, itV, rlV, rowD, rlD, hf, hp, hq, Option.getD_none, Option.isSome_none, Option.getD_some, Option.isSome_some])
          | (refine colsAt_A a hA cols hc _ _ ?_; try simp (dsimp := false) only [go_sem, Nat.reduceAdd, Nat.reduceBEq, Nat.reduceEqDiff, Nat.reduceLT, Nat.reduceLeDiff, Nat.reduceMul, Int.reduceToNat, reduceCtorEq, ↓reduceIte, Tryd.ntmps26, Tryd.results26, ks_26, mu_26, nd_26, ti_ag22, ti_ag23, ti_ag25, ti_ag68, ti_fl25_0, ti_fl25_1, ti_hb50, ti_hb56, ti_hb59, ti_hb67, ti_hb68, ti_hb69, ti_pl25, ti_sb23, ti_sl23, ti_sz25, ti_zr25, itD, itV, rlV, rowD, rlD, hf, hp, hq, Option.getD_none, Option.isSome_none, Option.getD_some, Option.isSome_some])
          | (refine QCall_of (colsAt_A a hA cols hc _ _ (Two_intro _ _)) ?_; try simp (dsimp := false) only [go_sem, Nat.reduceAdd, Nat.reduceBEq, Nat.reduceEqDiff, Nat.reduceLT, Nat.reduceLeDiff, Nat.reduceMul, Int.reduceToNat, reduceCtorEq, ↓reduceIte, Tryd.ntmps26, Tryd.results26, ks_26, mu_26, nd_26, ti_ag22, ti_ag23, ti_ag25, ti_ag68, ti_fl25_0, ti_fl25_1, ti_hb50, ti_hb56, ti_hb59, ti_hb67, ti_hb68, ti_hb69, ti_pl25, ti_sb23, ti_sl23, ti_sz25, ti_zr25, itD, itV, rlV, rowD, rlD, hf, hp, hq, Option.getD_none, Option.isSome_none, Option.getD_some, Option.isSome_some])
          | (refine colsAt_A b hB cols hc _ _ ?_; try simp (dsimp := false) only [go_sem, Nat.reduceAdd, Nat.reduceBEq, Nat.reduceEqDiff, Nat.reduceLT, Nat.reduceLeDiff, Nat.reduceMul, Int.reduceToNat, reduceCtorEq, ↓reduceIte, Tryd.ntmps26, Tryd.results26, ks_26, mu_26, nd_26, ti_ag22, ti_ag23, ti_ag25, ti_ag68, ti_fl25_0, ti_fl25_1, ti_hb50, ti_hb56, ti_hb59, ti_hb67, ti_hb68, ti_hb69, ti_pl25, ti_sb23, ti_sl23, ti_sz25, ti_zr25, itD, itV, rlV, rowD, rlD, hf, hp, hq, Option.getD_none, Option.isSome_none, Option.getD_some, Option.isSome_some])
          | (refine QCall_of (colsAt_A b hB cols hc _ _ (Two_intro _ _)) ?_; try simp (dsimp := false) only [go_sem, Nat.reduceAdd, Nat.reduceBEq, Nat.reduceEqDiff, Nat.reduceLT, Nat.reduceLeDiff, Nat.reduceMul, Int.reduceToNat, reduceCtorEq, ↓reduceIte, Tryd.ntmps26, Tryd.results26, ks_26, mu_26, nd_26, ti_ag22, ti_ag23, ti_ag25, ti_ag68, ti_fl25_0, ti_fl25_1, ti_hb50, ti_hb56, ti_hb59, ti_hb67, ti_hb68, ti_hb69, ti_pl25, ti_sb23, ti_sl23, ti_sz25, ti_zr25, itD, itV, rlV, rowD, rlD, hf, hp, hq, Option.getD_none, Option.isSome_none, Option.getD_some, Option.isSome_some])
          | with_reducible refine onB_of ?_ ?_
          | with_reducible rfl
          | omega)
        all_goals first
          | exact dropF hk (fz_rl0 _ _ _) (bel_relE _ _ _)
          | omega
      | some q =>
        rw [excepted, if_pos hf, hp, hq] at hk
        simp only [] at hk
        obtain ⟨hfa, hfb⟩ : relFault a = 0 ∧ relFault b = 0 := by
          unfold twoFault at hf
          split at hf
          · exact ⟨by assumption, hf⟩
          · contradiction
        obtain ⟨_, hNa, halla⟩ := relFault_ok hfa
        obtain ⟨_, hNb, hallb⟩ := relFault_ok hfb
        obtain ⟨hmemp, hpl0⟩ := places_mem hp
        obtain ⟨hmemq, hql0⟩ := places_mem hq
        
        refine ACalls_of Tryd.func26 rfl in_26 (Nat.le_of_ble_eq_true rfl) ?_
        intro F hF
        simp (dsimp := false) only [go_sem, Nat.reduceAdd, Nat.reduceBEq, Nat.reduceEqDiff, Nat.reduceLT, Nat.reduceLeDiff, Nat.reduceMul, Int.reduceToNat, reduceCtorEq, ↓reduceIte, Tryd.ntmps26, Tryd.results26, ks_26, mu_26, nd_26, ti_ag22, ti_ag23, ti_ag25, ti_ag68, ti_fl25_0, ti_fl25_1, ti_hb50, ti_hb56, ti_hb59, ti_hb67, ti_hb68, ti_hb69, ti_pl25, ti_sb23, ti_sl23, ti_sz25, ti_zr25, itD, itV, rlV, rowD, rlD, hf, hp, hq, Option.getD_some, Option.isSome_some, in_26] at hF
        subst hF
        repeat' (first
          | with_reducible refine And.intro ?_ ?_
          | with_reducible intro _
          | with_reducible refine AWp_seq ?_
          | with_reducible refine AWp_block ?_
          | (with_reducible refine hKv _ _ (AWp_nop ?_); clear hKv Kv)
          | (with_reducible refine hKv _ _ ?_; clear hKv Kv; simp (dsimp := false) only [go_sem, Nat.reduceAdd, Nat.reduceBEq, Nat.reduceEqDiff, Nat.reduceLT, Nat.reduceLeDiff, Nat.reduceMul, Int.reduceToNat, reduceCtorEq, ↓reduceIte, Tryd.ntmps26, Tryd.results26, ks_26, mu_26, nd_26, ti_ag22, ti_ag23, ti_ag25, ti_ag68, ti_fl25_0, ti_fl25_1, ti_hb50, ti_hb56, ti_hb59, ti_hb67, ti_hb68, ti_hb69, ti_pl25, ti_sb23, ti_sl23, ti_sz25, ti_zr25, itD, itV, rlV, rowD, rlD, hf, hp, hq, Option.getD_some, Option.isSome_some])
          | (with_reducible refine hKA ?_; clear hKA hKB KA KB)
          | (with_reducible refine hKB ?_; clear hKA hKB KA KB)
          | (with_reducible refine AWp_regC mu_26 ks_26 ?_; intro Kv hKv; simp (dsimp := false) only [go_sem, Nat.reduceAdd, Nat.reduceBEq, Nat.reduceEqDiff, Nat.reduceLT, Nat.reduceLeDiff, Nat.reduceMul, Int.reduceToNat, reduceCtorEq, ↓reduceIte, Tryd.ntmps26, Tryd.results26, ks_26, mu_26, nd_26, ti_ag22, ti_ag23, ti_ag25, ti_ag68, ti_fl25_0, ti_fl25_1, ti_hb50, ti_hb56, ti_hb59, ti_hb67, ti_hb68, ti_hb69, ti_pl25, ti_sb23, ti_sl23, ti_sz25, ti_zr25, itD, itV, rlV, rowD, rlD, hf, hp, hq, Option.getD_some, Option.isSome_some])
          | (with_reducible refine AWp_draw nd_26 mu_26 ks_26 ti_mixed (by kernel_rfl) ?_; intro Kv hKv; simp (dsimp := false) only [go_sem, Nat.reduceAdd, Nat.reduceBEq, Nat.reduceEqDiff, Nat.reduceLT, Nat.reduceLeDiff, Nat.reduceMul, Int.reduceToNat, reduceCtorEq, ↓reduceIte, Tryd.ntmps26, Tryd.results26, ks_26, mu_26, nd_26, ti_ag22, ti_ag23, ti_ag25, ti_ag68, ti_fl25_0, ti_fl25_1, ti_hb50, ti_hb56, ti_hb59, ti_hb67, ti_hb68, ti_hb69, ti_pl25, ti_sb23, ti_sl23, ti_sz25, ti_zr25, itD, itV, rlV, rowD, rlD, hf, hp, hq, Option.getD_some, Option.isSome_some])
          | with_reducible refine AWp_skipN ?_
          | with_reducible refine AWp_exitO (by repeat (first | with_reducible exact Out.hit | with_reducible apply Out.thenA | with_reducible apply Out.out rfl)) ?_
          | (with_reducible refine AWp_retR ?_; simp (dsimp := false) only [go_sem, Nat.reduceAdd, Nat.reduceBEq, Nat.reduceEqDiff, Nat.reduceLT, Nat.reduceLeDiff, Nat.reduceMul, Int.reduceToNat, reduceCtorEq, ↓reduceIte, Tryd.ntmps26, Tryd.results26, ks_26, mu_26, nd_26, ti_ag22, ti_ag23, ti_ag25, ti_ag68, ti_fl25_0, ti_fl25_1, ti_hb50, ti_hb56, ti_hb59, ti_hb67, ti_hb68, ti_hb69, ti_pl25, ti_sb23, ti_sl23, ti_sz25, ti_zr25, itD, itV, rlV, rowD, rlD, hf, hp, hq, Option.getD_some, Option.isSome_some])
          | (with_reducible refine AWp_regE mu_26 ks_26 ?_; intro Kv hKv; simp (dsimp := false) only [go_sem, Nat.reduceAdd, Nat.reduceBEq, Nat.reduceEqDiff, Nat.reduceLT, Nat.reduceLeDiff, Nat.reduceMul, Int.reduceToNat, reduceCtorEq, ↓reduceIte, Tryd.ntmps26, Tryd.results26, ks_26, mu_26, nd_26, ti_ag22, ti_ag23, ti_ag25, ti_ag68, ti_fl25_0, ti_fl25_1, ti_hb50, ti_hb56, ti_hb59, ti_hb67, ti_hb68, ti_hb69, ti_pl25, ti_sb23, ti_sl23, ti_sz25, ti_zr25, itD, itV, rlV, rowD, rlD, hf, hp, hq, Option.getD_some, Option.isSome_some])
          | (with_reducible refine AWp_drawE nd_26 mu_26 ks_26 ti_mixed (by kernel_rfl) ?_; intro Kv hKv; simp (dsimp := false) only [go_sem, Nat.reduceAdd, Nat.reduceBEq, Nat.reduceEqDiff, Nat.reduceLT, Nat.reduceLeDiff, Nat.reduceMul, Int.reduceToNat, reduceCtorEq, ↓reduceIte, Tryd.ntmps26, Tryd.results26, ks_26, mu_26, nd_26, ti_ag22, ti_ag23, ti_ag25, ti_ag68, ti_fl25_0, ti_fl25_1, ti_hb50, ti_hb56, ti_hb59, ti_hb67, ti_hb68, ti_hb69, ti_pl25, ti_sb23, ti_sl23, ti_sz25, ti_zr25, itD, itV, rlV, rowD, rlD, hf, hp, hq, Option.getD_some, Option.isSome_some])
          | (refine AWp_condC rfl ?_; intro KA KB hKA hKB; try simp only [onB_true, onB_false, onB_dec, onB_ndec, onB_not, onB_and, onB_or])
          | (refine AWp_condA rfl ?_ ?_)
          | (refine refTwoFault_A a b hA hB _ _ ?_; try simp (dsimp := false) only [go_sem, Nat.reduceAdd, Nat.reduceBEq, Nat.reduceEqDiff, Nat.reduceLT, Nat.reduceLeDiff, Nat.reduceMul, Int.reduceToNat, reduceCtorEq, ↓reduceIte, Tryd.ntmps26, Tryd.results26, ks_26, mu_26, nd_26, ti_ag22, ti_ag23, ti_ag25, ti_ag68, ti_fl25_0, ti_fl25_1, ti_hb50, ti_hb56, ti_hb59, ti_hb67, ti_hb68, ti_hb69, ti_pl25, ti_sb23, ti_sl23, ti_sz25, ti_zr25, itD, itV, rlV, rowD, rlD, hf, hp, hq, Option.getD_some, Option.isSome_some])
          | (refine QCall_of (refTwoFault_A a b hA hB _ _ (Two_intro _ _)) ?_; try simp (dsimp := false) only [go_sem, Nat.reduceAdd, Nat.reduceBEq, Nat.reduceEqDiff, Nat.reduceLT, Nat.reduceLeDiff, Nat.reduceMul, Int.reduceToNat, reduceCtorEq, ↓reduceIte, Tryd.ntmps26, Tryd.results26, ks_26, mu_26, nd_26, ti_ag22, ti_ag23, ti_ag25, ti_ag68, ti_fl25_0, ti_fl25_1, ti_hb50, ti_hb56, ti_hb59, ti_hb67, ti_hb68, ti_hb69, ti_pl25, ti_sb23, ti_sl23, ti_sz25, ti_zr25, itD, itV, rlV, rowD, rlD, hf, hp, hq, Option.getD_some, Option.isSome_some])
          | (refine colsAt_A a hA cols hc _ _ ?_; try simp (dsimp := false) only [go_sem, Nat.reduceAdd, Nat.reduceBEq, Nat.reduceEqDiff, Nat.reduceLT, Nat.reduceLeDiff, Nat.reduceMul, Int.reduceToNat, reduceCtorEq, ↓reduceIte, Tryd.ntmps26, Tryd.results26, ks_26, mu_26, nd_26, ti_ag22, ti_ag23, ti_ag25, ti_ag68, ti_fl25_0, ti_fl25_1, ti_hb50, ti_hb56, ti_hb59, ti_hb67, ti_hb68, ti_hb69, ti_pl25, ti_sb23, ti_sl23, ti_sz25, ti_zr25, itD, itV, rlV, rowD, rlD, hf, hp, hq, Option.getD_some, Option.isSome_some])
          | (refine QCall_of (colsAt_A a hA cols hc _ _ (Two_intro _ _)) ?_; try simp (dsimp := false) only [go_sem, Nat.reduceAdd, Nat.reduceBEq, Nat.reduceEqDiff, Nat.reduceLT, Nat.reduceLeDiff, Nat.reduceMul, Int.reduceToNat, reduceCtorEq, ↓reduceIte, Tryd.ntmps26, Tryd.results26, ks_26, mu_26, nd_26, ti_ag22, ti_ag23, ti_ag25, ti_ag68, ti_fl25_0, ti_fl25_1, ti_hb50, ti_hb56, ti_hb59, ti_hb67, ti_hb68, ti_hb69, ti_pl25, ti_sb23, ti_sl23, ti_sz25, ti_zr25, itD, itV, rlV, rowD, rlD, hf, hp, hq, Option.getD_some, Option.isSome_some])
          | (refine colsAt_A b hB cols hc _ _ ?_; try simp (dsimp := false) only [go_sem, Nat.reduceAdd, Nat.reduceBEq, Nat.reduceEqDiff, Nat.reduceLT, Nat.reduceLeDiff, Nat.reduceMul, Int.reduceToNat, reduceCtorEq, ↓reduceIte, Tryd.ntmps26, Tryd.results26, ks_26, mu_26, nd_26, ti_ag22, ti_ag23, ti_ag25, ti_ag68, ti_fl25_0, ti_fl25_1, ti_hb50, ti_hb56, ti_hb59, ti_hb67, ti_hb68, ti_hb69, ti_pl25, ti_sb23, ti_sl23, ti_sz25, ti_zr25, itD, itV, rlV, rowD, rlD, hf, hp, hq, Option.getD_some, Option.isSome_some])
          | (refine QCall_of (colsAt_A b hB cols hc _ _ (Two_intro _ _)) ?_; try simp (dsimp := false) only [go_sem, Nat.reduceAdd, Nat.reduceBEq, Nat.reduceEqDiff, Nat.reduceLT, Nat.reduceLeDiff, Nat.reduceMul, Int.reduceToNat, reduceCtorEq, ↓reduceIte, Tryd.ntmps26, Tryd.results26, ks_26, mu_26, nd_26, ti_ag22, ti_ag23, ti_ag25, ti_ag68, ti_fl25_0, ti_fl25_1, ti_hb50, ti_hb56, ti_hb59, ti_hb67, ti_hb68, ti_hb69, ti_pl25, ti_sb23, ti_sl23, ti_sz25, ti_zr25, itD, itV, rlV, rowD, rlD, hf, hp, hq, Option.getD_some, Option.isSome_some])
          | with_reducible refine onB_of ?_ ?_
          | with_reducible rfl
          | omega)
        refine AWp_whileH (fun i : Nat => i ≤ a.rows.length)
          (fun i => [(3, .rp (rlD a)), (4, .rp (rlD b)), (6, .pt H.length 0 0 0), (9, .d (.sl 1 (p.map intRow))), (11, .d (.sl 1 (q.map intRow))), (13, .os (H.length + 1) (exRows p q (a.rows.take i) b.rows).length), (14, .d (.i .i64 i))])
          (fun i => [.row 0 25 2 [[.d (.c (.slice none 0 0)), .d (.c (.slice none 0 0))]], .row (exRows p q (a.rows.take i) b.rows).length 68 1 ((exRows p q (a.rows.take i) b.rows).map rowC)]) (fun i => a.rows.length - i) 0 (Nat.zero_le _) rfl ?_ ?_ ?_
        · simp (dsimp := false) only [go_sem, Nat.reduceAdd, Nat.reduceBEq, Nat.reduceEqDiff, Nat.reduceLT, Nat.reduceLeDiff, Nat.reduceMul, Int.reduceToNat, reduceCtorEq, ↓reduceIte, Tryd.ntmps26, Tryd.results26, ks_26, mu_26, nd_26, ti_ag22, ti_ag23, ti_ag25, ti_ag68, ti_fl25_0, ti_fl25_1, ti_hb50, ti_hb56, ti_hb59, ti_hb67, ti_hb68, ti_hb69, ti_pl25, ti_sb23, ti_sl23, ti_sz25, ti_zr25, itD, itV, rlV, rowD, rlD, hf, hp, hq, Option.getD_some, Option.isSome_some]
          first | done | simp [exRows]
        · rintro i _ ob hob
          simp only [List.mem_cons, List.not_mem_nil, or_false] at hob
          rcases hob with rfl | rfl
          · exact bel_nil2 _ _ _
          · exact obBel_rows _ _ _ _ _
        rintro i hi
        have hxl := exRows_len p q (a.rows.take i) b.rows
        have hxl2 : (exRows p q (a.rows.take i) b.rows).length ≤ 1000000 := by rw [List.length_take] at hxl; omega
        clear hxl
        by_cases hiN : i < a.rows.length
        · obtain ⟨row, hrow⟩ : ∃ row, a.rows[i]? = some row := ⟨a.rows[i], List.getElem?_eq_getElem hiN⟩
          have hrl := (halla row (List.mem_of_getElem? hrow)).1
          have hrs := (hA.get hrow).1
          have hT : ∀ t : Bool, (t = true ↔ projRow p row ∈ b.rows.map (projRow q)) → exRows p q (a.rows.take (i + 1)) b.rows = if t = true then exRows p q (a.rows.take i) b.rows else exRows p q (a.rows.take i) b.rows ++ [row] := fun t ht => by
            by_cases hin : projRow p row ∈ b.rows.map (projRow q)
            · rw [if_pos (ht.2 hin), exRows_hit hrow hin]
            · rw [if_neg (fun h => hin (ht.1 h)), exRows_miss hrow hin]
          generalize exRows p q (a.rows.take i) b.rows = acc at hT hxl2 ⊢
          
          repeat' (first
            | with_reducible refine And.intro ?_ ?_
            | with_reducible intro _
            | with_reducible refine AWp_seq ?_
            | with_reducible refine AWp_block ?_
            | (with_reducible refine hKv _ _ (AWp_nop ?_); clear hKv Kv)
            | (with_reducible refine hKv _ _ ?_; clear hKv Kv; simp (dsimp := false) only [go_sem, Nat.reduceAdd, Nat.reduceBEq, Nat.reduceEqDiff, Nat.reduceLT, Nat.reduceLeDiff, Nat.reduceMul, Int.reduceToNat, reduceCtorEq, ↓reduceIte, Tryd.ntmps26, Tryd.results26, ks_26, mu_26, nd_26, ti_ag22, ti_ag23, ti_ag25, ti_ag68, ti_fl25_0, ti_fl25_1, ti_hb50, ti_hb56, ti_hb59, ti_hb67, ti_hb68, ti_hb69, ti_pl25, ti_sb23, ti_sl23, ti_sz25, ti_zr25, itD, itV, rlV, rowD, rlD, hrow])
            | (with_reducible refine hKA ?_; clear hKA hKB KA KB)
            | (with_reducible refine hKB ?_; clear hKA hKB KA KB)
            | (with_reducible refine AWp_regC mu_26 ks_26 ?_; intro Kv hKv; simp (dsimp := false) only [go_sem, Nat.reduceAdd, Nat.reduceBEq, Nat.reduceEqDiff, Nat.reduceLT, Nat.reduceLeDiff, Nat.reduceMul, Int.reduceToNat, reduceCtorEq, ↓reduceIte, Tryd.ntmps26, Tryd.results26, ks_26, mu_26, nd_26, ti_ag22, ti_ag23, ti_ag25, ti_ag68, ti_fl25_0, ti_fl25_1, ti_hb50, ti_hb56, ti_hb59, ti_hb67, ti_hb68, ti_hb69, ti_pl25, ti_sb23, ti_sl23, ti_sz25, ti_zr25, itD, itV, rlV, rowD, rlD, hrow])
            | (with_reducible refine AWp_draw nd_26 mu_26 ks_26 ti_mixed (by kernel_rfl) ?_; intro Kv hKv; simp (dsimp := false) only [go_sem, Nat.reduceAdd, Nat.reduceBEq, Nat.reduceEqDiff, Nat.reduceLT, Nat.reduceLeDiff, Nat.reduceMul, Int.reduceToNat, reduceCtorEq, ↓reduceIte, Tryd.ntmps26, Tryd.results26, ks_26, mu_26, nd_26, ti_ag22, ti_ag23, ti_ag25, ti_ag68, ti_fl25_0, ti_fl25_1, ti_hb50, ti_hb56, ti_hb59, ti_hb67, ti_hb68, ti_hb69, ti_pl25, ti_sb23, ti_sl23, ti_sz25, ti_zr25, itD, itV, rlV, rowD, rlD, hrow])
            | with_reducible refine AWp_skipN ?_
            | with_reducible refine AWp_exitO (by repeat (first | with_reducible exact Out.hit | with_reducible apply Out.thenA | with_reducible apply Out.out rfl)) ?_
            | (with_reducible refine AWp_retR ?_; simp (dsimp := false) only [go_sem, Nat.reduceAdd, Nat.reduceBEq, Nat.reduceEqDiff, Nat.reduceLT, Nat.reduceLeDiff, Nat.reduceMul, Int.reduceToNat, reduceCtorEq, ↓reduceIte, Tryd.ntmps26, Tryd.results26, ks_26, mu_26, nd_26, ti_ag22, ti_ag23, ti_ag25, ti_ag68, ti_fl25_0, ti_fl25_1, ti_hb50, ti_hb56, ti_hb59, ti_hb67, ti_hb68, ti_hb69, ti_pl25, ti_sb23, ti_sl23, ti_sz25, ti_zr25, itD, itV, rlV, rowD, rlD, hrow])
            | (with_reducible refine AWp_regE mu_26 ks_26 ?_; intro Kv hKv; simp (dsimp := false) only [go_sem, Nat.reduceAdd, Nat.reduceBEq, Nat.reduceEqDiff, Nat.reduceLT, Nat.reduceLeDiff, Nat.reduceMul, Int.reduceToNat, reduceCtorEq, ↓reduceIte, Tryd.ntmps26, Tryd.results26, ks_26, mu_26, nd_26, ti_ag22, ti_ag23, ti_ag25, ti_ag68, ti_fl25_0, ti_fl25_1, ti_hb50, ti_hb56, ti_hb59, ti_hb67, ti_hb68, ti_hb69, ti_pl25, ti_sb23, ti_sl23, ti_sz25, ti_zr25, itD, itV, rlV, rowD, rlD, hrow])
            | (with_reducible refine AWp_drawE nd_26 mu_26 ks_26 ti_mixed (by kernel_rfl) ?_; intro Kv hKv; simp (dsimp := false) only [go_sem, Nat.reduceAdd, Nat.reduceBEq, Nat.reduceEqDiff, Nat.reduceLT, Nat.reduceLeDiff, Nat.reduceMul, Int.reduceToNat, reduceCtorEq, ↓reduceIte, Tryd.ntmps26, Tryd.results26, ks_26, mu_26, nd_26, ti_ag22, ti_ag23, ti_ag25, ti_ag68, ti_fl25_0, ti_fl25_1, ti_hb50, ti_hb56, ti_hb59, ti_hb67, ti_hb68, ti_hb69, ti_pl25, ti_sb23, ti_sl23, ti_sz25, ti_zr25, itD, itV, rlV, rowD, rlD, hrow])
            | (refine AWp_condC rfl ?_; intro KA KB hKA hKB; try simp only [onB_true, onB_false, onB_dec, onB_ndec, onB_not, onB_and, onB_or])
            | (refine AWp_condA rfl ?_ ?_)
            | with_reducible refine onB_of ?_ ?_
            | with_reducible rfl
            | omega)
          refine AWp_whileH (fun y : Nat × Bool => y.1 ≤ b.rows.length ∧ (y.2 = true ↔ projRow p row ∈ (b.rows.take y.1).map (projRow q))) (fun y => [(3, .rp (rlD a)), (4, .rp (rlD b)), (6, .pt H.length 0 0 0), (9, .d (.sl 1 (p.map intRow))), (11, .d (.sl 1 (q.map intRow))), (13, .os (H.length + 1) acc.length), (14, .d (.i .i64 i)), (15, .d (.b y.2)), (16, .d (.i .i64 y.1))])
            (fun y => [.row 0 25 2 [[.d (.c (.slice none 0 0)), .d (.c (.slice none 0 0))]], .row acc.length 68 1 (acc.map rowC)]) (fun y => b.rows.length - y.1) (0, false) ⟨Nat.zero_le _, by simp⟩ rfl ?_ ?_ ?_
          · simp (dsimp := false) only [go_sem, Nat.reduceAdd, Nat.reduceBEq, Nat.reduceEqDiff, Nat.reduceLT, Nat.reduceLeDiff, Nat.reduceMul, Int.reduceToNat, reduceCtorEq, ↓reduceIte, Tryd.ntmps26, Tryd.results26, ks_26, mu_26, nd_26, ti_ag22, ti_ag23, ti_ag25, ti_ag68, ti_fl25_0, ti_fl25_1, ti_hb50, ti_hb56, ti_hb59, ti_hb67, ti_hb68, ti_hb69, ti_pl25, ti_sb23, ti_sl23, ti_sz25, ti_zr25, itD, itV, rlV, rowD, rlD, hrow]
            first | done | simp
          · rintro ⟨k, t⟩ _ ob hob
            simp only [List.mem_cons, List.not_mem_nil, or_false] at hob
            rcases hob with rfl | rfl
            · exact bel_nil2 _ _ _
            · exact obBel_rows _ _ _ _ _
          rintro ⟨k, t⟩ ⟨g1, g2⟩
          simp only [] at g1 g2 ⊢
          by_cases hkl : k < b.rows.length
          · obtain ⟨rk, hrk⟩ : ∃ rk, b.rows[k]? = some rk := ⟨b.rows[k], List.getElem?_eq_getElem hkl⟩
            have hrkl := (hallb rk (List.mem_of_getElem? hrk)).1
            cases t with
            | false =>
              have g3 : projRow p row ∉ (b.rows.take k).map (projRow q) := fun h => by have := g2.2 h; cases this
              have g4 : decide (projRow p row = projRow q rk) = true ↔ projRow p row ∈ (b.rows.take (k + 1)).map (projRow q) := by
                rw [take_of_get hrk, List.map_append, List.mem_append, decide_eq_true_eq]
                exact ⟨fun h => .inr (by simp [h]), fun h => h.elim (fun h => absurd h g3) fun h => by simpa using h⟩
              clear hT g2 g3
              
              repeat' (first
                | with_reducible refine And.intro ?_ ?_
                | with_reducible intro _
                | with_reducible refine AWp_seq ?_
                | with_reducible refine AWp_block ?_
                | (with_reducible refine hKv _ _ (AWp_nop ?_); clear hKv Kv)
                | (with_reducible refine hKv _ _ ?_; clear hKv Kv; simp (dsimp := false) only [go_sem, Nat.reduceAdd, Nat.reduceBEq, Nat.reduceEqDiff, Nat.reduceLT, Nat.reduceLeDiff, Nat.reduceMul, Int.reduceToNat, reduceCtorEq, ↓reduceIte, Tryd.ntmps26, Tryd.results26, ks_26, mu_26, nd_26, ti_ag22, ti_ag23, ti_ag25, ti_ag68, ti_fl25_0, ti_fl25_1, ti_hb50, ti_hb56, ti_hb59, ti_hb67, ti_hb68, ti_hb69, ti_pl25, ti_sb23, ti_sl23, ti_sz25, ti_zr25, itD, itV, rlV, rowD, rlD, hrow, hrk])
                | (with_reducible refine hKA ?_; clear hKA hKB KA KB)
                | (with_reducible refine hKB ?_; clear hKA hKB KA KB)
                | (with_reducible refine AWp_regC mu_26 ks_26 ?_; intro Kv hKv; simp (dsimp := false) only [go_sem, Nat.reduceAdd, Nat.reduceBEq, Nat.reduceEqDiff, Nat.reduceLT, Nat.reduceLeDiff, Nat.reduceMul, Int.reduceToNat, reduceCtorEq, ↓reduceIte, Tryd.ntmps26, Tryd.results26, ks_26, mu_26, nd_26, ti_ag22, ti_ag23, ti_ag25, ti_ag68, ti_fl25_0, ti_fl25_1, ti_hb50, ti_hb56, ti_hb59, ti_hb67, ti_hb68, ti_hb69, ti_pl25, ti_sb23, ti_sl23, ti_sz25, ti_zr25, itD, itV, rlV, rowD, rlD, hrow, hrk])
                | (with_reducible refine AWp_draw nd_26 mu_26 ks_26 ti_mixed (by kernel_rfl) ?_; intro Kv hKv; simp (dsimp := false) only [go_sem, Nat.reduceAdd, Nat.reduceBEq, Nat.reduceEqDiff, Nat.reduceLT, Nat.reduceLeDiff, Nat.reduceMul, Int.reduceToNat, reduceCtorEq, ↓reduceIte, Tryd.ntmps26, Tryd.results26, ks_26, mu_26, nd_26, ti_ag22, ti_ag23, ti_ag25, ti_ag68, ti_fl25_0, ti_fl25_1, ti_hb50, ti_hb56, ti_hb59, ti_hb67, ti_hb68, ti_hb69, ti_pl25, ti_sb23, ti_sl23, ti_sz25, ti_zr25, itD, itV, rlV, rowD, rlD, hrow, hrk])
                | with_reducible refine AWp_skipN ?_
                | with_reducible refine AWp_exitO (by repeat (first | with_reducible exact Out.hit | with_reducible apply Out.thenA | with_reducible apply Out.out rfl)) ?_
                | (with_reducible refine AWp_retR ?_; simp (dsimp := false) only [go_sem, Nat.reduceAdd, Nat.reduceBEq, Nat.reduceEqDiff, Nat.reduceLT, Nat.reduceLeDiff, Nat.reduceMul, Int.reduceToNat, reduceCtorEq, ↓reduceIte, Tryd.ntmps26, Tryd.results26, ks_26, mu_26, nd_26, ti_ag22, ti_ag23, ti_ag25, ti_ag68, ti_fl25_0, ti_fl25_1, ti_hb50, ti_hb56, ti_hb59, ti_hb67, ti_hb68, ti_hb69, ti_pl25, ti_sb23, ti_sl23, ti_sz25, ti_zr25, itD, itV, rlV, rowD, rlD, hrow, hrk])
                | (with_reducible refine AWp_regE mu_26 ks_26 ?_; intro Kv hKv; simp (dsimp := false) only [go_sem, Nat.reduceAdd, Nat.reduceBEq, Nat.reduceEqDiff, Nat.reduceLT, Nat.reduceLeDiff, Nat.reduceMul, Int.reduceToNat, reduceCtorEq, ↓reduceIte, Tryd.ntmps26, Tryd.results26, ks_26, mu_26, nd_26, ti_ag22, ti_ag23, ti_ag25, ti_ag68, ti_fl25_0, ti_fl25_1, ti_hb50, ti_hb56, ti_hb59, ti_hb67, ti_hb68, ti_hb69, ti_pl25, ti_sb23, ti_sl23, ti_sz25, ti_zr25, itD, itV, rlV, rowD, rlD, hrow, hrk])
                | (with_reducible refine AWp_drawE nd_26 mu_26 ks_26 ti_mixed (by kernel_rfl) ?_; intro Kv hKv; simp (dsimp := false) only [go_sem, Nat.reduceAdd, Nat.reduceBEq, Nat.reduceEqDiff, Nat.reduceLT, Nat.reduceLeDiff, Nat.reduceMul, Int.reduceToNat, reduceCtorEq, ↓reduceIte, Tryd.ntmps26, Tryd.results26, ks_26, mu_26, nd_26, ti_ag22, ti_ag23, ti_ag25, ti_ag68, ti_fl25_0, ti_fl25_1, ti_hb50, ti_hb56, ti_hb59, ti_hb67, ti_hb68, ti_hb69, ti_pl25, ti_sb23, ti_sl23, ti_sz25, ti_zr25, itD, itV, rlV, rowD, rlD, hrow, hrk])
                | (refine AWp_condC rfl ?_; intro KA KB hKA hKB; try simp only [onB_true, onB_false, onB_dec, onB_ndec, onB_not, onB_and, onB_or])
                | (refine AWp_condA rfl ?_ ?_)
                | (refine picks_A row p (by omega) (fun j hj => by have := hmemp j hj; omega) _ _ ?_; try simp (dsimp := false) only [go_sem, Nat.reduceAdd, Nat.reduceBEq, Nat.reduceEqDiff, Nat.reduceLT, Nat.reduceLeDiff, Nat.reduceMul, Int.reduceToNat, reduceCtorEq, ↓reduceIte, Tryd.ntmps26, Tryd.results26, ks_26, mu_26, nd_26, ti_ag22, ti_ag23, ti_ag25, ti_ag68, ti_fl25_0, ti_fl25_1, ti_hb50, ti_hb56, ti_hb59, ti_hb67, ti_hb68, ti_hb69, ti_pl25, ti_sb23, ti_sl23, ti_sz25, ti_zr25, itD, itV, rlV, rowD, rlD, hrow, hrk])
                | (refine QCall_of (picks_A row p (by omega) (fun j hj => by have := hmemp j hj; omega) _ _ (Two_intro _ _)) ?_; try simp (dsimp := false) only [go_sem, Nat.reduceAdd, Nat.reduceBEq, Nat.reduceEqDiff, Nat.reduceLT, Nat.reduceLeDiff, Nat.reduceMul, Int.reduceToNat, reduceCtorEq, ↓reduceIte, Tryd.ntmps26, Tryd.results26, ks_26, mu_26, nd_26, ti_ag22, ti_ag23, ti_ag25, ti_ag68, ti_fl25_0, ti_fl25_1, ti_hb50, ti_hb56, ti_hb59, ti_hb67, ti_hb68, ti_hb69, ti_pl25, ti_sb23, ti_sl23, ti_sz25, ti_zr25, itD, itV, rlV, rowD, rlD, hrow, hrk])
                | (refine picks_A rk q (by omega) (fun j hj => by have := hmemq j hj; omega) _ _ ?_; try simp (dsimp := false) only [go_sem, Nat.reduceAdd, Nat.reduceBEq, Nat.reduceEqDiff, Nat.reduceLT, Nat.reduceLeDiff, Nat.reduceMul, Int.reduceToNat, reduceCtorEq, ↓reduceIte, Tryd.ntmps26, Tryd.results26, ks_26, mu_26, nd_26, ti_ag22, ti_ag23, ti_ag25, ti_ag68, ti_fl25_0, ti_fl25_1, ti_hb50, ti_hb56, ti_hb59, ti_hb67, ti_hb68, ti_hb69, ti_pl25, ti_sb23, ti_sl23, ti_sz25, ti_zr25, itD, itV, rlV, rowD, rlD, hrow, hrk])
                | (refine QCall_of (picks_A rk q (by omega) (fun j hj => by have := hmemq j hj; omega) _ _ (Two_intro _ _)) ?_; try simp (dsimp := false) only [go_sem, Nat.reduceAdd, Nat.reduceBEq, Nat.reduceEqDiff, Nat.reduceLT, Nat.reduceLeDiff, Nat.reduceMul, Int.reduceToNat, reduceCtorEq, ↓reduceIte, Tryd.ntmps26, Tryd.results26, ks_26, mu_26, nd_26, ti_ag22, ti_ag23, ti_ag25, ti_ag68, ti_fl25_0, ti_fl25_1, ti_hb50, ti_hb56, ti_hb59, ti_hb67, ti_hb68, ti_hb69, ti_pl25, ti_sb23, ti_sl23, ti_sz25, ti_zr25, itD, itV, rlV, rowD, rlD, hrow, hrk])
                | (refine refSameItems_A _ _ (by rw [projRow_len]; omega) (by rw [projRow_len]; omega) _ _ ?_; try simp (dsimp := false) only [go_sem, Nat.reduceAdd, Nat.reduceBEq, Nat.reduceEqDiff, Nat.reduceLT, Nat.reduceLeDiff, Nat.reduceMul, Int.reduceToNat, reduceCtorEq, ↓reduceIte, Tryd.ntmps26, Tryd.results26, ks_26, mu_26, nd_26, ti_ag22, ti_ag23, ti_ag25, ti_ag68, ti_fl25_0, ti_fl25_1, ti_hb50, ti_hb56, ti_hb59, ti_hb67, ti_hb68, ti_hb69, ti_pl25, ti_sb23, ti_sl23, ti_sz25, ti_zr25, itD, itV, rlV, rowD, rlD, hrow, hrk])
                | (refine QCall_of (refSameItems_A _ _ (by rw [projRow_len]; omega) (by rw [projRow_len]; omega) _ _ (Two_intro _ _)) ?_; try simp (dsimp := false) only [go_sem, Nat.reduceAdd, Nat.reduceBEq, Nat.reduceEqDiff, Nat.reduceLT, Nat.reduceLeDiff, Nat.reduceMul, Int.reduceToNat, reduceCtorEq, ↓reduceIte, Tryd.ntmps26, Tryd.results26, ks_26, mu_26, nd_26, ti_ag22, ti_ag23, ti_ag25, ti_ag68, ti_fl25_0, ti_fl25_1, ti_hb50, ti_hb56, ti_hb59, ti_hb67, ti_hb68, ti_hb69, ti_pl25, ti_sb23, ti_sl23, ti_sz25, ti_zr25, itD, itV, rlV, rowD, rlD, hrow, hrk])
                | with_reducible refine onB_of ?_ ?_
                | with_reducible rfl
                | omega)
              exact ⟨(k + 1, decide (projRow p row = projRow q rk)), ⟨by show k + 1 ≤ b.rows.length; omega, g4⟩, by show b.rows.length - (k + 1) < b.rows.length - k; omega, by (repeat' (refine And.intro ?_ ?_)) <;> first | rfl | omega | simp⟩
            | true =>
              have f1 := hT true ⟨fun _ => by
                obtain ⟨x, hx, e⟩ := List.mem_map.1 (g2.1 rfl)
                exact List.mem_map.2 ⟨x, List.mem_of_mem_take hx, e⟩, fun _ => rfl⟩
              rw [if_pos rfl] at f1
              clear hT g2
              
              repeat' (first
                | with_reducible refine And.intro ?_ ?_
                | with_reducible intro _
                | with_reducible refine AWp_seq ?_
                | with_reducible refine AWp_block ?_
                | (with_reducible refine hKv _ _ (AWp_nop ?_); clear hKv Kv)
                | (with_reducible refine hKv _ _ ?_; clear hKv Kv; simp (dsimp := false) only [go_sem, Nat.reduceAdd, Nat.reduceBEq, Nat.reduceEqDiff, Nat.reduceLT, Nat.reduceLeDiff, Nat.reduceMul, Int.reduceToNat, reduceCtorEq, ↓reduceIte, Tryd.ntmps26, Tryd.results26, ks_26, mu_26, nd_26, ti_ag22, ti_ag23, ti_ag25, ti_ag68, ti_fl25_0, ti_fl25_1, ti_hb50, ti_hb56, ti_hb59, ti_hb67, ti_hb68, ti_hb69, ti_pl25, ti_sb23, ti_sl23, ti_sz25, ti_zr25, itD, itV, rlV, rowD, rlD, hrow])
                | (with_reducible refine hKA ?_; clear hKA hKB KA KB)
                | (with_reducible refine hKB ?_; clear hKA hKB KA KB)
                | (with_reducible refine AWp_regC mu_26 ks_26 ?_; intro Kv hKv; simp (dsimp := false) only [go_sem, Nat.reduceAdd, Nat.reduceBEq, Nat.reduceEqDiff, Nat.reduceLT, Nat.reduceLeDiff, Nat.reduceMul, Int.reduceToNat, reduceCtorEq, ↓reduceIte, Tryd.ntmps26, Tryd.results26, ks_26, mu_26, nd_26, ti_ag22, ti_ag23, ti_ag25, ti_ag68, ti_fl25_0, ti_fl25_1, ti_hb50, ti_hb56, ti_hb59, ti_hb67, ti_hb68, ti_hb69, ti_pl25, ti_sb23, ti_sl23, ti_sz25, ti_zr25, itD, itV, rlV, rowD, rlD, hrow])
                | (with_reducible refine AWp_draw nd_26 mu_26 ks_26 ti_mixed (by kernel_rfl) ?_; intro Kv hKv; simp (dsimp := false) only [go_sem, Nat.reduceAdd, Nat.reduceBEq, Nat.reduceEqDiff, Nat.reduceLT, Nat.reduceLeDiff, Nat.reduceMul, Int.reduceToNat, reduceCtorEq, ↓reduceIte, Tryd.ntmps26, Tryd.results26, ks_26, mu_26, nd_26, ti_ag22, ti_ag23, ti_ag25, ti_ag68, ti_fl25_0, ti_fl25_1, ti_hb50, ti_hb56, ti_hb59, ti_hb67, ti_hb68, ti_hb69, ti_pl25, ti_sb23, ti_sl23, ti_sz25, ti_zr25, itD, itV, rlV, rowD, rlD, hrow])
                | with_reducible refine AWp_skipN ?_
                | with_reducible refine AWp_exitO (by repeat (first | with_reducible exact Out.hit | with_reducible apply Out.thenA | with_reducible apply Out.out rfl)) ?_
                | (with_reducible refine AWp_retR ?_; simp (dsimp := false) only [go_sem, Nat.reduceAdd, Nat.reduceBEq, Nat.reduceEqDiff, Nat.reduceLT, Nat.reduceLeDiff, Nat.reduceMul, Int.reduceToNat, reduceCtorEq, ↓reduceIte, Tryd.ntmps26, Tryd.results26, ks_26, mu_26, nd_26, ti_ag22, ti_ag23, ti_ag25, ti_ag68, ti_fl25_0, ti_fl25_1, ti_hb50, ti_hb56, ti_hb59, ti_hb67, ti_hb68, ti_hb69, ti_pl25, ti_sb23, ti_sl23, ti_sz25, ti_zr25, itD, itV, rlV, rowD, rlD, hrow])
                | (with_reducible refine AWp_regE mu_26 ks_26 ?_; intro Kv hKv; simp (dsimp := false) only [go_sem, Nat.reduceAdd, Nat.reduceBEq, Nat.reduceEqDiff, Nat.reduceLT, Nat.reduceLeDiff, Nat.reduceMul, Int.reduceToNat, reduceCtorEq, ↓reduceIte, Tryd.ntmps26, Tryd.results26, ks_26, mu_26, nd_26, ti_ag22, ti_ag23, ti_ag25, ti_ag68, ti_fl25_0, ti_fl25_1, ti_hb50, ti_hb56, ti_hb59, ti_hb67, ti_hb68, ti_hb69, ti_pl25, ti_sb23, ti_sl23, ti_sz25, ti_zr25, itD, itV, rlV, rowD, rlD, hrow])
                | (with_reducible refine AWp_drawE nd_26 mu_26 ks_26 ti_mixed (by kernel_rfl) ?_; intro Kv hKv; simp (dsimp := false) only [go_sem, Nat.reduceAdd, Nat.reduceBEq, Nat.reduceEqDiff, Nat.reduceLT, Nat.reduceLeDiff, Nat.reduceMul, Int.reduceToNat, reduceCtorEq, ↓reduceIte, Tryd.ntmps26, Tryd.results26, ks_26, mu_26, nd_26, ti_ag22, ti_ag23, ti_ag25, ti_ag68, ti_fl25_0, ti_fl25_1, ti_hb50, ti_hb56, ti_hb59, ti_hb67, ti_hb68, ti_hb69, ti_pl25, ti_sb23, ti_sl23, ti_sz25, ti_zr25, itD, itV, rlV, rowD, rlD, hrow])
                | (refine AWp_condC rfl ?_; intro KA KB hKA hKB; try simp only [onB_true, onB_false, onB_dec, onB_ndec, onB_not, onB_and, onB_or])
                | (refine AWp_condA rfl ?_ ?_)
                | (refine items_A [row] (by simp) (by simpa using hrs) (by simp; omega) _ _ ?_; try simp (dsimp := false) only [go_sem, Nat.reduceAdd, Nat.reduceBEq, Nat.reduceEqDiff, Nat.reduceLT, Nat.reduceLeDiff, Nat.reduceMul, Int.reduceToNat, reduceCtorEq, ↓reduceIte, Tryd.ntmps26, Tryd.results26, ks_26, mu_26, nd_26, ti_ag22, ti_ag23, ti_ag25, ti_ag68, ti_fl25_0, ti_fl25_1, ti_hb50, ti_hb56, ti_hb59, ti_hb67, ti_hb68, ti_hb69, ti_pl25, ti_sb23, ti_sl23, ti_sz25, ti_zr25, itD, itV, rlV, rowD, rlD, hrow])
                | (refine QCall_of (items_A [row] (by simp) (by simpa using hrs) (by simp; omega) _ _ (Two_intro _ _)) ?_; try simp (dsimp := false) only [go_sem, Nat.reduceAdd, Nat.reduceBEq, Nat.reduceEqDiff, Nat.reduceLT, Nat.reduceLeDiff, Nat.reduceMul, Int.reduceToNat, reduceCtorEq, ↓reduceIte, Tryd.ntmps26, Tryd.results26, ks_26, mu_26, nd_26, ti_ag22, ti_ag23, ti_ag25, ti_ag68, ti_fl25_0, ti_fl25_1, ti_hb50, ti_hb56, ti_hb59, ti_hb67, ti_hb68, ti_hb69, ti_pl25, ti_sb23, ti_sl23, ti_sz25, ti_zr25, itD, itV, rlV, rowD, rlD, hrow])
                | with_reducible refine onB_of ?_ ?_
                | with_reducible rfl
                | omega)
              exact ⟨i + 1, by omega, by omega, by rw [f1], by (repeat' (refine And.intro ?_ ?_)) <;> first | rfl | omega | (rw [f1]; done) | simp⟩
          · have e : k = b.rows.length := by omega
            subst e
            rw [List.take_length] at g2
            have f1 := hT t g2
            clear hT
            cases t with
            | false =>
              rw [if_neg (by decide)] at f1
              
              repeat' (first
                | with_reducible refine And.intro ?_ ?_
                | with_reducible intro _
                | with_reducible refine AWp_seq ?_
                | with_reducible refine AWp_block ?_
                | (with_reducible refine hKv _ _ (AWp_nop ?_); clear hKv Kv)
                | (with_reducible refine hKv _ _ ?_; clear hKv Kv; simp (dsimp := false) only [go_sem, Nat.reduceAdd, Nat.reduceBEq, Nat.reduceEqDiff, Nat.reduceLT, Nat.reduceLeDiff, Nat.reduceMul, Int.reduceToNat, reduceCtorEq, ↓reduceIte, Tryd.ntmps26, Tryd.results26, ks_26, mu_26, nd_26, ti_ag22, ti_ag23, ti_ag25, ti_ag68, ti_fl25_0, ti_fl25_1, ti_hb50, ti_hb56, ti_hb59, ti_hb67, ti_hb68, ti_hb69, ti_pl25, ti_sb23, ti_sl23, ti_sz25, ti_zr25, itD, itV, rlV, rowD, rlD, hrow])
                | (with_reducible refine hKA ?_; clear hKA hKB KA KB)
                | (with_reducible refine hKB ?_; clear hKA hKB KA KB)
                | (with_reducible refine AWp_regC mu_26 ks_26 ?_; intro Kv hKv; simp (dsimp := false) only [go_sem, Nat.reduceAdd, Nat.reduceBEq, Nat.reduceEqDiff, Nat.reduceLT, Nat.reduceLeDiff, Nat.reduceMul, Int.reduceToNat, reduceCtorEq, ↓reduceIte, Tryd.ntmps26, Tryd.results26, ks_26, mu_26, nd_26, ti_ag22, ti_ag23, ti_ag25, ti_ag68, ti_fl25_0, ti_fl25_1, ti_hb50, ti_hb56, ti_hb59, ti_hb67, ti_hb68, ti_hb69, ti_pl25, ti_sb23, ti_sl23, ti_sz25, ti_zr25, itD, itV, rlV, rowD, rlD, hrow])
                | (with_reducible refine AWp_draw nd_26 mu_26 ks_26 ti_mixed (by kernel_rfl) ?_; intro Kv hKv; simp (dsimp := false) only [go_sem, Nat.reduceAdd, Nat.reduceBEq, Nat.reduceEqDiff, Nat.reduceLT, Nat.reduceLeDiff, Nat.reduceMul, Int.reduceToNat, reduceCtorEq, ↓reduceIte, Tryd.ntmps26, Tryd.results26, ks_26, mu_26, nd_26, ti_ag22, ti_ag23, ti_ag25, ti_ag68, ti_fl25_0, ti_fl25_1, ti_hb50, ti_hb56, ti_hb59, ti_hb67, ti_hb68, ti_hb69, ti_pl25, ti_sb23, ti_sl23, ti_sz25, ti_zr25, itD, itV, rlV, rowD, rlD, hrow])
                | with_reducible refine AWp_skipN ?_
                | with_reducible refine AWp_exitO (by repeat (first | with_reducible exact Out.hit | with_reducible apply Out.thenA | with_reducible apply Out.out rfl)) ?_
                | (with_reducible refine AWp_retR ?_; simp (dsimp := false) only [go_sem, Nat.reduceAdd, Nat.reduceBEq, Nat.reduceEqDiff, Nat.reduceLT, Nat.reduceLeDiff, Nat.reduceMul, Int.reduceToNat, reduceCtorEq, ↓reduceIte, Tryd.ntmps26, Tryd.results26, ks_26, mu_26, nd_26, ti_ag22, ti_ag23, ti_ag25, ti_ag68, ti_fl25_0, ti_fl25_1, ti_hb50, ti_hb56, ti_hb59, ti_hb67, ti_hb68, ti_hb69, ti_pl25, ti_sb23, ti_sl23, ti_sz25, ti_zr25, itD, itV, rlV, rowD, rlD, hrow])
                | (with_reducible refine AWp_regE mu_26 ks_26 ?_; intro Kv hKv; simp (dsimp := false) only [go_sem, Nat.reduceAdd, Nat.reduceBEq, Nat.reduceEqDiff, Nat.reduceLT, Nat.reduceLeDiff, Nat.reduceMul, Int.reduceToNat, reduceCtorEq, ↓reduceIte, Tryd.ntmps26, Tryd.results26, ks_26, mu_26, nd_26, ti_ag22, ti_ag23, ti_ag25, ti_ag68, ti_fl25_0, ti_fl25_1, ti_hb50, ti_hb56, ti_hb59, ti_hb67, ti_hb68, ti_hb69, ti_pl25, ti_sb23, ti_sl23, ti_sz25, ti_zr25, itD, itV, rlV, rowD, rlD, hrow])
                | (with_reducible refine AWp_drawE nd_26 mu_26 ks_26 ti_mixed (by kernel_rfl) ?_; intro Kv hKv; simp (dsimp := false) only [go_sem, Nat.reduceAdd, Nat.reduceBEq, Nat.reduceEqDiff, Nat.reduceLT, Nat.reduceLeDiff, Nat.reduceMul, Int.reduceToNat, reduceCtorEq, ↓reduceIte, Tryd.ntmps26, Tryd.results26, ks_26, mu_26, nd_26, ti_ag22, ti_ag23, ti_ag25, ti_ag68, ti_fl25_0, ti_fl25_1, ti_hb50, ti_hb56, ti_hb59, ti_hb67, ti_hb68, ti_hb69, ti_pl25, ti_sb23, ti_sl23, ti_sz25, ti_zr25, itD, itV, rlV, rowD, rlD, hrow])
                | (refine AWp_condC rfl ?_; intro KA KB hKA hKB; try simp only [onB_true, onB_false, onB_dec, onB_ndec, onB_not, onB_and, onB_or])
                | (refine AWp_condA rfl ?_ ?_)
                | (refine items_A [row] (by simp) (by simpa using hrs) (by simp; omega) _ _ ?_; try simp (dsimp := false) only [go_sem, Nat.reduceAdd, Nat.reduceBEq, Nat.reduceEqDiff, Nat.reduceLT, Nat.reduceLeDiff, Nat.reduceMul, Int.reduceToNat, reduceCtorEq, ↓reduceIte, Tryd.ntmps26, Tryd.results26, ks_26, mu_26, nd_26, ti_ag22, ti_ag23, ti_ag25, ti_ag68, ti_fl25_0, ti_fl25_1, ti_hb50, ti_hb56, ti_hb59, ti_hb67, ti_hb68, ti_hb69, ti_pl25, ti_sb23, ti_sl23, ti_sz25, ti_zr25, itD, itV, rlV, rowD, rlD, hrow])
                | (refine QCall_of (items_A [row] (by simp) (by simpa using hrs) (by simp; omega) _ _ (Two_intro _ _)) ?_; try simp (dsimp := false) only [go_sem, Nat.reduceAdd, Nat.reduceBEq, Nat.reduceEqDiff, Nat.reduceLT, Nat.reduceLeDiff, Nat.reduceMul, Int.reduceToNat, reduceCtorEq, ↓reduceIte, Tryd.ntmps26, Tryd.results26, ks_26, mu_26, nd_26, ti_ag22, ti_ag23, ti_ag25, ti_ag68, ti_fl25_0, ti_fl25_1, ti_hb50, ti_hb56, ti_hb59, ti_hb67, ti_hb68, ti_hb69, ti_pl25, ti_sb23, ti_sl23, ti_sz25, ti_zr25, itD, itV, rlV, rowD, rlD, hrow])
                | with_reducible refine onB_of ?_ ?_
                | with_reducible rfl
                | omega)
              exact ⟨i + 1, by omega, by omega, by rw [f1]; simp [rowC], by (repeat' (refine And.intro ?_ ?_)) <;> first | rfl | omega | (rw [f1]; simp; done) | simp⟩
            | true =>
              rw [if_pos rfl] at f1
              
              repeat' (first
                | with_reducible refine And.intro ?_ ?_
                | with_reducible intro _
                | with_reducible refine AWp_seq ?_
                | with_reducible refine AWp_block ?_
                | (with_reducible refine hKv _ _ (AWp_nop ?_); clear hKv Kv)
                | (with_reducible refine hKv _ _ ?_; clear hKv Kv; simp (dsimp := false) only [go_sem, Nat.reduceAdd, Nat.reduceBEq, Nat.reduceEqDiff, Nat.reduceLT, Nat.reduceLeDiff, Nat.reduceMul, Int.reduceToNat, reduceCtorEq, ↓reduceIte, Tryd.ntmps26, Tryd.results26, ks_26, mu_26, nd_26, ti_ag22, ti_ag23, ti_ag25, ti_ag68, ti_fl25_0, ti_fl25_1, ti_hb50, ti_hb56, ti_hb59, ti_hb67, ti_hb68, ti_hb69, ti_pl25, ti_sb23, ti_sl23, ti_sz25, ti_zr25, itD, itV, rlV, rowD, rlD, hrow])
                | (with_reducible refine hKA ?_; clear hKA hKB KA KB)
                | (with_reducible refine hKB ?_; clear hKA hKB KA KB)
                | (with_reducible refine AWp_regC mu_26 ks_26 ?_; intro Kv hKv; simp (dsimp := false) only [go_sem, Nat.reduceAdd, Nat.reduceBEq, Nat.reduceEqDiff, Nat.reduceLT, Nat.reduceLeDiff, Nat.reduceMul, Int.reduceToNat, reduceCtorEq, ↓reduceIte, Tryd.ntmps26, Tryd.results26, ks_26, mu_26, nd_26, ti_ag22, ti_ag23, ti_ag25, ti_ag68, ti_fl25_0, ti_fl25_1, ti_hb50, ti_hb56, ti_hb59, ti_hb67, ti_hb68, ti_hb69, ti_pl25, ti_sb23, ti_sl23, ti_sz25, ti_zr25, itD, itV, rlV, rowD, rlD, hrow])
                | (with_reducible refine AWp_draw nd_26 mu_26 ks_26 ti_mixed (by kernel_rfl) ?_; intro Kv hKv; simp (dsimp := false) only [go_sem, Nat.reduceAdd, Nat.reduceBEq, Nat.reduceEqDiff, Nat.reduceLT, Nat.reduceLeDiff, Nat.reduceMul, Int.reduceToNat, reduceCtorEq, ↓reduceIte, Tryd.ntmps26, Tryd.results26, ks_26, mu_26, nd_26, ti_ag22, ti_ag23, ti_ag25, ti_ag68, ti_fl25_0, ti_fl25_1, ti_hb50, ti_hb56, ti_hb59, ti_hb67, ti_hb68, ti_hb69, ti_pl25, ti_sb23, ti_sl23, ti_sz25, ti_zr25, itD, itV, rlV, rowD, rlD, hrow])
                | with_reducible refine AWp_skipN ?_
                | with_reducible refine AWp_exitO (by repeat (first | with_reducible exact Out.hit | with_reducible apply Out.thenA | with_reducible apply Out.out rfl)) ?_
                | (with_reducible refine AWp_retR ?_; simp (dsimp := false) only [go_sem, Nat.reduceAdd, Nat.reduceBEq, Nat.reduceEqDiff, Nat.reduceLT, Nat.reduceLeDiff, Nat.reduceMul, Int.reduceToNat, reduceCtorEq, ↓reduceIte, Tryd.ntmps26, Tryd.results26, ks_26, mu_26, nd_26, ti_ag22, ti_ag23, ti_ag25, ti_ag68, ti_fl25_0, ti_fl25_1, ti_hb50, ti_hb56, ti_hb59, ti_hb67, ti_hb68, ti_hb69, ti_pl25, ti_sb23, ti_sl23, ti_sz25, ti_zr25, itD, itV, rlV, rowD, rlD, hrow])
                | (with_reducible refine AWp_regE mu_26 ks_26 ?_; intro Kv hKv; simp (dsimp := false) only [go_sem, Nat.reduceAdd, Nat.reduceBEq, Nat.reduceEqDiff, Nat.reduceLT, Nat.reduceLeDiff, Nat.reduceMul, Int.reduceToNat, reduceCtorEq, ↓reduceIte, Tryd.ntmps26, Tryd.results26, ks_26, mu_26, nd_26, ti_ag22, ti_ag23, ti_ag25, ti_ag68, ti_fl25_0, ti_fl25_1, ti_hb50, ti_hb56, ti_hb59, ti_hb67, ti_hb68, ti_hb69, ti_pl25, ti_sb23, ti_sl23, ti_sz25, ti_zr25, itD, itV, rlV, rowD, rlD, hrow])
                | (with_reducible refine AWp_drawE nd_26 mu_26 ks_26 ti_mixed (by kernel_rfl) ?_; intro Kv hKv; simp (dsimp := false) only [go_sem, Nat.reduceAdd, Nat.reduceBEq, Nat.reduceEqDiff, Nat.reduceLT, Nat.reduceLeDiff, Nat.reduceMul, Int.reduceToNat, reduceCtorEq, ↓reduceIte, Tryd.ntmps26, Tryd.results26, ks_26, mu_26, nd_26, ti_ag22, ti_ag23, ti_ag25, ti_ag68, ti_fl25_0, ti_fl25_1, ti_hb50, ti_hb56, ti_hb59, ti_hb67, ti_hb68, ti_hb69, ti_pl25, ti_sb23, ti_sl23, ti_sz25, ti_zr25, itD, itV, rlV, rowD, rlD, hrow])
                | (refine AWp_condC rfl ?_; intro KA KB hKA hKB; try simp only [onB_true, onB_false, onB_dec, onB_ndec, onB_not, onB_and, onB_or])
                | (refine AWp_condA rfl ?_ ?_)
                | (refine items_A [row] (by simp) (by simpa using hrs) (by simp; omega) _ _ ?_; try simp (dsimp := false) only [go_sem, Nat.reduceAdd, Nat.reduceBEq, Nat.reduceEqDiff, Nat.reduceLT, Nat.reduceLeDiff, Nat.reduceMul, Int.reduceToNat, reduceCtorEq, ↓reduceIte, Tryd.ntmps26, Tryd.results26, ks_26, mu_26, nd_26, ti_ag22, ti_ag23, ti_ag25, ti_ag68, ti_fl25_0, ti_fl25_1, ti_hb50, ti_hb56, ti_hb59, ti_hb67, ti_hb68, ti_hb69, ti_pl25, ti_sb23, ti_sl23, ti_sz25, ti_zr25, itD, itV, rlV, rowD, rlD, hrow])
                | (refine QCall_of (items_A [row] (by simp) (by simpa using hrs) (by simp; omega) _ _ (Two_intro _ _)) ?_; try simp (dsimp := false) only [go_sem, Nat.reduceAdd, Nat.reduceBEq, Nat.reduceEqDiff, Nat.reduceLT, Nat.reduceLeDiff, Nat.reduceMul, Int.reduceToNat, reduceCtorEq, ↓reduceIte, Tryd.ntmps26, Tryd.results26, ks_26, mu_26, nd_26, ti_ag22, ti_ag23, ti_ag25, ti_ag68, ti_fl25_0, ti_fl25_1, ti_hb50, ti_hb56, ti_hb59, ti_hb67, ti_hb68, ti_hb69, ti_pl25, ti_sb23, ti_sl23, ti_sz25, ti_zr25, itD, itV, rlV, rowD, rlD, hrow])
                | with_reducible refine onB_of ?_ ?_
                | with_reducible rfl
                | omega)
              exact ⟨i + 1, by omega, by omega, by rw [f1], by (repeat' (refine And.intro ?_ ?_)) <;> first | rfl | omega | (rw [f1]; done) | simp⟩
        · have e : i = a.rows.length := by omega
          subst e
          rw [List.take_length] at hxl2 ⊢
          
          repeat' (first
            | with_reducible refine And.intro ?_ ?_
            | with_reducible intro _
            | with_reducible refine AWp_seq ?_
            | with_reducible refine AWp_block ?_
            | (with_reducible refine hKv _ _ (AWp_nop ?_); clear hKv Kv)
            | (with_reducible refine hKv _ _ ?_; clear hKv Kv; simp (dsimp := false) only [go_sem, Nat.reduceAdd, Nat.reduceBEq, Nat.reduceEqDiff, Nat.reduceLT, Nat.reduceLeDiff, Nat.reduceMul, Int.reduceToNat, reduceCtorEq, ↓reduceIte, Tryd.ntmps26, Tryd.results26, ks_26, mu_26, nd_26, ti_ag22, ti_ag23, ti_ag25, ti_ag68, ti_fl25_0, ti_fl25_1, ti_hb50, ti_hb56, ti_hb59, ti_hb67, ti_hb68, ti_hb69, ti_pl25, ti_sb23, ti_sl23, ti_sz25, ti_zr25, itD, itV, rlV, rowD, rlD, finQ])
            | (with_reducible refine hKA ?_; clear hKA hKB KA KB)
            | (with_reducible refine hKB ?_; clear hKA hKB KA KB)
            | (with_reducible refine AWp_regC mu_26 ks_26 ?_; intro Kv hKv; simp (dsimp := false) only [go_sem, Nat.reduceAdd, Nat.reduceBEq, Nat.reduceEqDiff, Nat.reduceLT, Nat.reduceLeDiff, Nat.reduceMul, Int.reduceToNat, reduceCtorEq, ↓reduceIte, Tryd.ntmps26, Tryd.results26, ks_26, mu_26, nd_26, ti_ag22, ti_ag23, ti_ag25, ti_ag68, ti_fl25_0, ti_fl25_1, ti_hb50, ti_hb56, ti_hb59, ti_hb67, ti_hb68, ti_hb69, ti_pl25, ti_sb23, ti_sl23, ti_sz25, ti_zr25, itD, itV, rlV, rowD, rlD, finQ])
            | (with_reducible refine AWp_draw nd_26 mu_26 ks_26 ti_mixed (by kernel_rfl) ?_; intro Kv hKv; simp (dsimp := false) only [go_sem, Nat.reduceAdd, Nat.reduceBEq, Nat.reduceEqDiff, Nat.reduceLT, Nat.reduceLeDiff, Nat.reduceMul, Int.reduceToNat, reduceCtorEq, ↓reduceIte, Tryd.ntmps26, Tryd.results26, ks_26, mu_26, nd_26, ti_ag22, ti_ag23, ti_ag25, ti_ag68, ti_fl25_0, ti_fl25_1, ti_hb50, ti_hb56, ti_hb59, ti_hb67, ti_hb68, ti_hb69, ti_pl25, ti_sb23, ti_sl23, ti_sz25, ti_zr25, itD, itV, rlV, rowD, rlD, finQ])
            | with_reducible refine AWp_skipN ?_
            | with_reducible refine AWp_exitO (by repeat (first | with_reducible exact Out.hit | with_reducible apply Out.thenA | with_reducible apply Out.out rfl)) ?_
            | (with_reducible refine AWp_retR ?_; simp (dsimp := false) only [go_sem, Nat.reduceAdd, Nat.reduceBEq, Nat.reduceEqDiff, Nat.reduceLT, Nat.reduceLeDiff, Nat.reduceMul, Int.reduceToNat, reduceCtorEq, ↓reduceIte, Tryd.ntmps26, Tryd.results26, ks_26, mu_26, nd_26, ti_ag22, ti_ag23, ti_ag25, ti_ag68, ti_fl25_0, ti_fl25_1, ti_hb50, ti_hb56, ti_hb59, ti_hb67, ti_hb68, ti_hb69, ti_pl25, ti_sb23, ti_sl23, ti_sz25, ti_zr25, itD, itV, rlV, rowD, rlD, finQ])
            | (with_reducible refine AWp_regE mu_26 ks_26 ?_; intro Kv hKv; simp (dsimp := false) only [go_sem, Nat.reduceAdd, Nat.reduceBEq, Nat.reduceEqDiff, Nat.reduceLT, Nat.reduceLeDiff, Nat.reduceMul, Int.reduceToNat, reduceCtorEq, ↓reduceIte, Tryd.ntmps26, Tryd.results26, ks_26, mu_26, nd_26, ti_ag22, ti_ag23, ti_ag25, ti_ag68, ti_fl25_0, ti_fl25_1, ti_hb50, ti_hb56, ti_hb59, ti_hb67, ti_hb68, ti_hb69, ti_pl25, ti_sb23, ti_sl23, ti_sz25, ti_zr25, itD, itV, rlV, rowD, rlD, finQ])
            | (with_reducible refine AWp_drawE nd_26 mu_26 ks_26 ti_mixed (by kernel_rfl) ?_; intro Kv hKv; simp (dsimp := false) only [go_sem, Nat.reduceAdd, Nat.reduceBEq, Nat.reduceEqDiff, Nat.reduceLT, Nat.reduceLeDiff, Nat.reduceMul, Int.reduceToNat, reduceCtorEq, ↓reduceIte, Tryd.ntmps26, Tryd.results26, ks_26, mu_26, nd_26, ti_ag22, ti_ag23, ti_ag25, ti_ag68, ti_fl25_0, ti_fl25_1, ti_hb50, ti_hb56, ti_hb59, ti_hb67, ti_hb68, ti_hb69, ti_pl25, ti_sb23, ti_sl23, ti_sz25, ti_zr25, itD, itV, rlV, rowD, rlD, finQ])
            | (refine AWp_condC rfl ?_; intro KA KB hKA hKB; try simp only [onB_true, onB_false, onB_dec, onB_ndec, onB_not, onB_and, onB_or])
            | (refine AWp_condA rfl ?_ ?_)
            | (refine relOfO_A a.cols _ _ _ _ q1 hA.col (by rw [List.length_map]; omega) _ _ ((get_appk _ _ 1).trans rfl) ?_; try simp (dsimp := false) only [go_sem, Nat.reduceAdd, Nat.reduceBEq, Nat.reduceEqDiff, Nat.reduceLT, Nat.reduceLeDiff, Nat.reduceMul, Int.reduceToNat, reduceCtorEq, ↓reduceIte, Tryd.ntmps26, Tryd.results26, ks_26, mu_26, nd_26, ti_ag22, ti_ag23, ti_ag25, ti_ag68, ti_fl25_0, ti_fl25_1, ti_hb50, ti_hb56, ti_hb59, ti_hb67, ti_hb68, ti_hb69, ti_pl25, ti_sb23, ti_sl23, ti_sz25, ti_zr25, itD, itV, rlV, rowD, rlD, finQ])
            | (refine QCall_of (relOfO_A a.cols _ _ _ _ q1 hA.col (by rw [List.length_map]; omega) _ _ ((get_appk _ _ 1).trans rfl) (Two_intro _ _)) ?_; try simp (dsimp := false) only [go_sem, Nat.reduceAdd, Nat.reduceBEq, Nat.reduceEqDiff, Nat.reduceLT, Nat.reduceLeDiff, Nat.reduceMul, Int.reduceToNat, reduceCtorEq, ↓reduceIte, Tryd.ntmps26, Tryd.results26, ks_26, mu_26, nd_26, ti_ag22, ti_ag23, ti_ag25, ti_ag68, ti_fl25_0, ti_fl25_1, ti_hb50, ti_hb56, ti_hb59, ti_hb67, ti_hb68, ti_hb69, ti_pl25, ti_sb23, ti_sl23, ti_sz25, ti_zr25, itD, itV, rlV, rowD, rlD, finQ])
            | with_reducible refine onB_of ?_ ?_
            | with_reducible rfl
            | omega)
          · exact fin_ret hk (by assumption) (by omega) (get_appk _ _ 1)
          · exact fin_bad hk rfl (by assumption)
  · rw [excepted, if_neg hf] at hk
    
    refine ACalls_of Tryd.func26 rfl in_26 (Nat.le_of_ble_eq_true rfl) ?_
    intro F hF
    simp (dsimp := false) only [go_sem, Nat.reduceAdd, Nat.reduceBEq, Nat.reduceEqDiff, Nat.reduceLT, Nat.reduceLeDiff, Nat.reduceMul, Int.reduceToNat, reduceCtorEq, ↓reduceIte, Tryd.ntmps26, Tryd.results26, ks_26, mu_26, nd_26, ti_ag22, ti_ag23, ti_ag25, ti_ag68, ti_fl25_0, ti_fl25_1, ti_hb50, ti_hb56, ti_hb59, ti_hb67, ti_hb68, ti_hb69, ti_pl25, ti_sb23, ti_sl23, ti_sz25, ti_zr25, itD, itV, rlV, rowD, rlD, hf, in_26] at hF
    subst hF
    repeat' (first
      | with_reducible refine And.intro ?_ ?_
      | with_reducible intro _
      | with_reducible refine AWp_seq ?_
      | with_reducible refine AWp_block ?_
      | (with_reducible refine hKv _ _ (AWp_nop ?_); clear hKv Kv)
      | (with_reducible refine hKv _ _ ?_; clear hKv Kv; simp (dsimp := false) only [go_sem, Nat.reduceAdd, Nat.reduceBEq, Nat.reduceEqDiff, Nat.reduceLT, Nat.reduceLeDiff, Nat.reduceMul, Int.reduceToNat, reduceCtorEq, ↓reduceIte, Tryd.ntmps26, Tryd.results26, ks_26, mu_26, nd_26, ti_ag22, ti_ag23, ti_ag25, ti_ag68, ti_fl25_0, ti_fl25_1, ti_hb50, ti_hb56, ti_hb59, ti_hb67, ti_hb68, ti_hb69, ti_pl25, ti_sb23, ti_sl23, ti_sz25, ti_zr25, itD, itV, rlV, rowD, rlD, hf])
      | (with_reducible refine hKA ?_; clear hKA hKB KA KB)
      | (with_reducible refine hKB ?_; clear hKA hKB KA KB)
      | (with_reducible refine AWp_regC mu_26 ks_26 ?_; intro Kv hKv; simp (dsimp := false) only [go_sem, Nat.reduceAdd, Nat.reduceBEq, Nat.reduceEqDiff, Nat.reduceLT, Nat.reduceLeDiff, Nat.reduceMul, Int.reduceToNat, reduceCtorEq, ↓reduceIte, Tryd.ntmps26, Tryd.results26, ks_26, mu_26, nd_26, ti_ag22, ti_ag23, ti_ag25, ti_ag68, ti_fl25_0, ti_fl25_1, ti_hb50, ti_hb56, ti_hb59, ti_hb67, ti_hb68, ti_hb69, ti_pl25, ti_sb23, ti_sl23, ti_sz25, ti_zr25, itD, itV, rlV, rowD, rlD, hf])
      | (with_reducible refine AWp_draw nd_26 mu_26 ks_26 ti_mixed (by kernel_rfl) ?_; intro Kv hKv; simp (dsimp := false) only [go_sem, Nat.reduceAdd, Nat.reduceBEq, Nat.reduceEqDiff, Nat.reduceLT, Nat.reduceLeDiff, Nat.reduceMul, Int.reduceToNat, reduceCtorEq, ↓reduceIte, Tryd.ntmps26, Tryd.results26, ks_26, mu_26, nd_26, ti_ag22, ti_ag23, ti_ag25, ti_ag68, ti_fl25_0, ti_fl25_1, ti_hb50, ti_hb56, ti_hb59, ti_hb67, ti_hb68, ti_hb69, ti_pl25, ti_sb23, ti_sl23, ti_sz25, ti_zr25, itD, itV, rlV, rowD, rlD, hf])
      | with_reducible refine AWp_skipN ?_
      | with_reducible refine AWp_exitO (by repeat (first | with_reducible exact Out.hit | with_reducible apply Out.thenA | with_reducible apply Out.out rfl)) ?_
      | (with_reducible refine AWp_retR ?_; simp (dsimp := false) only [go_sem, Nat.reduceAdd, Nat.reduceBEq, Nat.reduceEqDiff, Nat.reduceLT, Nat.reduceLeDiff, Nat.reduceMul, Int.reduceToNat, reduceCtorEq, ↓reduceIte, Tryd.ntmps26, Tryd.results26, ks_26, mu_26, nd_26, ti_ag22, ti_ag23, ti_ag25, ti_ag68, ti_fl25_0, ti_fl25_1, ti_hb50, ti_hb56, ti_hb59, ti_hb67, ti_hb68, ti_hb69, ti_pl25, ti_sb23, ti_sl23, ti_sz25, ti_zr25, itD, itV, rlV, rowD, rlD, hf])
      | (with_reducible refine AWp_regE mu_26 ks_26 ?_; intro Kv hKv; simp (dsimp := false) only [go_sem, Nat.reduceAdd, Nat.reduceBEq, Nat.reduceEqDiff, Nat.reduceLT, Nat.reduceLeDiff, Nat.reduceMul, Int.reduceToNat, reduceCtorEq, ↓reduceIte, Tryd.ntmps26, Tryd.results26, ks_26, mu_26, nd_26, ti_ag22, ti_ag23, ti_ag25, ti_ag68, ti_fl25_0, ti_fl25_1, ti_hb50, ti_hb56, ti_hb59, ti_hb67, ti_hb68, ti_hb69, ti_pl25, ti_sb23, ti_sl23, ti_sz25, ti_zr25, itD, itV, rlV, rowD, rlD, hf])
      | (with_reducible refine AWp_drawE nd_26 mu_26 ks_26 ti_mixed (by kernel_rfl) ?_; intro Kv hKv; simp (dsimp := false) only [go_sem, Nat.reduceAdd, Nat.reduceBEq, Nat.reduceEqDiff, Nat.reduceLT, Nat.reduceLeDiff, Nat.reduceMul, Int.reduceToNat, reduceCtorEq, ↓reduceIte, Tryd.ntmps26, Tryd.results26, ks_26, mu_26, nd_26, ti_ag22, ti_ag23, ti_ag25, ti_ag68, ti_fl25_0, ti_fl25_1, ti_hb50, ti_hb56, ti_hb59, ti_hb67, ti_hb68, ti_hb69, ti_pl25, ti_sb23, ti_sl23, ti_sz25, ti_zr25, itD, itV, rlV, rowD, rlD, hf])
      | (refine AWp_condC rfl ?_; intro KA KB hKA hKB; try simp only [onB_true, onB_false, onB_dec, onB_ndec, onB_not, onB_and, onB_or])
      | (refine AWp_condA rfl ?_ ?_)
      | (refine refTwoFault_A a b hA hB _ _ ?_; try simp (dsimp := false) only [go_sem, Nat.reduceAdd, Nat.reduceBEq, Nat.reduceEqDiff, Nat.reduceLT, Nat.reduceLeDiff, Nat.reduceMul, Int.reduceToNat, reduceCtorEq, ↓reduceIte, Tryd.ntmps26, Tryd.results26, ks_26, mu_26, nd_26, ti_ag22, ti_ag23, ti_ag25, ti_ag68, ti_fl25_0, ti_fl25_1, ti_hb50, ti_hb56, ti_hb59, ti_hb67, ti_hb68, ti_hb69, ti_pl25, ti_sb23, ti_sl23, ti_sz25, ti_zr25, itD, itV, rlV, rowD, rlD, hf])
      | (refine QCall_of (refTwoFault_A a b hA hB _ _ (Two_intro _ _)) ?_; try simp (dsimp := false) only [go_sem, Nat.reduceAdd, Nat.reduceBEq, Nat.reduceEqDiff, Nat.reduceLT, Nat.reduceLeDiff, Nat.reduceMul, Int.reduceToNat, reduceCtorEq, ↓reduceIte, Tryd.ntmps26, Tryd.results26, ks_26, mu_26, nd_26, ti_ag22, ti_ag23, ti_ag25, ti_ag68, ti_fl25_0, ti_fl25_1, ti_hb50, ti_hb56, ti_hb59, ti_hb67, ti_hb68, ti_hb69, ti_pl25, ti_sb23, ti_sl23, ti_sz25, ti_zr25, itD, itV, rlV, rowD, rlD, hf])
      | (refine colsAt_A a hA cols hc _ _ ?_; try simp (dsimp := false) only [go_sem, Nat.reduceAdd, Nat.reduceBEq, Nat.reduceEqDiff, Nat.reduceLT, Nat.reduceLeDiff, Nat.reduceMul, Int.reduceToNat, reduceCtorEq, ↓reduceIte, Tryd.ntmps26, Tryd.results26, ks_26, mu_26, nd_26, ti_ag22, ti_ag23, ti_ag25, ti_ag68, ti_fl25_0, ti_fl25_1, ti_hb50, ti_hb56, ti_hb59, ti_hb67, ti_hb68, ti_hb69, ti_pl25, ti_sb23, ti_sl23, ti_sz25, ti_zr25, itD, itV, rlV, rowD, rlD, hf])
      | (refine QCall_of (colsAt_A a hA cols hc _ _ (Two_intro _ _)) ?_; try simp (dsimp := false) only [go_sem, Nat.reduceAdd, Nat.reduceBEq, Nat.reduceEqDiff, Nat.reduceLT, Nat.reduceLeDiff, Nat.reduceMul, Int.reduceToNat, reduceCtorEq, ↓reduceIte, Tryd.ntmps26, Tryd.results26, ks_26, mu_26, nd_26, ti_ag22, ti_ag23, ti_ag25, ti_ag68, ti_fl25_0, ti_fl25_1, ti_hb50, ti_hb56, ti_hb59, ti_hb67, ti_hb68, ti_hb69, ti_pl25, ti_sb23, ti_sl23, ti_sz25, ti_zr25, itD, itV, rlV, rowD, rlD, hf])
      | (refine colsAt_A b hB cols hc _ _ ?_; try simp (dsimp := false) only [go_sem, Nat.reduceAdd, Nat.reduceBEq, Nat.reduceEqDiff, Nat.reduceLT, Nat.reduceLeDiff, Nat.reduceMul, Int.reduceToNat, reduceCtorEq, ↓reduceIte, Tryd.ntmps26, Tryd.results26, ks_26, mu_26, nd_26, ti_ag22, ti_ag23, ti_ag25, ti_ag68, ti_fl25_0, ti_fl25_1, ti_hb50, ti_hb56, ti_hb59, ti_hb67, ti_hb68, ti_hb69, ti_pl25, ti_sb23, ti_sl23, ti_sz25, ti_zr25, itD, itV, rlV, rowD, rlD, hf])
      | (refine QCall_of (colsAt_A b hB cols hc _ _ (Two_intro _ _)) ?_; try simp (dsimp := false) only [go_sem, Nat.reduceAdd, Nat.reduceBEq, Nat.reduceEqDiff, Nat.reduceLT, Nat.reduceLeDiff, Nat.reduceMul, Int.reduceToNat, reduceCtorEq, ↓reduceIte, Tryd.ntmps26, Tryd.results26, ks_26, mu_26, nd_26, ti_ag22, ti_ag23, ti_ag25, ti_ag68, ti_fl25_0, ti_fl25_1, ti_hb50, ti_hb56, ti_hb59, ti_hb67, ti_hb68, ti_hb69, ti_pl25, ti_sb23, ti_sl23, ti_sz25, ti_zr25, itD, itV, rlV, rowD, rlD, hf])
      | with_reducible refine onB_of ?_ ?_
      | with_reducible rfl
      | omega)
    all_goals exact dropF hk (fz_rl0 _ _ _) (bel_relE _ _ _)
end Go.Proofs.YtafbojmnmadlpaaDoor
