/- Rows that are joined: what the reference makes. No condition but that the tables of package unicode/utf8 are there. -/
import Derived.Test.YtafbojmnmadlpaaDoorJn0
import Derived.Test.YtafbojmnmadlpaaDoorPj2
set_option linter.all false
set_option linter.unusedSimpArgs false
set_option linter.unusedVariables false
namespace Go.Proofs.YtafbojmnmadlpaaDoor
open Go Go.Proofs.YtafbojmnmadlpaaDoor.Ab
variable [Glo] [U8]
set_option maxHeartbeats 4000000
set_option maxRecDepth 20000
/-- A row of the one and the first rows of the other that fit. -/
def joinPart (q : Nat) (k : It) (x : List It) (rb : List (List It)) (n : Nat) : List (List It) := ((rb.take n).filter fun y => decide (rg y q = k)).map fun y => x ++ y
theorem joinPart_hit {q : Nat} {k : It} {x : List It} {rb : List (List It)} {n : Nat} {y : List It} (h : rb[n]? = some y) (hk : rg y q = k) : joinPart q k x rb (n + 1) = joinPart q k x rb n ++ [x ++ y] := by
  rw [joinPart, take_of_get h, List.filter_append, List.map_append]
  simp [joinPart, hk]
theorem joinPart_miss {q : Nat} {k : It} {x : List It} {rb : List (List It)} {n : Nat} {y : List It} (h : rb[n]? = some y) (hk : ¬ rg y q = k) : joinPart q k x rb (n + 1) = joinPart q k x rb n := by
  rw [joinPart, take_of_get h, List.filter_append, List.map_append]
  simp [joinPart, hk]
theorem joinPart_all (p q : Nat) (x : List It) (rb : List (List It)) : joinPart q (rg x p) x rb rb.length = joinOne p q rb x := by
  rw [joinPart, List.take_length, joinOne]
theorem joinPart_le (p q : Nat) (x : List It) (rb : List (List It)) (n : Nat) : (joinPart q (rg x p) x rb n).length ≤ (joinOne p q rb x).length := by
  rw [joinPart, joinOne, List.length_map, List.length_map]
  exact ((List.take_sublist n rb).filter _).length_le
theorem colsFault_len9 {l : List (List UInt8)} (h : colsFault l = 0) : l.length ≤ 8 := by
  unfold colsFault at h
  split at h
  · assumption
  · omega

/- the live slots of pleacher/pleacherref.JoinedOf -/
def ks_20 : Nat → List Nat
  | 0 => [2, 3, 4, 5, 8]
  | 1 => [2, 3, 4, 5, 8, 10]
  | 2 => [3, 4, 5, 8, 10, 11]
  | 3 => [4, 5, 8, 10, 11, 12]
  | 4 => [4, 5, 8, 10, 11, 12, 35]
  | 5 => [4, 5, 8, 10, 11, 12]
  | 6 => [4, 5, 8, 10, 11, 12, 37]
  | 7 => [4, 5, 8, 10, 11, 12]
  | 8 => [4, 5, 8, 10, 11, 12, 46]
  | 9 => [8, 9]
  | 10 => [4, 5, 8, 11, 12, 13]
  | 11 => [4, 5, 8, 11, 12, 13, 14]
  | 12 => [4, 5, 8, 11, 12, 13, 14, 53]
  | 13 => [4, 5, 8, 11, 12, 13, 14]
  | 14 => [4, 5, 8, 11, 12, 13, 14, 15]
  | 15 => [4, 5, 8, 11, 12, 13, 14, 15, 60]
  | 16 => [4, 5, 8, 11, 12, 13, 14, 15]
  | 17 => [4, 5, 8, 11, 12, 13, 14, 15, 79]
  | 18 => [4, 5, 8, 11, 12, 13, 14, 15, 16]
  | 19 => [4, 5, 8, 11, 12, 13, 14, 15]
  | 20 => [4, 5, 8, 11, 12, 13, 14, 15, 98]
  | 21 => [8, 9]
  | 22 => [8, 9]
  | _ => []
def mu_20 : List Nat := [13]
def in_20 : List Nat := [0, 1, 2, 3]
def nd_20 : Nat → Nat
  | 17 => 16
  | 18 => 12
  | _ => 0
theorem joinedOf_A (a b : Rl) (hA : ShR a) (hB : ShR b) (x y : List UInt8) (H : Heap) (K : V → Heap → Prop) (hk : K (relE (joined a b x y).1 (joined a b x y).2) H) :
    ACalls Tryd.prog 20 [rlV a, rlV b, .d (.s x), .d (.s y)] H K := by
  have q1 := hA.ncols
  have q2 := hA.nrows
  have q3 := hB.nrows
  have q4 := hB.ncols
  by_cases hf : twoFault a b = 0
  · by_cases hc : txtAt a.cols x < 0
    · rw [joined, if_pos hf, if_pos (.inl hc)] at hk
      
      refine ACalls_of Tryd.func20 rfl in_20 (Nat.le_of_ble_eq_true rfl) ?_
      intro F hF
      simp (dsimp := false) only [go_sem, Nat.reduceAdd, Nat.reduceBEq, Nat.reduceEqDiff, Nat.reduceLT, Nat.reduceLeDiff, Nat.reduceMul, Int.reduceToNat, reduceCtorEq, ↓reduceIte, Tryd.ntmps20, Tryd.results20, ks_20, mu_20, nd_20, ti_ag22, ti_ag23, ti_ag25, ti_ag35, ti_ag68, ti_fe35, ti_fl25_0, ti_fl25_1, ti_hb48, ti_hb50, ti_hb56, ti_hb57, ti_hb58, ti_hb59, ti_pl25, ti_sb23, ti_sl23, ti_sl68, ti_sl142, ti_sz25, ti_sz35, ti_zr25, itD, itV, rlV, rowD, rlD, hf, hc, in_20] at hF
      subst hF
      repeat' (first
        | with_reducible refine And.intro ?_ ?_
        | with_reducible intro _
        | with_reducible refine AWp_seq ?_
        | with_reducible refine AWp_block ?_
        | (with_reducible refine hKv _ _ (AWp_nop ?_); clear hKv Kv)
        | (with_reducible refine hKv _ _ ?_; clear hKv Kv; simp (dsimp := false) only [go_sem, Nat.reduceAdd, Nat.reduceBEq, Nat.reduceEqDiff, Nat.reduceLT, Nat.reduceLeDiff, Nat.reduceMul, Int.reduceToNat, reduceCtorEq, ↓reduceIte, Tryd.ntmps20, Tryd.results20, ks_20, mu_20, nd_20, ti_ag22, ti_ag23, ti_ag25, ti_ag35, ti_ag68, ti_fe35, ti_fl25_0, ti_fl25_1, ti_hb48, ti_hb50, ti_hb56, ti_hb57, ti_hb58, ti_hb59, ti_pl25, ti_sb23, ti_sl23, ti_sl68, ti_sl142, ti_sz25, ti_sz35, ti_zr25, itD, itV, rlV, rowD, rlD, hf, hc])
        | (with_reducible refine hKA ?_; clear hKA hKB KA KB)
        | (with_reducible refine hKB ?_; clear hKA hKB KA KB)
        | (with_reducible refine AWp_regC mu_20 ks_20 ?_; intro Kv hKv; simp (dsimp := false) only [go_sem, Nat.reduceAdd, Nat.reduceBEq, Nat.reduceEqDiff, Nat.reduceLT, Nat.reduceLeDiff, Nat.reduceMul, Int.reduceToNat, reduceCtorEq, ↓reduceIte, Tryd.ntmps20, Tryd.results20, ks_20, mu_20, nd_20, ti_ag22, ti_ag23, ti_ag25, ti_ag35, ti_ag68, ti_fe35, ti_fl25_0, ti_fl25_1, ti_hb48, ti_hb50, ti_hb56, ti_hb57, ti_hb58, ti_hb59, ti_pl25, ti_sb23, ti_sl23, ti_sl68, ti_sl142, ti_sz25, ti_sz35, ti_zr25, itD, itV, rlV, rowD, rlD, hf, hc])
        | (with_reducible refine AWp_draw nd_20 mu_20 ks_20 ti_mixed (by kernel_rfl) ?_; intro Kv hKv; simp (dsimp := false) only [go_sem, Nat.reduceAdd, Nat.reduceBEq, Nat.reduceEqDiff, Nat.reduceLT, Nat.reduceLeDiff, Nat.reduceMul, Int.reduceToNat, reduceCtorEq, ↓reduceIte, Tryd.ntmps20, Tryd.results20, ks_20, mu_20, nd_20, ti_ag22, ti_ag23, ti_ag25, ti_ag35, ti_ag68, ti_fe35, ti_fl25_0, ti_fl25_1, ti_hb48, ti_hb50, ti_hb56, ti_hb57, ti_hb58, ti_hb59, ti_pl25, ti_sb23, ti_sl23, ti_sl68, ti_sl142, ti_sz25, ti_sz35, ti_zr25, itD, itV, rlV, rowD, rlD, hf, hc])
        | with_reducible refine AWp_skipN ?_
        | with_reducible refine AWp_exitO (by repeat (first | with_reducible exact Out.hit | with_reducible apply Out.thenA | with_reducible apply Out.out rfl)) ?_
        | (with_reducible refine AWp_retR ?_; simp (dsimp := false) only [go_sem, Nat.reduceAdd, Nat.reduceBEq, Nat.reduceEqDiff, Nat.reduceLT, Nat.reduceLeDiff, Nat.reduceMul, Int.reduceToNat, reduceCtorEq, ↓reduceIte, Tryd.ntmps20, Tryd.results20, ks_20, mu_20, nd_20, ti_ag22, ti_ag23, ti_ag25, ti_ag35, ti_ag68, ti_fe35, ti_fl25_0, ti_fl25_1, ti_hb48, ti_hb50, ti_hb56, ti_hb57, ti_hb58, ti_hb59, ti_pl25, ti_sb23, ti_sl23, ti_sl68, ti_sl142, ti_sz25, ti_sz35, ti_zr25, itD, itV, rlV, rowD, rlD, hf, hc])
        | (with_reducible refine AWp_regE mu_20 ks_20 ?_; intro Kv hKv; simp (dsimp := false) only [go_sem, Nat.reduceAdd, Nat.reduceBEq, Nat.reduceEqDiff, Nat.reduceLT, Nat.reduceLeDiff, Nat.reduceMul, Int.reduceToNat, reduceCtorEq, ↓reduceIte, Tryd.ntmps20, Tryd.results20, ks_20, mu_20, nd_20, ti_ag22, ti_ag23, ti_ag25, ti_ag35, ti_ag68, ti_fe35, ti_fl25_0, ti_fl25_1, ti_hb48, ti_hb50, ti_hb56, ti_hb57, ti_hb58, ti_hb59, ti_pl25, ti_sb23, ti_sl23, ti_sl68, ti_sl142, ti_sz25, ti_sz35, ti_zr25, itD, itV, rlV, rowD, rlD, hf, hc])
        | (with_reducible refine AWp_drawE nd_20 mu_20 ks_20 ti_mixed (by kernel_rfl) ?_; intro Kv hKv; simp (dsimp := false) only [go_sem, Nat.reduceAdd, Nat.reduceBEq, Nat.reduceEqDiff, Nat.reduceLT, Nat.reduceLeDiff, Nat.reduceMul, Int.reduceToNat, reduceCtorEq, ↓reduceIte, Tryd.ntmps20, Tryd.results20, ks_20, mu_20, nd_20, ti_ag22, ti_ag23, ti_ag25, ti_ag35, ti_ag68, ti_fe35, ti_fl25_0, ti_fl25_1, ti_hb48, ti_hb50, ti_hb56, ti_hb57, ti_hb58, ti_hb59, ti_pl25, ti_sb23, ti_sl23, ti_sl68, ti_sl142, ti_sz25, ti_sz35, ti_zr25, itD, itV, rlV, rowD, rlD, hf, hc])
        | (refine AWp_condC rfl ?_; intro KA KB hKA hKB; try simp only [onB_true, onB_false, onB_dec, onB_ndec, onB_not, onB_and, onB_or])
        | (refine AWp_condA rfl ?_ ?_)
        | (refine refTwoFault_A a b hA hB _ _ ?_; try simp (dsimp := false) only [go_sem, Nat.reduceAdd, Nat.reduceBEq, Nat.reduceEqDiff, Nat.reduceLT, Nat.reduceLeDiff, Nat.reduceMul, Int.reduceToNat, reduceCtorEq, ↓reduceIte, Tryd.ntmps20, Tryd.results20, ks_20, mu_20, nd_20, ti_ag22, ti_ag23, ti_ag25, ti_ag35, ti_ag68, ti_fe35, ti_fl25_0, ti_fl25_1, ti_hb48, ti_hb50, ti_hb56, ti_hb57, ti_hb58, ti_hb59, ti_pl25, ti_sb23, ti_sl23, ti_sl68, ti_sl142, ti_sz25, ti_sz35, ti_zr25, itD, itV, rlV, rowD, rlD, hf, hc])
        | (refine QCall_of (refTwoFault_A a b hA hB _ _ (Two_intro _ _)) ?_; try simp (dsimp := false) only [go_sem, Nat.reduceAdd, Nat.reduceBEq, Nat.reduceEqDiff, Nat.reduceLT, Nat.reduceLeDiff, Nat.reduceMul, Int.reduceToNat, reduceCtorEq, ↓reduceIte, Tryd.ntmps20, Tryd.results20, ks_20, mu_20, nd_20, ti_ag22, ti_ag23, ti_ag25, ti_ag35, ti_ag68, ti_fe35, ti_fl25_0, ti_fl25_1, ti_hb48, ti_hb50, ti_hb56, ti_hb57, ti_hb58, ti_hb59, ti_pl25, ti_sb23, ti_sl23, ti_sl68, ti_sl142, ti_sz25, ti_sz35, ti_zr25, itD, itV, rlV, rowD, rlD, hf, hc])
        | (refine colAt_A a hA x _ _ ?_; try simp (dsimp := false) only [go_sem, Nat.reduceAdd, Nat.reduceBEq, Nat.reduceEqDiff, Nat.reduceLT, Nat.reduceLeDiff, Nat.reduceMul, Int.reduceToNat, reduceCtorEq, ↓reduceIte, Tryd.ntmps20, Tryd.results20, ks_20, mu_20, nd_20, ti_ag22, ti_ag23, ti_ag25, ti_ag35, ti_ag68, ti_fe35, ti_fl25_0, ti_fl25_1, ti_hb48, ti_hb50, ti_hb56, ti_hb57, ti_hb58, ti_hb59, ti_pl25, ti_sb23, ti_sl23, ti_sl68, ti_sl142, ti_sz25, ti_sz35, ti_zr25, itD, itV, rlV, rowD, rlD, hf, hc])
        | (refine QCall_of (colAt_A a hA x _ _ (Two_intro _ _)) ?_; try simp (dsimp := false) only [go_sem, Nat.reduceAdd, Nat.reduceBEq, Nat.reduceEqDiff, Nat.reduceLT, Nat.reduceLeDiff, Nat.reduceMul, Int.reduceToNat, reduceCtorEq, ↓reduceIte, Tryd.ntmps20, Tryd.results20, ks_20, mu_20, nd_20, ti_ag22, ti_ag23, ti_ag25, ti_ag35, ti_ag68, ti_fe35, ti_fl25_0, ti_fl25_1, ti_hb48, ti_hb50, ti_hb56, ti_hb57, ti_hb58, ti_hb59, ti_pl25, ti_sb23, ti_sl23, ti_sl68, ti_sl142, ti_sz25, ti_sz35, ti_zr25, itD, itV, rlV, rowD, rlD, hf, hc])
        | (refine colAt_A b hB y _ _ ?_; try simp (dsimp := false) only [go_sem, Nat.reduceAdd, Nat.reduceBEq, Nat.reduceEqDiff, Nat.reduceLT, Nat.reduceLeDiff, Nat.reduceMul, Int.reduceToNat, reduceCtorEq, ↓reduceIte, Tryd.ntmps20, Tryd.results20, ks_20, mu_20, nd_20, ti_ag22, ti_ag23, ti_ag25, ti_ag35, ti_ag68, ti_fe35, ti_fl25_0, ti_fl25_1, ti_hb48, ti_hb50, ti_hb56, ti_hb57, ti_hb58, ti_hb59, ti_pl25, ti_sb23, ti_sl23, ti_sl68, ti_sl142, ti_sz25, ti_sz35, ti_zr25, itD, itV, rlV, rowD, rlD, hf, hc])
        | (refine QCall_of (colAt_A b hB y _ _ (Two_intro _ _)) ?_; try simp (dsimp := false) only [go_sem, Nat.reduceAdd, Nat.reduceBEq, Nat.reduceEqDiff, Nat.reduceLT, Nat.reduceLeDiff, Nat.reduceMul, Int.reduceToNat, reduceCtorEq, ↓reduceIte, Tryd.ntmps20, Tryd.results20, ks_20, mu_20, nd_20, ti_ag22, ti_ag23, ti_ag25, ti_ag35, ti_ag68, ti_fe35, ti_fl25_0, ti_fl25_1, ti_hb48, ti_hb50, ti_hb56, ti_hb57, ti_hb58, ti_hb59, ti_pl25, ti_sb23, ti_sl23, ti_sl68, ti_sl142, ti_sz25, ti_sz35, ti_zr25, itD, itV, rlV, rowD, rlD, hf, hc])
        | with_reducible refine onB_of ?_ ?_
        | with_reducible rfl
        | omega)
      all_goals first
        | exact dropF hk (fz_rl0 _ _ _) (bel_relE _ _ _)
        | omega
    · by_cases hd : txtAt b.cols y < 0
      · rw [joined, if_pos hf, if_pos (.inr hd)] at hk
        
        refine ACalls_of Tryd.func20 rfl in_20 (Nat.le_of_ble_eq_true rfl) ?_
        intro F hF
        simp (dsimp := false) only [go_sem, Nat.reduceAdd, Nat.reduceBEq, Nat.reduceEqDiff, Nat.reduceLT, Nat.reduceLeDiff, Nat.reduceMul, Int.reduceToNat, reduceCtorEq, ↓reduceIte, Tryd.ntmps20, Tryd.results20, ks_20, mu_20, nd_20, ti_ag22, ti_ag23, ti_ag25, ti_ag35, ti_ag68, ti_fe35, ti_fl25_0, ti_fl25_1, ti_hb48, ti_hb50, ti_hb56, ti_hb57, ti_hb58, ti_hb59, ti_pl25, ti_sb23, ti_sl23, ti_sl68, ti_sl142, ti_sz25, ti_sz35, ti_zr25, itD, itV, rlV, rowD, rlD, hf, hc, hd, in_20] at hF
        subst hF
        repeat' (first
          | with_reducible refine And.intro ?_ ?_
          | with_reducible intro _
          | with_reducible refine AWp_seq ?_
          | with_reducible refine AWp_block ?_
          | (with_reducible refine hKv _ _ (AWp_nop ?_); clear hKv Kv)
          | (with_reducible refine hKv _ _ ?_; clear hKv Kv; simp (dsimp := false) only [go_sem, Nat.reduceAdd, Nat.reduceBEq, Nat.reduceEqDiff, Nat.reduceLT, Nat.reduceLeDiff, Nat.reduceMul, Int.reduceToNat, reduceCtorEq, ↓reduceIte, Tryd.ntmps20, Tryd.results20, ks_20, mu_20, nd_20, ti_ag22, ti_ag23, ti_ag25, ti_ag35, ti_ag68, ti_fe35, ti_fl25_0, ti_fl25_1, ti_hb48, ti_hb50, ti_hb56, ti_hb57, ti_hb58, ti_hb59, ti_pl25, ti_sb23, ti_sl23, ti_sl68, ti_sl142, ti_sz25, ti_sz35, ti_zr25, itD, itV, rlV, rowD, rlD, hf, hc, hd])
          | (with_reducible refine hKA ?_; clear hKA hKB KA KB)
          | (with_reducible refine hKB ?_; clear hKA hKB KA KB)
          | (with_reducible refine AWp_regC mu_20 ks_20 ?_; intro Kv hKv; simp (dsimp := false) only [go_sem, Nat.reduceAdd, Nat.reduceBEq, Nat.reduceEqDiff, Nat.reduceLT, Nat.reduceLeDiff, Nat.reduceMul, Int.reduceToNat, reduceCtorEq, ↓reduceIte, Tryd.ntmps20, Tryd.results20, ks_20, mu_20, nd_20, ti_ag22, ti_ag23, ti_ag25, ti_ag35, ti_ag68, ti_fe35, ti_fl25_0, ti_fl25_1, ti_hb48, ti_hb50, ti_hb56, ti_hb57, ti_hb58, ti_hb59, ti_pl25, ti_sb23, ti_sl23, ti_sl68, ti_sl142, ti_sz25, ti_sz35, ti_zr25, itD, itV, rlV, rowD, rlD, hf, hc, hd])
          | (with_reducible refine AWp_draw nd_20 mu_20 ks_20 ti_mixed (by kernel_rfl) ?_; intro Kv hKv; simp (dsimp := false) only [go_sem, Nat.reduceAdd, Nat.reduceBEq, Nat.reduceEqDiff, Nat.reduceLT, Nat.reduceLeDiff, Nat.reduceMul, Int.reduceToNat, reduceCtorEq, ↓reduceIte, Tryd.ntmps20, Tryd.results20, ks_20, mu_20, nd_20, ti_ag22, ti_ag23, ti_ag25, ti_ag35, ti_ag68, ti_fe35, ti_fl25_0, ti_fl25_1, ti_hb48, ti_hb50, ti_hb56, ti_hb57, ti_hb58, ti_hb59, ti_pl25, ti_sb23, ti_sl23, ti_sl68, ti_sl142, ti_sz25, ti_sz35, ti_zr25, itD, itV, rlV, rowD, rlD, hf, hc, hd])
          | with_reducible refine AWp_skipN ?_
          | with_reducible refine AWp_exitO (by repeat (first | with_reducible exact Out.hit | with_reducible apply Out.thenA | with_reducible apply Out.out rfl)) ?_
          | (with_reducible refine AWp_retR ?_; simp (dsimp := false) only [go_sem, Nat.reduceAdd, Nat.reduceBEq, Nat.reduceEqDiff, Nat.reduceLT, Nat.reduceLeDiff, Nat.reduceMul, Int.reduceToNat, reduceCtorEq, ↓reduceIte, Tryd.ntmps20, Tryd.results20, ks_20, mu_20, nd_20, ti_ag22, ti_ag23, ti_ag25, ti_ag35, ti_ag68, ti_fe35, ti_fl25_0, ti_fl25_1, ti_hb48, ti_hb50, ti_hb56, ti_hb57, ti_hb58, ti_hb59, ti_pl25, ti_sb23, ti_sl23, ti_sl68, ti_sl142, ti_sz25, ti_sz35, ti_zr25, itD, itV, rlV, rowD, rlD, hf, hc, hd])
          | (with_reducible refine AWp_regE mu_20 ks_20 ?_; intro Kv hKv; simp (dsimp := false) only [go_sem, Nat.reduceAdd, Nat.reduceBEq, Nat.reduceEqDiff, Nat.reduceLT, Nat.reduceLeDiff, Nat.reduceMul, Int.reduceToNat, reduceCtorEq, ↓reduceIte, Tryd.ntmps20, Tryd.results20, ks_20, mu_20, nd_20, ti_ag22, ti_ag23, ti_ag25, ti_ag35, ti_ag68, ti_fe35, ti_fl25_0, ti_fl25_1, ti_hb48, ti_hb50, ti_hb56, ti_hb57, ti_hb58, ti_hb59, ti_pl25, ti_sb23, ti_sl23, ti_sl68, ti_sl142, ti_sz25, ti_sz35, ti_zr25, itD, itV, rlV, rowD, rlD, hf, hc, hd])
          | (with_reducible refine AWp_drawE nd_20 mu_20 ks_20 ti_mixed (by kernel_rfl) ?_; intro Kv hKv; simp (dsimp := false) only [go_sem, Nat.reduceAdd, Nat.reduceBEq, Nat.reduceEqDiff, Nat.reduceLT, Nat.reduceLeDiff, Nat.reduceMul, Int.reduceToNat, reduceCtorEq, ↓reduceIte, Tryd.ntmps20, Tryd.results20, ks_20, mu_20, nd_20, ti_ag22, ti_ag23, ti_ag25, ti_ag35, ti_ag68, ti_fe35, ti_fl25_0, ti_fl25_1, ti_hb48, ti_hb50, ti_hb56, ti_hb57, ti_hb58, ti_hb59, ti_pl25, ti_sb23, ti_sl23, ti_sl68, ti_sl142, ti_sz25, ti_sz35, ti_zr25, itD, itV, rlV, rowD, rlD, hf, hc, hd])
          | (refine AWp_condC rfl ?_; intro KA KB hKA hKB; try simp only [onB_true, onB_false, onB_dec, onB_ndec, onB_not, onB_and, onB_or])
          | (refine AWp_condA rfl ?_ ?_)
          | (refine refTwoFault_A a b hA hB _ _ ?_; try simp (dsimp := false) only [go_sem, Nat.reduceAdd, Nat.reduceBEq, Nat.reduceEqDiff, Nat.reduceLT, Nat.reduceLeDiff, Nat.reduceMul, Int.reduceToNat, reduceCtorEq, ↓reduceIte, Tryd.ntmps20, Tryd.results20, ks_20, mu_20, nd_20, ti_ag22, ti_ag23, ti_ag25, ti_ag35, ti_ag68, ti_fe35, ti_fl25_0, ti_fl25_1, ti_hb48, ti_hb50, ti_hb56, ti_hb57, ti_hb58, ti_hb59, ti_pl25, ti_sb23, ti_sl23, ti_sl68, ti_sl142, ti_sz25, ti_sz35, ti_zr25, itD, itV, rlV, rowD, rlD, hf, hc, hd])
          | (refine QCall_of (refTwoFault_A a b hA hB _ _ (Two_intro _ _)) ?_; try simp (dsimp := false) only [go_sem, Nat.reduceAdd, Nat.reduceBEq, Nat.reduceEqDiff, Nat.reduceLT, Nat.reduceLeDiff, Nat.reduceMul, Int.reduceToNat, reduceCtorEq, ↓reduceIte, Tryd.ntmps20, Tryd.results20, ks_20, mu_20, nd_20, ti_ag22, ti_ag23, ti_ag25, ti_ag35, ti_ag68, ti_fe35, ti_fl25_0, ti_fl25_1, ti_hb48, ti_hb50, ti_hb56, ti_hb57, ti_hb58, ti_hb59, ti_pl25, ti_sb23, ti_sl23, ti_sl68, ti_sl142, ti_sz25, ti_sz35, ti_zr25, itD, itV, rlV, rowD, rlD, hf, hc, hd])
          | (refine colAt_A a hA x _ _ ?_; try simp (dsimp := false) only [go_sem, Nat.reduceAdd, Nat.reduceBEq, Nat.reduceEqDiff, Nat.reduceLT, Nat.reduceLeDiff, Nat.reduceMul, Int.reduceToNat, reduceCtorEq, ↓reduceIte, Tryd.ntmps20, Tryd.results20, ks_20, mu_20, nd_20, ti_ag22, ti_ag23, ti_ag25, ti_ag35, ti_ag68, ti_fe35, ti_fl25_0, ti_fl25_1, ti_hb48, ti_hb50, ti_hb56, ti_hb57, ti_hb58, ti_hb59, ti_pl25, ti_sb23, ti_sl23, ti_sl68, ti_sl142, ti_sz25, ti_sz35, ti_zr25, itD, itV, rlV, rowD, rlD, hf, hc, hd])
          | (refine QCall_of (colAt_A a hA x _ _ (Two_intro _ _)) ?_; try simp (dsimp := false) only [go_sem, Nat.reduceAdd, Nat.reduceBEq, Nat.reduceEqDiff, Nat.reduceLT, Nat.reduceLeDiff, Nat.reduceMul, Int.reduceToNat, reduceCtorEq, ↓reduceIte, Tryd.ntmps20, Tryd.results20, ks_20, mu_20, nd_20, ti_ag22, ti_ag23, ti_ag25, ti_ag35, ti_ag68, ti_fe35, ti_fl25_0, ti_fl25_1, ti_hb48, ti_hb50, ti_hb56, ti_hb57, ti_hb58, ti_hb59, ti_pl25, ti_sb23, ti_sl23, ti_sl68, ti_sl142, ti_sz25, ti_sz35, ti_zr25, itD, itV, rlV, rowD, rlD, hf, hc, hd])
          | (refine colAt_A b hB y _ _ ?_; try simp (dsimp := false) only [go_sem, Nat.reduceAdd, Nat.reduceBEq, Nat.reduceEqDiff, Nat.reduceLT, Nat.reduceLeDiff, Nat.reduceMul, Int.reduceToNat, reduceCtorEq, ↓reduceIte, Tryd.ntmps20, Tryd.results20, ks_20, mu_20, nd_20, ti_ag22, ti_ag23, ti_ag25, ti_ag35, ti_ag68, ti_fe35, ti_fl25_0, ti_fl25_1, ti_hb48, ti_hb50, ti_hb56, ti_hb57, ti_hb58, ti_hb59, ti_pl25, ti_sb23, ti_sl23, ti_sl68, ti_sl142, ti_sz25, ti_sz35, ti_zr25, itD, itV, rlV, rowD, rlD, hf, hc, hd])
          | (refine QCall_of (colAt_A b hB y _ _ (Two_intro _ _)) ?_; try simp (dsimp := false) only [go_sem, Nat.reduceAdd, Nat.reduceBEq, Nat.reduceEqDiff, Nat.reduceLT, Nat.reduceLeDiff, Nat.reduceMul, Int.reduceToNat, reduceCtorEq, ↓reduceIte, Tryd.ntmps20, Tryd.results20, ks_20, mu_20, nd_20, ti_ag22, ti_ag23, ti_ag25, ti_ag35, ti_ag68, ti_fe35, ti_fl25_0, ti_fl25_1, ti_hb48, ti_hb50, ti_hb56, ti_hb57, ti_hb58, ti_hb59, ti_pl25, ti_sb23, ti_sl23, ti_sl68, ti_sl142, ti_sz25, ti_sz35, ti_zr25, itD, itV, rlV, rowD, rlD, hf, hc, hd])
          | with_reducible refine onB_of ?_ ?_
          | with_reducible rfl
          | omega)
        all_goals first
          | exact dropF hk (fz_rl0 _ _ _) (bel_relE _ _ _)
          | omega
      · rw [joined, if_pos hf, if_neg (fun h => h.elim hc hd)] at hk
        obtain ⟨hfa, hfb⟩ : relFault a = 0 ∧ relFault b = 0 := by
          unfold twoFault at hf
          split at hf
          · exact ⟨by assumption, hf⟩
          · contradiction
        obtain ⟨hca, hNa, halla⟩ := relFault_ok hfa
        obtain ⟨hcb, hNb, hallb⟩ := relFault_ok hfb
        have hlt := (fidx_lt (fun z => decide (x = z)) a.cols).2
        obtain ⟨p, hpp⟩ : ∃ p : Nat, txtAt a.cols x = p := ⟨(txtAt a.cols x).toNat, by omega⟩
        have hpl : p < a.cols.length := by
          have : txtAt a.cols x < a.cols.length := hlt
          omega
        have hlt2 := (fidx_lt (fun z => decide (y = z)) b.cols).2
        obtain ⟨q, hqq⟩ : ∃ q : Nat, txtAt b.cols y = q := ⟨(txtAt b.cols y).toNat, by omega⟩
        have hql : q < b.cols.length := by
          have : txtAt b.cols y < b.cols.length := hlt2
          omega
        rw [hpp] at hk hc
        rw [hqq] at hk hd
        simp only [Int.toNat_natCast] at hk
        have c1 := colsFault_len9 hca
        have c2 := colsFault_len9 hcb
        clear hlt hlt2 hca hcb
        have hcl : (a.cols ++ b.cols).length ≤ 16 := by rw [List.length_append]; omega
        have hcs : ∀ s, s ∈ a.cols ++ b.cols → s.length ≤ 1048576 := fun s h => by
          rcases List.mem_append.1 h with h | h
          · exact hA.col s h
          · exact hB.col s h
        have hcs' : ∀ s, s ∈ a.cols ++ b.cols → s.length ≤ 9223372036854775807 := fun s h => by have := hcs s h; omega
        by_cases hcf : colsFault (a.cols ++ b.cols) = 0
        · have hbad : 1000000 < (joinRows p q a.rows b.rows).length → K (relE rl0 1) H := fun hb => by
            rw [made_big hb, madeFault, if_pos hcf, if_neg (by omega)] at hk
            exact hk
          
          refine ACalls_of Tryd.func20 rfl in_20 (Nat.le_of_ble_eq_true rfl) ?_
          intro F hF
          simp (dsimp := false) only [go_sem, Nat.reduceAdd, Nat.reduceBEq, Nat.reduceEqDiff, Nat.reduceLT, Nat.reduceLeDiff, Nat.reduceMul, Int.reduceToNat, reduceCtorEq, ↓reduceIte, Tryd.ntmps20, Tryd.results20, ks_20, mu_20, nd_20, ti_ag22, ti_ag23, ti_ag25, ti_ag35, ti_ag68, ti_fe35, ti_fl25_0, ti_fl25_1, ti_hb48, ti_hb50, ti_hb56, ti_hb57, ti_hb58, ti_hb59, ti_pl25, ti_sb23, ti_sl23, ti_sl68, ti_sl142, ti_sz25, ti_sz35, ti_zr25, itD, itV, rlV, rowD, rlD, hf, hpp, hqq, hc, hd, hcf, in_20] at hF
          subst hF
          repeat' (first
            | with_reducible refine And.intro ?_ ?_
            | with_reducible intro _
            | with_reducible refine AWp_seq ?_
            | with_reducible refine AWp_block ?_
            | (with_reducible refine hKv _ _ (AWp_nop ?_); clear hKv Kv)
            | (with_reducible refine hKv _ _ ?_; clear hKv Kv; simp (dsimp := false) only [go_sem, Nat.reduceAdd, Nat.reduceBEq, Nat.reduceEqDiff, Nat.reduceLT, Nat.reduceLeDiff, Nat.reduceMul, Int.reduceToNat, reduceCtorEq, ↓reduceIte, Tryd.ntmps20, Tryd.results20, ks_20, mu_20, nd_20, ti_ag22, ti_ag23, ti_ag25, ti_ag35, ti_ag68, ti_fe35, ti_fl25_0, ti_fl25_1, ti_hb48, ti_hb50, ti_hb56, ti_hb57, ti_hb58, ti_hb59, ti_pl25, ti_sb23, ti_sl23, ti_sl68, ti_sl142, ti_sz25, ti_sz35, ti_zr25, itD, itV, rlV, rowD, rlD, hf, hpp, hqq, hc, hd, hcf])
            | (with_reducible refine hKA ?_; clear hKA hKB KA KB)
            | (with_reducible refine hKB ?_; clear hKA hKB KA KB)
            | (with_reducible refine AWp_regC mu_20 ks_20 ?_; intro Kv hKv; simp (dsimp := false) only [go_sem, Nat.reduceAdd, Nat.reduceBEq, Nat.reduceEqDiff, Nat.reduceLT, Nat.reduceLeDiff, Nat.reduceMul, Int.reduceToNat, reduceCtorEq, ↓reduceIte, Tryd.ntmps20, Tryd.results20, ks_20, mu_20, nd_20, ti_ag22, ti_ag23, ti_ag25, ti_ag35, ti_ag68, ti_fe35, ti_fl25_0, ti_fl25_1, ti_hb48, ti_hb50, ti_hb56, ti_hb57, ti_hb58, ti_hb59, ti_pl25, ti_sb23, ti_sl23, ti_sl68, ti_sl142, ti_sz25, ti_sz35, ti_zr25, itD, itV, rlV, rowD, rlD, hf, hpp, hqq, hc, hd, hcf])
            | (with_reducible refine AWp_draw nd_20 mu_20 ks_20 ti_mixed (by kernel_rfl) ?_; intro Kv hKv; simp (dsimp := false) only [go_sem, Nat.reduceAdd, Nat.reduceBEq, Nat.reduceEqDiff, Nat.reduceLT, Nat.reduceLeDiff, Nat.reduceMul, Int.reduceToNat, reduceCtorEq, ↓reduceIte, Tryd.ntmps20, Tryd.results20, ks_20, mu_20, nd_20, ti_ag22, ti_ag23, ti_ag25, ti_ag35, ti_ag68, ti_fe35, ti_fl25_0, ti_fl25_1, ti_hb48, ti_hb50, ti_hb56, ti_hb57, ti_hb58, ti_hb59, ti_pl25, ti_sb23, ti_sl23, ti_sl68, ti_sl142, ti_sz25, ti_sz35, ti_zr25, itD, itV, rlV, rowD, rlD, hf, hpp, hqq, hc, hd, hcf])
            | with_reducible refine AWp_skipN ?_
            | with_reducible refine AWp_exitO (by repeat (first | with_reducible exact Out.hit | with_reducible apply Out.thenA | with_reducible apply Out.out rfl)) ?_
            | (with_reducible refine AWp_retR ?_; simp (dsimp := false) only [go_sem, Nat.reduceAdd, Nat.reduceBEq, Nat.reduceEqDiff, Nat.reduceLT, Nat.reduceLeDiff, Nat.reduceMul, Int.reduceToNat, reduceCtorEq, ↓reduceIte, Tryd.ntmps20, Tryd.results20, ks_20, mu_20, nd_20, ti_ag22, ti_ag23, ti_ag25, ti_ag35, ti_ag68, ti_fe35, ti_fl25_0, ti_fl25_1, ti_hb48, ti_hb50, ti_hb56, ti_hb57, ti_hb58, ti_hb59, ti_pl25, ti_sb23, ti_sl23, ti_sl68, ti_sl142, ti_sz25, ti_sz35, ti_zr25, itD, itV, rlV, rowD, rlD, hf, hpp, hqq, hc, hd, hcf])
            | (with_reducible refine AWp_regE mu_20 ks_20 ?_; intro Kv hKv; simp (dsimp := false) only [go_sem, Nat.reduceAdd, Nat.reduceBEq, Nat.reduceEqDiff, Nat.reduceLT, Nat.reduceLeDiff, Nat.reduceMul, Int.reduceToNat, reduceCtorEq, ↓reduceIte, Tryd.ntmps20, Tryd.results20, ks_20, mu_20, nd_20, ti_ag22, ti_ag23, ti_ag25, ti_ag35, ti_ag68, ti_fe35, ti_fl25_0, ti_fl25_1, ti_hb48, ti_hb50, ti_hb56, ti_hb57, ti_hb58, ti_hb59, ti_pl25, ti_sb23, ti_sl23, ti_sl68, ti_sl142, ti_sz25, ti_sz35, ti_zr25, itD, itV, rlV, rowD, rlD, hf, hpp, hqq, hc, hd, hcf])
            | (with_reducible refine AWp_drawE nd_20 mu_20 ks_20 ti_mixed (by kernel_rfl) ?_; intro Kv hKv; simp (dsimp := false) only [go_sem, Nat.reduceAdd, Nat.reduceBEq, Nat.reduceEqDiff, Nat.reduceLT, Nat.reduceLeDiff, Nat.reduceMul, Int.reduceToNat, reduceCtorEq, ↓reduceIte, Tryd.ntmps20, Tryd.results20, ks_20, mu_20, nd_20, ti_ag22, ti_ag23, ti_ag25, ti_ag35, ti_ag68, ti_fe35, ti_fl25_0, ti_fl25_1, ti_hb48, ti_hb50, ti_hb56, ti_hb57, ti_hb58, ti_hb59, ti_pl25, ti_sb23, ti_sl23, ti_sl68, ti_sl142, ti_sz25, ti_sz35, ti_zr25, itD, itV, rlV, rowD, rlD, hf, hpp, hqq, hc, hd, hcf])
            | (refine AWp_condC rfl ?_; intro KA KB hKA hKB; try simp only [onB_true, onB_false, onB_dec, onB_ndec, onB_not, onB_and, onB_or])
            | (refine AWp_condA rfl ?_ ?_)
            | (refine refTwoFault_A a b hA hB _ _ ?_; try simp (dsimp := false) only [go_sem, Nat.reduceAdd, Nat.reduceBEq, Nat.reduceEqDiff, Nat.reduceLT, Nat.reduceLeDiff, Nat.reduceMul, Int.reduceToNat, reduceCtorEq, ↓reduceIte, Tryd.ntmps20, Tryd.results20, ks_20, mu_20, nd_20, ti_ag22, ti_ag23, ti_ag25, ti_ag35, ti_ag68, ti_fe35, ti_fl25_0, ti_fl25_1, ti_hb48, ti_hb50, ti_hb56, ti_hb57, ti_hb58, ti_hb59, ti_pl25, ti_sb23, ti_sl23, ti_sl68, ti_sl142, ti_sz25, ti_sz35, ti_zr25, itD, itV, rlV, rowD, rlD, hf, hpp, hqq, hc, hd, hcf])
            | (refine QCall_of (refTwoFault_A a b hA hB _ _ (Two_intro _ _)) ?_; try simp (dsimp := false) only [go_sem, Nat.reduceAdd, Nat.reduceBEq, Nat.reduceEqDiff, Nat.reduceLT, Nat.reduceLeDiff, Nat.reduceMul, Int.reduceToNat, reduceCtorEq, ↓reduceIte, Tryd.ntmps20, Tryd.results20, ks_20, mu_20, nd_20, ti_ag22, ti_ag23, ti_ag25, ti_ag35, ti_ag68, ti_fe35, ti_fl25_0, ti_fl25_1, ti_hb48, ti_hb50, ti_hb56, ti_hb57, ti_hb58, ti_hb59, ti_pl25, ti_sb23, ti_sl23, ti_sl68, ti_sl142, ti_sz25, ti_sz35, ti_zr25, itD, itV, rlV, rowD, rlD, hf, hpp, hqq, hc, hd, hcf])
            | (refine colAt_A a hA x _ _ ?_; try simp (dsimp := false) only [go_sem, Nat.reduceAdd, Nat.reduceBEq, Nat.reduceEqDiff, Nat.reduceLT, Nat.reduceLeDiff, Nat.reduceMul, Int.reduceToNat, reduceCtorEq, ↓reduceIte, Tryd.ntmps20, Tryd.results20, ks_20, mu_20, nd_20, ti_ag22, ti_ag23, ti_ag25, ti_ag35, ti_ag68, ti_fe35, ti_fl25_0, ti_fl25_1, ti_hb48, ti_hb50, ti_hb56, ti_hb57, ti_hb58, ti_hb59, ti_pl25, ti_sb23, ti_sl23, ti_sl68, ti_sl142, ti_sz25, ti_sz35, ti_zr25, itD, itV, rlV, rowD, rlD, hf, hpp, hqq, hc, hd, hcf])
            | (refine QCall_of (colAt_A a hA x _ _ (Two_intro _ _)) ?_; try simp (dsimp := false) only [go_sem, Nat.reduceAdd, Nat.reduceBEq, Nat.reduceEqDiff, Nat.reduceLT, Nat.reduceLeDiff, Nat.reduceMul, Int.reduceToNat, reduceCtorEq, ↓reduceIte, Tryd.ntmps20, Tryd.results20, ks_20, mu_20, nd_20, ti_ag22, ti_ag23, ti_ag25, ti_ag35, ti_ag68, ti_fe35, ti_fl25_0, ti_fl25_1, ti_hb48, ti_hb50, ti_hb56, ti_hb57, ti_hb58, ti_hb59, ti_pl25, ti_sb23, ti_sl23, ti_sl68, ti_sl142, ti_sz25, ti_sz35, ti_zr25, itD, itV, rlV, rowD, rlD, hf, hpp, hqq, hc, hd, hcf])
            | (refine colAt_A b hB y _ _ ?_; try simp (dsimp := false) only [go_sem, Nat.reduceAdd, Nat.reduceBEq, Nat.reduceEqDiff, Nat.reduceLT, Nat.reduceLeDiff, Nat.reduceMul, Int.reduceToNat, reduceCtorEq, ↓reduceIte, Tryd.ntmps20, Tryd.results20, ks_20, mu_20, nd_20, ti_ag22, ti_ag23, ti_ag25, ti_ag35, ti_ag68, ti_fe35, ti_fl25_0, ti_fl25_1, ti_hb48, ti_hb50, ti_hb56, ti_hb57, ti_hb58, ti_hb59, ti_pl25, ti_sb23, ti_sl23, ti_sl68, ti_sl142, ti_sz25, ti_sz35, ti_zr25, itD, itV, rlV, rowD, rlD, hf, hpp, hqq, hc, hd, hcf])
            | (refine QCall_of (colAt_A b hB y _ _ (Two_intro _ _)) ?_; try simp (dsimp := false) only [go_sem, Nat.reduceAdd, Nat.reduceBEq, Nat.reduceEqDiff, Nat.reduceLT, Nat.reduceLeDiff, Nat.reduceMul, Int.reduceToNat, reduceCtorEq, ↓reduceIte, Tryd.ntmps20, Tryd.results20, ks_20, mu_20, nd_20, ti_ag22, ti_ag23, ti_ag25, ti_ag35, ti_ag68, ti_fe35, ti_fl25_0, ti_fl25_1, ti_hb48, ti_hb50, ti_hb56, ti_hb57, ti_hb58, ti_hb59, ti_pl25, ti_sb23, ti_sl23, ti_sl68, ti_sl142, ti_sz25, ti_sz35, ti_zr25, itD, itV, rlV, rowD, rlD, hf, hpp, hqq, hc, hd, hcf])
            | (refine ref2Str a.cols b.cols (by omega) (by omega) _ _ ?_; try simp (dsimp := false) only [go_sem, Nat.reduceAdd, Nat.reduceBEq, Nat.reduceEqDiff, Nat.reduceLT, Nat.reduceLeDiff, Nat.reduceMul, Int.reduceToNat, reduceCtorEq, ↓reduceIte, Tryd.ntmps20, Tryd.results20, ks_20, mu_20, nd_20, ti_ag22, ti_ag23, ti_ag25, ti_ag35, ti_ag68, ti_fe35, ti_fl25_0, ti_fl25_1, ti_hb48, ti_hb50, ti_hb56, ti_hb57, ti_hb58, ti_hb59, ti_pl25, ti_sb23, ti_sl23, ti_sl68, ti_sl142, ti_sz25, ti_sz35, ti_zr25, itD, itV, rlV, rowD, rlD, hf, hpp, hqq, hc, hd, hcf])
            | (refine QCall_of (ref2Str a.cols b.cols (by omega) (by omega) _ _ (Two_intro _ _)) ?_; try simp (dsimp := false) only [go_sem, Nat.reduceAdd, Nat.reduceBEq, Nat.reduceEqDiff, Nat.reduceLT, Nat.reduceLeDiff, Nat.reduceMul, Int.reduceToNat, reduceCtorEq, ↓reduceIte, Tryd.ntmps20, Tryd.results20, ks_20, mu_20, nd_20, ti_ag22, ti_ag23, ti_ag25, ti_ag35, ti_ag68, ti_fe35, ti_fl25_0, ti_fl25_1, ti_hb48, ti_hb50, ti_hb56, ti_hb57, ti_hb58, ti_hb59, ti_pl25, ti_sb23, ti_sl23, ti_sl68, ti_sl142, ti_sz25, ti_sz35, ti_zr25, itD, itV, rlV, rowD, rlD, hf, hpp, hqq, hc, hd, hcf])
            | (refine colsFault_A (a.cols ++ b.cols) (by omega) hcs' _ _ ?_; try simp (dsimp := false) only [go_sem, Nat.reduceAdd, Nat.reduceBEq, Nat.reduceEqDiff, Nat.reduceLT, Nat.reduceLeDiff, Nat.reduceMul, Int.reduceToNat, reduceCtorEq, ↓reduceIte, Tryd.ntmps20, Tryd.results20, ks_20, mu_20, nd_20, ti_ag22, ti_ag23, ti_ag25, ti_ag35, ti_ag68, ti_fe35, ti_fl25_0, ti_fl25_1, ti_hb48, ti_hb50, ti_hb56, ti_hb57, ti_hb58, ti_hb59, ti_pl25, ti_sb23, ti_sl23, ti_sl68, ti_sl142, ti_sz25, ti_sz35, ti_zr25, itD, itV, rlV, rowD, rlD, hf, hpp, hqq, hc, hd, hcf])
            | (refine QCall_of (colsFault_A (a.cols ++ b.cols) (by omega) hcs' _ _ (Two_intro _ _)) ?_; try simp (dsimp := false) only [go_sem, Nat.reduceAdd, Nat.reduceBEq, Nat.reduceEqDiff, Nat.reduceLT, Nat.reduceLeDiff, Nat.reduceMul, Int.reduceToNat, reduceCtorEq, ↓reduceIte, Tryd.ntmps20, Tryd.results20, ks_20, mu_20, nd_20, ti_ag22, ti_ag23, ti_ag25, ti_ag35, ti_ag68, ti_fe35, ti_fl25_0, ti_fl25_1, ti_hb48, ti_hb50, ti_hb56, ti_hb57, ti_hb58, ti_hb59, ti_pl25, ti_sb23, ti_sl23, ti_sl68, ti_sl142, ti_sz25, ti_sz35, ti_zr25, itD, itV, rlV, rowD, rlD, hf, hpp, hqq, hc, hd, hcf])
            | with_reducible refine onB_of ?_ ?_
            | with_reducible rfl
            | omega)
          refine AWp_whileH (fun z : Nat × List (List It) => z.1 ≤ a.rows.length ∧ z.2.length ≤ 1000000 ∧ z.2 = joinRows p q (a.rows.take z.1) b.rows)
            (fun z => [(4, .rp (rlD a)), (5, .rp (rlD b)), (8, .pt H.length 0 0 0), (11, .d (.i .i64 p)), (12, .d (.i .i64 q)), (13, .os (H.length + 1) z.2.length), (14, .d (.i .i64 z.1))])
            (fun z => [.row 0 25 2 [[.d (.c (.slice none 0 0)), .d (.c (.slice none 0 0))]], .row z.2.length 68 1 (z.2.map rowC)]) (fun z => a.rows.length - z.1) (0, []) ⟨Nat.zero_le _, by simp, rfl⟩ rfl ?_ ?_ ?_
          · simp (dsimp := false) only [go_sem, Nat.reduceAdd, Nat.reduceBEq, Nat.reduceEqDiff, Nat.reduceLT, Nat.reduceLeDiff, Nat.reduceMul, Int.reduceToNat, reduceCtorEq, ↓reduceIte, Tryd.ntmps20, Tryd.results20, ks_20, mu_20, nd_20, ti_ag22, ti_ag23, ti_ag25, ti_ag35, ti_ag68, ti_fe35, ti_fl25_0, ti_fl25_1, ti_hb48, ti_hb50, ti_hb56, ti_hb57, ti_hb58, ti_hb59, ti_pl25, ti_sb23, ti_sl23, ti_sl68, ti_sl142, ti_sz25, ti_sz35, ti_zr25, itD, itV, rlV, rowD, rlD, hf, hpp, hqq, hc, hd, hcf]
            first | done | omega | simp
          · rintro ⟨i, acc⟩ _ ob hob
            simp only [List.mem_cons, List.not_mem_nil, or_false] at hob
            rcases hob with rfl | rfl
            · exact bel_nil2 _ _ _
            · exact obBel_rows _ _ _ _ _
          rintro ⟨i, acc⟩ ⟨h1, h2, h3⟩
          simp only [] at h1 h2 h3 ⊢
          by_cases hiN : i < a.rows.length
          · obtain ⟨row, hrow⟩ : ∃ row, a.rows[i]? = some row := ⟨a.rows[i], List.getElem?_eq_getElem hiN⟩
            have hrl := (halla row (List.mem_of_getElem? hrow)).1
            have hrs := (hA.get hrow).1
            obtain ⟨k, hkx⟩ : ∃ k, row[p]? = some k := ⟨row[p]'(by omega), List.getElem?_eq_getElem (by omega)⟩
            have hgk := rg_get hkx
            have hT := joinRows_take (p := p) (q := q) (rb := b.rows) hrow
            have hJl := joinRows_mono p q a.rows b.rows (i + 1)
            have hP := joinPart_le p q row b.rows
            have hPa := joinPart_all p q row b.rows
            rw [hgk] at hP hPa
            rw [← h3] at hT
            rw [← hPa] at hT hP
            have hJ1 : (joinRows p q (a.rows.take (i + 1)) b.rows).length = acc.length + (joinPart q k row b.rows b.rows.length).length := by rw [hT, List.length_append]
            
            repeat' (first
              | with_reducible refine And.intro ?_ ?_
              | with_reducible intro _
              | with_reducible refine AWp_seq ?_
              | with_reducible refine AWp_block ?_
              | (with_reducible refine hKv _ _ (AWp_nop ?_); clear hKv Kv)
              | (with_reducible refine hKv _ _ ?_; clear hKv Kv; simp (dsimp := false) only [go_sem, Nat.reduceAdd, Nat.reduceBEq, Nat.reduceEqDiff, Nat.reduceLT, Nat.reduceLeDiff, Nat.reduceMul, Int.reduceToNat, reduceCtorEq, ↓reduceIte, Tryd.ntmps20, Tryd.results20, ks_20, mu_20, nd_20, ti_ag22, ti_ag23, ti_ag25, ti_ag35, ti_ag68, ti_fe35, ti_fl25_0, ti_fl25_1, ti_hb48, ti_hb50, ti_hb56, ti_hb57, ti_hb58, ti_hb59, ti_pl25, ti_sb23, ti_sl23, ti_sl68, ti_sl142, ti_sz25, ti_sz35, ti_zr25, itD, itV, rlV, rowD, rlD, hrow])
              | (with_reducible refine hKA ?_; clear hKA hKB KA KB)
              | (with_reducible refine hKB ?_; clear hKA hKB KA KB)
              | (with_reducible refine AWp_regC mu_20 ks_20 ?_; intro Kv hKv; simp (dsimp := false) only [go_sem, Nat.reduceAdd, Nat.reduceBEq, Nat.reduceEqDiff, Nat.reduceLT, Nat.reduceLeDiff, Nat.reduceMul, Int.reduceToNat, reduceCtorEq, ↓reduceIte, Tryd.ntmps20, Tryd.results20, ks_20, mu_20, nd_20, ti_ag22, ti_ag23, ti_ag25, ti_ag35, ti_ag68, ti_fe35, ti_fl25_0, ti_fl25_1, ti_hb48, ti_hb50, ti_hb56, ti_hb57, ti_hb58, ti_hb59, ti_pl25, ti_sb23, ti_sl23, ti_sl68, ti_sl142, ti_sz25, ti_sz35, ti_zr25, itD, itV, rlV, rowD, rlD, hrow])
              | (with_reducible refine AWp_draw nd_20 mu_20 ks_20 ti_mixed (by kernel_rfl) ?_; intro Kv hKv; simp (dsimp := false) only [go_sem, Nat.reduceAdd, Nat.reduceBEq, Nat.reduceEqDiff, Nat.reduceLT, Nat.reduceLeDiff, Nat.reduceMul, Int.reduceToNat, reduceCtorEq, ↓reduceIte, Tryd.ntmps20, Tryd.results20, ks_20, mu_20, nd_20, ti_ag22, ti_ag23, ti_ag25, ti_ag35, ti_ag68, ti_fe35, ti_fl25_0, ti_fl25_1, ti_hb48, ti_hb50, ti_hb56, ti_hb57, ti_hb58, ti_hb59, ti_pl25, ti_sb23, ti_sl23, ti_sl68, ti_sl142, ti_sz25, ti_sz35, ti_zr25, itD, itV, rlV, rowD, rlD, hrow])
              | with_reducible refine AWp_skipN ?_
              | with_reducible refine AWp_exitO (by repeat (first | with_reducible exact Out.hit | with_reducible apply Out.thenA | with_reducible apply Out.out rfl)) ?_
              | (with_reducible refine AWp_retR ?_; simp (dsimp := false) only [go_sem, Nat.reduceAdd, Nat.reduceBEq, Nat.reduceEqDiff, Nat.reduceLT, Nat.reduceLeDiff, Nat.reduceMul, Int.reduceToNat, reduceCtorEq, ↓reduceIte, Tryd.ntmps20, Tryd.results20, ks_20, mu_20, nd_20, ti_ag22, ti_ag23, ti_ag25, ti_ag35, ti_ag68, ti_fe35, ti_fl25_0, ti_fl25_1, ti_hb48, ti_hb50, ti_hb56, ti_hb57, ti_hb58, ti_hb59, ti_pl25, ti_sb23, ti_sl23, ti_sl68, ti_sl142, ti_sz25, ti_sz35, ti_zr25, itD, itV, rlV, rowD, rlD, hrow])
              | (with_reducible refine AWp_regE mu_20 ks_20 ?_; intro Kv hKv; simp (dsimp := false) only [go_sem, Nat.reduceAdd, Nat.reduceBEq, Nat.reduceEqDiff, Nat.reduceLT, Nat.reduceLeDiff, Nat.reduceMul, Int.reduceToNat, reduceCtorEq, ↓reduceIte, Tryd.ntmps20, Tryd.results20, ks_20, mu_20, nd_20, ti_ag22, ti_ag23, ti_ag25, ti_ag35, ti_ag68, ti_fe35, ti_fl25_0, ti_fl25_1, ti_hb48, ti_hb50, ti_hb56, ti_hb57, ti_hb58, ti_hb59, ti_pl25, ti_sb23, ti_sl23, ti_sl68, ti_sl142, ti_sz25, ti_sz35, ti_zr25, itD, itV, rlV, rowD, rlD, hrow])
              | (with_reducible refine AWp_drawE nd_20 mu_20 ks_20 ti_mixed (by kernel_rfl) ?_; intro Kv hKv; simp (dsimp := false) only [go_sem, Nat.reduceAdd, Nat.reduceBEq, Nat.reduceEqDiff, Nat.reduceLT, Nat.reduceLeDiff, Nat.reduceMul, Int.reduceToNat, reduceCtorEq, ↓reduceIte, Tryd.ntmps20, Tryd.results20, ks_20, mu_20, nd_20, ti_ag22, ti_ag23, ti_ag25, ti_ag35, ti_ag68, ti_fe35, ti_fl25_0, ti_fl25_1, ti_hb48, ti_hb50, ti_hb56, ti_hb57, ti_hb58, ti_hb59, ti_pl25, ti_sb23, ti_sl23, ti_sl68, ti_sl142, ti_sz25, ti_sz35, ti_zr25, itD, itV, rlV, rowD, rlD, hrow])
              | (refine AWp_condC rfl ?_; intro KA KB hKA hKB; try simp only [onB_true, onB_false, onB_dec, onB_ndec, onB_not, onB_and, onB_or])
              | (refine AWp_condA rfl ?_ ?_)
              | with_reducible refine onB_of ?_ ?_
              | with_reducible rfl
              | omega)
            refine AWp_whileH (fun z : Nat × List (List It) => z.1 ≤ b.rows.length ∧ z.2.length ≤ 1000000 ∧ z.2 = acc ++ joinPart q k row b.rows z.1)
              (fun z => [(4, .rp (rlD a)), (5, .rp (rlD b)), (8, .pt H.length 0 0 0), (11, .d (.i .i64 p)), (12, .d (.i .i64 q)), (13, .os (H.length + 1) z.2.length), (14, .d (.i .i64 i)), (15, .d (.i .i64 z.1))])
              (fun z => [.row 0 25 2 [[.d (.c (.slice none 0 0)), .d (.c (.slice none 0 0))]], .row z.2.length 68 1 (z.2.map rowC)]) (fun z => b.rows.length - z.1) (0, acc) ⟨Nat.zero_le _, h2, by simp [joinPart]⟩ rfl ?_ ?_ ?_
            · simp (dsimp := false) only [go_sem, Nat.reduceAdd, Nat.reduceBEq, Nat.reduceEqDiff, Nat.reduceLT, Nat.reduceLeDiff, Nat.reduceMul, Int.reduceToNat, reduceCtorEq, ↓reduceIte, Tryd.ntmps20, Tryd.results20, ks_20, mu_20, nd_20, ti_ag22, ti_ag23, ti_ag25, ti_ag35, ti_ag68, ti_fe35, ti_fl25_0, ti_fl25_1, ti_hb48, ti_hb50, ti_hb56, ti_hb57, ti_hb58, ti_hb59, ti_pl25, ti_sb23, ti_sl23, ti_sl68, ti_sl142, ti_sz25, ti_sz35, ti_zr25, itD, itV, rlV, rowD, rlD, hrow]
              first | done | omega | simp
            · rintro ⟨i, acc⟩ _ ob hob
              simp only [List.mem_cons, List.not_mem_nil, or_false] at hob
              rcases hob with rfl | rfl
              · exact bel_nil2 _ _ _
              · exact obBel_rows _ _ _ _ _
            rintro ⟨k2, acc2⟩ ⟨f1, f2, f3⟩
            simp only [] at f1 f2 f3 ⊢
            by_cases hkl : k2 < b.rows.length
            · obtain ⟨r2, hr2⟩ : ∃ r2, b.rows[k2]? = some r2 := ⟨b.rows[k2], List.getElem?_eq_getElem hkl⟩
              have hr2l := (hallb r2 (List.mem_of_getElem? hr2)).1
              have hr2s := (hB.get hr2).1
              obtain ⟨k', hkx'⟩ : ∃ k', r2[q]? = some k' := ⟨r2[q]'(by omega), List.getElem?_eq_getElem (by omega)⟩
              have hgk' := rg_get hkx'
              by_cases hkk : k' = k
              · subst hkk
                have hS := joinPart_hit (q := q) (k := k') (x := row) hr2 hgk'
                have hS2 : acc2 ++ [row ++ r2] = acc ++ joinPart q k' row b.rows (k2 + 1) := by rw [hS, ← List.append_assoc, ← f3]
                have hbig : 1000000 < acc2.length + 1 → 1000000 < (joinRows p q a.rows b.rows).length := fun hb => by
                  have h5 := hP (k2 + 1)
                  have h6 := congrArg List.length hS2
                  simp only [List.length_append, List.length_cons, List.length_nil] at h6
                  omega
                clear hT hJ1 hP hPa hJl hS f3 h3
                
                repeat' (first
                  | with_reducible refine And.intro ?_ ?_
                  | with_reducible intro _
                  | with_reducible refine AWp_seq ?_
                  | with_reducible refine AWp_block ?_
                  | (with_reducible refine hKv _ _ (AWp_nop ?_); clear hKv Kv)
                  | (with_reducible refine hKv _ _ ?_; clear hKv Kv; simp (dsimp := false) only [go_sem, Nat.reduceAdd, Nat.reduceBEq, Nat.reduceEqDiff, Nat.reduceLT, Nat.reduceLeDiff, Nat.reduceMul, Int.reduceToNat, reduceCtorEq, ↓reduceIte, Tryd.ntmps20, Tryd.results20, ks_20, mu_20, nd_20, ti_ag22, ti_ag23, ti_ag25, ti_ag35, ti_ag68, ti_fe35, ti_fl25_0, ti_fl25_1, ti_hb48, ti_hb50, ti_hb56, ti_hb57, ti_hb58, ti_hb59, ti_pl25, ti_sb23, ti_sl23, ti_sl68, ti_sl142, ti_sz25, ti_sz35, ti_zr25, itD, itV, rlV, rowD, rlD, hrow, hkx, hr2, hkx'])
                  | (with_reducible refine hKA ?_; clear hKA hKB KA KB)
                  | (with_reducible refine hKB ?_; clear hKA hKB KA KB)
                  | (with_reducible refine AWp_regC mu_20 ks_20 ?_; intro Kv hKv; simp (dsimp := false) only [go_sem, Nat.reduceAdd, Nat.reduceBEq, Nat.reduceEqDiff, Nat.reduceLT, Nat.reduceLeDiff, Nat.reduceMul, Int.reduceToNat, reduceCtorEq, ↓reduceIte, Tryd.ntmps20, Tryd.results20, ks_20, mu_20, nd_20, ti_ag22, ti_ag23, ti_ag25, ti_ag35, ti_ag68, ti_fe35, ti_fl25_0, ti_fl25_1, ti_hb48, ti_hb50, ti_hb56, ti_hb57, ti_hb58, ti_hb59, ti_pl25, ti_sb23, ti_sl23, ti_sl68, ti_sl142, ti_sz25, ti_sz35, ti_zr25, itD, itV, rlV, rowD, rlD, hrow, hkx, hr2, hkx'])
                  | (with_reducible refine AWp_draw nd_20 mu_20 ks_20 ti_mixed (by kernel_rfl) ?_; intro Kv hKv; simp (dsimp := false) only [go_sem, Nat.reduceAdd, Nat.reduceBEq, Nat.reduceEqDiff, Nat.reduceLT, Nat.reduceLeDiff, Nat.reduceMul, Int.reduceToNat, reduceCtorEq, ↓reduceIte, Tryd.ntmps20, Tryd.results20, ks_20, mu_20, nd_20, ti_ag22, ti_ag23, ti_ag25, ti_ag35, ti_ag68, ti_fe35, ti_fl25_0, ti_fl25_1, ti_hb48, ti_hb50, ti_hb56, ti_hb57, ti_hb58, ti_hb59, ti_pl25, ti_sb23, ti_sl23, ti_sl68, ti_sl142, ti_sz25, ti_sz35, ti_zr25, itD, itV, rlV, rowD, rlD, hrow, hkx, hr2, hkx'])
                  | with_reducible refine AWp_skipN ?_
                  | with_reducible refine AWp_exitO (by repeat (first | with_reducible exact Out.hit | with_reducible apply Out.thenA | with_reducible apply Out.out rfl)) ?_
                  | (with_reducible refine AWp_retR ?_; simp (dsimp := false) only [go_sem, Nat.reduceAdd, Nat.reduceBEq, Nat.reduceEqDiff, Nat.reduceLT, Nat.reduceLeDiff, Nat.reduceMul, Int.reduceToNat, reduceCtorEq, ↓reduceIte, Tryd.ntmps20, Tryd.results20, ks_20, mu_20, nd_20, ti_ag22, ti_ag23, ti_ag25, ti_ag35, ti_ag68, ti_fe35, ti_fl25_0, ti_fl25_1, ti_hb48, ti_hb50, ti_hb56, ti_hb57, ti_hb58, ti_hb59, ti_pl25, ti_sb23, ti_sl23, ti_sl68, ti_sl142, ti_sz25, ti_sz35, ti_zr25, itD, itV, rlV, rowD, rlD, hrow, hkx, hr2, hkx'])
                  | (with_reducible refine AWp_regE mu_20 ks_20 ?_; intro Kv hKv; simp (dsimp := false) only [go_sem, Nat.reduceAdd, Nat.reduceBEq, Nat.reduceEqDiff, Nat.reduceLT, Nat.reduceLeDiff, Nat.reduceMul, Int.reduceToNat, reduceCtorEq, ↓reduceIte, Tryd.ntmps20, Tryd.results20, ks_20, mu_20, nd_20, ti_ag22, ti_ag23, ti_ag25, ti_ag35, ti_ag68, ti_fe35, ti_fl25_0, ti_fl25_1, ti_hb48, ti_hb50, ti_hb56, ti_hb57, ti_hb58, ti_hb59, ti_pl25, ti_sb23, ti_sl23, ti_sl68, ti_sl142, ti_sz25, ti_sz35, ti_zr25, itD, itV, rlV, rowD, rlD, hrow, hkx, hr2, hkx'])
                  | (with_reducible refine AWp_drawE nd_20 mu_20 ks_20 ti_mixed (by kernel_rfl) ?_; intro Kv hKv; simp (dsimp := false) only [go_sem, Nat.reduceAdd, Nat.reduceBEq, Nat.reduceEqDiff, Nat.reduceLT, Nat.reduceLeDiff, Nat.reduceMul, Int.reduceToNat, reduceCtorEq, ↓reduceIte, Tryd.ntmps20, Tryd.results20, ks_20, mu_20, nd_20, ti_ag22, ti_ag23, ti_ag25, ti_ag35, ti_ag68, ti_fe35, ti_fl25_0, ti_fl25_1, ti_hb48, ti_hb50, ti_hb56, ti_hb57, ti_hb58, ti_hb59, ti_pl25, ti_sb23, ti_sl23, ti_sl68, ti_sl142, ti_sz25, ti_sz35, ti_zr25, itD, itV, rlV, rowD, rlD, hrow, hkx, hr2, hkx'])
                  | (refine AWp_condC rfl ?_; intro KA KB hKA hKB; try simp only [onB_true, onB_false, onB_dec, onB_ndec, onB_not, onB_and, onB_or])
                  | (refine AWp_condA rfl ?_ ?_)
                  | (refine ref2Its row r2 (by omega) (by omega) _ _ ?_; try simp (dsimp := false) only [go_sem, Nat.reduceAdd, Nat.reduceBEq, Nat.reduceEqDiff, Nat.reduceLT, Nat.reduceLeDiff, Nat.reduceMul, Int.reduceToNat, reduceCtorEq, ↓reduceIte, Tryd.ntmps20, Tryd.results20, ks_20, mu_20, nd_20, ti_ag22, ti_ag23, ti_ag25, ti_ag35, ti_ag68, ti_fe35, ti_fl25_0, ti_fl25_1, ti_hb48, ti_hb50, ti_hb56, ti_hb57, ti_hb58, ti_hb59, ti_pl25, ti_sb23, ti_sl23, ti_sl68, ti_sl142, ti_sz25, ti_sz35, ti_zr25, itD, itV, rlV, rowD, rlD, hrow, hkx, hr2, hkx'])
                  | (refine QCall_of (ref2Its row r2 (by omega) (by omega) _ _ (Two_intro _ _)) ?_; try simp (dsimp := false) only [go_sem, Nat.reduceAdd, Nat.reduceBEq, Nat.reduceEqDiff, Nat.reduceLT, Nat.reduceLeDiff, Nat.reduceMul, Int.reduceToNat, reduceCtorEq, ↓reduceIte, Tryd.ntmps20, Tryd.results20, ks_20, mu_20, nd_20, ti_ag22, ti_ag23, ti_ag25, ti_ag35, ti_ag68, ti_fe35, ti_fl25_0, ti_fl25_1, ti_hb48, ti_hb50, ti_hb56, ti_hb57, ti_hb58, ti_hb59, ti_pl25, ti_sb23, ti_sl23, ti_sl68, ti_sl142, ti_sz25, ti_sz35, ti_zr25, itD, itV, rlV, rowD, rlD, hrow, hkx, hr2, hkx'])
                  | with_reducible refine onB_of ?_ ?_
                  | with_reducible rfl
                  | omega)
                · exact dropF (hbad (hbig (by omega))) (fz_rl0 _ _ _) (bel_relE _ _ _)
                · exact ⟨(k2 + 1, acc2 ++ [row ++ r2]), ⟨by show k2 + 1 ≤ b.rows.length; omega, by simp; omega, hS2⟩, by show b.rows.length - (k2 + 1) < b.rows.length - k2; omega, by simp [rowC], by (repeat' (refine And.intro ?_ ?_)) <;> first | rfl | omega | simp⟩
              · have hS := joinPart_miss (q := q) (k := k) (x := row) hr2 (by rw [hgk']; exact hkk)
                have hxy : ¬ (k.k = k'.k ∧ k.n = k'.n ∧ k.s = k'.s) := fun h => hkk (by cases k; cases k'; simp at h; simp [h])
                rw [← hS] at f3
                clear hT hJ1 hP hPa hJl hS h3
                
                repeat' (first
                  | with_reducible refine And.intro ?_ ?_
                  | with_reducible intro _
                  | with_reducible refine AWp_seq ?_
                  | with_reducible refine AWp_block ?_
                  | (with_reducible refine hKv _ _ (AWp_nop ?_); clear hKv Kv)
                  | (with_reducible refine hKv _ _ ?_; clear hKv Kv; simp (dsimp := false) only [go_sem, Nat.reduceAdd, Nat.reduceBEq, Nat.reduceEqDiff, Nat.reduceLT, Nat.reduceLeDiff, Nat.reduceMul, Int.reduceToNat, reduceCtorEq, ↓reduceIte, Tryd.ntmps20, Tryd.results20, ks_20, mu_20, nd_20, ti_ag22, ti_ag23, ti_ag25, ti_ag35, ti_ag68, ti_fe35, ti_fl25_0, ti_fl25_1, ti_hb48, ti_hb50, ti_hb56, ti_hb57, ti_hb58, ti_hb59, ti_pl25, ti_sb23, ti_sl23, ti_sl68, ti_sl142, ti_sz25, ti_sz35, ti_zr25, itD, itV, rlV, rowD, rlD, hrow, hkx, hr2, hkx'])
                  | (with_reducible refine hKA ?_; clear hKA hKB KA KB)
                  | (with_reducible refine hKB ?_; clear hKA hKB KA KB)
                  | (with_reducible refine AWp_regC mu_20 ks_20 ?_; intro Kv hKv; simp (dsimp := false) only [go_sem, Nat.reduceAdd, Nat.reduceBEq, Nat.reduceEqDiff, Nat.reduceLT, Nat.reduceLeDiff, Nat.reduceMul, Int.reduceToNat, reduceCtorEq, ↓reduceIte, Tryd.ntmps20, Tryd.results20, ks_20, mu_20, nd_20, ti_ag22, ti_ag23, ti_ag25, ti_ag35, ti_ag68, ti_fe35, ti_fl25_0, ti_fl25_1, ti_hb48, ti_hb50, ti_hb56, ti_hb57, ti_hb58, ti_hb59, ti_pl25, ti_sb23, ti_sl23, ti_sl68, ti_sl142, ti_sz25, ti_sz35, ti_zr25, itD, itV, rlV, rowD, rlD, hrow, hkx, hr2, hkx'])
                  | (with_reducible refine AWp_draw nd_20 mu_20 ks_20 ti_mixed (by kernel_rfl) ?_; intro Kv hKv; simp (dsimp := false) only [go_sem, Nat.reduceAdd, Nat.reduceBEq, Nat.reduceEqDiff, Nat.reduceLT, Nat.reduceLeDiff, Nat.reduceMul, Int.reduceToNat, reduceCtorEq, ↓reduceIte, Tryd.ntmps20, Tryd.results20, ks_20, mu_20, nd_20, ti_ag22, ti_ag23, ti_ag25, ti_ag35, ti_ag68, ti_fe35, ti_fl25_0, ti_fl25_1, ti_hb48, ti_hb50, ti_hb56, ti_hb57, ti_hb58, ti_hb59, ti_pl25, ti_sb23, ti_sl23, ti_sl68, ti_sl142, ti_sz25, ti_sz35, ti_zr25, itD, itV, rlV, rowD, rlD, hrow, hkx, hr2, hkx'])
                  | with_reducible refine AWp_skipN ?_
                  | with_reducible refine AWp_exitO (by repeat (first | with_reducible exact Out.hit | with_reducible apply Out.thenA | with_reducible apply Out.out rfl)) ?_
                  | (with_reducible refine AWp_retR ?_; simp (dsimp := false) only [go_sem, Nat.reduceAdd, Nat.reduceBEq, Nat.reduceEqDiff, Nat.reduceLT, Nat.reduceLeDiff, Nat.reduceMul, Int.reduceToNat, reduceCtorEq, ↓reduceIte, Tryd.ntmps20, Tryd.results20, ks_20, mu_20, nd_20, ti_ag22, ti_ag23, ti_ag25, ti_ag35, ti_ag68, ti_fe35, ti_fl25_0, ti_fl25_1, ti_hb48, ti_hb50, ti_hb56, ti_hb57, ti_hb58, ti_hb59, ti_pl25, ti_sb23, ti_sl23, ti_sl68, ti_sl142, ti_sz25, ti_sz35, ti_zr25, itD, itV, rlV, rowD, rlD, hrow, hkx, hr2, hkx'])
                  | (with_reducible refine AWp_regE mu_20 ks_20 ?_; intro Kv hKv; simp (dsimp := false) only [go_sem, Nat.reduceAdd, Nat.reduceBEq, Nat.reduceEqDiff, Nat.reduceLT, Nat.reduceLeDiff, Nat.reduceMul, Int.reduceToNat, reduceCtorEq, ↓reduceIte, Tryd.ntmps20, Tryd.results20, ks_20, mu_20, nd_20, ti_ag22, ti_ag23, ti_ag25, ti_ag35, ti_ag68, ti_fe35, ti_fl25_0, ti_fl25_1, ti_hb48, ti_hb50, ti_hb56, ti_hb57, ti_hb58, ti_hb59, ti_pl25, ti_sb23, ti_sl23, ti_sl68, ti_sl142, ti_sz25, ti_sz35, ti_zr25, itD, itV, rlV, rowD, rlD, hrow, hkx, hr2, hkx'])
                  | (with_reducible refine AWp_drawE nd_20 mu_20 ks_20 ti_mixed (by kernel_rfl) ?_; intro Kv hKv; simp (dsimp := false) only [go_sem, Nat.reduceAdd, Nat.reduceBEq, Nat.reduceEqDiff, Nat.reduceLT, Nat.reduceLeDiff, Nat.reduceMul, Int.reduceToNat, reduceCtorEq, ↓reduceIte, Tryd.ntmps20, Tryd.results20, ks_20, mu_20, nd_20, ti_ag22, ti_ag23, ti_ag25, ti_ag35, ti_ag68, ti_fe35, ti_fl25_0, ti_fl25_1, ti_hb48, ti_hb50, ti_hb56, ti_hb57, ti_hb58, ti_hb59, ti_pl25, ti_sb23, ti_sl23, ti_sl68, ti_sl142, ti_sz25, ti_sz35, ti_zr25, itD, itV, rlV, rowD, rlD, hrow, hkx, hr2, hkx'])
                  | (refine AWp_condC rfl ?_; intro KA KB hKA hKB; try simp only [onB_true, onB_false, onB_dec, onB_ndec, onB_not, onB_and, onB_or])
                  | (refine AWp_condA rfl ?_ ?_)
                  | (refine ref2Its row r2 (by omega) (by omega) _ _ ?_; try simp (dsimp := false) only [go_sem, Nat.reduceAdd, Nat.reduceBEq, Nat.reduceEqDiff, Nat.reduceLT, Nat.reduceLeDiff, Nat.reduceMul, Int.reduceToNat, reduceCtorEq, ↓reduceIte, Tryd.ntmps20, Tryd.results20, ks_20, mu_20, nd_20, ti_ag22, ti_ag23, ti_ag25, ti_ag35, ti_ag68, ti_fe35, ti_fl25_0, ti_fl25_1, ti_hb48, ti_hb50, ti_hb56, ti_hb57, ti_hb58, ti_hb59, ti_pl25, ti_sb23, ti_sl23, ti_sl68, ti_sl142, ti_sz25, ti_sz35, ti_zr25, itD, itV, rlV, rowD, rlD, hrow, hkx, hr2, hkx'])
                  | (refine QCall_of (ref2Its row r2 (by omega) (by omega) _ _ (Two_intro _ _)) ?_; try simp (dsimp := false) only [go_sem, Nat.reduceAdd, Nat.reduceBEq, Nat.reduceEqDiff, Nat.reduceLT, Nat.reduceLeDiff, Nat.reduceMul, Int.reduceToNat, reduceCtorEq, ↓reduceIte, Tryd.ntmps20, Tryd.results20, ks_20, mu_20, nd_20, ti_ag22, ti_ag23, ti_ag25, ti_ag35, ti_ag68, ti_fe35, ti_fl25_0, ti_fl25_1, ti_hb48, ti_hb50, ti_hb56, ti_hb57, ti_hb58, ti_hb59, ti_pl25, ti_sb23, ti_sl23, ti_sl68, ti_sl142, ti_sz25, ti_sz35, ti_zr25, itD, itV, rlV, rowD, rlD, hrow, hkx, hr2, hkx'])
                  | with_reducible refine onB_of ?_ ?_
                  | with_reducible rfl
                  | omega)
                all_goals first
                  | exact absurd ⟨by assumption, by assumption, by assumption⟩ hxy
                  | exact ⟨(k2 + 1, acc2), ⟨by show k2 + 1 ≤ b.rows.length; omega, f2, f3⟩, by show b.rows.length - (k2 + 1) < b.rows.length - k2; omega, by (repeat' (refine And.intro ?_ ?_)) <;> first | rfl | omega | simp⟩
            · have e : k2 = b.rows.length := by omega
              subst e
              rw [← hT] at f3
              clear hJ1 hP hPa hJl h3
              
              repeat' (first
                | with_reducible refine And.intro ?_ ?_
                | with_reducible intro _
                | with_reducible refine AWp_seq ?_
                | with_reducible refine AWp_block ?_
                | (with_reducible refine hKv _ _ (AWp_nop ?_); clear hKv Kv)
                | (with_reducible refine hKv _ _ ?_; clear hKv Kv; simp (dsimp := false) only [go_sem, Nat.reduceAdd, Nat.reduceBEq, Nat.reduceEqDiff, Nat.reduceLT, Nat.reduceLeDiff, Nat.reduceMul, Int.reduceToNat, reduceCtorEq, ↓reduceIte, Tryd.ntmps20, Tryd.results20, ks_20, mu_20, nd_20, ti_ag22, ti_ag23, ti_ag25, ti_ag35, ti_ag68, ti_fe35, ti_fl25_0, ti_fl25_1, ti_hb48, ti_hb50, ti_hb56, ti_hb57, ti_hb58, ti_hb59, ti_pl25, ti_sb23, ti_sl23, ti_sl68, ti_sl142, ti_sz25, ti_sz35, ti_zr25, itD, itV, rlV, rowD, rlD])
                | (with_reducible refine hKA ?_; clear hKA hKB KA KB)
                | (with_reducible refine hKB ?_; clear hKA hKB KA KB)
                | (with_reducible refine AWp_regC mu_20 ks_20 ?_; intro Kv hKv; simp (dsimp := false) only [go_sem, Nat.reduceAdd, Nat.reduceBEq, Nat.reduceEqDiff, Nat.reduceLT, Nat.reduceLeDiff, Nat.reduceMul, Int.reduceToNat, reduceCtorEq, ↓reduceIte, Tryd.ntmps20, Tryd.results20, ks_20, mu_20, nd_20, ti_ag22, ti_ag23, ti_ag25, ti_ag35, ti_ag68, ti_fe35, ti_fl25_0, ti_fl25_1, ti_hb48, ti_hb50, ti_hb56, ti_hb57, ti_hb58, ti_hb59, ti_pl25, ti_sb23, ti_sl23, ti_sl68, ti_sl142, ti_sz25, ti_sz35, ti_zr25, itD, itV, rlV, rowD, rlD])
                | (with_reducible refine AWp_draw nd_20 mu_20 ks_20 ti_mixed (by kernel_rfl) ?_; intro Kv hKv; simp (dsimp := false) only [go_sem, Nat.reduceAdd, Nat.reduceBEq, Nat.reduceEqDiff, Nat.reduceLT, Nat.reduceLeDiff, Nat.reduceMul, Int.reduceToNat, reduceCtorEq, ↓reduceIte, Tryd.ntmps20, Tryd.results20, ks_20, mu_20, nd_20, ti_ag22, ti_ag23, ti_ag25, ti_ag35, ti_ag68, ti_fe35, ti_fl25_0, ti_fl25_1, ti_hb48, ti_hb50, ti_hb56, ti_hb57, ti_hb58, ti_hb59, ti_pl25, ti_sb23, ti_sl23, ti_sl68, ti_sl142, ti_sz25, ti_sz35, ti_zr25, itD, itV, rlV, rowD, rlD])
                | with_reducible refine AWp_skipN ?_
                | with_reducible refine AWp_exitO (by repeat (first | with_reducible exact Out.hit | with_reducible apply Out.thenA | with_reducible apply Out.out rfl)) ?_
                | (with_reducible refine AWp_retR ?_; simp (dsimp := false) only [go_sem, Nat.reduceAdd, Nat.reduceBEq, Nat.reduceEqDiff, Nat.reduceLT, Nat.reduceLeDiff, Nat.reduceMul, Int.reduceToNat, reduceCtorEq, ↓reduceIte, Tryd.ntmps20, Tryd.results20, ks_20, mu_20, nd_20, ti_ag22, ti_ag23, ti_ag25, ti_ag35, ti_ag68, ti_fe35, ti_fl25_0, ti_fl25_1, ti_hb48, ti_hb50, ti_hb56, ti_hb57, ti_hb58, ti_hb59, ti_pl25, ti_sb23, ti_sl23, ti_sl68, ti_sl142, ti_sz25, ti_sz35, ti_zr25, itD, itV, rlV, rowD, rlD])
                | (with_reducible refine AWp_regE mu_20 ks_20 ?_; intro Kv hKv; simp (dsimp := false) only [go_sem, Nat.reduceAdd, Nat.reduceBEq, Nat.reduceEqDiff, Nat.reduceLT, Nat.reduceLeDiff, Nat.reduceMul, Int.reduceToNat, reduceCtorEq, ↓reduceIte, Tryd.ntmps20, Tryd.results20, ks_20, mu_20, nd_20, ti_ag22, ti_ag23, ti_ag25, ti_ag35, ti_ag68, ti_fe35, ti_fl25_0, ti_fl25_1, ti_hb48, ti_hb50, ti_hb56, ti_hb57, ti_hb58, ti_hb59, ti_pl25, ti_sb23, ti_sl23, ti_sl68, ti_sl142, ti_sz25, ti_sz35, ti_zr25, itD, itV, rlV, rowD, rlD])
                | (with_reducible refine AWp_drawE nd_20 mu_20 ks_20 ti_mixed (by kernel_rfl) ?_; intro Kv hKv; simp (dsimp := false) only [go_sem, Nat.reduceAdd, Nat.reduceBEq, Nat.reduceEqDiff, Nat.reduceLT, Nat.reduceLeDiff, Nat.reduceMul, Int.reduceToNat, reduceCtorEq, ↓reduceIte, Tryd.ntmps20, Tryd.results20, ks_20, mu_20, nd_20, ti_ag22, ti_ag23, ti_ag25, ti_ag35, ti_ag68, ti_fe35, ti_fl25_0, ti_fl25_1, ti_hb48, ti_hb50, ti_hb56, ti_hb57, ti_hb58, ti_hb59, ti_pl25, ti_sb23, ti_sl23, ti_sl68, ti_sl142, ti_sz25, ti_sz35, ti_zr25, itD, itV, rlV, rowD, rlD])
                | (refine AWp_condC rfl ?_; intro KA KB hKA hKB; try simp only [onB_true, onB_false, onB_dec, onB_ndec, onB_not, onB_and, onB_or])
                | (refine AWp_condA rfl ?_ ?_)
                | with_reducible refine onB_of ?_ ?_
                | with_reducible rfl
                | omega)
              exact ⟨(i + 1, acc2), ⟨by show i + 1 ≤ a.rows.length; omega, f2, f3⟩, by show a.rows.length - (i + 1) < a.rows.length - i; omega, by (repeat' (refine And.intro ?_ ?_)) <;> first | rfl | omega | simp⟩
          · have e : i = a.rows.length := by omega
            subst e
            rw [List.take_length] at h3
            rw [← h3] at hk
            
            repeat' (first
              | with_reducible refine And.intro ?_ ?_
              | with_reducible intro _
              | with_reducible refine AWp_seq ?_
              | with_reducible refine AWp_block ?_
              | (with_reducible refine hKv _ _ (AWp_nop ?_); clear hKv Kv)
              | (with_reducible refine hKv _ _ ?_; clear hKv Kv; simp (dsimp := false) only [go_sem, Nat.reduceAdd, Nat.reduceBEq, Nat.reduceEqDiff, Nat.reduceLT, Nat.reduceLeDiff, Nat.reduceMul, Int.reduceToNat, reduceCtorEq, ↓reduceIte, Tryd.ntmps20, Tryd.results20, ks_20, mu_20, nd_20, ti_ag22, ti_ag23, ti_ag25, ti_ag35, ti_ag68, ti_fe35, ti_fl25_0, ti_fl25_1, ti_hb48, ti_hb50, ti_hb56, ti_hb57, ti_hb58, ti_hb59, ti_pl25, ti_sb23, ti_sl23, ti_sl68, ti_sl142, ti_sz25, ti_sz35, ti_zr25, itD, itV, rlV, rowD, rlD, finQ])
              | (with_reducible refine hKA ?_; clear hKA hKB KA KB)
              | (with_reducible refine hKB ?_; clear hKA hKB KA KB)
              | (with_reducible refine AWp_regC mu_20 ks_20 ?_; intro Kv hKv; simp (dsimp := false) only [go_sem, Nat.reduceAdd, Nat.reduceBEq, Nat.reduceEqDiff, Nat.reduceLT, Nat.reduceLeDiff, Nat.reduceMul, Int.reduceToNat, reduceCtorEq, ↓reduceIte, Tryd.ntmps20, Tryd.results20, ks_20, mu_20, nd_20, ti_ag22, ti_ag23, ti_ag25, ti_ag35, ti_ag68, ti_fe35, ti_fl25_0, ti_fl25_1, ti_hb48, ti_hb50, ti_hb56, ti_hb57, ti_hb58, ti_hb59, ti_pl25, ti_sb23, ti_sl23, ti_sl68, ti_sl142, ti_sz25, ti_sz35, ti_zr25, itD, itV, rlV, rowD, rlD, finQ])
              | (with_reducible refine AWp_draw nd_20 mu_20 ks_20 ti_mixed (by kernel_rfl) ?_; intro Kv hKv; simp (dsimp := false) only [go_sem, Nat.reduceAdd, Nat.reduceBEq, Nat.reduceEqDiff, Nat.reduceLT, Nat.reduceLeDiff, Nat.reduceMul, Int.reduceToNat, reduceCtorEq, ↓reduceIte, Tryd.ntmps20, Tryd.results20, ks_20, mu_20, nd_20, ti_ag22, ti_ag23, ti_ag25, ti_ag35, ti_ag68, ti_fe35, ti_fl25_0, ti_fl25_1, ti_hb48, ti_hb50, ti_hb56, ti_hb57, ti_hb58, ti_hb59, ti_pl25, ti_sb23, ti_sl23, ti_sl68, ti_sl142, ti_sz25, ti_sz35, ti_zr25, itD, itV, rlV, rowD, rlD, finQ])
              | with_reducible refine AWp_skipN ?_
              | with_reducible refine AWp_exitO (by repeat (first | with_reducible exact Out.hit | with_reducible apply Out.thenA | with_reducible apply Out.out rfl)) ?_
              | (with_reducible refine AWp_retR ?_; simp (dsimp := false) only [go_sem, Nat.reduceAdd, Nat.reduceBEq, Nat.reduceEqDiff, Nat.reduceLT, Nat.reduceLeDiff, Nat.reduceMul, Int.reduceToNat, reduceCtorEq, ↓reduceIte, Tryd.ntmps20, Tryd.results20, ks_20, mu_20, nd_20, ti_ag22, ti_ag23, ti_ag25, ti_ag35, ti_ag68, ti_fe35, ti_fl25_0, ti_fl25_1, ti_hb48, ti_hb50, ti_hb56, ti_hb57, ti_hb58, ti_hb59, ti_pl25, ti_sb23, ti_sl23, ti_sl68, ti_sl142, ti_sz25, ti_sz35, ti_zr25, itD, itV, rlV, rowD, rlD, finQ])
              | (with_reducible refine AWp_regE mu_20 ks_20 ?_; intro Kv hKv; simp (dsimp := false) only [go_sem, Nat.reduceAdd, Nat.reduceBEq, Nat.reduceEqDiff, Nat.reduceLT, Nat.reduceLeDiff, Nat.reduceMul, Int.reduceToNat, reduceCtorEq, ↓reduceIte, Tryd.ntmps20, Tryd.results20, ks_20, mu_20, nd_20, ti_ag22, ti_ag23, ti_ag25, ti_ag35, ti_ag68, ti_fe35, ti_fl25_0, ti_fl25_1, ti_hb48, ti_hb50, ti_hb56, ti_hb57, ti_hb58, ti_hb59, ti_pl25, ti_sb23, ti_sl23, ti_sl68, ti_sl142, ti_sz25, ti_sz35, ti_zr25, itD, itV, rlV, rowD, rlD, finQ])
              | (with_reducible refine AWp_drawE nd_20 mu_20 ks_20 ti_mixed (by kernel_rfl) ?_; intro Kv hKv; simp (dsimp := false) only [go_sem, Nat.reduceAdd, Nat.reduceBEq, Nat.reduceEqDiff, Nat.reduceLT, Nat.reduceLeDiff, Nat.reduceMul, Int.reduceToNat, reduceCtorEq, ↓reduceIte, Tryd.ntmps20, Tryd.results20, ks_20, mu_20, nd_20, ti_ag22, ti_ag23, ti_ag25, ti_ag35, ti_ag68, ti_fe35, ti_fl25_0, ti_fl25_1, ti_hb48, ti_hb50, ti_hb56, ti_hb57, ti_hb58, ti_hb59, ti_pl25, ti_sb23, ti_sl23, ti_sl68, ti_sl142, ti_sz25, ti_sz35, ti_zr25, itD, itV, rlV, rowD, rlD, finQ])
              | (refine AWp_condC rfl ?_; intro KA KB hKA hKB; try simp only [onB_true, onB_false, onB_dec, onB_ndec, onB_not, onB_and, onB_or])
              | (refine AWp_condA rfl ?_ ?_)
              | (refine ref2Str a.cols b.cols (by omega) (by omega) _ _ ?_; try simp (dsimp := false) only [go_sem, Nat.reduceAdd, Nat.reduceBEq, Nat.reduceEqDiff, Nat.reduceLT, Nat.reduceLeDiff, Nat.reduceMul, Int.reduceToNat, reduceCtorEq, ↓reduceIte, Tryd.ntmps20, Tryd.results20, ks_20, mu_20, nd_20, ti_ag22, ti_ag23, ti_ag25, ti_ag35, ti_ag68, ti_fe35, ti_fl25_0, ti_fl25_1, ti_hb48, ti_hb50, ti_hb56, ti_hb57, ti_hb58, ti_hb59, ti_pl25, ti_sb23, ti_sl23, ti_sl68, ti_sl142, ti_sz25, ti_sz35, ti_zr25, itD, itV, rlV, rowD, rlD, finQ])
              | (refine QCall_of (ref2Str a.cols b.cols (by omega) (by omega) _ _ (Two_intro _ _)) ?_; try simp (dsimp := false) only [go_sem, Nat.reduceAdd, Nat.reduceBEq, Nat.reduceEqDiff, Nat.reduceLT, Nat.reduceLeDiff, Nat.reduceMul, Int.reduceToNat, reduceCtorEq, ↓reduceIte, Tryd.ntmps20, Tryd.results20, ks_20, mu_20, nd_20, ti_ag22, ti_ag23, ti_ag25, ti_ag35, ti_ag68, ti_fe35, ti_fl25_0, ti_fl25_1, ti_hb48, ti_hb50, ti_hb56, ti_hb57, ti_hb58, ti_hb59, ti_pl25, ti_sb23, ti_sl23, ti_sl68, ti_sl142, ti_sz25, ti_sz35, ti_zr25, itD, itV, rlV, rowD, rlD, finQ])
              | (refine relOfO_A (a.cols ++ b.cols) _ _ _ _ (by omega) hcs (by rw [List.length_map]; omega) _ _ ((get_appk _ _ 1).trans rfl) ?_; try simp (dsimp := false) only [go_sem, Nat.reduceAdd, Nat.reduceBEq, Nat.reduceEqDiff, Nat.reduceLT, Nat.reduceLeDiff, Nat.reduceMul, Int.reduceToNat, reduceCtorEq, ↓reduceIte, Tryd.ntmps20, Tryd.results20, ks_20, mu_20, nd_20, ti_ag22, ti_ag23, ti_ag25, ti_ag35, ti_ag68, ti_fe35, ti_fl25_0, ti_fl25_1, ti_hb48, ti_hb50, ti_hb56, ti_hb57, ti_hb58, ti_hb59, ti_pl25, ti_sb23, ti_sl23, ti_sl68, ti_sl142, ti_sz25, ti_sz35, ti_zr25, itD, itV, rlV, rowD, rlD, finQ])
              | (refine QCall_of (relOfO_A (a.cols ++ b.cols) _ _ _ _ (by omega) hcs (by rw [List.length_map]; omega) _ _ ((get_appk _ _ 1).trans rfl) (Two_intro _ _)) ?_; try simp (dsimp := false) only [go_sem, Nat.reduceAdd, Nat.reduceBEq, Nat.reduceEqDiff, Nat.reduceLT, Nat.reduceLeDiff, Nat.reduceMul, Int.reduceToNat, reduceCtorEq, ↓reduceIte, Tryd.ntmps20, Tryd.results20, ks_20, mu_20, nd_20, ti_ag22, ti_ag23, ti_ag25, ti_ag35, ti_ag68, ti_fe35, ti_fl25_0, ti_fl25_1, ti_hb48, ti_hb50, ti_hb56, ti_hb57, ti_hb58, ti_hb59, ti_pl25, ti_sb23, ti_sl23, ti_sl68, ti_sl142, ti_sz25, ti_sz35, ti_zr25, itD, itV, rlV, rowD, rlD, finQ])
              | with_reducible refine onB_of ?_ ?_
              | with_reducible rfl
              | omega)
            · exact fin_ret hk (by assumption) (by omega) (get_appk _ _ 1)
            · exact fin_bad hk rfl (by assumption)
        · have hmf : ∀ n, madeFault (a.cols ++ b.cols) n = colsFault (a.cols ++ b.cols) := fun n => by rw [madeFault, if_neg hcf]
          rw [made, if_neg (by rw [hmf]; exact hcf), hmf] at hk
          
          refine ACalls_of Tryd.func20 rfl in_20 (Nat.le_of_ble_eq_true rfl) ?_
          intro F hF
          simp (dsimp := false) only [go_sem, Nat.reduceAdd, Nat.reduceBEq, Nat.reduceEqDiff, Nat.reduceLT, Nat.reduceLeDiff, Nat.reduceMul, Int.reduceToNat, reduceCtorEq, ↓reduceIte, Tryd.ntmps20, Tryd.results20, ks_20, mu_20, nd_20, ti_ag22, ti_ag23, ti_ag25, ti_ag35, ti_ag68, ti_fe35, ti_fl25_0, ti_fl25_1, ti_hb48, ti_hb50, ti_hb56, ti_hb57, ti_hb58, ti_hb59, ti_pl25, ti_sb23, ti_sl23, ti_sl68, ti_sl142, ti_sz25, ti_sz35, ti_zr25, itD, itV, rlV, rowD, rlD, hf, hpp, hqq, hc, hd, hcf, in_20] at hF
          subst hF
          repeat' (first
            | with_reducible refine And.intro ?_ ?_
            | with_reducible intro _
            | with_reducible refine AWp_seq ?_
            | with_reducible refine AWp_block ?_
            | (with_reducible refine hKv _ _ (AWp_nop ?_); clear hKv Kv)
            | (with_reducible refine hKv _ _ ?_; clear hKv Kv; simp (dsimp := false) only [go_sem, Nat.reduceAdd, Nat.reduceBEq, Nat.reduceEqDiff, Nat.reduceLT, Nat.reduceLeDiff, Nat.reduceMul, Int.reduceToNat, reduceCtorEq, ↓reduceIte, Tryd.ntmps20, Tryd.results20, ks_20, mu_20, nd_20, ti_ag22, ti_ag23, ti_ag25, ti_ag35, ti_ag68, ti_fe35, ti_fl25_0, ti_fl25_1, ti_hb48, ti_hb50, ti_hb56, ti_hb57, ti_hb58, ti_hb59, ti_pl25, ti_sb23, ti_sl23, ti_sl68, ti_sl142, ti_sz25, ti_sz35, ti_zr25, itD, itV, rlV, rowD, rlD, hf, hpp, hqq, hc, hd, hcf])
            | (with_reducible refine hKA ?_; clear hKA hKB KA KB)
            | (with_reducible refine hKB ?_; clear hKA hKB KA KB)
            | (with_reducible refine AWp_regC mu_20 ks_20 ?_; intro Kv hKv; simp (dsimp := false) only [go_sem, Nat.reduceAdd, Nat.reduceBEq, Nat.reduceEqDiff, Nat.reduceLT, Nat.reduceLeDiff, Nat.reduceMul, Int.reduceToNat, reduceCtorEq, ↓reduceIte, Tryd.ntmps20, Tryd.results20, ks_20, mu_20, nd_20, ti_ag22, ti_ag23, ti_ag25, ti_ag35, ti_ag68, ti_fe35, ti_fl25_0, ti_fl25_1, ti_hb48, ti_hb50, ti_hb56, ti_hb57, ti_hb58, ti_hb59, ti_pl25, ti_sb23, ti_sl23, ti_sl68, ti_sl142, ti_sz25, ti_sz35, ti_zr25, itD, itV, rlV, rowD, rlD, hf, hpp, hqq, hc, hd, hcf])
            | (with_reducible refine AWp_draw nd_20 mu_20 ks_20 ti_mixed (by kernel_rfl) ?_; intro Kv hKv; simp (dsimp := false) only [go_sem, Nat.reduceAdd, Nat.reduceBEq, Nat.reduceEqDiff, Nat.reduceLT, Nat.reduceLeDiff, Nat.reduceMul, Int.reduceToNat, reduceCtorEq, ↓reduceIte, Tryd.ntmps20, Tryd.results20, ks_20, mu_20, nd_20, ti_ag22, ti_ag23, ti_ag25, ti_ag35, ti_ag68, ti_fe35, ti_fl25_0, ti_fl25_1, ti_hb48, ti_hb50, ti_hb56, ti_hb57, ti_hb58, ti_hb59, ti_pl25, ti_sb23, ti_sl23, ti_sl68, ti_sl142, ti_sz25, ti_sz35, ti_zr25, itD, itV, rlV, rowD, rlD, hf, hpp, hqq, hc, hd, hcf])
            | with_reducible refine AWp_skipN ?_
            | with_reducible refine AWp_exitO (by repeat (first | with_reducible exact Out.hit | with_reducible apply Out.thenA | with_reducible apply Out.out rfl)) ?_
            | (with_reducible refine AWp_retR ?_; simp (dsimp := false) only [go_sem, Nat.reduceAdd, Nat.reduceBEq, Nat.reduceEqDiff, Nat.reduceLT, Nat.reduceLeDiff, Nat.reduceMul, Int.reduceToNat, reduceCtorEq, ↓reduceIte, Tryd.ntmps20, Tryd.results20, ks_20, mu_20, nd_20, ti_ag22, ti_ag23, ti_ag25, ti_ag35, ti_ag68, ti_fe35, ti_fl25_0, ti_fl25_1, ti_hb48, ti_hb50, ti_hb56, ti_hb57, ti_hb58, ti_hb59, ti_pl25, ti_sb23, ti_sl23, ti_sl68, ti_sl142, ti_sz25, ti_sz35, ti_zr25, itD, itV, rlV, rowD, rlD, hf, hpp, hqq, hc, hd, hcf])
            | (with_reducible refine AWp_regE mu_20 ks_20 ?_; intro Kv hKv; simp (dsimp := false) only [go_sem, Nat.reduceAdd, Nat.reduceBEq, Nat.reduceEqDiff, Nat.reduceLT, Nat.reduceLeDiff, Nat.reduceMul, Int.reduceToNat, reduceCtorEq, ↓reduceIte, Tryd.ntmps20, Tryd.results20, ks_20, mu_20, nd_20, ti_ag22, ti_ag23, ti_ag25, ti_ag35, ti_ag68, ti_fe35, ti_fl25_0, ti_fl25_1, ti_hb48, ti_hb50, ti_hb56, ti_hb57, ti_hb58, ti_hb59, ti_pl25, ti_sb23, ti_sl23, ti_sl68, ti_sl142, ti_sz25, ti_sz35, ti_zr25, itD, itV, rlV, rowD, rlD, hf, hpp, hqq, hc, hd, hcf])
            | (with_reducible refine AWp_drawE nd_20 mu_20 ks_20 ti_mixed (by kernel_rfl) ?_; intro Kv hKv; simp (dsimp := false) only [go_sem, Nat.reduceAdd, Nat.reduceBEq, Nat.reduceEqDiff, Nat.reduceLT, Nat.reduceLeDiff, Nat.reduceMul, Int.reduceToNat, reduceCtorEq, ↓reduceIte, Tryd.ntmps20, Tryd.results20, ks_20, mu_20, nd_20, ti_ag22, ti_ag23, ti_ag25, ti_ag35, ti_ag68, ti_fe35, ti_fl25_0, ti_fl25_1, ti_hb48, ti_hb50, ti_hb56, ti_hb57, ti_hb58, ti_hb59, ti_pl25, ti_sb23, ti_sl23, ti_sl68, ti_sl142, ti_sz25, ti_sz35, ti_zr25, itD, itV, rlV, rowD, rlD, hf, hpp, hqq, hc, hd, hcf])
            | (refine AWp_condC rfl ?_; intro KA KB hKA hKB; try simp only [onB_true, onB_false, onB_dec, onB_ndec, onB_not, onB_and, onB_or])
            | (refine AWp_condA rfl ?_ ?_)
            | (refine refTwoFault_A a b hA hB _ _ ?_; try simp (dsimp := false) only [go_sem, Nat.reduceAdd, Nat.reduceBEq, Nat.reduceEqDiff, Nat.reduceLT, Nat.reduceLeDiff, Nat.reduceMul, Int.reduceToNat, reduceCtorEq, ↓reduceIte, Tryd.ntmps20, Tryd.results20, ks_20, mu_20, nd_20, ti_ag22, ti_ag23, ti_ag25, ti_ag35, ti_ag68, ti_fe35, ti_fl25_0, ti_fl25_1, ti_hb48, ti_hb50, ti_hb56, ti_hb57, ti_hb58, ti_hb59, ti_pl25, ti_sb23, ti_sl23, ti_sl68, ti_sl142, ti_sz25, ti_sz35, ti_zr25, itD, itV, rlV, rowD, rlD, hf, hpp, hqq, hc, hd, hcf])
            | (refine QCall_of (refTwoFault_A a b hA hB _ _ (Two_intro _ _)) ?_; try simp (dsimp := false) only [go_sem, Nat.reduceAdd, Nat.reduceBEq, Nat.reduceEqDiff, Nat.reduceLT, Nat.reduceLeDiff, Nat.reduceMul, Int.reduceToNat, reduceCtorEq, ↓reduceIte, Tryd.ntmps20, Tryd.results20, ks_20, mu_20, nd_20, ti_ag22, ti_ag23, ti_ag25, ti_ag35, ti_ag68, ti_fe35, ti_fl25_0, ti_fl25_1, ti_hb48, ti_hb50, ti_hb56, ti_hb57, ti_hb58, ti_hb59, ti_pl25, ti_sb23, ti_sl23, ti_sl68, ti_sl142, ti_sz25, ti_sz35, ti_zr25, itD, itV, rlV, rowD, rlD, hf, hpp, hqq, hc, hd, hcf])
            | (refine colAt_A a hA x _ _ ?_; try simp (dsimp := false) only [go_sem, Nat.reduceAdd, Nat.reduceBEq, Nat.reduceEqDiff, Nat.reduceLT, Nat.reduceLeDiff, Nat.reduceMul, Int.reduceToNat, reduceCtorEq, ↓reduceIte, Tryd.ntmps20, Tryd.results20, ks_20, mu_20, nd_20, ti_ag22, ti_ag23, ti_ag25, ti_ag35, ti_ag68, ti_fe35, ti_fl25_0, ti_fl25_1, ti_hb48, ti_hb50, ti_hb56, ti_hb57, ti_hb58, ti_hb59, ti_pl25, ti_sb23, ti_sl23, ti_sl68, ti_sl142, ti_sz25, ti_sz35, ti_zr25, itD, itV, rlV, rowD, rlD, hf, hpp, hqq, hc, hd, hcf])
            | (refine QCall_of (colAt_A a hA x _ _ (Two_intro _ _)) ?_; try simp (dsimp := false) only [go_sem, Nat.reduceAdd, Nat.reduceBEq, Nat.reduceEqDiff, Nat.reduceLT, Nat.reduceLeDiff, Nat.reduceMul, Int.reduceToNat, reduceCtorEq, ↓reduceIte, Tryd.ntmps20, Tryd.results20, ks_20, mu_20, nd_20, ti_ag22, ti_ag23, ti_ag25, ti_ag35, ti_ag68, ti_fe35, ti_fl25_0, ti_fl25_1, ti_hb48, ti_hb50, ti_hb56, ti_hb57, ti_hb58, ti_hb59, ti_pl25, ti_sb23, ti_sl23, ti_sl68, ti_sl142, ti_sz25, ti_sz35, ti_zr25, itD, itV, rlV, rowD, rlD, hf, hpp, hqq, hc, hd, hcf])
            | (refine colAt_A b hB y _ _ ?_; try simp (dsimp := false) only [go_sem, Nat.reduceAdd, Nat.reduceBEq, Nat.reduceEqDiff, Nat.reduceLT, Nat.reduceLeDiff, Nat.reduceMul, Int.reduceToNat, reduceCtorEq, ↓reduceIte, Tryd.ntmps20, Tryd.results20, ks_20, mu_20, nd_20, ti_ag22, ti_ag23, ti_ag25, ti_ag35, ti_ag68, ti_fe35, ti_fl25_0, ti_fl25_1, ti_hb48, ti_hb50, ti_hb56, ti_hb57, ti_hb58, ti_hb59, ti_pl25, ti_sb23, ti_sl23, ti_sl68, ti_sl142, ti_sz25, ti_sz35, ti_zr25, itD, itV, rlV, rowD, rlD, hf, hpp, hqq, hc, hd, hcf])
            | (refine QCall_of (colAt_A b hB y _ _ (Two_intro _ _)) ?_; try simp (dsimp := false) only [go_sem, Nat.reduceAdd, Nat.reduceBEq, Nat.reduceEqDiff, Nat.reduceLT, Nat.reduceLeDiff, Nat.reduceMul, Int.reduceToNat, reduceCtorEq, ↓reduceIte, Tryd.ntmps20, Tryd.results20, ks_20, mu_20, nd_20, ti_ag22, ti_ag23, ti_ag25, ti_ag35, ti_ag68, ti_fe35, ti_fl25_0, ti_fl25_1, ti_hb48, ti_hb50, ti_hb56, ti_hb57, ti_hb58, ti_hb59, ti_pl25, ti_sb23, ti_sl23, ti_sl68, ti_sl142, ti_sz25, ti_sz35, ti_zr25, itD, itV, rlV, rowD, rlD, hf, hpp, hqq, hc, hd, hcf])
            | (refine ref2Str a.cols b.cols (by omega) (by omega) _ _ ?_; try simp (dsimp := false) only [go_sem, Nat.reduceAdd, Nat.reduceBEq, Nat.reduceEqDiff, Nat.reduceLT, Nat.reduceLeDiff, Nat.reduceMul, Int.reduceToNat, reduceCtorEq, ↓reduceIte, Tryd.ntmps20, Tryd.results20, ks_20, mu_20, nd_20, ti_ag22, ti_ag23, ti_ag25, ti_ag35, ti_ag68, ti_fe35, ti_fl25_0, ti_fl25_1, ti_hb48, ti_hb50, ti_hb56, ti_hb57, ti_hb58, ti_hb59, ti_pl25, ti_sb23, ti_sl23, ti_sl68, ti_sl142, ti_sz25, ti_sz35, ti_zr25, itD, itV, rlV, rowD, rlD, hf, hpp, hqq, hc, hd, hcf])
            | (refine QCall_of (ref2Str a.cols b.cols (by omega) (by omega) _ _ (Two_intro _ _)) ?_; try simp (dsimp := false) only [go_sem, Nat.reduceAdd, Nat.reduceBEq, Nat.reduceEqDiff, Nat.reduceLT, Nat.reduceLeDiff, Nat.reduceMul, Int.reduceToNat, reduceCtorEq, ↓reduceIte, Tryd.ntmps20, Tryd.results20, ks_20, mu_20, nd_20, ti_ag22, ti_ag23, ti_ag25, ti_ag35, ti_ag68, ti_fe35, ti_fl25_0, ti_fl25_1, ti_hb48, ti_hb50, ti_hb56, ti_hb57, ti_hb58, ti_hb59, ti_pl25, ti_sb23, ti_sl23, ti_sl68, ti_sl142, ti_sz25, ti_sz35, ti_zr25, itD, itV, rlV, rowD, rlD, hf, hpp, hqq, hc, hd, hcf])
            | (refine colsFault_A (a.cols ++ b.cols) (by omega) hcs' _ _ ?_; try simp (dsimp := false) only [go_sem, Nat.reduceAdd, Nat.reduceBEq, Nat.reduceEqDiff, Nat.reduceLT, Nat.reduceLeDiff, Nat.reduceMul, Int.reduceToNat, reduceCtorEq, ↓reduceIte, Tryd.ntmps20, Tryd.results20, ks_20, mu_20, nd_20, ti_ag22, ti_ag23, ti_ag25, ti_ag35, ti_ag68, ti_fe35, ti_fl25_0, ti_fl25_1, ti_hb48, ti_hb50, ti_hb56, ti_hb57, ti_hb58, ti_hb59, ti_pl25, ti_sb23, ti_sl23, ti_sl68, ti_sl142, ti_sz25, ti_sz35, ti_zr25, itD, itV, rlV, rowD, rlD, hf, hpp, hqq, hc, hd, hcf])
            | (refine QCall_of (colsFault_A (a.cols ++ b.cols) (by omega) hcs' _ _ (Two_intro _ _)) ?_; try simp (dsimp := false) only [go_sem, Nat.reduceAdd, Nat.reduceBEq, Nat.reduceEqDiff, Nat.reduceLT, Nat.reduceLeDiff, Nat.reduceMul, Int.reduceToNat, reduceCtorEq, ↓reduceIte, Tryd.ntmps20, Tryd.results20, ks_20, mu_20, nd_20, ti_ag22, ti_ag23, ti_ag25, ti_ag35, ti_ag68, ti_fe35, ti_fl25_0, ti_fl25_1, ti_hb48, ti_hb50, ti_hb56, ti_hb57, ti_hb58, ti_hb59, ti_pl25, ti_sb23, ti_sl23, ti_sl68, ti_sl142, ti_sz25, ti_sz35, ti_zr25, itD, itV, rlV, rowD, rlD, hf, hpp, hqq, hc, hd, hcf])
            | with_reducible refine onB_of ?_ ?_
            | with_reducible rfl
            | omega)
          all_goals first
            | exact dropF hk (fz_rl0 _ _ _) (bel_relE _ _ _)
            | omega
  · rw [joined, if_neg hf] at hk
    
    refine ACalls_of Tryd.func20 rfl in_20 (Nat.le_of_ble_eq_true rfl) ?_
    intro F hF
    simp (dsimp := false) only [go_sem, Nat.reduceAdd, Nat.reduceBEq, Nat.reduceEqDiff, Nat.reduceLT, Nat.reduceLeDiff, Nat.reduceMul, Int.reduceToNat, reduceCtorEq, ↓reduceIte, Tryd.ntmps20, Tryd.results20, ks_20, mu_20, nd_20, ti_ag22, ti_ag23, ti_ag25, ti_ag35, ti_ag68, ti_fe35, ti_fl25_0, ti_fl25_1, ti_hb48, ti_hb50, ti_hb56, ti_hb57, ti_hb58, ti_hb59, ti_pl25, ti_sb23, ti_sl23, ti_sl68, ti_sl142, ti_sz25, ti_sz35, ti_zr25, itD, itV, rlV, rowD, rlD, hf, in_20] at hF
    subst hF
    repeat' (first
      | with_reducible refine And.intro ?_ ?_
      | with_reducible intro _
      | with_reducible refine AWp_seq ?_
      | with_reducible refine AWp_block ?_
      | (with_reducible refine hKv _ _ (AWp_nop ?_); clear hKv Kv)
      | (with_reducible refine hKv _ _ ?_; clear hKv Kv; simp (dsimp := false) only [go_sem, Nat.reduceAdd, Nat.reduceBEq, Nat.reduceEqDiff, Nat.reduceLT, Nat.reduceLeDiff, Nat.reduceMul, Int.reduceToNat, reduceCtorEq, ↓reduceIte, Tryd.ntmps20, Tryd.results20, ks_20, mu_20, nd_20, ti_ag22, ti_ag23, ti_ag25, ti_ag35, ti_ag68, ti_fe35, ti_fl25_0, ti_fl25_1, ti_hb48, ti_hb50, ti_hb56, ti_hb57, ti_hb58, ti_hb59, ti_pl25, ti_sb23, ti_sl23, ti_sl68, ti_sl142, ti_sz25, ti_sz35, ti_zr25, itD, itV, rlV, rowD, rlD, hf])
      | (with_reducible refine hKA ?_; clear hKA hKB KA KB)
      | (with_reducible refine hKB ?_; clear hKA hKB KA KB)
      | (with_reducible refine AWp_regC mu_20 ks_20 ?_; intro Kv hKv; simp (dsimp := false) only [go_sem, Nat.reduceAdd, Nat.reduceBEq, Nat.reduceEqDiff, Nat.reduceLT, Nat.reduceLeDiff, Nat.reduceMul, Int.reduceToNat, reduceCtorEq, ↓reduceIte, Tryd.ntmps20, Tryd.results20, ks_20, mu_20, nd_20, ti_ag22, ti_ag23, ti_ag25, ti_ag35, ti_ag68, ti_fe35, ti_fl25_0, ti_fl25_1, ti_hb48, ti_hb50, ti_hb56, ti_hb57, ti_hb58, ti_hb59, ti_pl25, ti_sb23, ti_sl23, ti_sl68, ti_sl142, ti_sz25, ti_sz35, ti_zr25, itD, itV, rlV, rowD, rlD, hf])
      | (with_reducible refine AWp_draw nd_20 mu_20 ks_20 ti_mixed (by kernel_rfl) ?_; intro Kv hKv; simp (dsimp := false) only [go_sem, Nat.reduceAdd, Nat.reduceBEq, Nat.reduceEqDiff, Nat.reduceLT, Nat.reduceLeDiff, Nat.reduceMul, Int.reduceToNat, reduceCtorEq, ↓reduceIte, Tryd.ntmps20, Tryd.results20, ks_20, mu_20, nd_20, ti_ag22, ti_ag23, ti_ag25, ti_ag35, ti_ag68, ti_fe35, ti_fl25_0, ti_fl25_1, ti_hb48, ti_hb50, ti_hb56, ti_hb57, ti_hb58, ti_hb59, ti_pl25, ti_sb23, ti_sl23, ti_sl68, ti_sl142, ti_sz25, ti_sz35, ti_zr25, itD, itV, rlV, rowD, rlD, hf])
      | with_reducible refine AWp_skipN ?_
      | with_reducible refine AWp_exitO (by repeat (first | with_reducible exact Out.hit | with_reducible apply Out.thenA | with_reducible apply Out.out rfl)) ?_
      | (with_reducible refine AWp_retR ?_; simp (dsimp := false) only [go_sem, Nat.reduceAdd, Nat.reduceBEq, Nat.reduceEqDiff, Nat.reduceLT, Nat.reduceLeDiff, Nat.reduceMul, Int.reduceToNat, reduceCtorEq, ↓reduceIte, Tryd.ntmps20, Tryd.results20, ks_20, mu_20, nd_20, ti_ag22, ti_ag23, ti_ag25, ti_ag35, ti_ag68, ti_fe35, ti_fl25_0, ti_fl25_1, ti_hb48, ti_hb50, ti_hb56, ti_hb57, ti_hb58, ti_hb59, ti_pl25, ti_sb23, ti_sl23, ti_sl68, ti_sl142, ti_sz25, ti_sz35, ti_zr25, itD, itV, rlV, rowD, rlD, hf])
      | (with_reducible refine AWp_regE mu_20 ks_20 ?_; intro Kv hKv; simp (dsimp := false) only [go_sem, Nat.reduceAdd, Nat.reduceBEq, Nat.reduceEqDiff, Nat.reduceLT, Nat.reduceLeDiff, Nat.reduceMul, Int.reduceToNat, reduceCtorEq, ↓reduceIte, Tryd.ntmps20, Tryd.results20, ks_20, mu_20, nd_20, ti_ag22, ti_ag23, ti_ag25, ti_ag35, ti_ag68, ti_fe35, ti_fl25_0, ti_fl25_1, ti_hb48, ti_hb50, ti_hb56, ti_hb57, ti_hb58, ti_hb59, ti_pl25, ti_sb23, ti_sl23, ti_sl68, ti_sl142, ti_sz25, ti_sz35, ti_zr25, itD, itV, rlV, rowD, rlD, hf])
      | (with_reducible refine AWp_drawE nd_20 mu_20 ks_20 ti_mixed (by kernel_rfl) ?_; intro Kv hKv; simp (dsimp := false) only [go_sem, Nat.reduceAdd, Nat.reduceBEq, Nat.reduceEqDiff, Nat.reduceLT, Nat.reduceLeDiff, Nat.reduceMul, Int.reduceToNat, reduceCtorEq, ↓reduceIte, Tryd.ntmps20, Tryd.results20, ks_20, mu_20, nd_20, ti_ag22, ti_ag23, ti_ag25, ti_ag35, ti_ag68, ti_fe35, ti_fl25_0, ti_fl25_1, ti_hb48, ti_hb50, ti_hb56, ti_hb57, ti_hb58, ti_hb59, ti_pl25, ti_sb23, ti_sl23, ti_sl68, ti_sl142, ti_sz25, ti_sz35, ti_zr25, itD, itV, rlV, rowD, rlD, hf])
      | (refine AWp_condC rfl ?_; intro KA KB hKA hKB; try simp only [onB_true, onB_false, onB_dec, onB_ndec, onB_not, onB_and, onB_or])
      | (refine AWp_condA rfl ?_ ?_)
      | (refine refTwoFault_A a b hA hB _ _ ?_; try simp (dsimp := false) only [go_sem, Nat.reduceAdd, Nat.reduceBEq, Nat.reduceEqDiff, Nat.reduceLT, Nat.reduceLeDiff, Nat.reduceMul, Int.reduceToNat, reduceCtorEq, ↓reduceIte, Tryd.ntmps20, Tryd.results20, ks_20, mu_20, nd_20, ti_ag22, ti_ag23, ti_ag25, ti_ag35, ti_ag68, ti_fe35, ti_fl25_0, ti_fl25_1, ti_hb48, ti_hb50, ti_hb56, ti_hb57, ti_hb58, ti_hb59, ti_pl25, ti_sb23, ti_sl23, ti_sl68, ti_sl142, ti_sz25, ti_sz35, ti_zr25, itD, itV, rlV, rowD, rlD, hf])
      | (refine QCall_of (refTwoFault_A a b hA hB _ _ (Two_intro _ _)) ?_; try simp (dsimp := false) only [go_sem, Nat.reduceAdd, Nat.reduceBEq, Nat.reduceEqDiff, Nat.reduceLT, Nat.reduceLeDiff, Nat.reduceMul, Int.reduceToNat, reduceCtorEq, ↓reduceIte, Tryd.ntmps20, Tryd.results20, ks_20, mu_20, nd_20, ti_ag22, ti_ag23, ti_ag25, ti_ag35, ti_ag68, ti_fe35, ti_fl25_0, ti_fl25_1, ti_hb48, ti_hb50, ti_hb56, ti_hb57, ti_hb58, ti_hb59, ti_pl25, ti_sb23, ti_sl23, ti_sl68, ti_sl142, ti_sz25, ti_sz35, ti_zr25, itD, itV, rlV, rowD, rlD, hf])
      | (refine colAt_A a hA x _ _ ?_; try simp (dsimp := false) only [go_sem, Nat.reduceAdd, Nat.reduceBEq, Nat.reduceEqDiff, Nat.reduceLT, Nat.reduceLeDiff, Nat.reduceMul, Int.reduceToNat, reduceCtorEq, ↓reduceIte, Tryd.ntmps20, Tryd.results20, ks_20, mu_20, nd_20, ti_ag22, ti_ag23, ti_ag25, ti_ag35, ti_ag68, ti_fe35, ti_fl25_0, ti_fl25_1, ti_hb48, ti_hb50, ti_hb56, ti_hb57, ti_hb58, ti_hb59, ti_pl25, ti_sb23, ti_sl23, ti_sl68, ti_sl142, ti_sz25, ti_sz35, ti_zr25, itD, itV, rlV, rowD, rlD, hf])
      | (refine QCall_of (colAt_A a hA x _ _ (Two_intro _ _)) ?_; try simp (dsimp := false) only [go_sem, Nat.reduceAdd, Nat.reduceBEq, Nat.reduceEqDiff, Nat.reduceLT, Nat.reduceLeDiff, Nat.reduceMul, Int.reduceToNat, reduceCtorEq, ↓reduceIte, Tryd.ntmps20, Tryd.results20, ks_20, mu_20, nd_20, ti_ag22, ti_ag23, ti_ag25, ti_ag35, ti_ag68, ti_fe35, ti_fl25_0, ti_fl25_1, ti_hb48, ti_hb50, ti_hb56, ti_hb57, ti_hb58, ti_hb59, ti_pl25, ti_sb23, ti_sl23, ti_sl68, ti_sl142, ti_sz25, ti_sz35, ti_zr25, itD, itV, rlV, rowD, rlD, hf])
      | (refine colAt_A b hB y _ _ ?_; try simp (dsimp := false) only [go_sem, Nat.reduceAdd, Nat.reduceBEq, Nat.reduceEqDiff, Nat.reduceLT, Nat.reduceLeDiff, Nat.reduceMul, Int.reduceToNat, reduceCtorEq, ↓reduceIte, Tryd.ntmps20, Tryd.results20, ks_20, mu_20, nd_20, ti_ag22, ti_ag23, ti_ag25, ti_ag35, ti_ag68, ti_fe35, ti_fl25_0, ti_fl25_1, ti_hb48, ti_hb50, ti_hb56, ti_hb57, ti_hb58, ti_hb59, ti_pl25, ti_sb23, ti_sl23, ti_sl68, ti_sl142, ti_sz25, ti_sz35, ti_zr25, itD, itV, rlV, rowD, rlD, hf])
      | (refine QCall_of (colAt_A b hB y _ _ (Two_intro _ _)) ?_; try simp (dsimp := false) only [go_sem, Nat.reduceAdd, Nat.reduceBEq, Nat.reduceEqDiff, Nat.reduceLT, Nat.reduceLeDiff, Nat.reduceMul, Int.reduceToNat, reduceCtorEq, ↓reduceIte, Tryd.ntmps20, Tryd.results20, ks_20, mu_20, nd_20, ti_ag22, ti_ag23, ti_ag25, ti_ag35, ti_ag68, ti_fe35, ti_fl25_0, ti_fl25_1, ti_hb48, ti_hb50, ti_hb56, ti_hb57, ti_hb58, ti_hb59, ti_pl25, ti_sb23, ti_sl23, ti_sl68, ti_sl142, ti_sz25, ti_sz35, ti_zr25, itD, itV, rlV, rowD, rlD, hf])
      | with_reducible refine onB_of ?_ ?_
      | with_reducible rfl
      | omega)
    all_goals first
      | exact dropF hk (fz_rl0 _ _ _) (bel_relE _ _ _)
      | omega
end Go.Proofs.YtafbojmnmadlpaaDoor
