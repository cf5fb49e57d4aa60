/- Rows that are joined: what the program makes. No condition but that the tables of package unicode/utf8 are there. -/
import Derived.Test.YtafbojmnmadlpaaDoorJn0
import Derived.Test.YtafbojmnmadlpaaDoorPj2
set_option linter.all false
set_option linter.unusedSimpArgs false
set_option linter.unusedVariables false
namespace Go.Proofs.YtafbojmnmadlpaaDoor
open Go Go.Proofs.YtafbojmnmadlpaaDoor.Ab
variable [Glo] [U8]
set_option maxHeartbeats 4000000
set_option maxRecDepth 20000
theorem obBel_map0 {m ver e : Nat} {sh : List Kd} {ks : List (List D)} {vs : List V} (h : ∀ v, v ∈ vs → Bel m v) : ObBel m (.row ver e 0 [[.mp sh ks vs]]) := by
  intro row hr v hv
  simp at hr
  subst hr
  simp at hv
  subst hv
  exact .mp _ _ _ h
theorem gVs_bel {α : Type} {b m : Nat} {G : List (It × List α)} (h : b + G.length ≤ m) : ∀ v, v ∈ gVs b G → Bel m v := fun v hv => by
  obtain ⟨i, hi⟩ := List.getElem?_of_mem hv
  rw [gVs, List.getElem?_mapIdx] at hi
  obtain ⟨g, hg, rfl⟩ := Option.map_eq_some_iff.1 hi
  have := lt_of_get hg
  exact .os _ _ (by omega)
theorem gObs_bel {m e : Nat} {α : Type} {c : α → List V} {d : α → List D} (hc : ∀ a, c a = (d a).map V.d) {sz : Nat} {G : List (It × List α)} : ∀ ob, ob ∈ gObs e sz c G → ObBel m ob := fun ob h => by
  obtain ⟨g, _, rfl⟩ := List.mem_map.1 h
  have : g.2.map c = g.2.map fun a => (d a).map V.d := by congr 1; funext a; exact hc a
  rw [this]
  exact obBel_map d _ _ _ _ _
/-- Which part of the heap an object of a group is. -/
theorem hget_g {H O : Heap} {A M : Ob} {j : Nat} {x : Ob} (h : O[j]? = some x) : (H ++ A :: M :: O)[H.length + 2 + j]? = some x := by
  rw [List.getElem?_append_right (by omega), show H.length + 2 + j - H.length = j + 2 by omega]
  simpa using h
theorem hset_g {H O : Heap} {A M X : Ob} {j : Nat} : (H ++ A :: M :: O).set (H.length + 2 + j) X = H ++ A :: M :: O.set j X := by
  rw [List.set_append_right _ _ (by omega), show H.length + 2 + j - H.length = j + 2 by omega]
  simp
theorem colsFault_len8 {l : List (List UInt8)} (h : colsFault l = 0) : l.length ≤ 8 := by
  unfold colsFault at h
  split at h
  · assumption
  · omega
def Shut (p : Prop) : Prop := p
theorem vset_last {α : Type} (l : List α) (a b : α) (n : Nat) (h : n = l.length) : (l ++ [a]).set n b = l ++ [b] := by
  subst h; simp

/- the live slots of pleacher/rel.Join -/
def ks_19 : Nat → List Nat
  | 0 => [2, 3, 4, 5, 8]
  | 1 => [2, 3, 4, 5, 8, 10]
  | 2 => [2, 3, 4, 5, 8, 10, 26]
  | 3 => [8, 9]
  | 4 => [3, 4, 5, 8, 11, 12]
  | 5 => [3, 4, 5, 8, 11, 12, 37]
  | 6 => [8, 9]
  | 7 => [4, 5, 8, 11, 12, 13]
  | 8 => [4, 5, 8, 11, 12, 13, 48]
  | 9 => [8, 9]
  | 10 => [4, 5, 8, 11, 13, 14]
  | 11 => [4, 5, 8, 11, 13, 14, 53, 54, 55]
  | 12 => [4, 5, 8, 11, 13, 14, 53, 54, 55, 56]
  | 13 => [4, 5, 8, 11, 13, 14, 15, 16, 53, 54, 55]
  | 14 => [4, 5, 8, 11, 13, 14, 53, 54, 55]
  | 15 => [4, 5, 8, 11, 13, 14, 53, 54, 55]
  | 16 => [4, 5, 8, 11, 14, 17]
  | 17 => [4, 5, 8, 11, 14, 17, 75, 76, 77]
  | 18 => [4, 5, 8, 11, 14, 17, 75, 76, 77, 78]
  | 19 => [4, 5, 8, 11, 14, 17, 19, 75, 76, 77]
  | 20 => [4, 5, 8, 11, 14, 17, 19, 75, 76, 77, 88, 89, 90]
  | 21 => [4, 5, 8, 11, 14, 17, 19, 75, 76, 77, 88, 89, 90, 91]
  | 22 => [4, 5, 8, 11, 14, 17, 19, 21, 75, 76, 77, 88, 89, 90]
  | 23 => [4, 5, 8, 11, 14, 17, 19, 75, 76, 77, 88, 89, 90]
  | 24 => [4, 5, 8, 11, 14, 17, 19, 75, 76, 77, 88, 89, 90, 107]
  | 25 => [4, 5, 8, 11, 14, 17, 19, 75, 76, 77, 88, 89, 90]
  | 26 => [4, 5, 8, 11, 14, 17, 75, 76, 77]
  | 27 => [8, 9]
  | _ => []
def mu_19 : List Nat := [17, 71]
def in_19 : List Nat := [0, 1, 2, 3]
theorem join_A (a b : Rl) (hA : ShR a) (hB : ShR b) (x y : List UInt8) (H : Heap) (K : V → Heap → Prop) (hk : K (relE (joined a b x y).1 (joined a b x y).2) H) :
    ACalls Tryd.prog 19 [rlV a, rlV b, .d (.s x), .d (.s y)] H K := by
  have q1 := hA.ncols
  have q2 := hA.nrows
  have q3 := hB.nrows
  have q4 := hB.ncols
  have hp := places_one a.cols x
  have hq := places_one b.cols y
  by_cases hf : twoFault a b = 0
  · by_cases hc : txtAt a.cols x < 0
    · rw [if_pos hc] at hp
      rw [joined, if_pos hf, if_pos (.inl hc)] at hk
      
      refine ACalls_of Tryd.func19 rfl in_19 (Nat.le_of_ble_eq_true rfl) ?_
      intro F hF
      simp (dsimp := false) only [go_sem, Nat.reduceAdd, Nat.reduceBEq, Nat.reduceEqDiff, Nat.reduceLT, Nat.reduceLeDiff, Nat.reduceMul, Int.reduceToNat, reduceCtorEq, ↓reduceIte, Tryd.ntmps19, Tryd.results19, ks_19, mu_19, ti_ag3, ti_ag22, ti_ag23, ti_ag25, ti_ag35, ti_ag68, ti_fl25_0, ti_fl25_1, ti_hb44, ti_hb46, ti_hb53, ti_hb54, ti_hb55, ti_ky35, ti_mp78, ti_pl25, ti_sb23, ti_sb64, ti_sl22, ti_sl23, ti_sl64, ti_sl68, ti_sl142, ti_sz25, ti_sz35, ti_zr25, ti_zv64, itD, itV, rlV, rowD, rlD, hf, hp, Option.getD_none, Option.isSome_none, in_19] at hF
      subst hF
      repeat' (first
        | with_reducible refine And.intro ?_ ?_
        | with_reducible intro _
        | with_reducible refine AWp_seq ?_
        | with_reducible refine AWp_block ?_
        | (with_reducible refine hKv _ _ (AWp_nop ?_); clear hKv Kv)
        | (with_reducible refine hKv _ _ ?_; clear hKv Kv; simp (dsimp := false) only [go_sem, Nat.reduceAdd, Nat.reduceBEq, Nat.reduceEqDiff, Nat.reduceLT, Nat.reduceLeDiff, Nat.reduceMul, Int.reduceToNat, reduceCtorEq, ↓reduceIte, Tryd.ntmps19, Tryd.results19, ks_19, mu_19, ti_ag3, ti_ag22, ti_ag23, ti_ag25, ti_ag35, ti_ag68, ti_fl25_0, ti_fl25_1, ti_hb44, ti_hb46, ti_hb53, ti_hb54, ti_hb55, ti_ky35, ti_mp78, ti_pl25, ti_sb23, ti_sb64, ti_sl22, ti_sl23, ti_sl64, ti_sl68, ti_sl142, ti_sz25, ti_sz35, ti_zr25, ti_zv64, itD, itV, rlV, rowD, rlD, hf, hp, Option.getD_none, Option.isSome_none])
        | (with_reducible refine hKA ?_; clear hKA hKB KA KB)
        | (with_reducible refine hKB ?_; clear hKA hKB KA KB)
        | (with_reducible refine AWp_regC mu_19 ks_19 ?_; intro Kv hKv; simp (dsimp := false) only [go_sem, Nat.reduceAdd, Nat.reduceBEq, Nat.reduceEqDiff, Nat.reduceLT, Nat.reduceLeDiff, Nat.reduceMul, Int.reduceToNat, reduceCtorEq, ↓reduceIte, Tryd.ntmps19, Tryd.results19, ks_19, mu_19, ti_ag3, ti_ag22, ti_ag23, ti_ag25, ti_ag35, ti_ag68, ti_fl25_0, ti_fl25_1, ti_hb44, ti_hb46, ti_hb53, ti_hb54, ti_hb55, ti_ky35, ti_mp78, ti_pl25, ti_sb23, ti_sb64, ti_sl22, ti_sl23, ti_sl64, ti_sl68, ti_sl142, ti_sz25, ti_sz35, ti_zr25, ti_zv64, itD, itV, rlV, rowD, rlD, hf, hp, Option.getD_none, Option.isSome_none])
        | with_reducible refine AWp_skipN ?_
        | with_reducible refine AWp_exitO (by repeat (first | with_reducible exact Out.hit | with_reducible apply Out.thenA | with_reducible apply Out.out rfl)) ?_
        | (with_reducible refine AWp_retR ?_; simp (dsimp := false) only [go_sem, Nat.reduceAdd, Nat.reduceBEq, Nat.reduceEqDiff, Nat.reduceLT, Nat.reduceLeDiff, Nat.reduceMul, Int.reduceToNat, reduceCtorEq, ↓reduceIte, Tryd.ntmps19, Tryd.results19, ks_19, mu_19, ti_ag3, ti_ag22, ti_ag23, ti_ag25, ti_ag35, ti_ag68, ti_fl25_0, ti_fl25_1, ti_hb44, ti_hb46, ti_hb53, ti_hb54, ti_hb55, ti_ky35, ti_mp78, ti_pl25, ti_sb23, ti_sb64, ti_sl22, ti_sl23, ti_sl64, ti_sl68, ti_sl142, ti_sz25, ti_sz35, ti_zr25, ti_zv64, itD, itV, rlV, rowD, rlD, hf, hp, Option.getD_none, Option.isSome_none])
        | (with_reducible refine AWp_regE mu_19 ks_19 ?_; intro Kv hKv; simp (dsimp := false) only [go_sem, Nat.reduceAdd, Nat.reduceBEq, Nat.reduceEqDiff, Nat.reduceLT, Nat.reduceLeDiff, Nat.reduceMul, Int.reduceToNat, reduceCtorEq, ↓reduceIte, Tryd.ntmps19, Tryd.results19, ks_19, mu_19, ti_ag3, ti_ag22, ti_ag23, ti_ag25, ti_ag35, ti_ag68, ti_fl25_0, ti_fl25_1, ti_hb44, ti_hb46, ti_hb53, ti_hb54, ti_hb55, ti_ky35, ti_mp78, ti_pl25, ti_sb23, ti_sb64, ti_sl22, ti_sl23, ti_sl64, ti_sl68, ti_sl142, ti_sz25, ti_sz35, ti_zr25, ti_zv64, itD, itV, rlV, rowD, rlD, hf, hp, Option.getD_none, Option.isSome_none])
        | (refine AWp_condC rfl ?_; intro KA KB hKA hKB; try simp only [onB_true, onB_false, onB_dec, onB_ndec, onB_not, onB_and, onB_or])
        | (refine AWp_condA rfl ?_ ?_)
        | (refine both_A a b hA hB _ _ ?_; try simp (dsimp := false) only [go_sem, Nat.reduceAdd, Nat.reduceBEq, Nat.reduceEqDiff, Nat.reduceLT, Nat.reduceLeDiff, Nat.reduceMul, Int.reduceToNat, reduceCtorEq, ↓reduceIte, Tryd.ntmps19, Tryd.results19, ks_19, mu_19, ti_ag3, ti_ag22, ti_ag23, ti_ag25, ti_ag35, ti_ag68, ti_fl25_0, ti_fl25_1, ti_hb44, ti_hb46, ti_hb53, ti_hb54, ti_hb55, ti_ky35, ti_mp78, ti_pl25, ti_sb23, ti_sb64, ti_sl22, ti_sl23, ti_sl64, ti_sl68, ti_sl142, ti_sz25, ti_sz35, ti_zr25, ti_zv64, itD, itV, rlV, rowD, rlD, hf, hp, Option.getD_none, Option.isSome_none])
        | (refine places_A a hA [x] (by simp) _ _ ?_; try simp (dsimp := false) only [go_sem, Nat.reduceAdd, Nat.reduceBEq, Nat.reduceEqDiff, Nat.reduceLT, Nat.reduceLeDiff, Nat.reduceMul, Int.reduceToNat, reduceCtorEq, ↓reduceIte, Tryd.ntmps19, Tryd.results19, ks_19, mu_19, ti_ag3, ti_ag22, ti_ag23, ti_ag25, ti_ag35, ti_ag68, ti_fl25_0, ti_fl25_1, ti_hb44, ti_hb46, ti_hb53, ti_hb54, ti_hb55, ti_ky35, ti_mp78, ti_pl25, ti_sb23, ti_sb64, ti_sl22, ti_sl23, ti_sl64, ti_sl68, ti_sl142, ti_sz25, ti_sz35, ti_zr25, ti_zv64, itD, itV, rlV, rowD, rlD, hf, hp, Option.getD_none, Option.isSome_none])
        | with_reducible refine onB_of ?_ ?_
        | with_reducible rfl
        | omega)
      all_goals exact dropF hk (fz_rl0 _ _ _) (bel_relE _ _ _)
    · by_cases hd : txtAt b.cols y < 0
      · rw [if_neg hc] at hp
        rw [if_pos hd] at hq
        rw [joined, if_pos hf, if_pos (.inr hd)] at hk
        
        refine ACalls_of Tryd.func19 rfl in_19 (Nat.le_of_ble_eq_true rfl) ?_
        intro F hF
        simp (dsimp := false) only [go_sem, Nat.reduceAdd, Nat.reduceBEq, Nat.reduceEqDiff, Nat.reduceLT, Nat.reduceLeDiff, Nat.reduceMul, Int.reduceToNat, reduceCtorEq, ↓reduceIte, Tryd.ntmps19, Tryd.results19, ks_19, mu_19, ti_ag3, ti_ag22, ti_ag23, ti_ag25, ti_ag35, ti_ag68, ti_fl25_0, ti_fl25_1, ti_hb44, ti_hb46, ti_hb53, ti_hb54, ti_hb55, ti_ky35, ti_mp78, ti_pl25, ti_sb23, ti_sb64, ti_sl22, ti_sl23, ti_sl64, ti_sl68, ti_sl142, ti_sz25, ti_sz35, ti_zr25, ti_zv64, itD, itV, rlV, rowD, rlD, hf, hp, hq, Option.getD_none, Option.isSome_none, Option.getD_some, Option.isSome_some, in_19] at hF
        subst hF
        repeat' (first
          | with_reducible refine And.intro ?_ ?_
          | with_reducible intro _
          | with_reducible refine AWp_seq ?_
          | with_reducible refine AWp_block ?_
          | (with_reducible refine hKv _ _ (AWp_nop ?_); clear hKv Kv)
          | (with_reducible refine hKv _ _ ?_; clear hKv Kv; simp (dsimp := false) only [go_sem, Nat.reduceAdd, Nat.reduceBEq, Nat.reduceEqDiff, Nat.reduceLT, Nat.reduceLeDiff, Nat.reduceMul, Int.reduceToNat, reduceCtorEq, ↓reduceIte, Tryd.ntmps19, Tryd.results19, ks_19, mu_19, ti_ag3, ti_ag22, ti_ag23, ti_ag25, ti_ag35, ti_ag68, ti_fl25_0, ti_fl25_1, ti_hb44, ti_hb46, ti_hb53, ti_hb54, ti_hb55, ti_ky35, ti_mp78, ti_pl25, ti_sb23, ti_sb64, ti_sl22, ti_sl23, ti_sl64, ti_sl68, ti_sl142, ti_sz25, ti_sz35, ti_zr25, ti_zv64, itD, itV, rlV, rowD, rlD, hf, hp, hq, Option.getD_none, Option.isSome_none, Option.getD_some, Option.isSome_some])
          | (with_reducible refine hKA ?_; clear hKA hKB KA KB)
          | (with_reducible refine hKB ?_; clear hKA hKB KA KB)
          | (with_reducible refine AWp_regC mu_19 ks_19 ?_; intro Kv hKv; simp (dsimp := false) only [go_sem, Nat.reduceAdd, Nat.reduceBEq, Nat.reduceEqDiff, Nat.reduceLT, Nat.reduceLeDiff, Nat.reduceMul, Int.reduceToNat, reduceCtorEq, ↓reduceIte, Tryd.ntmps19, Tryd.results19, ks_19, mu_19, ti_ag3, ti_ag22, ti_ag23, ti_ag25, ti_ag35, ti_ag68, ti_fl25_0, ti_fl25_1, ti_hb44, ti_hb46, ti_hb53, ti_hb54, ti_hb55, ti_ky35, ti_mp78, ti_pl25, ti_sb23, ti_sb64, ti_sl22, ti_sl23, ti_sl64, ti_sl68, ti_sl142, ti_sz25, ti_sz35, ti_zr25, ti_zv64, itD, itV, rlV, rowD, rlD, hf, hp, hq, Option.getD_none, Option.isSome_none, Option.getD_some, Option.isSome_some])
          | with_reducible refine AWp_skipN ?_
          | with_reducible refine AWp_exitO (by repeat (first | with_reducible exact Out.hit | with_reducible apply Out.thenA | with_reducible apply Out.out rfl)) ?_
          | (with_reducible refine AWp_retR ?_; simp (dsimp := false) only [go_sem, Nat.reduceAdd, Nat.reduceBEq, Nat.reduceEqDiff, Nat.reduceLT, Nat.reduceLeDiff, Nat.reduceMul, Int.reduceToNat, reduceCtorEq, ↓reduceIte, Tryd.ntmps19, Tryd.results19, ks_19, mu_19, ti_ag3, ti_ag22, ti_ag23, ti_ag25, ti_ag35, ti_ag68, ti_fl25_0, ti_fl25_1, ti_hb44, ti_hb46, ti_hb53, ti_hb54, ti_hb55, ti_ky35, ti_mp78, ti_pl25, ti_sb23, ti_sb64, ti_sl22, ti_sl23, ti_sl64, ti_sl68, ti_sl142, ti_sz25, ti_sz35, ti_zr25, ti_zv64, itD, itV, rlV, rowD, rlD, hf, hp, hq, Option.getD_none, Option.isSome_none, Option.getD_some, Option.isSome_some])
          | (with_reducible refine AWp_regE mu_19 ks_19 ?_; intro Kv hKv; simp (dsimp := false) only [go_sem, Nat.reduceAdd, Nat.reduceBEq, Nat.reduceEqDiff, Nat.reduceLT, Nat.reduceLeDiff, Nat.reduceMul, Int.reduceToNat, reduceCtorEq, ↓reduceIte, Tryd.ntmps19, Tryd.results19, ks_19, mu_19, ti_ag3, ti_ag22, ti_ag23, ti_ag25, ti_ag35, ti_ag68, ti_fl25_0, ti_fl25_1, ti_hb44, ti_hb46, ti_hb53, ti_hb54, ti_hb55, ti_ky35, ti_mp78, ti_pl25, ti_sb23, ti_sb64, ti_sl22, ti_sl23, ti_sl64, ti_sl68, ti_sl142, ti_sz25, ti_sz35, ti_zr25, ti_zv64, itD, itV, rlV, rowD, rlD, hf, hp, hq, Option.getD_none, Option.isSome_none, Option.getD_some, Option.isSome_some])
          | (refine AWp_condC rfl ?_; intro KA KB hKA hKB; try simp only [onB_true, onB_false, onB_dec, onB_ndec, onB_not, onB_and, onB_or])
          | (refine AWp_condA rfl ?_ ?_)
          | (refine both_A a b hA hB _ _ ?_; try simp (dsimp := false) only [go_sem, Nat.reduceAdd, Nat.reduceBEq, Nat.reduceEqDiff, Nat.reduceLT, Nat.reduceLeDiff, Nat.reduceMul, Int.reduceToNat, reduceCtorEq, ↓reduceIte, Tryd.ntmps19, Tryd.results19, ks_19, mu_19, ti_ag3, ti_ag22, ti_ag23, ti_ag25, ti_ag35, ti_ag68, ti_fl25_0, ti_fl25_1, ti_hb44, ti_hb46, ti_hb53, ti_hb54, ti_hb55, ti_ky35, ti_mp78, ti_pl25, ti_sb23, ti_sb64, ti_sl22, ti_sl23, ti_sl64, ti_sl68, ti_sl142, ti_sz25, ti_sz35, ti_zr25, ti_zv64, itD, itV, rlV, rowD, rlD, hf, hp, hq, Option.getD_none, Option.isSome_none, Option.getD_some, Option.isSome_some])
          | (refine places_A a hA [x] (by simp) _ _ ?_; try simp (dsimp := false) only [go_sem, Nat.reduceAdd, Nat.reduceBEq, Nat.reduceEqDiff, Nat.reduceLT, Nat.reduceLeDiff, Nat.reduceMul, Int.reduceToNat, reduceCtorEq, ↓reduceIte, Tryd.ntmps19, Tryd.results19, ks_19, mu_19, ti_ag3, ti_ag22, ti_ag23, ti_ag25, ti_ag35, ti_ag68, ti_fl25_0, ti_fl25_1, ti_hb44, ti_hb46, ti_hb53, ti_hb54, ti_hb55, ti_ky35, ti_mp78, ti_pl25, ti_sb23, ti_sb64, ti_sl22, ti_sl23, ti_sl64, ti_sl68, ti_sl142, ti_sz25, ti_sz35, ti_zr25, ti_zv64, itD, itV, rlV, rowD, rlD, hf, hp, hq, Option.getD_none, Option.isSome_none, Option.getD_some, Option.isSome_some])
          | (refine places_A b hB [y] (by simp) _ _ ?_; try simp (dsimp := false) only [go_sem, Nat.reduceAdd, Nat.reduceBEq, Nat.reduceEqDiff, Nat.reduceLT, Nat.reduceLeDiff, Nat.reduceMul, Int.reduceToNat, reduceCtorEq, ↓reduceIte, Tryd.ntmps19, Tryd.results19, ks_19, mu_19, ti_ag3, ti_ag22, ti_ag23, ti_ag25, ti_ag35, ti_ag68, ti_fl25_0, ti_fl25_1, ti_hb44, ti_hb46, ti_hb53, ti_hb54, ti_hb55, ti_ky35, ti_mp78, ti_pl25, ti_sb23, ti_sb64, ti_sl22, ti_sl23, ti_sl64, ti_sl68, ti_sl142, ti_sz25, ti_sz35, ti_zr25, ti_zv64, itD, itV, rlV, rowD, rlD, hf, hp, hq, Option.getD_none, Option.isSome_none, Option.getD_some, Option.isSome_some])
          | with_reducible refine onB_of ?_ ?_
          | with_reducible rfl
          | omega)
        all_goals exact dropF hk (fz_rl0 _ _ _) (bel_relE _ _ _)
      · rw [if_neg hc] at hp
        rw [if_neg hd] at hq
        rw [joined, if_pos hf, if_neg (fun h => h.elim hc hd)] at hk
        obtain ⟨hfa, hfb⟩ : relFault a = 0 ∧ relFault b = 0 := by
          unfold twoFault at hf
          split at hf
          · exact ⟨by assumption, hf⟩
          · contradiction
        obtain ⟨_, hNa, halla⟩ := relFault_ok hfa
        obtain ⟨_, hNb, hallb⟩ := relFault_ok hfb
        have hlt := (fidx_lt (fun z => decide (x = z)) a.cols).2
        obtain ⟨p, hpp⟩ : ∃ p : Nat, txtAt a.cols x = p := ⟨(txtAt a.cols x).toNat, by omega⟩
        have hpl : p < a.cols.length := by
          have : txtAt a.cols x < a.cols.length := hlt
          omega
        have hlt2 := (fidx_lt (fun z => decide (y = z)) b.cols).2
        obtain ⟨q, hqq⟩ : ∃ q : Nat, txtAt b.cols y = q := ⟨(txtAt b.cols y).toNat, by omega⟩
        have hql : q < b.cols.length := by
          have : txtAt b.cols y < b.cols.length := hlt2
          omega
        rw [hpp] at hp hk hc
        rw [hqq] at hq hk hd
        simp only [Int.toNat_natCast] at hk
        clear hlt hlt2 hc hd
        
        refine ACalls_of Tryd.func19 rfl in_19 (Nat.le_of_ble_eq_true rfl) ?_
        intro F hF
        simp (dsimp := false) only [go_sem, Nat.reduceAdd, Nat.reduceBEq, Nat.reduceEqDiff, Nat.reduceLT, Nat.reduceLeDiff, Nat.reduceMul, Int.reduceToNat, reduceCtorEq, ↓reduceIte, Tryd.ntmps19, Tryd.results19, ks_19, mu_19, ti_ag3, ti_ag22, ti_ag23, ti_ag25, ti_ag35, ti_ag68, ti_fl25_0, ti_fl25_1, ti_hb44, ti_hb46, ti_hb53, ti_hb54, ti_hb55, ti_ky35, ti_mp78, ti_pl25, ti_sb23, ti_sb64, ti_sl22, ti_sl23, ti_sl64, ti_sl68, ti_sl142, ti_sz25, ti_sz35, ti_zr25, ti_zv64, itD, itV, rlV, rowD, rlD, hf, hp, hq, Option.getD_some, Option.isSome_some, in_19] at hF
        subst hF
        repeat' (first
          | with_reducible refine And.intro ?_ ?_
          | with_reducible intro _
          | with_reducible refine AWp_seq ?_
          | with_reducible refine AWp_block ?_
          | (with_reducible refine hKv _ _ (AWp_nop ?_); clear hKv Kv)
          | (with_reducible refine hKv _ _ ?_; clear hKv Kv; simp (dsimp := false) only [go_sem, Nat.reduceAdd, Nat.reduceBEq, Nat.reduceEqDiff, Nat.reduceLT, Nat.reduceLeDiff, Nat.reduceMul, Int.reduceToNat, reduceCtorEq, ↓reduceIte, Tryd.ntmps19, Tryd.results19, ks_19, mu_19, ti_ag3, ti_ag22, ti_ag23, ti_ag25, ti_ag35, ti_ag68, ti_fl25_0, ti_fl25_1, ti_hb44, ti_hb46, ti_hb53, ti_hb54, ti_hb55, ti_ky35, ti_mp78, ti_pl25, ti_sb23, ti_sb64, ti_sl22, ti_sl23, ti_sl64, ti_sl68, ti_sl142, ti_sz25, ti_sz35, ti_zr25, ti_zv64, itD, itV, rlV, rowD, rlD, hf, hp, hq, Option.getD_some, Option.isSome_some])
          | (with_reducible refine hKA ?_; clear hKA hKB KA KB)
          | (with_reducible refine hKB ?_; clear hKA hKB KA KB)
          | (with_reducible refine AWp_regC mu_19 ks_19 ?_; intro Kv hKv; simp (dsimp := false) only [go_sem, Nat.reduceAdd, Nat.reduceBEq, Nat.reduceEqDiff, Nat.reduceLT, Nat.reduceLeDiff, Nat.reduceMul, Int.reduceToNat, reduceCtorEq, ↓reduceIte, Tryd.ntmps19, Tryd.results19, ks_19, mu_19, ti_ag3, ti_ag22, ti_ag23, ti_ag25, ti_ag35, ti_ag68, ti_fl25_0, ti_fl25_1, ti_hb44, ti_hb46, ti_hb53, ti_hb54, ti_hb55, ti_ky35, ti_mp78, ti_pl25, ti_sb23, ti_sb64, ti_sl22, ti_sl23, ti_sl64, ti_sl68, ti_sl142, ti_sz25, ti_sz35, ti_zr25, ti_zv64, itD, itV, rlV, rowD, rlD, hf, hp, hq, Option.getD_some, Option.isSome_some])
          | with_reducible refine AWp_skipN ?_
          | with_reducible refine AWp_exitO (by repeat (first | with_reducible exact Out.hit | with_reducible apply Out.thenA | with_reducible apply Out.out rfl)) ?_
          | (with_reducible refine AWp_retR ?_; simp (dsimp := false) only [go_sem, Nat.reduceAdd, Nat.reduceBEq, Nat.reduceEqDiff, Nat.reduceLT, Nat.reduceLeDiff, Nat.reduceMul, Int.reduceToNat, reduceCtorEq, ↓reduceIte, Tryd.ntmps19, Tryd.results19, ks_19, mu_19, ti_ag3, ti_ag22, ti_ag23, ti_ag25, ti_ag35, ti_ag68, ti_fl25_0, ti_fl25_1, ti_hb44, ti_hb46, ti_hb53, ti_hb54, ti_hb55, ti_ky35, ti_mp78, ti_pl25, ti_sb23, ti_sb64, ti_sl22, ti_sl23, ti_sl64, ti_sl68, ti_sl142, ti_sz25, ti_sz35, ti_zr25, ti_zv64, itD, itV, rlV, rowD, rlD, hf, hp, hq, Option.getD_some, Option.isSome_some])
          | (with_reducible refine AWp_regE mu_19 ks_19 ?_; intro Kv hKv; simp (dsimp := false) only [go_sem, Nat.reduceAdd, Nat.reduceBEq, Nat.reduceEqDiff, Nat.reduceLT, Nat.reduceLeDiff, Nat.reduceMul, Int.reduceToNat, reduceCtorEq, ↓reduceIte, Tryd.ntmps19, Tryd.results19, ks_19, mu_19, ti_ag3, ti_ag22, ti_ag23, ti_ag25, ti_ag35, ti_ag68, ti_fl25_0, ti_fl25_1, ti_hb44, ti_hb46, ti_hb53, ti_hb54, ti_hb55, ti_ky35, ti_mp78, ti_pl25, ti_sb23, ti_sb64, ti_sl22, ti_sl23, ti_sl64, ti_sl68, ti_sl142, ti_sz25, ti_sz35, ti_zr25, ti_zv64, itD, itV, rlV, rowD, rlD, hf, hp, hq, Option.getD_some, Option.isSome_some])
          | (refine AWp_condC rfl ?_; intro KA KB hKA hKB; try simp only [onB_true, onB_false, onB_dec, onB_ndec, onB_not, onB_and, onB_or])
          | (refine AWp_condA rfl ?_ ?_)
          | (refine both_A a b hA hB _ _ ?_; try simp (dsimp := false) only [go_sem, Nat.reduceAdd, Nat.reduceBEq, Nat.reduceEqDiff, Nat.reduceLT, Nat.reduceLeDiff, Nat.reduceMul, Int.reduceToNat, reduceCtorEq, ↓reduceIte, Tryd.ntmps19, Tryd.results19, ks_19, mu_19, ti_ag3, ti_ag22, ti_ag23, ti_ag25, ti_ag35, ti_ag68, ti_fl25_0, ti_fl25_1, ti_hb44, ti_hb46, ti_hb53, ti_hb54, ti_hb55, ti_ky35, ti_mp78, ti_pl25, ti_sb23, ti_sb64, ti_sl22, ti_sl23, ti_sl64, ti_sl68, ti_sl142, ti_sz25, ti_sz35, ti_zr25, ti_zv64, itD, itV, rlV, rowD, rlD, hf, hp, hq, Option.getD_some, Option.isSome_some])
          | (refine places_A a hA [x] (by simp) _ _ ?_; try simp (dsimp := false) only [go_sem, Nat.reduceAdd, Nat.reduceBEq, Nat.reduceEqDiff, Nat.reduceLT, Nat.reduceLeDiff, Nat.reduceMul, Int.reduceToNat, reduceCtorEq, ↓reduceIte, Tryd.ntmps19, Tryd.results19, ks_19, mu_19, ti_ag3, ti_ag22, ti_ag23, ti_ag25, ti_ag35, ti_ag68, ti_fl25_0, ti_fl25_1, ti_hb44, ti_hb46, ti_hb53, ti_hb54, ti_hb55, ti_ky35, ti_mp78, ti_pl25, ti_sb23, ti_sb64, ti_sl22, ti_sl23, ti_sl64, ti_sl68, ti_sl142, ti_sz25, ti_sz35, ti_zr25, ti_zv64, itD, itV, rlV, rowD, rlD, hf, hp, hq, Option.getD_some, Option.isSome_some])
          | (refine places_A b hB [y] (by simp) _ _ ?_; try simp (dsimp := false) only [go_sem, Nat.reduceAdd, Nat.reduceBEq, Nat.reduceEqDiff, Nat.reduceLT, Nat.reduceLeDiff, Nat.reduceMul, Int.reduceToNat, reduceCtorEq, ↓reduceIte, Tryd.ntmps19, Tryd.results19, ks_19, mu_19, ti_ag3, ti_ag22, ti_ag23, ti_ag25, ti_ag35, ti_ag68, ti_fl25_0, ti_fl25_1, ti_hb44, ti_hb46, ti_hb53, ti_hb54, ti_hb55, ti_ky35, ti_mp78, ti_pl25, ti_sb23, ti_sb64, ti_sl22, ti_sl23, ti_sl64, ti_sl68, ti_sl142, ti_sz25, ti_sz35, ti_zr25, ti_zv64, itD, itV, rlV, rowD, rlD, hf, hp, hq, Option.getD_some, Option.isSome_some])
          | with_reducible refine onB_of ?_ ?_
          | with_reducible rfl
          | omega)
        refine AWp_whileH (fun i : Nat => i ≤ b.rows.length)
          (fun i => [(4, .rp (rlD a)), (5, .rp (rlD b)), (8, .pt H.length 0 0 0), (11, .d (.sl 1 [intRow p])), (13, .d (.sl 1 [intRow q])), (14, .mo (H.length + 1) 0), (53, .d (.sl 1 (b.rows.map rowD))), (54, .d (.i .i64 b.rows.length)), (55, .d (.i .i64 i))])
          (fun i => .row 0 25 2 [[.d (.c (.slice none 0 0)), .d (.c (.slice none 0 0))]] :: .row 0 78 0 [[.mp [.i .i64, .i .i64, .s] (gKs (allG (rowPairs q (b.rows.take i)))) (gVs (H.length + 2) (allG (rowPairs q (b.rows.take i))))]] :: gObs 3 1 intCells (allG (rowPairs q (b.rows.take i)))) (fun i => b.rows.length - i) 0 (Nat.zero_le _) rfl ?_ ?_ ?_
        · simp (dsimp := false) only [go_sem, Nat.reduceAdd, Nat.reduceBEq, Nat.reduceEqDiff, Nat.reduceLT, Nat.reduceLeDiff, Nat.reduceMul, Int.reduceToNat, reduceCtorEq, ↓reduceIte, Tryd.ntmps19, Tryd.results19, ks_19, mu_19, ti_ag3, ti_ag22, ti_ag23, ti_ag25, ti_ag35, ti_ag68, ti_fl25_0, ti_fl25_1, ti_hb44, ti_hb46, ti_hb53, ti_hb54, ti_hb55, ti_ky35, ti_mp78, ti_pl25, ti_sb23, ti_sb64, ti_sl22, ti_sl23, ti_sl64, ti_sl68, ti_sl142, ti_sz25, ti_sz35, ti_zr25, ti_zv64, itD, itV, rlV, rowD, rlD, hf, hp, hq, Option.getD_some, Option.isSome_some]
          first | done | simp
        · rintro i _ ob hob
          simp only [List.mem_cons] at hob
          rcases hob with rfl | rfl | hob
          · exact bel_nil2 _ _ _
          · refine obBel_map0 (gVs_bel ?_)
            simp [gObs_len]
            omega
          · exact gObs_bel (d := intRow) (fun _ => rfl) ob hob
        rintro i hi
        by_cases hiN : i < b.rows.length
        · obtain ⟨row, hrow⟩ : ∃ row, b.rows[i]? = some row := ⟨b.rows[i], List.getElem?_eq_getElem hiN⟩
          have hrl := (hallb row (List.mem_of_getElem? hrow)).1
          obtain ⟨k, hkx⟩ : ∃ k, row[q]? = some k := ⟨row[q]'(by omega), List.getElem?_eq_getElem (by omega)⟩
          have hgk := rg_get hkx
          have hT : allG (rowPairs q (b.rows.take (i + 1))) = putG (allG (rowPairs q (b.rows.take i))) k (i : Int) := by rw [rowPairs_take hrow, allG_app, hgk]
          have hne := allG_ne (rowPairs q (b.rows.take i))
          have hvl : (valG (allG (rowPairs q (b.rows.take i))) k).length ≤ 1000000 := by
            have := hits_len q k (b.rows.take i)
            rw [hits, List.length_take] at this
            omega
          have hGl : (allG (rowPairs q (b.rows.take i))).length ≤ 1000000 := by
            have h1 := allG_len (rowPairs q (b.rows.take i))
            have h2 : (rowPairs q (b.rows.take i)).length = (b.rows.take i).length := by simp [rowPairs]
            rw [h2, List.length_take] at h1
            omega
          generalize allG (rowPairs q (b.rows.take i)) = G at hT hne hvl hGl ⊢
          cases hj : atG G k with
          | some j =>
            obtain ⟨l, hl, hjl⟩ := atG_lt hj
            have hvG : valG G k = l := by simp [valG, hj, hl]
            rw [hvG] at hvl
            have hln := hne _ (List.mem_of_getElem? hl)
            obtain ⟨m1, m2, m3, m4⟩ := g_hit (H.length + 2) (V.d (.c (.slice none 0 0))) hj hl
            simp only [itD] at m1 m2 m3 m4
            have o1 : ∀ A M, (H ++ A :: M :: gObs 3 1 intCells G)[H.length + 2 + j]? = some (Ob.row (l.length - 1) 3 1 (l.map intCells)) := fun A M => hget_g (gObs_get _ _ _ hl)
            have o2 : ∀ A M X, (H ++ A :: M :: gObs 3 1 intCells G).set (H.length + 2 + j) X = H ++ A :: M :: (gObs 3 1 intCells G).set j X := fun A M X => hset_g
            have p1 := gKs_put_hit (i : Int) hj
            have p2 := gVs_put_hit (H.length + 2) (i : Int) hln hj hl
            have p3 := gObs_put_hit 3 1 intCells (i : Int) hln hj hl
            
            repeat' (first
              | with_reducible refine And.intro ?_ ?_
              | with_reducible intro _
              | with_reducible refine AWp_seq ?_
              | with_reducible refine AWp_block ?_
              | (with_reducible refine hKv _ _ (AWp_nop ?_); clear hKv Kv)
              | (with_reducible refine hKv _ _ ?_; clear hKv Kv; simp (dsimp := false) only [go_sem, Nat.reduceAdd, Nat.reduceBEq, Nat.reduceEqDiff, Nat.reduceLT, Nat.reduceLeDiff, Nat.reduceMul, Int.reduceToNat, reduceCtorEq, ↓reduceIte, Tryd.ntmps19, Tryd.results19, ks_19, mu_19, ti_ag3, ti_ag22, ti_ag23, ti_ag25, ti_ag35, ti_ag68, ti_fl25_0, ti_fl25_1, ti_hb44, ti_hb46, ti_hb53, ti_hb54, ti_hb55, ti_ky35, ti_mp78, ti_pl25, ti_sb23, ti_sb64, ti_sl22, ti_sl23, ti_sl64, ti_sl68, ti_sl142, ti_sz25, ti_sz35, ti_zr25, ti_zv64, itD, itV, rlV, rowD, rlD, hrow, hkx, m1, m2, m3, m4, o1, o2, gVs_len, gObs_len])
              | (with_reducible refine hKA ?_; clear hKA hKB KA KB)
              | (with_reducible refine hKB ?_; clear hKA hKB KA KB)
              | (with_reducible refine AWp_regC mu_19 ks_19 ?_; intro Kv hKv; simp (dsimp := false) only [go_sem, Nat.reduceAdd, Nat.reduceBEq, Nat.reduceEqDiff, Nat.reduceLT, Nat.reduceLeDiff, Nat.reduceMul, Int.reduceToNat, reduceCtorEq, ↓reduceIte, Tryd.ntmps19, Tryd.results19, ks_19, mu_19, ti_ag3, ti_ag22, ti_ag23, ti_ag25, ti_ag35, ti_ag68, ti_fl25_0, ti_fl25_1, ti_hb44, ti_hb46, ti_hb53, ti_hb54, ti_hb55, ti_ky35, ti_mp78, ti_pl25, ti_sb23, ti_sb64, ti_sl22, ti_sl23, ti_sl64, ti_sl68, ti_sl142, ti_sz25, ti_sz35, ti_zr25, ti_zv64, itD, itV, rlV, rowD, rlD, hrow, hkx, m1, m2, m3, m4, o1, o2, gVs_len, gObs_len])
              | with_reducible refine AWp_skipN ?_
              | with_reducible refine AWp_exitO (by repeat (first | with_reducible exact Out.hit | with_reducible apply Out.thenA | with_reducible apply Out.out rfl)) ?_
              | (with_reducible refine AWp_retR ?_; simp (dsimp := false) only [go_sem, Nat.reduceAdd, Nat.reduceBEq, Nat.reduceEqDiff, Nat.reduceLT, Nat.reduceLeDiff, Nat.reduceMul, Int.reduceToNat, reduceCtorEq, ↓reduceIte, Tryd.ntmps19, Tryd.results19, ks_19, mu_19, ti_ag3, ti_ag22, ti_ag23, ti_ag25, ti_ag35, ti_ag68, ti_fl25_0, ti_fl25_1, ti_hb44, ti_hb46, ti_hb53, ti_hb54, ti_hb55, ti_ky35, ti_mp78, ti_pl25, ti_sb23, ti_sb64, ti_sl22, ti_sl23, ti_sl64, ti_sl68, ti_sl142, ti_sz25, ti_sz35, ti_zr25, ti_zv64, itD, itV, rlV, rowD, rlD, hrow, hkx, m1, m2, m3, m4, o1, o2, gVs_len, gObs_len])
              | (with_reducible refine AWp_regE mu_19 ks_19 ?_; intro Kv hKv; simp (dsimp := false) only [go_sem, Nat.reduceAdd, Nat.reduceBEq, Nat.reduceEqDiff, Nat.reduceLT, Nat.reduceLeDiff, Nat.reduceMul, Int.reduceToNat, reduceCtorEq, ↓reduceIte, Tryd.ntmps19, Tryd.results19, ks_19, mu_19, ti_ag3, ti_ag22, ti_ag23, ti_ag25, ti_ag35, ti_ag68, ti_fl25_0, ti_fl25_1, ti_hb44, ti_hb46, ti_hb53, ti_hb54, ti_hb55, ti_ky35, ti_mp78, ti_pl25, ti_sb23, ti_sb64, ti_sl22, ti_sl23, ti_sl64, ti_sl68, ti_sl142, ti_sz25, ti_sz35, ti_zr25, ti_zv64, itD, itV, rlV, rowD, rlD, hrow, hkx, m1, m2, m3, m4, o1, o2, gVs_len, gObs_len])
              | (refine AWp_condC rfl ?_; intro KA KB hKA hKB; try simp only [onB_true, onB_false, onB_dec, onB_ndec, onB_not, onB_and, onB_or])
              | (refine AWp_condA rfl ?_ ?_)
              | with_reducible refine onB_of ?_ ?_
              | with_reducible rfl
              | omega)
            exact ⟨i + 1, by omega, by omega, by rw [hT, p1, p2, p3]; rfl, by (repeat' (refine And.intro ?_ ?_)) <;> first | omega | (simp; omega) | simp⟩
          | none =>
            obtain ⟨m1, m2, m3, m4⟩ := g_miss (H.length + 2) (V.d (.c (.slice none 0 0))) hj
            simp only [itD] at m1 m2 m3 m4
            have p1 := gKs_put_miss (i : Int) hj
            have p2 := gVs_put_miss (H.length + 2) (i : Int) hj
            have p3 := gObs_put_miss 3 1 intCells (i : Int) hj
            
            repeat' (first
              | with_reducible refine And.intro ?_ ?_
              | with_reducible intro _
              | with_reducible refine AWp_seq ?_
              | with_reducible refine AWp_block ?_
              | (with_reducible refine hKv _ _ (AWp_nop ?_); clear hKv Kv)
              | (with_reducible refine hKv _ _ ?_; clear hKv Kv; simp (dsimp := false) only [go_sem, Nat.reduceAdd, Nat.reduceBEq, Nat.reduceEqDiff, Nat.reduceLT, Nat.reduceLeDiff, Nat.reduceMul, Int.reduceToNat, reduceCtorEq, ↓reduceIte, Tryd.ntmps19, Tryd.results19, ks_19, mu_19, ti_ag3, ti_ag22, ti_ag23, ti_ag25, ti_ag35, ti_ag68, ti_fl25_0, ti_fl25_1, ti_hb44, ti_hb46, ti_hb53, ti_hb54, ti_hb55, ti_ky35, ti_mp78, ti_pl25, ti_sb23, ti_sb64, ti_sl22, ti_sl23, ti_sl64, ti_sl68, ti_sl142, ti_sz25, ti_sz35, ti_zr25, ti_zv64, itD, itV, rlV, rowD, rlD, hrow, hkx, m1, m2, m3, m4, gVs_len, gObs_len])
              | (with_reducible refine hKA ?_; clear hKA hKB KA KB)
              | (with_reducible refine hKB ?_; clear hKA hKB KA KB)
              | (with_reducible refine AWp_regC mu_19 ks_19 ?_; intro Kv hKv; simp (dsimp := false) only [go_sem, Nat.reduceAdd, Nat.reduceBEq, Nat.reduceEqDiff, Nat.reduceLT, Nat.reduceLeDiff, Nat.reduceMul, Int.reduceToNat, reduceCtorEq, ↓reduceIte, Tryd.ntmps19, Tryd.results19, ks_19, mu_19, ti_ag3, ti_ag22, ti_ag23, ti_ag25, ti_ag35, ti_ag68, ti_fl25_0, ti_fl25_1, ti_hb44, ti_hb46, ti_hb53, ti_hb54, ti_hb55, ti_ky35, ti_mp78, ti_pl25, ti_sb23, ti_sb64, ti_sl22, ti_sl23, ti_sl64, ti_sl68, ti_sl142, ti_sz25, ti_sz35, ti_zr25, ti_zv64, itD, itV, rlV, rowD, rlD, hrow, hkx, m1, m2, m3, m4, gVs_len, gObs_len])
              | with_reducible refine AWp_skipN ?_
              | with_reducible refine AWp_exitO (by repeat (first | with_reducible exact Out.hit | with_reducible apply Out.thenA | with_reducible apply Out.out rfl)) ?_
              | (with_reducible refine AWp_retR ?_; simp (dsimp := false) only [go_sem, Nat.reduceAdd, Nat.reduceBEq, Nat.reduceEqDiff, Nat.reduceLT, Nat.reduceLeDiff, Nat.reduceMul, Int.reduceToNat, reduceCtorEq, ↓reduceIte, Tryd.ntmps19, Tryd.results19, ks_19, mu_19, ti_ag3, ti_ag22, ti_ag23, ti_ag25, ti_ag35, ti_ag68, ti_fl25_0, ti_fl25_1, ti_hb44, ti_hb46, ti_hb53, ti_hb54, ti_hb55, ti_ky35, ti_mp78, ti_pl25, ti_sb23, ti_sb64, ti_sl22, ti_sl23, ti_sl64, ti_sl68, ti_sl142, ti_sz25, ti_sz35, ti_zr25, ti_zv64, itD, itV, rlV, rowD, rlD, hrow, hkx, m1, m2, m3, m4, gVs_len, gObs_len])
              | (with_reducible refine AWp_regE mu_19 ks_19 ?_; intro Kv hKv; simp (dsimp := false) only [go_sem, Nat.reduceAdd, Nat.reduceBEq, Nat.reduceEqDiff, Nat.reduceLT, Nat.reduceLeDiff, Nat.reduceMul, Int.reduceToNat, reduceCtorEq, ↓reduceIte, Tryd.ntmps19, Tryd.results19, ks_19, mu_19, ti_ag3, ti_ag22, ti_ag23, ti_ag25, ti_ag35, ti_ag68, ti_fl25_0, ti_fl25_1, ti_hb44, ti_hb46, ti_hb53, ti_hb54, ti_hb55, ti_ky35, ti_mp78, ti_pl25, ti_sb23, ti_sb64, ti_sl22, ti_sl23, ti_sl64, ti_sl68, ti_sl142, ti_sz25, ti_sz35, ti_zr25, ti_zv64, itD, itV, rlV, rowD, rlD, hrow, hkx, m1, m2, m3, m4, gVs_len, gObs_len])
              | (refine AWp_condC rfl ?_; intro KA KB hKA hKB; try simp only [onB_true, onB_false, onB_dec, onB_ndec, onB_not, onB_and, onB_or])
              | (refine AWp_condA rfl ?_ ?_)
              | with_reducible refine onB_of ?_ ?_
              | with_reducible rfl
              | omega)
            exact ⟨i + 1, by omega, by omega, by
              rw [hT, p1, p2, p3, vset_last _ _ _ _ (by rw [gVs_len]), show H.length + (G.length + 1 + 1) = H.length + 2 + G.length by omega]
              rfl, by (repeat' (refine And.intro ?_ ?_)) <;> first | omega | (simp; omega) | simp⟩
        · have e : i = b.rows.length := by omega
          subst e
          rw [List.take_length]
          
          repeat' (first
            | with_reducible refine And.intro ?_ ?_
            | with_reducible intro _
            | with_reducible refine AWp_seq ?_
            | with_reducible refine AWp_block ?_
            | (with_reducible refine hKv _ _ (AWp_nop ?_); clear hKv Kv)
            | (with_reducible refine hKv _ _ ?_; clear hKv Kv; simp (dsimp := false) only [go_sem, Nat.reduceAdd, Nat.reduceBEq, Nat.reduceEqDiff, Nat.reduceLT, Nat.reduceLeDiff, Nat.reduceMul, Int.reduceToNat, reduceCtorEq, ↓reduceIte, Tryd.ntmps19, Tryd.results19, ks_19, mu_19, ti_ag3, ti_ag22, ti_ag23, ti_ag25, ti_ag35, ti_ag68, ti_fl25_0, ti_fl25_1, ti_hb44, ti_hb46, ti_hb53, ti_hb54, ti_hb55, ti_ky35, ti_mp78, ti_pl25, ti_sb23, ti_sb64, ti_sl22, ti_sl23, ti_sl64, ti_sl68, ti_sl142, ti_sz25, ti_sz35, ti_zr25, ti_zv64, itD, itV, rlV, rowD, rlD, gObs_len])
            | (with_reducible refine hKA ?_; clear hKA hKB KA KB)
            | (with_reducible refine hKB ?_; clear hKA hKB KA KB)
            | (with_reducible refine AWp_regC mu_19 ks_19 ?_; intro Kv hKv; simp (dsimp := false) only [go_sem, Nat.reduceAdd, Nat.reduceBEq, Nat.reduceEqDiff, Nat.reduceLT, Nat.reduceLeDiff, Nat.reduceMul, Int.reduceToNat, reduceCtorEq, ↓reduceIte, Tryd.ntmps19, Tryd.results19, ks_19, mu_19, ti_ag3, ti_ag22, ti_ag23, ti_ag25, ti_ag35, ti_ag68, ti_fl25_0, ti_fl25_1, ti_hb44, ti_hb46, ti_hb53, ti_hb54, ti_hb55, ti_ky35, ti_mp78, ti_pl25, ti_sb23, ti_sb64, ti_sl22, ti_sl23, ti_sl64, ti_sl68, ti_sl142, ti_sz25, ti_sz35, ti_zr25, ti_zv64, itD, itV, rlV, rowD, rlD, gObs_len])
            | with_reducible refine AWp_skipN ?_
            | with_reducible refine AWp_exitO (by repeat (first | with_reducible exact Out.hit | with_reducible apply Out.thenA | with_reducible apply Out.out rfl)) ?_
            | (with_reducible refine AWp_retR ?_; simp (dsimp := false) only [go_sem, Nat.reduceAdd, Nat.reduceBEq, Nat.reduceEqDiff, Nat.reduceLT, Nat.reduceLeDiff, Nat.reduceMul, Int.reduceToNat, reduceCtorEq, ↓reduceIte, Tryd.ntmps19, Tryd.results19, ks_19, mu_19, ti_ag3, ti_ag22, ti_ag23, ti_ag25, ti_ag35, ti_ag68, ti_fl25_0, ti_fl25_1, ti_hb44, ti_hb46, ti_hb53, ti_hb54, ti_hb55, ti_ky35, ti_mp78, ti_pl25, ti_sb23, ti_sb64, ti_sl22, ti_sl23, ti_sl64, ti_sl68, ti_sl142, ti_sz25, ti_sz35, ti_zr25, ti_zv64, itD, itV, rlV, rowD, rlD, gObs_len])
            | (with_reducible refine AWp_regE mu_19 ks_19 ?_; intro Kv hKv; simp (dsimp := false) only [go_sem, Nat.reduceAdd, Nat.reduceBEq, Nat.reduceEqDiff, Nat.reduceLT, Nat.reduceLeDiff, Nat.reduceMul, Int.reduceToNat, reduceCtorEq, ↓reduceIte, Tryd.ntmps19, Tryd.results19, ks_19, mu_19, ti_ag3, ti_ag22, ti_ag23, ti_ag25, ti_ag35, ti_ag68, ti_fl25_0, ti_fl25_1, ti_hb44, ti_hb46, ti_hb53, ti_hb54, ti_hb55, ti_ky35, ti_mp78, ti_pl25, ti_sb23, ti_sb64, ti_sl22, ti_sl23, ti_sl64, ti_sl68, ti_sl142, ti_sz25, ti_sz35, ti_zr25, ti_zv64, itD, itV, rlV, rowD, rlD, gObs_len])
            | (refine AWp_condC rfl ?_; intro KA KB hKA hKB; try simp only [onB_true, onB_false, onB_dec, onB_ndec, onB_not, onB_and, onB_or])
            | (refine AWp_condA rfl ?_ ?_)
            | with_reducible refine onB_of ?_ ?_
            | with_reducible rfl
            | omega)
          obtain ⟨G, hG⟩ : ∃ G, allG (rowPairs q b.rows) = G := ⟨_, rfl⟩
          rw [hG]
          have hne := allG_ne (rowPairs q b.rows)
          rw [hG] at hne
          have hval : ∀ k, hits q b.rows k = valG G k := fun k => by rw [hits, hG]
          have o3 : ∀ A M X, (H ++ A :: M :: (gObs 3 1 intCells G ++ [X]))[H.length + (G.length + 1 + 1)]? = some X := fun A M X => by
            rw [List.getElem?_append_right (by omega), show H.length + (G.length + 1 + 1) - H.length = G.length + 2 by omega]
            simp [gObs_len]
          have o4 : ∀ A M X Y, (H ++ A :: M :: (gObs 3 1 intCells G ++ [X])).set (H.length + (G.length + 1 + 1)) Y = H ++ A :: M :: (gObs 3 1 intCells G ++ [Y]) := fun A M X Y => by
            rw [List.set_append_right _ _ (by omega), show H.length + (G.length + 1 + 1) - H.length = G.length + 2 by omega]
            simp only [List.set_cons_succ]
            rw [List.set_append_right _ _ (by rw [gObs_len]; omega), gObs_len, Nat.sub_self]
            rfl
          have obels : ∀ (v : Nat) (acc : List (List It)) (n : Nat), n = H.length + (G.length + 3) → ∀ ob, ob ∈ (.row 0 25 2 [[.d (.c (.slice none 0 0)), .d (.c (.slice none 0 0))]] :: .row 0 78 0 [[.mp [.i .i64, .i .i64, .s] (gKs G) (gVs (H.length + 2) G)]] :: (gObs 3 1 intCells G ++ [.row v 68 1 (acc.map rowC)]) : Heap) → ObBel n ob := fun v acc n hn ob hob => by
            simp only [List.mem_cons, List.mem_append, List.not_mem_nil, or_false] at hob
            rcases hob with rfl | rfl | hob | rfl
            · exact bel_nil2 _ _ _
            · exact obBel_map0 (gVs_bel (by omega))
            · exact gObs_bel (d := intRow) (fun _ => rfl) ob hob
            · exact obBel_rows _ _ _ _ _
          refine AWp_whileH (fun z : Nat × Nat × List (List It) => z.1 ≤ a.rows.length ∧ z.2.2.length ≤ 1000001 + z.1 ∧ Shut (z.2.2 = joinRows p q (a.rows.take z.1) b.rows ∨ (1000000 < z.2.2.length ∧ 1000000 < (joinRows p q (a.rows.take z.1) b.rows).length)))
            (fun z => [(4, .rp (rlD a)), (5, .rp (rlD b)), (8, .pt H.length 0 0 0), (11, .d (.sl 1 [intRow p])), (14, .mo (H.length + 1) 0), (17, .os (H.length + (G.length + 1 + 1)) z.2.1), (75, .d (.sl 1 (a.rows.map rowD))), (76, .d (.i .i64 a.rows.length)), (77, .d (.i .i64 z.1))])
            (fun z => .row 0 25 2 [[.d (.c (.slice none 0 0)), .d (.c (.slice none 0 0))]] :: .row 0 78 0 [[.mp [.i .i64, .i .i64, .s] (gKs G) (gVs (H.length + 2) G)]] :: (gObs 3 1 intCells G ++ [.row z.2.1 68 1 (z.2.2.map rowC)])) (fun z => a.rows.length - z.1) (0, 0, []) ⟨Nat.zero_le _, by simp, .inl rfl⟩ ?_ ?_ ?_ ?_
          · first | rfl
          · simp (dsimp := false) only [go_sem, Nat.reduceAdd, Nat.reduceBEq, Nat.reduceEqDiff, Nat.reduceLT, Nat.reduceLeDiff, Nat.reduceMul, Int.reduceToNat, reduceCtorEq, ↓reduceIte, Tryd.ntmps19, Tryd.results19, ks_19, mu_19, ti_ag3, ti_ag22, ti_ag23, ti_ag25, ti_ag35, ti_ag68, ti_fl25_0, ti_fl25_1, ti_hb44, ti_hb46, ti_hb53, ti_hb54, ti_hb55, ti_ky35, ti_mp78, ti_pl25, ti_sb23, ti_sb64, ti_sl22, ti_sl23, ti_sl64, ti_sl68, ti_sl142, ti_sz25, ti_sz35, ti_zr25, ti_zv64, itD, itV, rlV, rowD, rlD, gObs_len]
            first | done | omega | simp
          · rintro ⟨i, v, acc⟩ _ ob hob
            exact obels v acc _ (by simp [gObs_len]) ob hob
          rintro ⟨i, v, acc⟩ ⟨h1, h2, h3⟩
          simp only [] at h1 h2 h3 ⊢
          by_cases hiN : i < a.rows.length
          · obtain ⟨row, hrow⟩ : ∃ row, a.rows[i]? = some row := ⟨a.rows[i], List.getElem?_eq_getElem hiN⟩
            have hrl := (halla row (List.mem_of_getElem? hrow)).1
            have hrs := (hA.get hrow).1
            obtain ⟨k, hkx⟩ : ∃ k, row[p]? = some k := ⟨row[p]'(by omega), List.getElem?_eq_getElem (by omega)⟩
            have hgk := rg_get hkx
            have hT := joinRows_take (p := p) (q := q) (rb := b.rows) hrow
            rw [joinOne_hits, hgk] at hT
            have hhl := hits_len q k b.rows
            have hJ : ∀ acc', acc' = acc ++ (hits q b.rows k).map (fun i => row ++ nth b.rows i) → acc' = joinRows p q (a.rows.take (i + 1)) b.rows ∨ (1000000 < acc'.length ∧ 1000000 < (joinRows p q (a.rows.take (i + 1)) b.rows).length) := fun acc' e => by
              rw [hT, e]
              unfold Shut at h3
              rcases h3 with h3 | h3
              · exact .inl (by rw [h3])
              · refine .inr ⟨?_, ?_⟩ <;> (rw [List.length_append]; omega)
            cases hj : atG G k with
            | some j =>
              obtain ⟨l, hl, hjl⟩ := atG_lt hj
              have hvG : hits q b.rows k = l := by rw [hval]; simp [valG, hj, hl]
              have hlm : ∀ m, m ∈ l → ∃ (j2 : Nat) (r2 : List It), b.rows[j2]? = some r2 ∧ m = j2 := fun m hm => hits_mem (hvG ▸ hm)
              rw [hvG] at hT hhl hJ
              obtain ⟨m1, m2, m3, m4⟩ := g_hit (H.length + 2) (V.d (.c (.slice none 0 0))) hj hl
              simp only [itD] at m1
              have o5 : ∀ A M X, (H ++ A :: M :: (gObs 3 1 intCells G ++ [X]))[H.length + 2 + j]? = some (Ob.row (l.length - 1) 3 1 (l.map intCells)) := fun A M X => hget_g (by rw [List.getElem?_append_left (by rw [gObs_len]; exact hjl)]; exact gObs_get _ _ _ hl)
              
              repeat' (first
                | with_reducible refine And.intro ?_ ?_
                | with_reducible intro _
                | with_reducible refine AWp_seq ?_
                | with_reducible refine AWp_block ?_
                | (with_reducible refine hKv _ _ (AWp_nop ?_); clear hKv Kv)
                | (with_reducible refine hKv _ _ ?_; clear hKv Kv; simp (dsimp := false) only [go_sem, Nat.reduceAdd, Nat.reduceBEq, Nat.reduceEqDiff, Nat.reduceLT, Nat.reduceLeDiff, Nat.reduceMul, Int.reduceToNat, reduceCtorEq, ↓reduceIte, Tryd.ntmps19, Tryd.results19, ks_19, mu_19, ti_ag3, ti_ag22, ti_ag23, ti_ag25, ti_ag35, ti_ag68, ti_fl25_0, ti_fl25_1, ti_hb44, ti_hb46, ti_hb53, ti_hb54, ti_hb55, ti_ky35, ti_mp78, ti_pl25, ti_sb23, ti_sb64, ti_sl22, ti_sl23, ti_sl64, ti_sl68, ti_sl142, ti_sz25, ti_sz35, ti_zr25, ti_zv64, itD, itV, rlV, rowD, rlD, hrow, hkx, m1, o3, o4, o5, gVs_len, gObs_len])
                | (with_reducible refine hKA ?_; clear hKA hKB KA KB)
                | (with_reducible refine hKB ?_; clear hKA hKB KA KB)
                | (with_reducible refine AWp_regC mu_19 ks_19 ?_; intro Kv hKv; simp (dsimp := false) only [go_sem, Nat.reduceAdd, Nat.reduceBEq, Nat.reduceEqDiff, Nat.reduceLT, Nat.reduceLeDiff, Nat.reduceMul, Int.reduceToNat, reduceCtorEq, ↓reduceIte, Tryd.ntmps19, Tryd.results19, ks_19, mu_19, ti_ag3, ti_ag22, ti_ag23, ti_ag25, ti_ag35, ti_ag68, ti_fl25_0, ti_fl25_1, ti_hb44, ti_hb46, ti_hb53, ti_hb54, ti_hb55, ti_ky35, ti_mp78, ti_pl25, ti_sb23, ti_sb64, ti_sl22, ti_sl23, ti_sl64, ti_sl68, ti_sl142, ti_sz25, ti_sz35, ti_zr25, ti_zv64, itD, itV, rlV, rowD, rlD, hrow, hkx, m1, o3, o4, o5, gVs_len, gObs_len])
                | with_reducible refine AWp_skipN ?_
                | with_reducible refine AWp_exitO (by repeat (first | with_reducible exact Out.hit | with_reducible apply Out.thenA | with_reducible apply Out.out rfl)) ?_
                | (with_reducible refine AWp_retR ?_; simp (dsimp := false) only [go_sem, Nat.reduceAdd, Nat.reduceBEq, Nat.reduceEqDiff, Nat.reduceLT, Nat.reduceLeDiff, Nat.reduceMul, Int.reduceToNat, reduceCtorEq, ↓reduceIte, Tryd.ntmps19, Tryd.results19, ks_19, mu_19, ti_ag3, ti_ag22, ti_ag23, ti_ag25, ti_ag35, ti_ag68, ti_fl25_0, ti_fl25_1, ti_hb44, ti_hb46, ti_hb53, ti_hb54, ti_hb55, ti_ky35, ti_mp78, ti_pl25, ti_sb23, ti_sb64, ti_sl22, ti_sl23, ti_sl64, ti_sl68, ti_sl142, ti_sz25, ti_sz35, ti_zr25, ti_zv64, itD, itV, rlV, rowD, rlD, hrow, hkx, m1, o3, o4, o5, gVs_len, gObs_len])
                | (with_reducible refine AWp_regE mu_19 ks_19 ?_; intro Kv hKv; simp (dsimp := false) only [go_sem, Nat.reduceAdd, Nat.reduceBEq, Nat.reduceEqDiff, Nat.reduceLT, Nat.reduceLeDiff, Nat.reduceMul, Int.reduceToNat, reduceCtorEq, ↓reduceIte, Tryd.ntmps19, Tryd.results19, ks_19, mu_19, ti_ag3, ti_ag22, ti_ag23, ti_ag25, ti_ag35, ti_ag68, ti_fl25_0, ti_fl25_1, ti_hb44, ti_hb46, ti_hb53, ti_hb54, ti_hb55, ti_ky35, ti_mp78, ti_pl25, ti_sb23, ti_sb64, ti_sl22, ti_sl23, ti_sl64, ti_sl68, ti_sl142, ti_sz25, ti_sz35, ti_zr25, ti_zv64, itD, itV, rlV, rowD, rlD, hrow, hkx, m1, o3, o4, o5, gVs_len, gObs_len])
                | (refine AWp_condC rfl ?_; intro KA KB hKA hKB; try simp only [onB_true, onB_false, onB_dec, onB_ndec, onB_not, onB_and, onB_or])
                | (refine AWp_condA rfl ?_ ?_)
                | with_reducible refine onB_of ?_ ?_
                | with_reducible rfl
                | omega)
              refine AWp_whileH (fun z : Nat × Nat => z.1 ≤ l.length ∧ (z.1 = 0 ∨ acc.length + z.1 ≤ 1000000))
                (fun z => [(4, .rp (rlD a)), (5, .rp (rlD b)), (8, .pt H.length 0 0 0), (11, .d (.sl 1 [intRow p])), (14, .mo (H.length + 1) 0), (17, .os (H.length + (G.length + 1 + 1)) z.2), (75, .d (.sl 1 (a.rows.map rowD))), (76, .d (.i .i64 a.rows.length)), (77, .d (.i .i64 i)), (19, .d (.sl 3 (row.map itD))), (88, .os (H.length + 2 + j) (l.length - 1)), (89, .d (.i .i64 l.length)), (90, .d (.i .i64 z.1))])
                (fun z => .row 0 25 2 [[.d (.c (.slice none 0 0)), .d (.c (.slice none 0 0))]] :: .row 0 78 0 [[.mp [.i .i64, .i .i64, .s] (gKs G) (gVs (H.length + 2) G)]] :: (gObs 3 1 intCells G ++ [.row z.2 68 1 ((acc ++ (l.take z.1).map (fun i => row ++ nth b.rows i)).map rowC)])) (fun z => l.length - z.1) (0, v) ⟨Nat.zero_le _, .inl rfl⟩ ?_ ?_ ?_ ?_
              · first | rfl | (simp; done)
              · simp (dsimp := false) only [go_sem, Nat.reduceAdd, Nat.reduceBEq, Nat.reduceEqDiff, Nat.reduceLT, Nat.reduceLeDiff, Nat.reduceMul, Int.reduceToNat, reduceCtorEq, ↓reduceIte, Tryd.ntmps19, Tryd.results19, ks_19, mu_19, ti_ag3, ti_ag22, ti_ag23, ti_ag25, ti_ag35, ti_ag68, ti_fl25_0, ti_fl25_1, ti_hb44, ti_hb46, ti_hb53, ti_hb54, ti_hb55, ti_ky35, ti_mp78, ti_pl25, ti_sb23, ti_sb64, ti_sl22, ti_sl23, ti_sl64, ti_sl68, ti_sl142, ti_sz25, ti_sz35, ti_zr25, ti_zv64, itD, itV, rlV, rowD, rlD, hrow, hkx, m1, o3, o4, o5, gVs_len, gObs_len]
                first | done | omega | simp
              · rintro ⟨k2, v2⟩ _ ob hob
                exact obels v2 _ _ (by simp [gObs_len]) ob hob
              rintro ⟨k2, v2⟩ ⟨f1, f2⟩
              simp only [] at f1 f2 ⊢
              by_cases hkl : k2 < l.length
              · obtain ⟨m, hm⟩ : ∃ m, l[k2]? = some m := ⟨l[k2], List.getElem?_eq_getElem hkl⟩
                obtain ⟨j2, r2, hr2, rfl⟩ := hlm m (List.mem_of_getElem? hm)
                have hj2 := lt_of_get hr2
                have hr2l := hB.row r2 (List.mem_of_getElem? hr2)
                have hT2 : acc ++ (l.take (k2 + 1)).map (fun i => row ++ nth b.rows i) = (acc ++ (l.take k2).map (fun i => row ++ nth b.rows i)) ++ [row ++ r2] := by rw [take_of_get hm]; simp [nth, hr2]
                have hal : (acc ++ (l.take k2).map (fun i => row ++ nth b.rows i)).length = acc.length + k2 := by simp; omega
                have hbig : 1000000 < acc.length + k2 + 1 → 1000000 < (joinRows p q (a.rows.take (i + 1)) b.rows).length := fun hb => by
                  rw [hT, List.length_append, List.length_map]
                  unfold Shut at h3
                  rcases h3 with h3 | h3
                  · rw [← h3]; omega
                  · omega
                clear hT hJ h3
                generalize acc ++ (l.take k2).map (fun i => row ++ nth b.rows i) = acc2 at hT2 hal ⊢
                
                repeat' (first
                  | with_reducible refine And.intro ?_ ?_
                  | with_reducible intro _
                  | with_reducible refine AWp_seq ?_
                  | with_reducible refine AWp_block ?_
                  | (with_reducible refine hKv _ _ (AWp_nop ?_); clear hKv Kv)
                  | (with_reducible refine hKv _ _ ?_; clear hKv Kv; simp (dsimp := false) only [go_sem, Nat.reduceAdd, Nat.reduceBEq, Nat.reduceEqDiff, Nat.reduceLT, Nat.reduceLeDiff, Nat.reduceMul, Int.reduceToNat, reduceCtorEq, ↓reduceIte, Tryd.ntmps19, Tryd.results19, ks_19, mu_19, ti_ag3, ti_ag22, ti_ag23, ti_ag25, ti_ag35, ti_ag68, ti_fl25_0, ti_fl25_1, ti_hb44, ti_hb46, ti_hb53, ti_hb54, ti_hb55, ti_ky35, ti_mp78, ti_pl25, ti_sb23, ti_sb64, ti_sl22, ti_sl23, ti_sl64, ti_sl68, ti_sl142, ti_sz25, ti_sz35, ti_zr25, ti_zv64, itD, itV, rlV, rowD, rlD, hrow, hm, hr2, o3, o4, o5, gVs_len, gObs_len, hal])
                  | (with_reducible refine hKA ?_; clear hKA hKB KA KB)
                  | (with_reducible refine hKB ?_; clear hKA hKB KA KB)
                  | (with_reducible refine AWp_regC mu_19 ks_19 ?_; intro Kv hKv; simp (dsimp := false) only [go_sem, Nat.reduceAdd, Nat.reduceBEq, Nat.reduceEqDiff, Nat.reduceLT, Nat.reduceLeDiff, Nat.reduceMul, Int.reduceToNat, reduceCtorEq, ↓reduceIte, Tryd.ntmps19, Tryd.results19, ks_19, mu_19, ti_ag3, ti_ag22, ti_ag23, ti_ag25, ti_ag35, ti_ag68, ti_fl25_0, ti_fl25_1, ti_hb44, ti_hb46, ti_hb53, ti_hb54, ti_hb55, ti_ky35, ti_mp78, ti_pl25, ti_sb23, ti_sb64, ti_sl22, ti_sl23, ti_sl64, ti_sl68, ti_sl142, ti_sz25, ti_sz35, ti_zr25, ti_zv64, itD, itV, rlV, rowD, rlD, hrow, hm, hr2, o3, o4, o5, gVs_len, gObs_len, hal])
                  | with_reducible refine AWp_skipN ?_
                  | with_reducible refine AWp_exitO (by repeat (first | with_reducible exact Out.hit | with_reducible apply Out.thenA | with_reducible apply Out.out rfl)) ?_
                  | (with_reducible refine AWp_retR ?_; simp (dsimp := false) only [go_sem, Nat.reduceAdd, Nat.reduceBEq, Nat.reduceEqDiff, Nat.reduceLT, Nat.reduceLeDiff, Nat.reduceMul, Int.reduceToNat, reduceCtorEq, ↓reduceIte, Tryd.ntmps19, Tryd.results19, ks_19, mu_19, ti_ag3, ti_ag22, ti_ag23, ti_ag25, ti_ag35, ti_ag68, ti_fl25_0, ti_fl25_1, ti_hb44, ti_hb46, ti_hb53, ti_hb54, ti_hb55, ti_ky35, ti_mp78, ti_pl25, ti_sb23, ti_sb64, ti_sl22, ti_sl23, ti_sl64, ti_sl68, ti_sl142, ti_sz25, ti_sz35, ti_zr25, ti_zv64, itD, itV, rlV, rowD, rlD, hrow, hm, hr2, o3, o4, o5, gVs_len, gObs_len, hal])
                  | (with_reducible refine AWp_regE mu_19 ks_19 ?_; intro Kv hKv; simp (dsimp := false) only [go_sem, Nat.reduceAdd, Nat.reduceBEq, Nat.reduceEqDiff, Nat.reduceLT, Nat.reduceLeDiff, Nat.reduceMul, Int.reduceToNat, reduceCtorEq, ↓reduceIte, Tryd.ntmps19, Tryd.results19, ks_19, mu_19, ti_ag3, ti_ag22, ti_ag23, ti_ag25, ti_ag35, ti_ag68, ti_fl25_0, ti_fl25_1, ti_hb44, ti_hb46, ti_hb53, ti_hb54, ti_hb55, ti_ky35, ti_mp78, ti_pl25, ti_sb23, ti_sb64, ti_sl22, ti_sl23, ti_sl64, ti_sl68, ti_sl142, ti_sz25, ti_sz35, ti_zr25, ti_zv64, itD, itV, rlV, rowD, rlD, hrow, hm, hr2, o3, o4, o5, gVs_len, gObs_len, hal])
                  | (refine AWp_condC rfl ?_; intro KA KB hKA hKB; try simp only [onB_true, onB_false, onB_dec, onB_ndec, onB_not, onB_and, onB_or])
                  | (refine AWp_condA rfl ?_ ?_)
                  | (refine cat2Its row r2 (by omega) _ _ ?_; try simp (dsimp := false) only [go_sem, Nat.reduceAdd, Nat.reduceBEq, Nat.reduceEqDiff, Nat.reduceLT, Nat.reduceLeDiff, Nat.reduceMul, Int.reduceToNat, reduceCtorEq, ↓reduceIte, Tryd.ntmps19, Tryd.results19, ks_19, mu_19, ti_ag3, ti_ag22, ti_ag23, ti_ag25, ti_ag35, ti_ag68, ti_fl25_0, ti_fl25_1, ti_hb44, ti_hb46, ti_hb53, ti_hb54, ti_hb55, ti_ky35, ti_mp78, ti_pl25, ti_sb23, ti_sb64, ti_sl22, ti_sl23, ti_sl64, ti_sl68, ti_sl142, ti_sz25, ti_sz35, ti_zr25, ti_zv64, itD, itV, rlV, rowD, rlD, hrow, hm, hr2, o3, o4, o5, gVs_len, gObs_len, hal])
                  | with_reducible refine onB_of ?_ ?_
                  | with_reducible rfl
                  | omega)
                · refine ⟨(i + 1, v2 + 1, acc2 ++ [row ++ r2]), ⟨by show i + 1 ≤ a.rows.length; omega, ?_, .inr ⟨by show 1000000 < (acc2 ++ [row ++ r2]).length; rw [List.length_append, hal]; simp; omega, hbig (by omega)⟩⟩, by show a.rows.length - (i + 1) < a.rows.length - i; omega, by simp [rowC], by (repeat' (refine And.intro ?_ ?_)) <;> first | rfl | omega | simp⟩
                  show (acc2 ++ [row ++ r2]).length ≤ 1000001 + (i + 1)
                  rw [List.length_append, hal]
                  simp only [List.length_cons, List.length_nil]
                  omega
                · exact ⟨(k2 + 1, v2 + 1), ⟨by show k2 + 1 ≤ l.length; omega, .inr (by show acc.length + (k2 + 1) ≤ 1000000; omega)⟩, by show l.length - (k2 + 1) < l.length - k2; omega, by rw [hT2]; simp [rowC], by (repeat' (refine And.intro ?_ ?_)) <;> first | rfl | omega | simp⟩
              · have e : k2 = l.length := by omega
                subst e
                rw [List.take_length]
                
                repeat' (first
                  | with_reducible refine And.intro ?_ ?_
                  | with_reducible intro _
                  | with_reducible refine AWp_seq ?_
                  | with_reducible refine AWp_block ?_
                  | (with_reducible refine hKv _ _ (AWp_nop ?_); clear hKv Kv)
                  | (with_reducible refine hKv _ _ ?_; clear hKv Kv; simp (dsimp := false) only [go_sem, Nat.reduceAdd, Nat.reduceBEq, Nat.reduceEqDiff, Nat.reduceLT, Nat.reduceLeDiff, Nat.reduceMul, Int.reduceToNat, reduceCtorEq, ↓reduceIte, Tryd.ntmps19, Tryd.results19, ks_19, mu_19, ti_ag3, ti_ag22, ti_ag23, ti_ag25, ti_ag35, ti_ag68, ti_fl25_0, ti_fl25_1, ti_hb44, ti_hb46, ti_hb53, ti_hb54, ti_hb55, ti_ky35, ti_mp78, ti_pl25, ti_sb23, ti_sb64, ti_sl22, ti_sl23, ti_sl64, ti_sl68, ti_sl142, ti_sz25, ti_sz35, ti_zr25, ti_zv64, itD, itV, rlV, rowD, rlD, o3, o4, gVs_len, gObs_len])
                  | (with_reducible refine hKA ?_; clear hKA hKB KA KB)
                  | (with_reducible refine hKB ?_; clear hKA hKB KA KB)
                  | (with_reducible refine AWp_regC mu_19 ks_19 ?_; intro Kv hKv; simp (dsimp := false) only [go_sem, Nat.reduceAdd, Nat.reduceBEq, Nat.reduceEqDiff, Nat.reduceLT, Nat.reduceLeDiff, Nat.reduceMul, Int.reduceToNat, reduceCtorEq, ↓reduceIte, Tryd.ntmps19, Tryd.results19, ks_19, mu_19, ti_ag3, ti_ag22, ti_ag23, ti_ag25, ti_ag35, ti_ag68, ti_fl25_0, ti_fl25_1, ti_hb44, ti_hb46, ti_hb53, ti_hb54, ti_hb55, ti_ky35, ti_mp78, ti_pl25, ti_sb23, ti_sb64, ti_sl22, ti_sl23, ti_sl64, ti_sl68, ti_sl142, ti_sz25, ti_sz35, ti_zr25, ti_zv64, itD, itV, rlV, rowD, rlD, o3, o4, gVs_len, gObs_len])
                  | with_reducible refine AWp_skipN ?_
                  | with_reducible refine AWp_exitO (by repeat (first | with_reducible exact Out.hit | with_reducible apply Out.thenA | with_reducible apply Out.out rfl)) ?_
                  | (with_reducible refine AWp_retR ?_; simp (dsimp := false) only [go_sem, Nat.reduceAdd, Nat.reduceBEq, Nat.reduceEqDiff, Nat.reduceLT, Nat.reduceLeDiff, Nat.reduceMul, Int.reduceToNat, reduceCtorEq, ↓reduceIte, Tryd.ntmps19, Tryd.results19, ks_19, mu_19, ti_ag3, ti_ag22, ti_ag23, ti_ag25, ti_ag35, ti_ag68, ti_fl25_0, ti_fl25_1, ti_hb44, ti_hb46, ti_hb53, ti_hb54, ti_hb55, ti_ky35, ti_mp78, ti_pl25, ti_sb23, ti_sb64, ti_sl22, ti_sl23, ti_sl64, ti_sl68, ti_sl142, ti_sz25, ti_sz35, ti_zr25, ti_zv64, itD, itV, rlV, rowD, rlD, o3, o4, gVs_len, gObs_len])
                  | (with_reducible refine AWp_regE mu_19 ks_19 ?_; intro Kv hKv; simp (dsimp := false) only [go_sem, Nat.reduceAdd, Nat.reduceBEq, Nat.reduceEqDiff, Nat.reduceLT, Nat.reduceLeDiff, Nat.reduceMul, Int.reduceToNat, reduceCtorEq, ↓reduceIte, Tryd.ntmps19, Tryd.results19, ks_19, mu_19, ti_ag3, ti_ag22, ti_ag23, ti_ag25, ti_ag35, ti_ag68, ti_fl25_0, ti_fl25_1, ti_hb44, ti_hb46, ti_hb53, ti_hb54, ti_hb55, ti_ky35, ti_mp78, ti_pl25, ti_sb23, ti_sb64, ti_sl22, ti_sl23, ti_sl64, ti_sl68, ti_sl142, ti_sz25, ti_sz35, ti_zr25, ti_zv64, itD, itV, rlV, rowD, rlD, o3, o4, gVs_len, gObs_len])
                  | (refine AWp_condC rfl ?_; intro KA KB hKA hKB; try simp only [onB_true, onB_false, onB_dec, onB_ndec, onB_not, onB_and, onB_or])
                  | (refine AWp_condA rfl ?_ ?_)
                  | with_reducible refine onB_of ?_ ?_
                  | with_reducible rfl
                  | omega)
                refine ⟨(i + 1, v2, acc ++ l.map (fun i => row ++ nth b.rows i)), ⟨by show i + 1 ≤ a.rows.length; omega, ?_, hJ _ rfl⟩, by show a.rows.length - (i + 1) < a.rows.length - i; omega, rfl, by (repeat' (refine And.intro ?_ ?_)) <;> first | rfl | omega | simp⟩
                show (acc ++ l.map (fun i => row ++ nth b.rows i)).length ≤ 1000001 + (i + 1)
                rw [List.length_append, List.length_map]
                omega
            | none =>
              have hvG : hits q b.rows k = [] := by rw [hval]; simp [valG, hj]
              rw [hvG] at hJ
              obtain ⟨m1, m2, m3, m4⟩ := g_miss (H.length + 2) (V.d (.c (.slice none 0 0))) hj
              simp only [itD] at m1
              
              repeat' (first
                | with_reducible refine And.intro ?_ ?_
                | with_reducible intro _
                | with_reducible refine AWp_seq ?_
                | with_reducible refine AWp_block ?_
                | (with_reducible refine hKv _ _ (AWp_nop ?_); clear hKv Kv)
                | (with_reducible refine hKv _ _ ?_; clear hKv Kv; simp (dsimp := false) only [go_sem, Nat.reduceAdd, Nat.reduceBEq, Nat.reduceEqDiff, Nat.reduceLT, Nat.reduceLeDiff, Nat.reduceMul, Int.reduceToNat, reduceCtorEq, ↓reduceIte, Tryd.ntmps19, Tryd.results19, ks_19, mu_19, ti_ag3, ti_ag22, ti_ag23, ti_ag25, ti_ag35, ti_ag68, ti_fl25_0, ti_fl25_1, ti_hb44, ti_hb46, ti_hb53, ti_hb54, ti_hb55, ti_ky35, ti_mp78, ti_pl25, ti_sb23, ti_sb64, ti_sl22, ti_sl23, ti_sl64, ti_sl68, ti_sl142, ti_sz25, ti_sz35, ti_zr25, ti_zv64, itD, itV, rlV, rowD, rlD, hrow, hkx, m1, o3, o4, gVs_len, gObs_len])
                | (with_reducible refine hKA ?_; clear hKA hKB KA KB)
                | (with_reducible refine hKB ?_; clear hKA hKB KA KB)
                | (with_reducible refine AWp_regC mu_19 ks_19 ?_; intro Kv hKv; simp (dsimp := false) only [go_sem, Nat.reduceAdd, Nat.reduceBEq, Nat.reduceEqDiff, Nat.reduceLT, Nat.reduceLeDiff, Nat.reduceMul, Int.reduceToNat, reduceCtorEq, ↓reduceIte, Tryd.ntmps19, Tryd.results19, ks_19, mu_19, ti_ag3, ti_ag22, ti_ag23, ti_ag25, ti_ag35, ti_ag68, ti_fl25_0, ti_fl25_1, ti_hb44, ti_hb46, ti_hb53, ti_hb54, ti_hb55, ti_ky35, ti_mp78, ti_pl25, ti_sb23, ti_sb64, ti_sl22, ti_sl23, ti_sl64, ti_sl68, ti_sl142, ti_sz25, ti_sz35, ti_zr25, ti_zv64, itD, itV, rlV, rowD, rlD, hrow, hkx, m1, o3, o4, gVs_len, gObs_len])
                | with_reducible refine AWp_skipN ?_
                | with_reducible refine AWp_exitO (by repeat (first | with_reducible exact Out.hit | with_reducible apply Out.thenA | with_reducible apply Out.out rfl)) ?_
                | (with_reducible refine AWp_retR ?_; simp (dsimp := false) only [go_sem, Nat.reduceAdd, Nat.reduceBEq, Nat.reduceEqDiff, Nat.reduceLT, Nat.reduceLeDiff, Nat.reduceMul, Int.reduceToNat, reduceCtorEq, ↓reduceIte, Tryd.ntmps19, Tryd.results19, ks_19, mu_19, ti_ag3, ti_ag22, ti_ag23, ti_ag25, ti_ag35, ti_ag68, ti_fl25_0, ti_fl25_1, ti_hb44, ti_hb46, ti_hb53, ti_hb54, ti_hb55, ti_ky35, ti_mp78, ti_pl25, ti_sb23, ti_sb64, ti_sl22, ti_sl23, ti_sl64, ti_sl68, ti_sl142, ti_sz25, ti_sz35, ti_zr25, ti_zv64, itD, itV, rlV, rowD, rlD, hrow, hkx, m1, o3, o4, gVs_len, gObs_len])
                | (with_reducible refine AWp_regE mu_19 ks_19 ?_; intro Kv hKv; simp (dsimp := false) only [go_sem, Nat.reduceAdd, Nat.reduceBEq, Nat.reduceEqDiff, Nat.reduceLT, Nat.reduceLeDiff, Nat.reduceMul, Int.reduceToNat, reduceCtorEq, ↓reduceIte, Tryd.ntmps19, Tryd.results19, ks_19, mu_19, ti_ag3, ti_ag22, ti_ag23, ti_ag25, ti_ag35, ti_ag68, ti_fl25_0, ti_fl25_1, ti_hb44, ti_hb46, ti_hb53, ti_hb54, ti_hb55, ti_ky35, ti_mp78, ti_pl25, ti_sb23, ti_sb64, ti_sl22, ti_sl23, ti_sl64, ti_sl68, ti_sl142, ti_sz25, ti_sz35, ti_zr25, ti_zv64, itD, itV, rlV, rowD, rlD, hrow, hkx, m1, o3, o4, gVs_len, gObs_len])
                | (refine AWp_condC rfl ?_; intro KA KB hKA hKB; try simp only [onB_true, onB_false, onB_dec, onB_ndec, onB_not, onB_and, onB_or])
                | (refine AWp_condA rfl ?_ ?_)
                | with_reducible refine onB_of ?_ ?_
                | with_reducible rfl
                | omega)
              refine AWp_whileH (fun z : Nat => z = 0)
                (fun z => [(4, .rp (rlD a)), (5, .rp (rlD b)), (8, .pt H.length 0 0 0), (11, .d (.sl 1 [intRow p])), (14, .mo (H.length + 1) 0), (17, .os (H.length + (G.length + 1 + 1)) v), (75, .d (.sl 1 (a.rows.map rowD))), (76, .d (.i .i64 a.rows.length)), (77, .d (.i .i64 i)), (19, .d (.sl 3 (row.map itD))), (88, .d (.c (.slice none 0 0))), (89, .d (.i .i64 0)), (90, .d (.i .i64 z))])
                (fun z => .row 0 25 2 [[.d (.c (.slice none 0 0)), .d (.c (.slice none 0 0))]] :: .row 0 78 0 [[.mp [.i .i64, .i .i64, .s] (gKs G) (gVs (H.length + 2) G)]] :: (gObs 3 1 intCells G ++ [.row v 68 1 (acc.map rowC)])) (fun z => 0) 0 rfl ?_ ?_ ?_ ?_
              · first | rfl
              · simp (dsimp := false) only [go_sem, Nat.reduceAdd, Nat.reduceBEq, Nat.reduceEqDiff, Nat.reduceLT, Nat.reduceLeDiff, Nat.reduceMul, Int.reduceToNat, reduceCtorEq, ↓reduceIte, Tryd.ntmps19, Tryd.results19, ks_19, mu_19, ti_ag3, ti_ag22, ti_ag23, ti_ag25, ti_ag35, ti_ag68, ti_fl25_0, ti_fl25_1, ti_hb44, ti_hb46, ti_hb53, ti_hb54, ti_hb55, ti_ky35, ti_mp78, ti_pl25, ti_sb23, ti_sb64, ti_sl22, ti_sl23, ti_sl64, ti_sl68, ti_sl142, ti_sz25, ti_sz35, ti_zr25, ti_zv64, itD, itV, rlV, rowD, rlD, hrow, hkx, m1, o3, o4, gVs_len, gObs_len]
                first | done | omega | simp
              · rintro _ _ ob hob
                exact obels v acc _ (by simp [gObs_len]) ob hob
              rintro z rfl
              
              repeat' (first
                | with_reducible refine And.intro ?_ ?_
                | with_reducible intro _
                | with_reducible refine AWp_seq ?_
                | with_reducible refine AWp_block ?_
                | (with_reducible refine hKv _ _ (AWp_nop ?_); clear hKv Kv)
                | (with_reducible refine hKv _ _ ?_; clear hKv Kv; simp (dsimp := false) only [go_sem, Nat.reduceAdd, Nat.reduceBEq, Nat.reduceEqDiff, Nat.reduceLT, Nat.reduceLeDiff, Nat.reduceMul, Int.reduceToNat, reduceCtorEq, ↓reduceIte, Tryd.ntmps19, Tryd.results19, ks_19, mu_19, ti_ag3, ti_ag22, ti_ag23, ti_ag25, ti_ag35, ti_ag68, ti_fl25_0, ti_fl25_1, ti_hb44, ti_hb46, ti_hb53, ti_hb54, ti_hb55, ti_ky35, ti_mp78, ti_pl25, ti_sb23, ti_sb64, ti_sl22, ti_sl23, ti_sl64, ti_sl68, ti_sl142, ti_sz25, ti_sz35, ti_zr25, ti_zv64, itD, itV, rlV, rowD, rlD, o3, o4, gVs_len, gObs_len])
                | (with_reducible refine hKA ?_; clear hKA hKB KA KB)
                | (with_reducible refine hKB ?_; clear hKA hKB KA KB)
                | (with_reducible refine AWp_regC mu_19 ks_19 ?_; intro Kv hKv; simp (dsimp := false) only [go_sem, Nat.reduceAdd, Nat.reduceBEq, Nat.reduceEqDiff, Nat.reduceLT, Nat.reduceLeDiff, Nat.reduceMul, Int.reduceToNat, reduceCtorEq, ↓reduceIte, Tryd.ntmps19, Tryd.results19, ks_19, mu_19, ti_ag3, ti_ag22, ti_ag23, ti_ag25, ti_ag35, ti_ag68, ti_fl25_0, ti_fl25_1, ti_hb44, ti_hb46, ti_hb53, ti_hb54, ti_hb55, ti_ky35, ti_mp78, ti_pl25, ti_sb23, ti_sb64, ti_sl22, ti_sl23, ti_sl64, ti_sl68, ti_sl142, ti_sz25, ti_sz35, ti_zr25, ti_zv64, itD, itV, rlV, rowD, rlD, o3, o4, gVs_len, gObs_len])
                | with_reducible refine AWp_skipN ?_
                | with_reducible refine AWp_exitO (by repeat (first | with_reducible exact Out.hit | with_reducible apply Out.thenA | with_reducible apply Out.out rfl)) ?_
                | (with_reducible refine AWp_retR ?_; simp (dsimp := false) only [go_sem, Nat.reduceAdd, Nat.reduceBEq, Nat.reduceEqDiff, Nat.reduceLT, Nat.reduceLeDiff, Nat.reduceMul, Int.reduceToNat, reduceCtorEq, ↓reduceIte, Tryd.ntmps19, Tryd.results19, ks_19, mu_19, ti_ag3, ti_ag22, ti_ag23, ti_ag25, ti_ag35, ti_ag68, ti_fl25_0, ti_fl25_1, ti_hb44, ti_hb46, ti_hb53, ti_hb54, ti_hb55, ti_ky35, ti_mp78, ti_pl25, ti_sb23, ti_sb64, ti_sl22, ti_sl23, ti_sl64, ti_sl68, ti_sl142, ti_sz25, ti_sz35, ti_zr25, ti_zv64, itD, itV, rlV, rowD, rlD, o3, o4, gVs_len, gObs_len])
                | (with_reducible refine AWp_regE mu_19 ks_19 ?_; intro Kv hKv; simp (dsimp := false) only [go_sem, Nat.reduceAdd, Nat.reduceBEq, Nat.reduceEqDiff, Nat.reduceLT, Nat.reduceLeDiff, Nat.reduceMul, Int.reduceToNat, reduceCtorEq, ↓reduceIte, Tryd.ntmps19, Tryd.results19, ks_19, mu_19, ti_ag3, ti_ag22, ti_ag23, ti_ag25, ti_ag35, ti_ag68, ti_fl25_0, ti_fl25_1, ti_hb44, ti_hb46, ti_hb53, ti_hb54, ti_hb55, ti_ky35, ti_mp78, ti_pl25, ti_sb23, ti_sb64, ti_sl22, ti_sl23, ti_sl64, ti_sl68, ti_sl142, ti_sz25, ti_sz35, ti_zr25, ti_zv64, itD, itV, rlV, rowD, rlD, o3, o4, gVs_len, gObs_len])
                | (refine AWp_condC rfl ?_; intro KA KB hKA hKB; try simp only [onB_true, onB_false, onB_dec, onB_ndec, onB_not, onB_and, onB_or])
                | (refine AWp_condA rfl ?_ ?_)
                | with_reducible refine onB_of ?_ ?_
                | with_reducible rfl
                | omega)
              exact ⟨(i + 1, v, acc), ⟨by show i + 1 ≤ a.rows.length; omega, by show acc.length ≤ 1000001 + (i + 1); omega, hJ _ (by simp)⟩, by show a.rows.length - (i + 1) < a.rows.length - i; omega, rfl, by (repeat' (refine And.intro ?_ ?_)) <;> first | rfl | omega | simp⟩
          · have e : i = a.rows.length := by omega
            subst e
            rw [List.take_length] at h3
            unfold Shut at h3
            have hcl : (a.cols ++ b.cols).length ≤ 2097152 := by rw [List.length_append]; omega
            have hfin : K (relE (made (a.cols ++ b.cols) acc) (madeFault (a.cols ++ b.cols) acc.length)) H := by
              rcases h3 with h3 | h3
              · rw [h3]; exact hk
              · rw [made_big h3.1, madeFault_big h3.1 h3.2]; rw [made_big h3.2] at hk; exact hk
            have hcs : ∀ s, s ∈ a.cols ++ b.cols → s.length ≤ 1048576 := fun s h => by
              rcases List.mem_append.1 h with h | h
              · exact hA.col s h
              · exact hB.col s h
            have hcl2 : (a.cols ++ b.cols).length ≤ 1048576 := by
              have c1 := colsFault_len8 (relFault_ok hfa).1
              have c2 := colsFault_len8 (relFault_ok hfb).1
              rw [List.length_append]; omega
            clear h3 hk
            
            repeat' (first
              | with_reducible refine And.intro ?_ ?_
              | with_reducible intro _
              | with_reducible refine AWp_seq ?_
              | with_reducible refine AWp_block ?_
              | (with_reducible refine hKv _ _ (AWp_nop ?_); clear hKv Kv)
              | (with_reducible refine hKv _ _ ?_; clear hKv Kv; simp (dsimp := false) only [go_sem, Nat.reduceAdd, Nat.reduceBEq, Nat.reduceEqDiff, Nat.reduceLT, Nat.reduceLeDiff, Nat.reduceMul, Int.reduceToNat, reduceCtorEq, ↓reduceIte, Tryd.ntmps19, Tryd.results19, ks_19, mu_19, ti_ag3, ti_ag22, ti_ag23, ti_ag25, ti_ag35, ti_ag68, ti_fl25_0, ti_fl25_1, ti_hb44, ti_hb46, ti_hb53, ti_hb54, ti_hb55, ti_ky35, ti_mp78, ti_pl25, ti_sb23, ti_sb64, ti_sl22, ti_sl23, ti_sl64, ti_sl68, ti_sl142, ti_sz25, ti_sz35, ti_zr25, ti_zv64, itD, itV, rlV, rowD, rlD, finQ, o3, o4, gVs_len, gObs_len])
              | (with_reducible refine hKA ?_; clear hKA hKB KA KB)
              | (with_reducible refine hKB ?_; clear hKA hKB KA KB)
              | (with_reducible refine AWp_regC mu_19 ks_19 ?_; intro Kv hKv; simp (dsimp := false) only [go_sem, Nat.reduceAdd, Nat.reduceBEq, Nat.reduceEqDiff, Nat.reduceLT, Nat.reduceLeDiff, Nat.reduceMul, Int.reduceToNat, reduceCtorEq, ↓reduceIte, Tryd.ntmps19, Tryd.results19, ks_19, mu_19, ti_ag3, ti_ag22, ti_ag23, ti_ag25, ti_ag35, ti_ag68, ti_fl25_0, ti_fl25_1, ti_hb44, ti_hb46, ti_hb53, ti_hb54, ti_hb55, ti_ky35, ti_mp78, ti_pl25, ti_sb23, ti_sb64, ti_sl22, ti_sl23, ti_sl64, ti_sl68, ti_sl142, ti_sz25, ti_sz35, ti_zr25, ti_zv64, itD, itV, rlV, rowD, rlD, finQ, o3, o4, gVs_len, gObs_len])
              | with_reducible refine AWp_skipN ?_
              | with_reducible refine AWp_exitO (by repeat (first | with_reducible exact Out.hit | with_reducible apply Out.thenA | with_reducible apply Out.out rfl)) ?_
              | (with_reducible refine AWp_retR ?_; simp (dsimp := false) only [go_sem, Nat.reduceAdd, Nat.reduceBEq, Nat.reduceEqDiff, Nat.reduceLT, Nat.reduceLeDiff, Nat.reduceMul, Int.reduceToNat, reduceCtorEq, ↓reduceIte, Tryd.ntmps19, Tryd.results19, ks_19, mu_19, ti_ag3, ti_ag22, ti_ag23, ti_ag25, ti_ag35, ti_ag68, ti_fl25_0, ti_fl25_1, ti_hb44, ti_hb46, ti_hb53, ti_hb54, ti_hb55, ti_ky35, ti_mp78, ti_pl25, ti_sb23, ti_sb64, ti_sl22, ti_sl23, ti_sl64, ti_sl68, ti_sl142, ti_sz25, ti_sz35, ti_zr25, ti_zv64, itD, itV, rlV, rowD, rlD, finQ, o3, o4, gVs_len, gObs_len])
              | (with_reducible refine AWp_regE mu_19 ks_19 ?_; intro Kv hKv; simp (dsimp := false) only [go_sem, Nat.reduceAdd, Nat.reduceBEq, Nat.reduceEqDiff, Nat.reduceLT, Nat.reduceLeDiff, Nat.reduceMul, Int.reduceToNat, reduceCtorEq, ↓reduceIte, Tryd.ntmps19, Tryd.results19, ks_19, mu_19, ti_ag3, ti_ag22, ti_ag23, ti_ag25, ti_ag35, ti_ag68, ti_fl25_0, ti_fl25_1, ti_hb44, ti_hb46, ti_hb53, ti_hb54, ti_hb55, ti_ky35, ti_mp78, ti_pl25, ti_sb23, ti_sb64, ti_sl22, ti_sl23, ti_sl64, ti_sl68, ti_sl142, ti_sz25, ti_sz35, ti_zr25, ti_zv64, itD, itV, rlV, rowD, rlD, finQ, o3, o4, gVs_len, gObs_len])
              | (refine AWp_condC rfl ?_; intro KA KB hKA hKB; try simp only [onB_true, onB_false, onB_dec, onB_ndec, onB_not, onB_and, onB_or])
              | (refine AWp_condA rfl ?_ ?_)
              | (refine cat2Str a.cols b.cols (by omega) _ _ ?_; try simp (dsimp := false) only [go_sem, Nat.reduceAdd, Nat.reduceBEq, Nat.reduceEqDiff, Nat.reduceLT, Nat.reduceLeDiff, Nat.reduceMul, Int.reduceToNat, reduceCtorEq, ↓reduceIte, Tryd.ntmps19, Tryd.results19, ks_19, mu_19, ti_ag3, ti_ag22, ti_ag23, ti_ag25, ti_ag35, ti_ag68, ti_fl25_0, ti_fl25_1, ti_hb44, ti_hb46, ti_hb53, ti_hb54, ti_hb55, ti_ky35, ti_mp78, ti_pl25, ti_sb23, ti_sb64, ti_sl22, ti_sl23, ti_sl64, ti_sl68, ti_sl142, ti_sz25, ti_sz35, ti_zr25, ti_zv64, itD, itV, rlV, rowD, rlD, finQ, o3, o4, gVs_len, gObs_len])
              | (refine finishedO_A (a.cols ++ b.cols) _ _ _ _ hcl2 hcs (by rw [List.length_map]; omega) _ _ (o3 _ _ _) ?_; try simp (dsimp := false) only [go_sem, Nat.reduceAdd, Nat.reduceBEq, Nat.reduceEqDiff, Nat.reduceLT, Nat.reduceLeDiff, Nat.reduceMul, Int.reduceToNat, reduceCtorEq, ↓reduceIte, Tryd.ntmps19, Tryd.results19, ks_19, mu_19, ti_ag3, ti_ag22, ti_ag23, ti_ag25, ti_ag35, ti_ag68, ti_fl25_0, ti_fl25_1, ti_hb44, ti_hb46, ti_hb53, ti_hb54, ti_hb55, ti_ky35, ti_mp78, ti_pl25, ti_sb23, ti_sb64, ti_sl22, ti_sl23, ti_sl64, ti_sl68, ti_sl142, ti_sz25, ti_sz35, ti_zr25, ti_zv64, itD, itV, rlV, rowD, rlD, finQ, o3, o4, gVs_len, gObs_len])
              | with_reducible refine onB_of ?_ ?_
              | with_reducible rfl
              | omega)
            · exact fin_ret hfin (by assumption) (by omega) (o3 _ _ _)
            · exact fin_bad hfin rfl (by assumption)
  · rw [joined, if_neg hf] at hk
    
    refine ACalls_of Tryd.func19 rfl in_19 (Nat.le_of_ble_eq_true rfl) ?_
    intro F hF
    simp (dsimp := false) only [go_sem, Nat.reduceAdd, Nat.reduceBEq, Nat.reduceEqDiff, Nat.reduceLT, Nat.reduceLeDiff, Nat.reduceMul, Int.reduceToNat, reduceCtorEq, ↓reduceIte, Tryd.ntmps19, Tryd.results19, ks_19, mu_19, ti_ag3, ti_ag22, ti_ag23, ti_ag25, ti_ag35, ti_ag68, ti_fl25_0, ti_fl25_1, ti_hb44, ti_hb46, ti_hb53, ti_hb54, ti_hb55, ti_ky35, ti_mp78, ti_pl25, ti_sb23, ti_sb64, ti_sl22, ti_sl23, ti_sl64, ti_sl68, ti_sl142, ti_sz25, ti_sz35, ti_zr25, ti_zv64, itD, itV, rlV, rowD, rlD, hf, in_19] at hF
    subst hF
    repeat' (first
      | with_reducible refine And.intro ?_ ?_
      | with_reducible intro _
      | with_reducible refine AWp_seq ?_
      | with_reducible refine AWp_block ?_
      | (with_reducible refine hKv _ _ (AWp_nop ?_); clear hKv Kv)
      | (with_reducible refine hKv _ _ ?_; clear hKv Kv; simp (dsimp := false) only [go_sem, Nat.reduceAdd, Nat.reduceBEq, Nat.reduceEqDiff, Nat.reduceLT, Nat.reduceLeDiff, Nat.reduceMul, Int.reduceToNat, reduceCtorEq, ↓reduceIte, Tryd.ntmps19, Tryd.results19, ks_19, mu_19, ti_ag3, ti_ag22, ti_ag23, ti_ag25, ti_ag35, ti_ag68, ti_fl25_0, ti_fl25_1, ti_hb44, ti_hb46, ti_hb53, ti_hb54, ti_hb55, ti_ky35, ti_mp78, ti_pl25, ti_sb23, ti_sb64, ti_sl22, ti_sl23, ti_sl64, ti_sl68, ti_sl142, ti_sz25, ti_sz35, ti_zr25, ti_zv64, itD, itV, rlV, rowD, rlD, hf])
      | (with_reducible refine hKA ?_; clear hKA hKB KA KB)
      | (with_reducible refine hKB ?_; clear hKA hKB KA KB)
      | (with_reducible refine AWp_regC mu_19 ks_19 ?_; intro Kv hKv; simp (dsimp := false) only [go_sem, Nat.reduceAdd, Nat.reduceBEq, Nat.reduceEqDiff, Nat.reduceLT, Nat.reduceLeDiff, Nat.reduceMul, Int.reduceToNat, reduceCtorEq, ↓reduceIte, Tryd.ntmps19, Tryd.results19, ks_19, mu_19, ti_ag3, ti_ag22, ti_ag23, ti_ag25, ti_ag35, ti_ag68, ti_fl25_0, ti_fl25_1, ti_hb44, ti_hb46, ti_hb53, ti_hb54, ti_hb55, ti_ky35, ti_mp78, ti_pl25, ti_sb23, ti_sb64, ti_sl22, ti_sl23, ti_sl64, ti_sl68, ti_sl142, ti_sz25, ti_sz35, ti_zr25, ti_zv64, itD, itV, rlV, rowD, rlD, hf])
      | with_reducible refine AWp_skipN ?_
      | with_reducible refine AWp_exitO (by repeat (first | with_reducible exact Out.hit | with_reducible apply Out.thenA | with_reducible apply Out.out rfl)) ?_
      | (with_reducible refine AWp_retR ?_; simp (dsimp := false) only [go_sem, Nat.reduceAdd, Nat.reduceBEq, Nat.reduceEqDiff, Nat.reduceLT, Nat.reduceLeDiff, Nat.reduceMul, Int.reduceToNat, reduceCtorEq, ↓reduceIte, Tryd.ntmps19, Tryd.results19, ks_19, mu_19, ti_ag3, ti_ag22, ti_ag23, ti_ag25, ti_ag35, ti_ag68, ti_fl25_0, ti_fl25_1, ti_hb44, ti_hb46, ti_hb53, ti_hb54, ti_hb55, ti_ky35, ti_mp78, ti_pl25, ti_sb23, ti_sb64, ti_sl22, ti_sl23, ti_sl64, ti_sl68, ti_sl142, ti_sz25, ti_sz35, ti_zr25, ti_zv64, itD, itV, rlV, rowD, rlD, hf])
      | (with_reducible refine AWp_regE mu_19 ks_19 ?_; intro Kv hKv; simp (dsimp := false) only [go_sem, Nat.reduceAdd, Nat.reduceBEq, Nat.reduceEqDiff, Nat.reduceLT, Nat.reduceLeDiff, Nat.reduceMul, Int.reduceToNat, reduceCtorEq, ↓reduceIte, Tryd.ntmps19, Tryd.results19, ks_19, mu_19, ti_ag3, ti_ag22, ti_ag23, ti_ag25, ti_ag35, ti_ag68, ti_fl25_0, ti_fl25_1, ti_hb44, ti_hb46, ti_hb53, ti_hb54, ti_hb55, ti_ky35, ti_mp78, ti_pl25, ti_sb23, ti_sb64, ti_sl22, ti_sl23, ti_sl64, ti_sl68, ti_sl142, ti_sz25, ti_sz35, ti_zr25, ti_zv64, itD, itV, rlV, rowD, rlD, hf])
      | (refine AWp_condC rfl ?_; intro KA KB hKA hKB; try simp only [onB_true, onB_false, onB_dec, onB_ndec, onB_not, onB_and, onB_or])
      | (refine AWp_condA rfl ?_ ?_)
      | (refine both_A a b hA hB _ _ ?_; try simp (dsimp := false) only [go_sem, Nat.reduceAdd, Nat.reduceBEq, Nat.reduceEqDiff, Nat.reduceLT, Nat.reduceLeDiff, Nat.reduceMul, Int.reduceToNat, reduceCtorEq, ↓reduceIte, Tryd.ntmps19, Tryd.results19, ks_19, mu_19, ti_ag3, ti_ag22, ti_ag23, ti_ag25, ti_ag35, ti_ag68, ti_fl25_0, ti_fl25_1, ti_hb44, ti_hb46, ti_hb53, ti_hb54, ti_hb55, ti_ky35, ti_mp78, ti_pl25, ti_sb23, ti_sb64, ti_sl22, ti_sl23, ti_sl64, ti_sl68, ti_sl142, ti_sz25, ti_sz35, ti_zr25, ti_zv64, itD, itV, rlV, rowD, rlD, hf])
      | with_reducible refine onB_of ?_ ?_
      | with_reducible rfl
      | omega)
    all_goals exact dropF hk (fz_rl0 _ _ _) (bel_relE _ _ _)
end Go.Proofs.YtafbojmnmadlpaaDoor
