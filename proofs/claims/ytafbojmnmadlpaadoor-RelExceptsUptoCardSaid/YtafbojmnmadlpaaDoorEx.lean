/- Rows that are not there: what the program and the reference make. No condition but that the tables of package unicode/utf8 are there. -/
import Derived.Test.YtafbojmnmadlpaaDoorUq
import Derived.Test.YtafbojmnmadlpaaDoorPj2
set_option linter.all false
set_option linter.unusedSimpArgs false
set_option linter.unusedVariables false
namespace Go.Proofs.YtafbojmnmadlpaaDoor
open Go Go.Proofs.YtafbojmnmadlpaaDoor.Ab
variable [Glo] [U8]
set_option maxHeartbeats 4000000
set_option maxRecDepth 20000

/- the live slots of pleacher/rel.Except -/
def ks_25 : Nat → List Nat
  | 0 => [2, 3, 4, 6]
  | 1 => [2, 3, 4, 6, 8]
  | 2 => [2, 3, 4, 6, 8, 22]
  | 3 => [6, 7]
  | 4 => [2, 3, 4, 6, 9, 10]
  | 5 => [2, 3, 4, 6, 9, 10, 32]
  | 6 => [6, 7]
  | 7 => [3, 4, 6, 9, 10, 11]
  | 8 => [3, 4, 6, 9, 10, 11, 42]
  | 9 => [6, 7]
  | 10 => [3, 4, 6, 9, 11, 12]
  | 11 => [3, 6, 9, 11, 12, 47, 48, 49]
  | 12 => [3, 6, 9, 11, 12, 47, 48, 49, 50]
  | 13 => [3, 6, 9, 11, 12, 14, 47, 48, 49]
  | 14 => [3, 6, 9, 11, 12, 47, 48, 49]
  | 15 => [3, 6, 9, 11, 12, 47, 48, 49]
  | 16 => [3, 6, 9, 12, 15]
  | 17 => [3, 6, 9, 12, 15, 60, 61, 62]
  | 18 => [3, 6, 9, 12, 15, 60, 61, 62, 63]
  | 19 => [3, 6, 9, 12, 15, 17, 60, 61, 62]
  | 20 => [3, 6, 9, 12, 15, 17, 60, 61, 62, 72]
  | 21 => [3, 6, 9, 12, 15, 60, 61, 62]
  | 22 => [3, 6, 9, 12, 15, 60, 61, 62]
  | 23 => [6, 7]
  | _ => []
def mu_25 : List Nat := [15]
def in_25 : List Nat := [0, 1, 2]
theorem except_A (a b : Rl) (hA : ShR a) (hB : ShR b) (cols : List (List UInt8)) (hc : cols.length ≤ 1048576) (H : Heap) (K : V → Heap → Prop) (hk : K (relE (excepted a b cols).1 (excepted a b cols).2) H) :
    ACalls Tryd.prog 25 [rlV a, rlV b, .d (.sl 1 (cols.map strRow))] H K := by
  have q1 := hA.ncols
  have q2 := hA.nrows
  have q3 := hB.nrows
  by_cases hf : twoFault a b = 0
  · cases hp : places a.cols cols with
    | none =>
      rw [excepted, if_pos hf, hp] at hk
      simp only [] at hk
      
      refine ACalls_of Tryd.func25 rfl in_25 (Nat.le_of_ble_eq_true rfl) ?_
      intro F hF
      simp (dsimp := false) only [go_sem, Nat.reduceAdd, Nat.reduceBEq, Nat.reduceEqDiff, Nat.reduceLT, Nat.reduceLeDiff, Nat.reduceMul, Int.reduceToNat, reduceCtorEq, ↓reduceIte, Tryd.ntmps25, Tryd.results25, ks_25, mu_25, ti_ag22, ti_ag23, ti_ag25, ti_ag68, ti_fl25_0, ti_fl25_1, ti_hb44, ti_hb46, ti_hb53, ti_hb64, ti_hb65, ti_hb66, ti_ky9, ti_mp89, ti_pl25, ti_sb23, ti_sl23, ti_sz25, ti_zr25, ti_zv4, itD, itV, rlV, rowD, rlD, hf, hp, Option.getD_none, Option.isSome_none, in_25] at hF
      subst hF
      repeat' (first
        | with_reducible refine And.intro ?_ ?_
        | with_reducible intro _
        | with_reducible refine AWp_seq ?_
        | with_reducible refine AWp_block ?_
        | (with_reducible refine hKv _ _ (AWp_nop ?_); clear hKv Kv)
        | (with_reducible refine hKv _ _ ?_; clear hKv Kv; simp (dsimp := false) only [go_sem, Nat.reduceAdd, Nat.reduceBEq, Nat.reduceEqDiff, Nat.reduceLT, Nat.reduceLeDiff, Nat.reduceMul, Int.reduceToNat, reduceCtorEq, ↓reduceIte, Tryd.ntmps25, Tryd.results25, ks_25, mu_25, ti_ag22, ti_ag23, ti_ag25, ti_ag68, ti_fl25_0, ti_fl25_1, ti_hb44, ti_hb46, ti_hb53, ti_hb64, ti_hb65, ti_hb66, ti_ky9, ti_mp89, ti_pl25, ti_sb23, ti_sl23, ti_sz25, ti_zr25, ti_zv4, itD, itV, rlV, rowD, rlD, hf, hp, Option.getD_none, Option.isSome_none])
        | (with_reducible refine hKA ?_; clear hKA hKB KA KB)
        | (with_reducible refine hKB ?_; clear hKA hKB KA KB)
        | (with_reducible refine AWp_regC mu_25 ks_25 ?_; intro Kv hKv; simp (dsimp := false) only [go_sem, Nat.reduceAdd, Nat.reduceBEq, Nat.reduceEqDiff, Nat.reduceLT, Nat.reduceLeDiff, Nat.reduceMul, Int.reduceToNat, reduceCtorEq, ↓reduceIte, Tryd.ntmps25, Tryd.results25, ks_25, mu_25, ti_ag22, ti_ag23, ti_ag25, ti_ag68, ti_fl25_0, ti_fl25_1, ti_hb44, ti_hb46, ti_hb53, ti_hb64, ti_hb65, ti_hb66, ti_ky9, ti_mp89, ti_pl25, ti_sb23, ti_sl23, ti_sz25, ti_zr25, ti_zv4, itD, itV, rlV, rowD, rlD, hf, hp, Option.getD_none, Option.isSome_none])
        | with_reducible refine AWp_skipN ?_
        | with_reducible refine AWp_exitO (by repeat (first | with_reducible exact Out.hit | with_reducible apply Out.thenA | with_reducible apply Out.out rfl)) ?_
        | (with_reducible refine AWp_retR ?_; simp (dsimp := false) only [go_sem, Nat.reduceAdd, Nat.reduceBEq, Nat.reduceEqDiff, Nat.reduceLT, Nat.reduceLeDiff, Nat.reduceMul, Int.reduceToNat, reduceCtorEq, ↓reduceIte, Tryd.ntmps25, Tryd.results25, ks_25, mu_25, ti_ag22, ti_ag23, ti_ag25, ti_ag68, ti_fl25_0, ti_fl25_1, ti_hb44, ti_hb46, ti_hb53, ti_hb64, ti_hb65, ti_hb66, ti_ky9, ti_mp89, ti_pl25, ti_sb23, ti_sl23, ti_sz25, ti_zr25, ti_zv4, itD, itV, rlV, rowD, rlD, hf, hp, Option.getD_none, Option.isSome_none])
        | (with_reducible refine AWp_regE mu_25 ks_25 ?_; intro Kv hKv; simp (dsimp := false) only [go_sem, Nat.reduceAdd, Nat.reduceBEq, Nat.reduceEqDiff, Nat.reduceLT, Nat.reduceLeDiff, Nat.reduceMul, Int.reduceToNat, reduceCtorEq, ↓reduceIte, Tryd.ntmps25, Tryd.results25, ks_25, mu_25, ti_ag22, ti_ag23, ti_ag25, ti_ag68, ti_fl25_0, ti_fl25_1, ti_hb44, ti_hb46, ti_hb53, ti_hb64, ti_hb65, ti_hb66, ti_ky9, ti_mp89, ti_pl25, ti_sb23, ti_sl23, ti_sz25, ti_zr25, ti_zv4, itD, itV, rlV, rowD, rlD, hf, hp, Option.getD_none, Option.isSome_none])
        | (refine AWp_condC rfl ?_; intro KA KB hKA hKB; try simp only [onB_true, onB_false, onB_dec, onB_ndec, onB_not, onB_and, onB_or])
        | (refine AWp_condA rfl ?_ ?_)
        | (refine both_A a b hA hB _ _ ?_; try simp (dsimp := false) only [go_sem, Nat.reduceAdd, Nat.reduceBEq, Nat.reduceEqDiff, Nat.reduceLT, Nat.reduceLeDiff, Nat.reduceMul, Int.reduceToNat, reduceCtorEq, ↓reduceIte, Tryd.ntmps25, Tryd.results25, ks_25, mu_25, ti_ag22, ti_ag23, ti_ag25, ti_ag68, ti_fl25_0, ti_fl25_1, ti_hb44, ti_hb46, ti_hb53, ti_hb64, ti_hb65, ti_hb66, ti_ky9, ti_mp89, ti_pl25, ti_sb23, ti_sl23, ti_sz25, ti_zr25, ti_zv4, itD, itV, rlV, rowD, rlD, hf, hp, Option.getD_none, Option.isSome_none])
        | (refine places_A a hA cols hc _ _ ?_; try simp (dsimp := false) only [go_sem, Nat.reduceAdd, Nat.reduceBEq, Nat.reduceEqDiff, Nat.reduceLT, Nat.reduceLeDiff, Nat.reduceMul, Int.reduceToNat, reduceCtorEq, ↓reduceIte, Tryd.ntmps25, Tryd.results25, ks_25, mu_25, ti_ag22, ti_ag23, ti_ag25, ti_ag68, ti_fl25_0, ti_fl25_1, ti_hb44, ti_hb46, ti_hb53, ti_hb64, ti_hb65, ti_hb66, ti_ky9, ti_mp89, ti_pl25, ti_sb23, ti_sl23, ti_sz25, ti_zr25, ti_zv4, itD, itV, rlV, rowD, rlD, hf, hp, Option.getD_none, Option.isSome_none])
        | with_reducible refine onB_of ?_ ?_
        | with_reducible rfl
        | omega)
      all_goals exact dropF hk (fz_rl0 _ _ _) (bel_relE _ _ _)
    | some p =>
      cases hq : places b.cols cols with
      | none =>
        rw [excepted, if_pos hf, hp, hq] at hk
        simp only [] at hk
        
        refine ACalls_of Tryd.func25 rfl in_25 (Nat.le_of_ble_eq_true rfl) ?_
        intro F hF
        simp (dsimp := false) only [go_sem, Nat.reduceAdd, Nat.reduceBEq, Nat.reduceEqDiff, Nat.reduceLT, Nat.reduceLeDiff, Nat.reduceMul, Int.reduceToNat, reduceCtorEq, ↓reduceIte, Tryd.ntmps25, Tryd.results25, ks_25, mu_25, ti_ag22, ti_ag23, ti_ag25, ti_ag68, ti_fl25_0, ti_fl25_1, ti_hb44, ti_hb46, ti_hb53, ti_hb64, ti_hb65, ti_hb66, ti_ky9, ti_mp89, ti_pl25, ti_sb23, ti_sl23, ti_sz25, ti_zr25, ti_zv4, itD, itV, rlV, rowD, rlD, hf, hp, hq, Option.getD_none, Option.isSome_none, Option.getD_some, Option.isSome_some, in_25] at hF
        subst hF
        repeat' (first
          | with_reducible refine And.intro ?_ ?_
          | with_reducible intro _
          | with_reducible refine AWp_seq ?_
          | with_reducible refine AWp_block ?_
          | (with_reducible refine hKv _ _ (AWp_nop ?_); clear hKv Kv)
          | (with_reducible refine hKv _ _ ?_; clear hKv Kv; simp (dsimp := false) only [go_sem, Nat.reduceAdd, Nat.reduceBEq, Nat.reduceEqDiff, Nat.reduceLT, Nat.reduceLeDiff, Nat.reduceMul, Int.reduceToNat, reduceCtorEq, ↓reduceIte, Tryd.ntmps25, Tryd.results25, ks_25, mu_25, ti_ag22, ti_ag23, ti_ag25, ti_ag68, ti_fl25_0, ti_fl25_1, ti_hb44, ti_hb46, ti_hb53, ti_hb64, ti_hb65, ti_hb66, ti_ky9, ti_mp89, ti_pl25, ti_sb23, ti_sl23, ti_sz25, ti_zr25, ti_zv4, itD, itV, rlV, rowD, rlD, hf, hp, hq, Option.getD_none, Option.isSome_none, Option.getD_some, Option.isSome_some])
          | (with_reducible refine hKA ?_; clear hKA hKB KA KB)
          | (with_reducible refine hKB ?_; clear hKA hKB KA KB)
          | (with_reducible refine AWp_regC mu_25 ks_25 ?_; intro Kv hKv; simp (dsimp := false) only [go_sem, Nat.reduceAdd, Nat.reduceBEq, Nat.reduceEqDiff, Nat.reduceLT, Nat.reduceLeDiff, Nat.reduceMul, Int.reduceToNat, reduceCtorEq, ↓reduceIte, Tryd.ntmps25, Tryd.results25, ks_25, mu_25, ti_ag22, ti_ag23, ti_ag25, ti_ag68, ti_fl25_0, ti_fl25_1, ti_hb44, ti_hb46, ti_hb53, ti_hb64, ti_hb65, ti_hb66, ti_ky9, ti_mp89, ti_pl25, ti_sb23, ti_sl23, ti_sz25, ti_zr25, ti_zv4, itD, itV, rlV, rowD, rlD, hf, hp, hq, Option.getD_none, Option.isSome_none, Option.getD_some, Option.isSome_some])
          | with_reducible refine AWp_skipN ?_
          | with_reducible refine AWp_exitO (by repeat (first | with_reducible exact Out.hit | with_reducible apply Out.thenA | with_reducible apply Out.out rfl)) ?_
          | (with_reducible refine AWp_retR ?_; simp (dsimp := false) only [go_sem, Nat.reduceAdd, Nat.reduceBEq, Nat.reduceEqDiff, Nat.reduceLT, Nat.reduceLeDiff, Nat.reduceMul, Int.reduceToNat, reduceCtorEq, ↓reduceIte, Tryd.ntmps25, Tryd.results25, ks_25, mu_25, ti_ag22, ti_ag23, ti_ag25, ti_ag68, ti_fl25_0, ti_fl25_1, ti_hb44, ti_hb46, ti_hb53, ti_hb64, ti_hb65, ti_hb66, ti_ky9, ti_mp89, ti_pl25, ti_sb23, ti_sl23, ti_sz25, ti_zr25, ti_zv4, itD, itV, rlV, rowD, rlD, hf, hp, hq, Option.getD_none, Option.isSome_none, Option.getD_some, Option.isSome_some])
          | (with_reducible refine AWp_regE mu_25 ks_25 ?_; intro Kv hKv; simp (dsimp := false) only [go_sem, Nat.reduceAdd, Nat.reduceBEq, Nat.reduceEqDiff, Nat.reduceLT, Nat.reduceLeDiff, Nat.reduceMul, Int.reduceToNat, reduceCtorEq, ↓reduceIte, Tryd.ntmps25, Tryd.results25, ks_25, mu_25, ti_ag22, ti_ag23, ti_ag25, ti_ag68, ti_fl25_0, ti_fl25_1, ti_hb44, ti_hb46, ti_hb53, ti_hb64, ti_hb65, ti_hb66, ti_ky9, ti_mp89, ti_pl25, ti_sb23, ti_sl23, ti_sz25, ti_zr25, ti_zv4, itD, itV, rlV, rowD, rlD, hf, hp, hq, Option.getD_none, Option.isSome_none, Option.getD_some, Option.isSome_some])
          | (refine AWp_condC rfl ?_; intro KA KB hKA hKB; try simp only [onB_true, onB_false, onB_dec, onB_ndec, onB_not, onB_and, onB_or])
          | (refine AWp_condA rfl ?_ ?_)
          | (refine both_A a b hA hB _ _ ?_; try simp (dsimp := false) only [go_sem, Nat.reduceAdd, Nat.reduceBEq, Nat.reduceEqDiff, Nat.reduceLT, Nat.reduceLeDiff, Nat.reduceMul, Int.reduceToNat, reduceCtorEq, ↓reduceIte, Tryd.ntmps25, Tryd.results25, ks_25, mu_25, ti_ag22, ti_ag23, ti_ag25, ti_ag68, ti_fl25_0, ti_fl25_1, ti_hb44, ti_hb46, ti_hb53, ti_hb64, ti_hb65, ti_hb66, ti_ky9, ti_mp89, ti_pl25, ti_sb23, ti_sl23, ti_sz25, ti_zr25, ti_zv4, itD, itV, rlV, rowD, rlD, hf, hp, hq, Option.getD_none, Option.isSome_none, Option.getD_some, Option.isSome_some])
          | (refine places_A a hA cols hc _ _ ?_; try simp (dsimp := false) only [go_sem, Nat.reduceAdd, Nat.reduceBEq, Nat.reduceEqDiff, Nat.reduceLT, Nat.reduceLeDiff, Nat.reduceMul, Int.reduceToNat, reduceCtorEq, ↓reduceIte, Tryd.ntmps25, Tryd.results25, ks_25, mu_25, ti_ag22, ti_ag23, ti_ag25, ti_ag68, ti_fl25_0, ti_fl25_1, ti_hb44, ti_hb46, ti_hb53, ti_hb64, ti_hb65, ti_hb66, ti_ky9, ti_mp89, ti_pl25, ti_sb23, ti_sl23, ti_sz25, ti_zr25, ti_zv4, itD, itV, rlV, rowD, rlD, hf, hp, hq, Option.getD_none, Option.isSome_none, Option.getD_some, Option.isSome_some])
          | (refine places_A b hB cols hc _ _ ?_; try simp (dsimp := false) only [go_sem, Nat.reduceAdd, Nat.reduceBEq, Nat.reduceEqDiff, Nat.reduceLT, Nat.reduceLeDiff, Nat.reduceMul, Int.reduceToNat, reduceCtorEq, ↓reduceIte, Tryd.ntmps25, Tryd.results25, ks_25, mu_25, ti_ag22, ti_ag23, ti_ag25, ti_ag68, ti_fl25_0, ti_fl25_1, ti_hb44, ti_hb46, ti_hb53, ti_hb64, ti_hb65, ti_hb66, ti_ky9, ti_mp89, ti_pl25, ti_sb23, ti_sl23, ti_sz25, ti_zr25, ti_zv4, itD, itV, rlV, rowD, rlD, hf, hp, hq, Option.getD_none, Option.isSome_none, Option.getD_some, Option.isSome_some])
          | with_reducible refine onB_of ?_ ?_
          | with_reducible rfl
          | omega)
        all_goals exact dropF hk (fz_rl0 _ _ _) (bel_relE _ _ _)
      | some q =>
        rw [excepted, if_pos hf, hp, hq] at hk
        simp only [] at hk
        obtain ⟨hfa, hfb⟩ : relFault a = 0 ∧ relFault b = 0 := by
          unfold twoFault at hf
          split at hf
          · exact ⟨by assumption, hf⟩
          · contradiction
        obtain ⟨_, hNa, halla⟩ := relFault_ok hfa
        obtain ⟨_, hNb, hallb⟩ := relFault_ok hfb
        obtain ⟨hmemp, hpl0⟩ := places_mem hp
        obtain ⟨hmemq, hql0⟩ := places_mem hq
        have hoka : ∀ row, row ∈ a.rows → ∀ x, x ∈ projRow p row → KeyOk x := fun row hrow => projRow_ok hmemp (halla row hrow).1 (itemsOk hA halla hrow)
        have hokb : ∀ row, row ∈ b.rows → ∀ x, x ∈ projRow q row → KeyOk x := fun row hrow => projRow_ok hmemq (hallb row hrow).1 (itemsOk hB hallb hrow)
        
        refine ACalls_of Tryd.func25 rfl in_25 (Nat.le_of_ble_eq_true rfl) ?_
        intro F hF
        simp (dsimp := false) only [go_sem, Nat.reduceAdd, Nat.reduceBEq, Nat.reduceEqDiff, Nat.reduceLT, Nat.reduceLeDiff, Nat.reduceMul, Int.reduceToNat, reduceCtorEq, ↓reduceIte, Tryd.ntmps25, Tryd.results25, ks_25, mu_25, ti_ag22, ti_ag23, ti_ag25, ti_ag68, ti_fl25_0, ti_fl25_1, ti_hb44, ti_hb46, ti_hb53, ti_hb64, ti_hb65, ti_hb66, ti_ky9, ti_mp89, ti_pl25, ti_sb23, ti_sl23, ti_sz25, ti_zr25, ti_zv4, itD, itV, rlV, rowD, rlD, hf, hp, hq, Option.getD_some, Option.isSome_some, in_25] at hF
        subst hF
        repeat' (first
          | with_reducible refine And.intro ?_ ?_
          | with_reducible intro _
          | with_reducible refine AWp_seq ?_
          | with_reducible refine AWp_block ?_
          | (with_reducible refine hKv _ _ (AWp_nop ?_); clear hKv Kv)
          | (with_reducible refine hKv _ _ ?_; clear hKv Kv; simp (dsimp := false) only [go_sem, Nat.reduceAdd, Nat.reduceBEq, Nat.reduceEqDiff, Nat.reduceLT, Nat.reduceLeDiff, Nat.reduceMul, Int.reduceToNat, reduceCtorEq, ↓reduceIte, Tryd.ntmps25, Tryd.results25, ks_25, mu_25, ti_ag22, ti_ag23, ti_ag25, ti_ag68, ti_fl25_0, ti_fl25_1, ti_hb44, ti_hb46, ti_hb53, ti_hb64, ti_hb65, ti_hb66, ti_ky9, ti_mp89, ti_pl25, ti_sb23, ti_sl23, ti_sz25, ti_zr25, ti_zv4, itD, itV, rlV, rowD, rlD, hf, hp, hq, Option.getD_some, Option.isSome_some])
          | (with_reducible refine hKA ?_; clear hKA hKB KA KB)
          | (with_reducible refine hKB ?_; clear hKA hKB KA KB)
          | (with_reducible refine AWp_regC mu_25 ks_25 ?_; intro Kv hKv; simp (dsimp := false) only [go_sem, Nat.reduceAdd, Nat.reduceBEq, Nat.reduceEqDiff, Nat.reduceLT, Nat.reduceLeDiff, Nat.reduceMul, Int.reduceToNat, reduceCtorEq, ↓reduceIte, Tryd.ntmps25, Tryd.results25, ks_25, mu_25, ti_ag22, ti_ag23, ti_ag25, ti_ag68, ti_fl25_0, ti_fl25_1, ti_hb44, ti_hb46, ti_hb53, ti_hb64, ti_hb65, ti_hb66, ti_ky9, ti_mp89, ti_pl25, ti_sb23, ti_sl23, ti_sz25, ti_zr25, ti_zv4, itD, itV, rlV, rowD, rlD, hf, hp, hq, Option.getD_some, Option.isSome_some])
          | with_reducible refine AWp_skipN ?_
          | with_reducible refine AWp_exitO (by repeat (first | with_reducible exact Out.hit | with_reducible apply Out.thenA | with_reducible apply Out.out rfl)) ?_
          | (with_reducible refine AWp_retR ?_; simp (dsimp := false) only [go_sem, Nat.reduceAdd, Nat.reduceBEq, Nat.reduceEqDiff, Nat.reduceLT, Nat.reduceLeDiff, Nat.reduceMul, Int.reduceToNat, reduceCtorEq, ↓reduceIte, Tryd.ntmps25, Tryd.results25, ks_25, mu_25, ti_ag22, ti_ag23, ti_ag25, ti_ag68, ti_fl25_0, ti_fl25_1, ti_hb44, ti_hb46, ti_hb53, ti_hb64, ti_hb65, ti_hb66, ti_ky9, ti_mp89, ti_pl25, ti_sb23, ti_sl23, ti_sz25, ti_zr25, ti_zv4, itD, itV, rlV, rowD, rlD, hf, hp, hq, Option.getD_some, Option.isSome_some])
          | (with_reducible refine AWp_regE mu_25 ks_25 ?_; intro Kv hKv; simp (dsimp := false) only [go_sem, Nat.reduceAdd, Nat.reduceBEq, Nat.reduceEqDiff, Nat.reduceLT, Nat.reduceLeDiff, Nat.reduceMul, Int.reduceToNat, reduceCtorEq, ↓reduceIte, Tryd.ntmps25, Tryd.results25, ks_25, mu_25, ti_ag22, ti_ag23, ti_ag25, ti_ag68, ti_fl25_0, ti_fl25_1, ti_hb44, ti_hb46, ti_hb53, ti_hb64, ti_hb65, ti_hb66, ti_ky9, ti_mp89, ti_pl25, ti_sb23, ti_sl23, ti_sz25, ti_zr25, ti_zv4, itD, itV, rlV, rowD, rlD, hf, hp, hq, Option.getD_some, Option.isSome_some])
          | (refine AWp_condC rfl ?_; intro KA KB hKA hKB; try simp only [onB_true, onB_false, onB_dec, onB_ndec, onB_not, onB_and, onB_or])
          | (refine AWp_condA rfl ?_ ?_)
          | (refine both_A a b hA hB _ _ ?_; try simp (dsimp := false) only [go_sem, Nat.reduceAdd, Nat.reduceBEq, Nat.reduceEqDiff, Nat.reduceLT, Nat.reduceLeDiff, Nat.reduceMul, Int.reduceToNat, reduceCtorEq, ↓reduceIte, Tryd.ntmps25, Tryd.results25, ks_25, mu_25, ti_ag22, ti_ag23, ti_ag25, ti_ag68, ti_fl25_0, ti_fl25_1, ti_hb44, ti_hb46, ti_hb53, ti_hb64, ti_hb65, ti_hb66, ti_ky9, ti_mp89, ti_pl25, ti_sb23, ti_sl23, ti_sz25, ti_zr25, ti_zv4, itD, itV, rlV, rowD, rlD, hf, hp, hq, Option.getD_some, Option.isSome_some])
          | (refine places_A a hA cols hc _ _ ?_; try simp (dsimp := false) only [go_sem, Nat.reduceAdd, Nat.reduceBEq, Nat.reduceEqDiff, Nat.reduceLT, Nat.reduceLeDiff, Nat.reduceMul, Int.reduceToNat, reduceCtorEq, ↓reduceIte, Tryd.ntmps25, Tryd.results25, ks_25, mu_25, ti_ag22, ti_ag23, ti_ag25, ti_ag68, ti_fl25_0, ti_fl25_1, ti_hb44, ti_hb46, ti_hb53, ti_hb64, ti_hb65, ti_hb66, ti_ky9, ti_mp89, ti_pl25, ti_sb23, ti_sl23, ti_sz25, ti_zr25, ti_zv4, itD, itV, rlV, rowD, rlD, hf, hp, hq, Option.getD_some, Option.isSome_some])
          | (refine places_A b hB cols hc _ _ ?_; try simp (dsimp := false) only [go_sem, Nat.reduceAdd, Nat.reduceBEq, Nat.reduceEqDiff, Nat.reduceLT, Nat.reduceLeDiff, Nat.reduceMul, Int.reduceToNat, reduceCtorEq, ↓reduceIte, Tryd.ntmps25, Tryd.results25, ks_25, mu_25, ti_ag22, ti_ag23, ti_ag25, ti_ag68, ti_fl25_0, ti_fl25_1, ti_hb44, ti_hb46, ti_hb53, ti_hb64, ti_hb65, ti_hb66, ti_ky9, ti_mp89, ti_pl25, ti_sb23, ti_sl23, ti_sz25, ti_zr25, ti_zv4, itD, itV, rlV, rowD, rlD, hf, hp, hq, Option.getD_some, Option.isSome_some])
          | with_reducible refine onB_of ?_ ?_
          | with_reducible rfl
          | omega)
        refine AWp_whileH (fun i : Nat => i ≤ b.rows.length)
          (fun i => [(3, .rp (rlD a)), (6, .pt H.length 0 0 0), (9, .d (.sl 1 (p.map intRow))), (11, .d (.sl 1 (q.map intRow))), (12, .mo (H.length + 1) 0), (47, .d (.sl 1 (b.rows.map rowD))), (48, .d (.i .i64 b.rows.length)), (49, .d (.i .i64 i))])
          (fun i => [.row 0 25 2 [[.d (.c (.slice none 0 0)), .d (.c (.slice none 0 0))]], .row 0 89 0 [[.mp [.s] (keysOf q (b.rows.take i)) (tru (keysOf q (b.rows.take i)).length)]]]) (fun i => b.rows.length - i) 0 (Nat.zero_le _) rfl ?_ ?_ ?_
        · simp (dsimp := false) only [go_sem, Nat.reduceAdd, Nat.reduceBEq, Nat.reduceEqDiff, Nat.reduceLT, Nat.reduceLeDiff, Nat.reduceMul, Int.reduceToNat, reduceCtorEq, ↓reduceIte, Tryd.ntmps25, Tryd.results25, ks_25, mu_25, ti_ag22, ti_ag23, ti_ag25, ti_ag68, ti_fl25_0, ti_fl25_1, ti_hb44, ti_hb46, ti_hb53, ti_hb64, ti_hb65, ti_hb66, ti_ky9, ti_mp89, ti_pl25, ti_sb23, ti_sl23, ti_sz25, ti_zr25, ti_zv4, itD, itV, rlV, rowD, rlD, hf, hp, hq, Option.getD_some, Option.isSome_some]
          first | done | simp
        · rintro i _ ob hob
          simp only [List.mem_cons, List.not_mem_nil, or_false] at hob
          rcases hob with rfl | rfl
          · exact bel_nil2 _ _ _
          · exact obBel_tru _ _ _ _ _ _
        rintro i hi
        by_cases hiN : i < b.rows.length
        · obtain ⟨row, hrow⟩ : ∃ row, b.rows[i]? = some row := ⟨b.rows[i], List.getElem?_eq_getElem hiN⟩
          have hrl := (hallb row (List.mem_of_getElem? hrow)).1
          have hps := projRow_s (p := q) hmemq hrl (hB.it row (List.mem_of_getElem? hrow))
          have hpl : (projRow q row).length ≤ 1048576 := by rw [projRow_len]; omega
          have hT : keysOf q (b.rows.take (i + 1)) = mputK (keysOf q (b.rows.take i)) [.s (keyL (projRow q row))] := by rw [take_of_get hrow, keysOf_app]; rfl
          generalize keysOf q (b.rows.take i) = ks at hT ⊢
          have hpv := mputV_tru ks [.s (keyL (projRow q row))]
          
          repeat' (first
            | with_reducible refine And.intro ?_ ?_
            | with_reducible intro _
            | with_reducible refine AWp_seq ?_
            | with_reducible refine AWp_block ?_
            | (with_reducible refine hKv _ _ (AWp_nop ?_); clear hKv Kv)
            | (with_reducible refine hKv _ _ ?_; clear hKv Kv; simp (dsimp := false) only [go_sem, Nat.reduceAdd, Nat.reduceBEq, Nat.reduceEqDiff, Nat.reduceLT, Nat.reduceLeDiff, Nat.reduceMul, Int.reduceToNat, reduceCtorEq, ↓reduceIte, Tryd.ntmps25, Tryd.results25, ks_25, mu_25, ti_ag22, ti_ag23, ti_ag25, ti_ag68, ti_fl25_0, ti_fl25_1, ti_hb44, ti_hb46, ti_hb53, ti_hb64, ti_hb65, ti_hb66, ti_ky9, ti_mp89, ti_pl25, ti_sb23, ti_sl23, ti_sz25, ti_zr25, ti_zv4, itD, itV, rlV, rowD, rlD, hrow, hpv])
            | (with_reducible refine hKA ?_; clear hKA hKB KA KB)
            | (with_reducible refine hKB ?_; clear hKA hKB KA KB)
            | (with_reducible refine AWp_regC mu_25 ks_25 ?_; intro Kv hKv; simp (dsimp := false) only [go_sem, Nat.reduceAdd, Nat.reduceBEq, Nat.reduceEqDiff, Nat.reduceLT, Nat.reduceLeDiff, Nat.reduceMul, Int.reduceToNat, reduceCtorEq, ↓reduceIte, Tryd.ntmps25, Tryd.results25, ks_25, mu_25, ti_ag22, ti_ag23, ti_ag25, ti_ag68, ti_fl25_0, ti_fl25_1, ti_hb44, ti_hb46, ti_hb53, ti_hb64, ti_hb65, ti_hb66, ti_ky9, ti_mp89, ti_pl25, ti_sb23, ti_sl23, ti_sz25, ti_zr25, ti_zv4, itD, itV, rlV, rowD, rlD, hrow, hpv])
            | with_reducible refine AWp_skipN ?_
            | with_reducible refine AWp_exitO (by repeat (first | with_reducible exact Out.hit | with_reducible apply Out.thenA | with_reducible apply Out.out rfl)) ?_
            | (with_reducible refine AWp_retR ?_; simp (dsimp := false) only [go_sem, Nat.reduceAdd, Nat.reduceBEq, Nat.reduceEqDiff, Nat.reduceLT, Nat.reduceLeDiff, Nat.reduceMul, Int.reduceToNat, reduceCtorEq, ↓reduceIte, Tryd.ntmps25, Tryd.results25, ks_25, mu_25, ti_ag22, ti_ag23, ti_ag25, ti_ag68, ti_fl25_0, ti_fl25_1, ti_hb44, ti_hb46, ti_hb53, ti_hb64, ti_hb65, ti_hb66, ti_ky9, ti_mp89, ti_pl25, ti_sb23, ti_sl23, ti_sz25, ti_zr25, ti_zv4, itD, itV, rlV, rowD, rlD, hrow, hpv])
            | (with_reducible refine AWp_regE mu_25 ks_25 ?_; intro Kv hKv; simp (dsimp := false) only [go_sem, Nat.reduceAdd, Nat.reduceBEq, Nat.reduceEqDiff, Nat.reduceLT, Nat.reduceLeDiff, Nat.reduceMul, Int.reduceToNat, reduceCtorEq, ↓reduceIte, Tryd.ntmps25, Tryd.results25, ks_25, mu_25, ti_ag22, ti_ag23, ti_ag25, ti_ag68, ti_fl25_0, ti_fl25_1, ti_hb44, ti_hb46, ti_hb53, ti_hb64, ti_hb65, ti_hb66, ti_ky9, ti_mp89, ti_pl25, ti_sb23, ti_sl23, ti_sz25, ti_zr25, ti_zv4, itD, itV, rlV, rowD, rlD, hrow, hpv])
            | (refine AWp_condC rfl ?_; intro KA KB hKA hKB; try simp only [onB_true, onB_false, onB_dec, onB_ndec, onB_not, onB_and, onB_or])
            | (refine AWp_condA rfl ?_ ?_)
            | (refine these_A row q (by omega) (fun j hj => by have := hmemq j hj; omega) _ _ ?_; try simp (dsimp := false) only [go_sem, Nat.reduceAdd, Nat.reduceBEq, Nat.reduceEqDiff, Nat.reduceLT, Nat.reduceLeDiff, Nat.reduceMul, Int.reduceToNat, reduceCtorEq, ↓reduceIte, Tryd.ntmps25, Tryd.results25, ks_25, mu_25, ti_ag22, ti_ag23, ti_ag25, ti_ag68, ti_fl25_0, ti_fl25_1, ti_hb44, ti_hb46, ti_hb53, ti_hb64, ti_hb65, ti_hb66, ti_ky9, ti_mp89, ti_pl25, ti_sb23, ti_sl23, ti_sz25, ti_zr25, ti_zv4, itD, itV, rlV, rowD, rlD, hrow, hpv])
            | (refine key_A _ hpl hps _ _ ?_; try simp (dsimp := false) only [go_sem, Nat.reduceAdd, Nat.reduceBEq, Nat.reduceEqDiff, Nat.reduceLT, Nat.reduceLeDiff, Nat.reduceMul, Int.reduceToNat, reduceCtorEq, ↓reduceIte, Tryd.ntmps25, Tryd.results25, ks_25, mu_25, ti_ag22, ti_ag23, ti_ag25, ti_ag68, ti_fl25_0, ti_fl25_1, ti_hb44, ti_hb46, ti_hb53, ti_hb64, ti_hb65, ti_hb66, ti_ky9, ti_mp89, ti_pl25, ti_sb23, ti_sl23, ti_sz25, ti_zr25, ti_zv4, itD, itV, rlV, rowD, rlD, hrow, hpv])
            | with_reducible refine onB_of ?_ ?_
            | with_reducible rfl
            | omega)
          exact ⟨i + 1, by omega, by omega, by rw [hT], by (repeat' (refine And.intro ?_ ?_)) <;> first | rfl | omega | simp⟩
        · have e : i = b.rows.length := by omega
          subst e
          rw [List.take_length]
          have hkm := keysOf_mem q b.rows
          generalize keysOf q b.rows = ks at hkm ⊢
          
          repeat' (first
            | with_reducible refine And.intro ?_ ?_
            | with_reducible intro _
            | with_reducible refine AWp_seq ?_
            | with_reducible refine AWp_block ?_
            | (with_reducible refine hKv _ _ (AWp_nop ?_); clear hKv Kv)
            | (with_reducible refine hKv _ _ ?_; clear hKv Kv; simp (dsimp := false) only [go_sem, Nat.reduceAdd, Nat.reduceBEq, Nat.reduceEqDiff, Nat.reduceLT, Nat.reduceLeDiff, Nat.reduceMul, Int.reduceToNat, reduceCtorEq, ↓reduceIte, Tryd.ntmps25, Tryd.results25, ks_25, mu_25, ti_ag22, ti_ag23, ti_ag25, ti_ag68, ti_fl25_0, ti_fl25_1, ti_hb44, ti_hb46, ti_hb53, ti_hb64, ti_hb65, ti_hb66, ti_ky9, ti_mp89, ti_pl25, ti_sb23, ti_sl23, ti_sz25, ti_zr25, ti_zv4, itD, itV, rlV, rowD, rlD])
            | (with_reducible refine hKA ?_; clear hKA hKB KA KB)
            | (with_reducible refine hKB ?_; clear hKA hKB KA KB)
            | (with_reducible refine AWp_regC mu_25 ks_25 ?_; intro Kv hKv; simp (dsimp := false) only [go_sem, Nat.reduceAdd, Nat.reduceBEq, Nat.reduceEqDiff, Nat.reduceLT, Nat.reduceLeDiff, Nat.reduceMul, Int.reduceToNat, reduceCtorEq, ↓reduceIte, Tryd.ntmps25, Tryd.results25, ks_25, mu_25, ti_ag22, ti_ag23, ti_ag25, ti_ag68, ti_fl25_0, ti_fl25_1, ti_hb44, ti_hb46, ti_hb53, ti_hb64, ti_hb65, ti_hb66, ti_ky9, ti_mp89, ti_pl25, ti_sb23, ti_sl23, ti_sz25, ti_zr25, ti_zv4, itD, itV, rlV, rowD, rlD])
            | with_reducible refine AWp_skipN ?_
            | with_reducible refine AWp_exitO (by repeat (first | with_reducible exact Out.hit | with_reducible apply Out.thenA | with_reducible apply Out.out rfl)) ?_
            | (with_reducible refine AWp_retR ?_; simp (dsimp := false) only [go_sem, Nat.reduceAdd, Nat.reduceBEq, Nat.reduceEqDiff, Nat.reduceLT, Nat.reduceLeDiff, Nat.reduceMul, Int.reduceToNat, reduceCtorEq, ↓reduceIte, Tryd.ntmps25, Tryd.results25, ks_25, mu_25, ti_ag22, ti_ag23, ti_ag25, ti_ag68, ti_fl25_0, ti_fl25_1, ti_hb44, ti_hb46, ti_hb53, ti_hb64, ti_hb65, ti_hb66, ti_ky9, ti_mp89, ti_pl25, ti_sb23, ti_sl23, ti_sz25, ti_zr25, ti_zv4, itD, itV, rlV, rowD, rlD])
            | (with_reducible refine AWp_regE mu_25 ks_25 ?_; intro Kv hKv; simp (dsimp := false) only [go_sem, Nat.reduceAdd, Nat.reduceBEq, Nat.reduceEqDiff, Nat.reduceLT, Nat.reduceLeDiff, Nat.reduceMul, Int.reduceToNat, reduceCtorEq, ↓reduceIte, Tryd.ntmps25, Tryd.results25, ks_25, mu_25, ti_ag22, ti_ag23, ti_ag25, ti_ag68, ti_fl25_0, ti_fl25_1, ti_hb44, ti_hb46, ti_hb53, ti_hb64, ti_hb65, ti_hb66, ti_ky9, ti_mp89, ti_pl25, ti_sb23, ti_sl23, ti_sz25, ti_zr25, ti_zv4, itD, itV, rlV, rowD, rlD])
            | (refine AWp_condC rfl ?_; intro KA KB hKA hKB; try simp only [onB_true, onB_false, onB_dec, onB_ndec, onB_not, onB_and, onB_or])
            | (refine AWp_condA rfl ?_ ?_)
            | with_reducible refine onB_of ?_ ?_
            | with_reducible rfl
            | omega)
          refine AWp_whileH (fun i : Nat => i ≤ a.rows.length)
            (fun i => [(3, .rp (rlD a)), (6, .pt H.length 0 0 0), (9, .d (.sl 1 (p.map intRow))), (12, .mo (H.length + 1) 0), (15, .os (H.length + 2) (exRows p q (a.rows.take i) b.rows).length), (60, .d (.sl 1 (a.rows.map rowD))), (61, .d (.i .i64 a.rows.length)), (62, .d (.i .i64 i))])
            (fun i => [.row 0 25 2 [[.d (.c (.slice none 0 0)), .d (.c (.slice none 0 0))]], .row 0 89 0 [[.mp [.s] ks (tru ks.length)]], .row (exRows p q (a.rows.take i) b.rows).length 68 1 ((exRows p q (a.rows.take i) b.rows).map rowC)]) (fun i => a.rows.length - i) 0 (Nat.zero_le _) rfl ?_ ?_ ?_
          · simp (dsimp := false) only [go_sem, Nat.reduceAdd, Nat.reduceBEq, Nat.reduceEqDiff, Nat.reduceLT, Nat.reduceLeDiff, Nat.reduceMul, Int.reduceToNat, reduceCtorEq, ↓reduceIte, Tryd.ntmps25, Tryd.results25, ks_25, mu_25, ti_ag22, ti_ag23, ti_ag25, ti_ag68, ti_fl25_0, ti_fl25_1, ti_hb44, ti_hb46, ti_hb53, ti_hb64, ti_hb65, ti_hb66, ti_ky9, ti_mp89, ti_pl25, ti_sb23, ti_sl23, ti_sz25, ti_zr25, ti_zv4, itD, itV, rlV, rowD, rlD]
            first | done | simp [exRows]
          · rintro i _ ob hob
            simp only [List.mem_cons, List.not_mem_nil, or_false] at hob
            rcases hob with rfl | rfl | rfl
            · exact bel_nil2 _ _ _
            · exact obBel_tru _ _ _ _ _ _
            · exact obBel_rows _ _ _ _ _
          rintro i hi
          have hxl := exRows_len p q (a.rows.take i) b.rows
          have hxl2 : (exRows p q (a.rows.take i) b.rows).length ≤ 1000000 := by rw [List.length_take] at hxl; omega
          clear hxl
          by_cases hiN : i < a.rows.length
          · obtain ⟨row, hrow⟩ : ∃ row, a.rows[i]? = some row := ⟨a.rows[i], List.getElem?_eq_getElem hiN⟩
            have hrl := (halla row (List.mem_of_getElem? hrow)).1
            have hrs := (hA.get hrow).1
            have hps := projRow_s (p := p) hmemp hrl (hA.it row (List.mem_of_getElem? hrow))
            have hpl : (projRow p row).length ≤ 1048576 := by rw [projRow_len]; omega
            have hmm : [D.s (keyL (projRow p row))] ∈ ks ↔ projRow p row ∈ b.rows.map (projRow q) := (hkm _).trans (keyD_mem (hoka row (List.mem_of_getElem? hrow)) hokb)
            by_cases hin : projRow p row ∈ b.rows.map (projRow q)
            · have hT := exRows_hit (p := p) (q := q) (rb := b.rows) hrow hin
              have hg := mget_hit (hmm.2 hin)
              generalize exRows p q (a.rows.take i) b.rows = acc at hT hxl2 ⊢
              
              repeat' (first
                | with_reducible refine And.intro ?_ ?_
                | with_reducible intro _
                | with_reducible refine AWp_seq ?_
                | with_reducible refine AWp_block ?_
                | (with_reducible refine hKv _ _ (AWp_nop ?_); clear hKv Kv)
                | (with_reducible refine hKv _ _ ?_; clear hKv Kv; simp (dsimp := false) only [go_sem, Nat.reduceAdd, Nat.reduceBEq, Nat.reduceEqDiff, Nat.reduceLT, Nat.reduceLeDiff, Nat.reduceMul, Int.reduceToNat, reduceCtorEq, ↓reduceIte, Tryd.ntmps25, Tryd.results25, ks_25, mu_25, ti_ag22, ti_ag23, ti_ag25, ti_ag68, ti_fl25_0, ti_fl25_1, ti_hb44, ti_hb46, ti_hb53, ti_hb64, ti_hb65, ti_hb66, ti_ky9, ti_mp89, ti_pl25, ti_sb23, ti_sl23, ti_sz25, ti_zr25, ti_zv4, itD, itV, rlV, rowD, rlD, hrow, hg])
                | (with_reducible refine hKA ?_; clear hKA hKB KA KB)
                | (with_reducible refine hKB ?_; clear hKA hKB KA KB)
                | (with_reducible refine AWp_regC mu_25 ks_25 ?_; intro Kv hKv; simp (dsimp := false) only [go_sem, Nat.reduceAdd, Nat.reduceBEq, Nat.reduceEqDiff, Nat.reduceLT, Nat.reduceLeDiff, Nat.reduceMul, Int.reduceToNat, reduceCtorEq, ↓reduceIte, Tryd.ntmps25, Tryd.results25, ks_25, mu_25, ti_ag22, ti_ag23, ti_ag25, ti_ag68, ti_fl25_0, ti_fl25_1, ti_hb44, ti_hb46, ti_hb53, ti_hb64, ti_hb65, ti_hb66, ti_ky9, ti_mp89, ti_pl25, ti_sb23, ti_sl23, ti_sz25, ti_zr25, ti_zv4, itD, itV, rlV, rowD, rlD, hrow, hg])
                | with_reducible refine AWp_skipN ?_
                | with_reducible refine AWp_exitO (by repeat (first | with_reducible exact Out.hit | with_reducible apply Out.thenA | with_reducible apply Out.out rfl)) ?_
                | (with_reducible refine AWp_retR ?_; simp (dsimp := false) only [go_sem, Nat.reduceAdd, Nat.reduceBEq, Nat.reduceEqDiff, Nat.reduceLT, Nat.reduceLeDiff, Nat.reduceMul, Int.reduceToNat, reduceCtorEq, ↓reduceIte, Tryd.ntmps25, Tryd.results25, ks_25, mu_25, ti_ag22, ti_ag23, ti_ag25, ti_ag68, ti_fl25_0, ti_fl25_1, ti_hb44, ti_hb46, ti_hb53, ti_hb64, ti_hb65, ti_hb66, ti_ky9, ti_mp89, ti_pl25, ti_sb23, ti_sl23, ti_sz25, ti_zr25, ti_zv4, itD, itV, rlV, rowD, rlD, hrow, hg])
                | (with_reducible refine AWp_regE mu_25 ks_25 ?_; intro Kv hKv; simp (dsimp := false) only [go_sem, Nat.reduceAdd, Nat.reduceBEq, Nat.reduceEqDiff, Nat.reduceLT, Nat.reduceLeDiff, Nat.reduceMul, Int.reduceToNat, reduceCtorEq, ↓reduceIte, Tryd.ntmps25, Tryd.results25, ks_25, mu_25, ti_ag22, ti_ag23, ti_ag25, ti_ag68, ti_fl25_0, ti_fl25_1, ti_hb44, ti_hb46, ti_hb53, ti_hb64, ti_hb65, ti_hb66, ti_ky9, ti_mp89, ti_pl25, ti_sb23, ti_sl23, ti_sz25, ti_zr25, ti_zv4, itD, itV, rlV, rowD, rlD, hrow, hg])
                | (refine AWp_condC rfl ?_; intro KA KB hKA hKB; try simp only [onB_true, onB_false, onB_dec, onB_ndec, onB_not, onB_and, onB_or])
                | (refine AWp_condA rfl ?_ ?_)
                | (refine these_A row p (by omega) (fun j hj => by have := hmemp j hj; omega) _ _ ?_; try simp (dsimp := false) only [go_sem, Nat.reduceAdd, Nat.reduceBEq, Nat.reduceEqDiff, Nat.reduceLT, Nat.reduceLeDiff, Nat.reduceMul, Int.reduceToNat, reduceCtorEq, ↓reduceIte, Tryd.ntmps25, Tryd.results25, ks_25, mu_25, ti_ag22, ti_ag23, ti_ag25, ti_ag68, ti_fl25_0, ti_fl25_1, ti_hb44, ti_hb46, ti_hb53, ti_hb64, ti_hb65, ti_hb66, ti_ky9, ti_mp89, ti_pl25, ti_sb23, ti_sl23, ti_sz25, ti_zr25, ti_zv4, itD, itV, rlV, rowD, rlD, hrow, hg])
                | (refine key_A _ hpl hps _ _ ?_; try simp (dsimp := false) only [go_sem, Nat.reduceAdd, Nat.reduceBEq, Nat.reduceEqDiff, Nat.reduceLT, Nat.reduceLeDiff, Nat.reduceMul, Int.reduceToNat, reduceCtorEq, ↓reduceIte, Tryd.ntmps25, Tryd.results25, ks_25, mu_25, ti_ag22, ti_ag23, ti_ag25, ti_ag68, ti_fl25_0, ti_fl25_1, ti_hb44, ti_hb46, ti_hb53, ti_hb64, ti_hb65, ti_hb66, ti_ky9, ti_mp89, ti_pl25, ti_sb23, ti_sl23, ti_sz25, ti_zr25, ti_zv4, itD, itV, rlV, rowD, rlD, hrow, hg])
                | with_reducible refine onB_of ?_ ?_
                | with_reducible rfl
                | omega)
              exact ⟨i + 1, by omega, by omega, by rw [hT], by (repeat' (refine And.intro ?_ ?_)) <;> first | rfl | omega | (rw [hT]; done) | simp⟩
            · have hT := exRows_miss (p := p) (q := q) (rb := b.rows) hrow hin
              have hg := mget_miss (vs := tru ks.length) (z := .d (.b false)) (fun h => hin (hmm.1 h))
              generalize exRows p q (a.rows.take i) b.rows = acc at hT hxl2 ⊢
              
              repeat' (first
                | with_reducible refine And.intro ?_ ?_
                | with_reducible intro _
                | with_reducible refine AWp_seq ?_
                | with_reducible refine AWp_block ?_
                | (with_reducible refine hKv _ _ (AWp_nop ?_); clear hKv Kv)
                | (with_reducible refine hKv _ _ ?_; clear hKv Kv; simp (dsimp := false) only [go_sem, Nat.reduceAdd, Nat.reduceBEq, Nat.reduceEqDiff, Nat.reduceLT, Nat.reduceLeDiff, Nat.reduceMul, Int.reduceToNat, reduceCtorEq, ↓reduceIte, Tryd.ntmps25, Tryd.results25, ks_25, mu_25, ti_ag22, ti_ag23, ti_ag25, ti_ag68, ti_fl25_0, ti_fl25_1, ti_hb44, ti_hb46, ti_hb53, ti_hb64, ti_hb65, ti_hb66, ti_ky9, ti_mp89, ti_pl25, ti_sb23, ti_sl23, ti_sz25, ti_zr25, ti_zv4, itD, itV, rlV, rowD, rlD, hrow, hg])
                | (with_reducible refine hKA ?_; clear hKA hKB KA KB)
                | (with_reducible refine hKB ?_; clear hKA hKB KA KB)
                | (with_reducible refine AWp_regC mu_25 ks_25 ?_; intro Kv hKv; simp (dsimp := false) only [go_sem, Nat.reduceAdd, Nat.reduceBEq, Nat.reduceEqDiff, Nat.reduceLT, Nat.reduceLeDiff, Nat.reduceMul, Int.reduceToNat, reduceCtorEq, ↓reduceIte, Tryd.ntmps25, Tryd.results25, ks_25, mu_25, ti_ag22, ti_ag23, ti_ag25, ti_ag68, ti_fl25_0, ti_fl25_1, ti_hb44, ti_hb46, ti_hb53, ti_hb64, ti_hb65, ti_hb66, ti_ky9, ti_mp89, ti_pl25, ti_sb23, ti_sl23, ti_sz25, ti_zr25, ti_zv4, itD, itV, rlV, rowD, rlD, hrow, hg])
                | with_reducible refine AWp_skipN ?_
                | with_reducible refine AWp_exitO (by repeat (first | with_reducible exact Out.hit | with_reducible apply Out.thenA | with_reducible apply Out.out rfl)) ?_
                | (with_reducible refine AWp_retR ?_; simp (dsimp := false) only [go_sem, Nat.reduceAdd, Nat.reduceBEq, Nat.reduceEqDiff, Nat.reduceLT, Nat.reduceLeDiff, Nat.reduceMul, Int.reduceToNat, reduceCtorEq, ↓reduceIte, Tryd.ntmps25, Tryd.results25, ks_25, mu_25, ti_ag22, ti_ag23, ti_ag25, ti_ag68, ti_fl25_0, ti_fl25_1, ti_hb44, ti_hb46, ti_hb53, ti_hb64, ti_hb65, ti_hb66, ti_ky9, ti_mp89, ti_pl25, ti_sb23, ti_sl23, ti_sz25, ti_zr25, ti_zv4, itD, itV, rlV, rowD, rlD, hrow, hg])
                | (with_reducible refine AWp_regE mu_25 ks_25 ?_; intro Kv hKv; simp (dsimp := false) only [go_sem, Nat.reduceAdd, Nat.reduceBEq, Nat.reduceEqDiff, Nat.reduceLT, Nat.reduceLeDiff, Nat.reduceMul, Int.reduceToNat, reduceCtorEq, ↓reduceIte, Tryd.ntmps25, Tryd.results25, ks_25, mu_25, ti_ag22, ti_ag23, ti_ag25, ti_ag68, ti_fl25_0, ti_fl25_1, ti_hb44, ti_hb46, ti_hb53, ti_hb64, ti_hb65, ti_hb66, ti_ky9, ti_mp89, ti_pl25, ti_sb23, ti_sl23, ti_sz25, ti_zr25, ti_zv4, itD, itV, rlV, rowD, rlD, hrow, hg])
                | (refine AWp_condC rfl ?_; intro KA KB hKA hKB; try simp only [onB_true, onB_false, onB_dec, onB_ndec, onB_not, onB_and, onB_or])
                | (refine AWp_condA rfl ?_ ?_)
                | (refine these_A row p (by omega) (fun j hj => by have := hmemp j hj; omega) _ _ ?_; try simp (dsimp := false) only [go_sem, Nat.reduceAdd, Nat.reduceBEq, Nat.reduceEqDiff, Nat.reduceLT, Nat.reduceLeDiff, Nat.reduceMul, Int.reduceToNat, reduceCtorEq, ↓reduceIte, Tryd.ntmps25, Tryd.results25, ks_25, mu_25, ti_ag22, ti_ag23, ti_ag25, ti_ag68, ti_fl25_0, ti_fl25_1, ti_hb44, ti_hb46, ti_hb53, ti_hb64, ti_hb65, ti_hb66, ti_ky9, ti_mp89, ti_pl25, ti_sb23, ti_sl23, ti_sz25, ti_zr25, ti_zv4, itD, itV, rlV, rowD, rlD, hrow, hg])
                | (refine key_A _ hpl hps _ _ ?_; try simp (dsimp := false) only [go_sem, Nat.reduceAdd, Nat.reduceBEq, Nat.reduceEqDiff, Nat.reduceLT, Nat.reduceLeDiff, Nat.reduceMul, Int.reduceToNat, reduceCtorEq, ↓reduceIte, Tryd.ntmps25, Tryd.results25, ks_25, mu_25, ti_ag22, ti_ag23, ti_ag25, ti_ag68, ti_fl25_0, ti_fl25_1, ti_hb44, ti_hb46, ti_hb53, ti_hb64, ti_hb65, ti_hb66, ti_ky9, ti_mp89, ti_pl25, ti_sb23, ti_sl23, ti_sz25, ti_zr25, ti_zv4, itD, itV, rlV, rowD, rlD, hrow, hg])
                | (refine cloneIts_A _ (by rw [List.length_map]; omega) _ _ ?_; try simp (dsimp := false) only [go_sem, Nat.reduceAdd, Nat.reduceBEq, Nat.reduceEqDiff, Nat.reduceLT, Nat.reduceLeDiff, Nat.reduceMul, Int.reduceToNat, reduceCtorEq, ↓reduceIte, Tryd.ntmps25, Tryd.results25, ks_25, mu_25, ti_ag22, ti_ag23, ti_ag25, ti_ag68, ti_fl25_0, ti_fl25_1, ti_hb44, ti_hb46, ti_hb53, ti_hb64, ti_hb65, ti_hb66, ti_ky9, ti_mp89, ti_pl25, ti_sb23, ti_sl23, ti_sz25, ti_zr25, ti_zv4, itD, itV, rlV, rowD, rlD, hrow, hg])
                | with_reducible refine onB_of ?_ ?_
                | with_reducible rfl
                | omega)
              exact ⟨i + 1, by omega, by omega, by rw [hT]; simp [rowC], by (repeat' (refine And.intro ?_ ?_)) <;> first | rfl | omega | (rw [hT]; simp; done) | simp⟩
          · have e : i = a.rows.length := by omega
            subst e
            rw [List.take_length] at hxl2 ⊢
            
            repeat' (first
              | with_reducible refine And.intro ?_ ?_
              | with_reducible intro _
              | with_reducible refine AWp_seq ?_
              | with_reducible refine AWp_block ?_
              | (with_reducible refine hKv _ _ (AWp_nop ?_); clear hKv Kv)
              | (with_reducible refine hKv _ _ ?_; clear hKv Kv; simp (dsimp := false) only [go_sem, Nat.reduceAdd, Nat.reduceBEq, Nat.reduceEqDiff, Nat.reduceLT, Nat.reduceLeDiff, Nat.reduceMul, Int.reduceToNat, reduceCtorEq, ↓reduceIte, Tryd.ntmps25, Tryd.results25, ks_25, mu_25, ti_ag22, ti_ag23, ti_ag25, ti_ag68, ti_fl25_0, ti_fl25_1, ti_hb44, ti_hb46, ti_hb53, ti_hb64, ti_hb65, ti_hb66, ti_ky9, ti_mp89, ti_pl25, ti_sb23, ti_sl23, ti_sz25, ti_zr25, ti_zv4, itD, itV, rlV, rowD, rlD, finQ])
              | (with_reducible refine hKA ?_; clear hKA hKB KA KB)
              | (with_reducible refine hKB ?_; clear hKA hKB KA KB)
              | (with_reducible refine AWp_regC mu_25 ks_25 ?_; intro Kv hKv; simp (dsimp := false) only [go_sem, Nat.reduceAdd, Nat.reduceBEq, Nat.reduceEqDiff, Nat.reduceLT, Nat.reduceLeDiff, Nat.reduceMul, Int.reduceToNat, reduceCtorEq, ↓reduceIte, Tryd.ntmps25, Tryd.results25, ks_25, mu_25, ti_ag22, ti_ag23, ti_ag25, ti_ag68, ti_fl25_0, ti_fl25_1, ti_hb44, ti_hb46, ti_hb53, ti_hb64, ti_hb65, ti_hb66, ti_ky9, ti_mp89, ti_pl25, ti_sb23, ti_sl23, ti_sz25, ti_zr25, ti_zv4, itD, itV, rlV, rowD, rlD, finQ])
              | with_reducible refine AWp_skipN ?_
              | with_reducible refine AWp_exitO (by repeat (first | with_reducible exact Out.hit | with_reducible apply Out.thenA | with_reducible apply Out.out rfl)) ?_
              | (with_reducible refine AWp_retR ?_; simp (dsimp := false) only [go_sem, Nat.reduceAdd, Nat.reduceBEq, Nat.reduceEqDiff, Nat.reduceLT, Nat.reduceLeDiff, Nat.reduceMul, Int.reduceToNat, reduceCtorEq, ↓reduceIte, Tryd.ntmps25, Tryd.results25, ks_25, mu_25, ti_ag22, ti_ag23, ti_ag25, ti_ag68, ti_fl25_0, ti_fl25_1, ti_hb44, ti_hb46, ti_hb53, ti_hb64, ti_hb65, ti_hb66, ti_ky9, ti_mp89, ti_pl25, ti_sb23, ti_sl23, ti_sz25, ti_zr25, ti_zv4, itD, itV, rlV, rowD, rlD, finQ])
              | (with_reducible refine AWp_regE mu_25 ks_25 ?_; intro Kv hKv; simp (dsimp := false) only [go_sem, Nat.reduceAdd, Nat.reduceBEq, Nat.reduceEqDiff, Nat.reduceLT, Nat.reduceLeDiff, Nat.reduceMul, Int.reduceToNat, reduceCtorEq, ↓reduceIte, Tryd.ntmps25, Tryd.results25, ks_25, mu_25, ti_ag22, ti_ag23, ti_ag25, ti_ag68, ti_fl25_0, ti_fl25_1, ti_hb44, ti_hb46, ti_hb53, ti_hb64, ti_hb65, ti_hb66, ti_ky9, ti_mp89, ti_pl25, ti_sb23, ti_sl23, ti_sz25, ti_zr25, ti_zv4, itD, itV, rlV, rowD, rlD, finQ])
              | (refine AWp_condC rfl ?_; intro KA KB hKA hKB; try simp only [onB_true, onB_false, onB_dec, onB_ndec, onB_not, onB_and, onB_or])
              | (refine AWp_condA rfl ?_ ?_)
              | (refine finishedO_A a.cols _ _ _ _ q1 hA.col (by rw [List.length_map]; omega) _ _ ((get_appk _ _ 2).trans rfl) ?_; try simp (dsimp := false) only [go_sem, Nat.reduceAdd, Nat.reduceBEq, Nat.reduceEqDiff, Nat.reduceLT, Nat.reduceLeDiff, Nat.reduceMul, Int.reduceToNat, reduceCtorEq, ↓reduceIte, Tryd.ntmps25, Tryd.results25, ks_25, mu_25, ti_ag22, ti_ag23, ti_ag25, ti_ag68, ti_fl25_0, ti_fl25_1, ti_hb44, ti_hb46, ti_hb53, ti_hb64, ti_hb65, ti_hb66, ti_ky9, ti_mp89, ti_pl25, ti_sb23, ti_sl23, ti_sz25, ti_zr25, ti_zv4, itD, itV, rlV, rowD, rlD, finQ])
              | with_reducible refine onB_of ?_ ?_
              | with_reducible rfl
              | omega)
            · exact fin_ret hk (by assumption) (by omega) (get_appk _ _ 2)
            · exact fin_bad hk rfl (by assumption)
  · rw [excepted, if_neg hf] at hk
    
    refine ACalls_of Tryd.func25 rfl in_25 (Nat.le_of_ble_eq_true rfl) ?_
    intro F hF
    simp (dsimp := false) only [go_sem, Nat.reduceAdd, Nat.reduceBEq, Nat.reduceEqDiff, Nat.reduceLT, Nat.reduceLeDiff, Nat.reduceMul, Int.reduceToNat, reduceCtorEq, ↓reduceIte, Tryd.ntmps25, Tryd.results25, ks_25, mu_25, ti_ag22, ti_ag23, ti_ag25, ti_ag68, ti_fl25_0, ti_fl25_1, ti_hb44, ti_hb46, ti_hb53, ti_hb64, ti_hb65, ti_hb66, ti_ky9, ti_mp89, ti_pl25, ti_sb23, ti_sl23, ti_sz25, ti_zr25, ti_zv4, itD, itV, rlV, rowD, rlD, hf, in_25] at hF
    subst hF
    repeat' (first
      | with_reducible refine And.intro ?_ ?_
      | with_reducible intro _
      | with_reducible refine AWp_seq ?_
      | with_reducible refine AWp_block ?_
      | (with_reducible refine hKv _ _ (AWp_nop ?_); clear hKv Kv)
      | (with_reducible refine hKv _ _ ?_; clear hKv Kv; simp (dsimp := false) only [go_sem, Nat.reduceAdd, Nat.reduceBEq, Nat.reduceEqDiff, Nat.reduceLT, Nat.reduceLeDiff, Nat.reduceMul, Int.reduceToNat, reduceCtorEq, ↓reduceIte, Tryd.ntmps25, Tryd.results25, ks_25, mu_25, ti_ag22, ti_ag23, ti_ag25, ti_ag68, ti_fl25_0, ti_fl25_1, ti_hb44, ti_hb46, ti_hb53, ti_hb64, ti_hb65, ti_hb66, ti_ky9, ti_mp89, ti_pl25, ti_sb23, ti_sl23, ti_sz25, ti_zr25, ti_zv4, itD, itV, rlV, rowD, rlD, hf])
      | (with_reducible refine hKA ?_; clear hKA hKB KA KB)
      | (with_reducible refine hKB ?_; clear hKA hKB KA KB)
      | (with_reducible refine AWp_regC mu_25 ks_25 ?_; intro Kv hKv; simp (dsimp := false) only [go_sem, Nat.reduceAdd, Nat.reduceBEq, Nat.reduceEqDiff, Nat.reduceLT, Nat.reduceLeDiff, Nat.reduceMul, Int.reduceToNat, reduceCtorEq, ↓reduceIte, Tryd.ntmps25, Tryd.results25, ks_25, mu_25, ti_ag22, ti_ag23, ti_ag25, ti_ag68, ti_fl25_0, ti_fl25_1, ti_hb44, ti_hb46, ti_hb53, ti_hb64, ti_hb65, ti_hb66, ti_ky9, ti_mp89, ti_pl25, ti_sb23, ti_sl23, ti_sz25, ti_zr25, ti_zv4, itD, itV, rlV, rowD, rlD, hf])
      | with_reducible refine AWp_skipN ?_
      | with_reducible refine AWp_exitO (by repeat (first | with_reducible exact Out.hit | with_reducible apply Out.thenA | with_reducible apply Out.out rfl)) ?_
      | (with_reducible refine AWp_retR ?_; simp (dsimp := false) only [go_sem, Nat.reduceAdd, Nat.reduceBEq, Nat.reduceEqDiff, Nat.reduceLT, Nat.reduceLeDiff, Nat.reduceMul, Int.reduceToNat, reduceCtorEq, ↓reduceIte, Tryd.ntmps25, Tryd.results25, ks_25, mu_25, ti_ag22, ti_ag23, ti_ag25, ti_ag68, ti_fl25_0, ti_fl25_1, ti_hb44, ti_hb46, ti_hb53, ti_hb64, ti_hb65, ti_hb66, ti_ky9, ti_mp89, ti_pl25, ti_sb23, ti_sl23, ti_sz25, ti_zr25, ti_zv4, itD, itV, rlV, rowD, rlD, hf])
      | (with_reducible refine AWp_regE mu_25 ks_25 ?_; intro Kv hKv; simp (dsimp := false) only [go_sem, Nat.reduceAdd, Nat.reduceBEq, Nat.reduceEqDiff, Nat.reduceLT, Nat.reduceLeDiff, Nat.reduceMul, Int.reduceToNat, reduceCtorEq, ↓reduceIte, Tryd.ntmps25, Tryd.results25, ks_25, mu_25, ti_ag22, ti_ag23, ti_ag25, ti_ag68, ti_fl25_0, ti_fl25_1, ti_hb44, ti_hb46, ti_hb53, ti_hb64, ti_hb65, ti_hb66, ti_ky9, ti_mp89, ti_pl25, ti_sb23, ti_sl23, ti_sz25, ti_zr25, ti_zv4, itD, itV, rlV, rowD, rlD, hf])
      | (refine AWp_condC rfl ?_; intro KA KB hKA hKB; try simp only [onB_true, onB_false, onB_dec, onB_ndec, onB_not, onB_and, onB_or])
      | (refine AWp_condA rfl ?_ ?_)
      | (refine both_A a b hA hB _ _ ?_; try simp (dsimp := false) only [go_sem, Nat.reduceAdd, Nat.reduceBEq, Nat.reduceEqDiff, Nat.reduceLT, Nat.reduceLeDiff, Nat.reduceMul, Int.reduceToNat, reduceCtorEq, ↓reduceIte, Tryd.ntmps25, Tryd.results25, ks_25, mu_25, ti_ag22, ti_ag23, ti_ag25, ti_ag68, ti_fl25_0, ti_fl25_1, ti_hb44, ti_hb46, ti_hb53, ti_hb64, ti_hb65, ti_hb66, ti_ky9, ti_mp89, ti_pl25, ti_sb23, ti_sl23, ti_sz25, ti_zr25, ti_zv4, itD, itV, rlV, rowD, rlD, hf])
      | with_reducible refine onB_of ?_ ?_
      | with_reducible rfl
      | omega)
    all_goals exact dropF hk (fz_rl0 _ _ _) (bel_relE _ _ _)
end Go.Proofs.YtafbojmnmadlpaaDoor
