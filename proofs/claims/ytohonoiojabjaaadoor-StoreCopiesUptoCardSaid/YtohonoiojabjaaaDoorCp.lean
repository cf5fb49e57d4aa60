/- Nodes copied to the end of others: what the program and the reference make of it. No condition but that the tables of package unicode/utf8 are there. -/
import Derived.Test.YtohonoiojabjaaaDoorCp0
set_option linter.all false
set_option linter.unusedSimpArgs false
set_option linter.unusedVariables false
namespace Go.Proofs.YtohonoiojabjaaaDoor
open Go Go.Proofs.YtohonoiojabjaaaDoor.Ab
variable [Glo] [U8]
set_option maxHeartbeats 4000000
set_option maxRecDepth 20000

/- the live slots of pleacher/store.Copy -/
def ks_11 : Nat → List Nat
  | 0 => [0, 1, 2, 3]
  | 1 => [0, 1, 2, 3, 10]
  | 2 => [0, 1, 2, 3, 10, 19]
  | 3 => [8, 9]
  | 4 => [0, 1, 2, 3, 26]
  | 5 => [8, 9]
  | 6 => [0, 1, 2, 3, 34]
  | 7 => [8, 9]
  | 8 => [0, 1, 2, 3, 44]
  | 9 => [8, 9]
  | 10 => [0, 1, 2, 3, 11]
  | 11 => [0, 1, 2, 3, 11, 46]
  | 12 => [0, 1, 2, 3, 11]
  | 13 => [0, 1, 2, 3, 11, 12]
  | 14 => [0, 1, 2, 3, 11, 12, 65, 66, 67]
  | 15 => [0, 1, 2, 3, 11, 12, 65, 66, 67, 68]
  | 16 => [0, 1, 2, 3, 11, 12, 13, 14, 65, 66, 67]
  | 17 => [0, 1, 2, 3, 11, 12, 13, 14, 65, 66, 67]
  | 18 => [0, 1, 2, 3, 11, 12, 14, 65, 66, 67, 84]
  | 19 => [0, 1, 2, 3, 11, 12, 14, 65, 66, 67]
  | 20 => [0, 1, 2, 3, 11, 12, 14, 65, 66, 67]
  | 21 => [0, 1, 2, 3, 11, 12, 65, 66, 67]
  | 22 => [0, 1, 2, 3, 11, 12, 65, 66, 67]
  | 23 => [8, 9]
  | _ => []
def mu_11 : List Nat := [12, 52, 80, 81]
def in_11 : List Nat := [0, 1, 2, 3]
def nd_11 : Nat → Nat
  | 17 => 11
  | _ => 0
theorem storeCopy_A (l : List Nd) (n : Int) (tl : List Nd) (parent : Int) (hlen : l.length ≤ 9223372036854775807) (hS : Short l) (hto : tl.length ≤ 1048576) (H : Heap) (K : V → Heap → Prop)
    (hk : K (.tu [.d (.sl 6 ((copied l n tl parent).map ndD)), .d (.i .i64 (cpFault l n tl parent))]) H) :
    ACalls Tryd.prog 11 [.d (.sl 6 (l.map ndD)), .d (.i .i64 n), .d (.sl 6 (tl.map ndD)), .d (.i .i64 parent)] H K := by
  by_cases hf : atFault l n = 0
  · obtain ⟨hnf, hn0, hnl⟩ := atFault_ok hf
    obtain ⟨hN, hg⟩ := good_of hnf
    obtain ⟨k, rfl⟩ : ∃ k : Nat, n = k := ⟨n.toNat, by omega⟩
    have hkl : k < l.length := by omega
    obtain ⟨x, hx⟩ : ∃ x, l[k]? = some x := ⟨l[k], List.getElem?_eq_getElem hkl⟩
    have hgx := gd_of_get hx
    obtain ⟨b1, b2, b3, b4, b5, b6⟩ := good_bd hg k hkl
    rw [hgx] at b1 b2 b3 b4 b5 b6
    obtain ⟨z, hz⟩ : ∃ z : Nat, x.sz = z := ⟨x.sz.toNat, by omega⟩
    have hcf : cpFault l k tl parent = if x.k = 6 then 3 else if -1 ≤ parent ∧ parent < tl.length then (if (tl.length : Int) + z + 1 ≤ 100000 then 0 else 1) else 2 := by rw [cpFault, if_pos hf, hgx, hz]
    rw [hz] at b3 b4
    
    refine ACalls_of Tryd.func11 rfl in_11 (Nat.le_of_ble_eq_true rfl) ?_
    intro F hF
    simp (dsimp := false) only [go_sem, Nat.reduceAdd, Nat.reduceBEq, Nat.reduceEqDiff, Nat.reduceLT, Nat.reduceLeDiff, Nat.reduceMul, Int.reduceToNat, reduceCtorEq, ↓reduceIte, Tryd.ntmps11, Tryd.results11, ks_11, mu_11, nd_11, ti_ag3, ti_ag49, ti_fl49_0, ti_fl49_3, ti_fl49_4, ti_fl49_5, ti_hb28, ti_hb29, ti_sb22, ti_sl22, ti_sz3, ti_sz49, ti_zr49, itD, itV, ndD, ndV, hf, hx, hz, ← List.map_take, ← List.map_drop, in_11] at hF
    subst hF
    repeat' (first
      | with_reducible refine And.intro ?_ ?_
      | with_reducible intro _
      | with_reducible refine AWp_seq ?_
      | with_reducible refine AWp_block ?_
      | (with_reducible refine hKv _ _ (AWp_nop ?_); clear hKv Kv)
      | (with_reducible refine hKv _ _ ?_; clear hKv Kv; simp (dsimp := false) only [go_sem, Nat.reduceAdd, Nat.reduceBEq, Nat.reduceEqDiff, Nat.reduceLT, Nat.reduceLeDiff, Nat.reduceMul, Int.reduceToNat, reduceCtorEq, ↓reduceIte, Tryd.ntmps11, Tryd.results11, ks_11, mu_11, nd_11, ti_ag3, ti_ag49, ti_fl49_0, ti_fl49_3, ti_fl49_4, ti_fl49_5, ti_hb28, ti_hb29, ti_sb22, ti_sl22, ti_sz3, ti_sz49, ti_zr49, itD, itV, ndD, ndV, hf, hx, hz, ← List.map_take, ← List.map_drop])
      | (with_reducible refine hKA ?_; clear hKA hKB KA KB)
      | (with_reducible refine hKB ?_; clear hKA hKB KA KB)
      | (with_reducible refine AWp_regC mu_11 ks_11 ?_; intro Kv hKv; simp (dsimp := false) only [go_sem, Nat.reduceAdd, Nat.reduceBEq, Nat.reduceEqDiff, Nat.reduceLT, Nat.reduceLeDiff, Nat.reduceMul, Int.reduceToNat, reduceCtorEq, ↓reduceIte, Tryd.ntmps11, Tryd.results11, ks_11, mu_11, nd_11, ti_ag3, ti_ag49, ti_fl49_0, ti_fl49_3, ti_fl49_4, ti_fl49_5, ti_hb28, ti_hb29, ti_sb22, ti_sl22, ti_sz3, ti_sz49, ti_zr49, itD, itV, ndD, ndV, hf, hx, hz, ← List.map_take, ← List.map_drop])
      | (with_reducible refine AWp_draw nd_11 mu_11 ks_11 ti_mixed (by kernel_rfl) ?_; intro Kv hKv; simp (dsimp := false) only [go_sem, Nat.reduceAdd, Nat.reduceBEq, Nat.reduceEqDiff, Nat.reduceLT, Nat.reduceLeDiff, Nat.reduceMul, Int.reduceToNat, reduceCtorEq, ↓reduceIte, Tryd.ntmps11, Tryd.results11, ks_11, mu_11, nd_11, ti_ag3, ti_ag49, ti_fl49_0, ti_fl49_3, ti_fl49_4, ti_fl49_5, ti_hb28, ti_hb29, ti_sb22, ti_sl22, ti_sz3, ti_sz49, ti_zr49, itD, itV, ndD, ndV, hf, hx, hz, ← List.map_take, ← List.map_drop])
      | with_reducible refine AWp_skipN ?_
      | with_reducible refine AWp_exitO (by repeat (first | with_reducible exact Out.hit | with_reducible apply Out.thenA | with_reducible apply Out.out rfl)) ?_
      | (with_reducible refine AWp_retR ?_; simp (dsimp := false) only [go_sem, Nat.reduceAdd, Nat.reduceBEq, Nat.reduceEqDiff, Nat.reduceLT, Nat.reduceLeDiff, Nat.reduceMul, Int.reduceToNat, reduceCtorEq, ↓reduceIte, Tryd.ntmps11, Tryd.results11, ks_11, mu_11, nd_11, ti_ag3, ti_ag49, ti_fl49_0, ti_fl49_3, ti_fl49_4, ti_fl49_5, ti_hb28, ti_hb29, ti_sb22, ti_sl22, ti_sz3, ti_sz49, ti_zr49, itD, itV, ndD, ndV, hf, hx, hz, ← List.map_take, ← List.map_drop])
      | (with_reducible refine AWp_regE mu_11 ks_11 ?_; intro Kv hKv; simp (dsimp := false) only [go_sem, Nat.reduceAdd, Nat.reduceBEq, Nat.reduceEqDiff, Nat.reduceLT, Nat.reduceLeDiff, Nat.reduceMul, Int.reduceToNat, reduceCtorEq, ↓reduceIte, Tryd.ntmps11, Tryd.results11, ks_11, mu_11, nd_11, ti_ag3, ti_ag49, ti_fl49_0, ti_fl49_3, ti_fl49_4, ti_fl49_5, ti_hb28, ti_hb29, ti_sb22, ti_sl22, ti_sz3, ti_sz49, ti_zr49, itD, itV, ndD, ndV, hf, hx, hz, ← List.map_take, ← List.map_drop])
      | (with_reducible refine AWp_drawE nd_11 mu_11 ks_11 ti_mixed (by kernel_rfl) ?_; intro Kv hKv; simp (dsimp := false) only [go_sem, Nat.reduceAdd, Nat.reduceBEq, Nat.reduceEqDiff, Nat.reduceLT, Nat.reduceLeDiff, Nat.reduceMul, Int.reduceToNat, reduceCtorEq, ↓reduceIte, Tryd.ntmps11, Tryd.results11, ks_11, mu_11, nd_11, ti_ag3, ti_ag49, ti_fl49_0, ti_fl49_3, ti_fl49_4, ti_fl49_5, ti_hb28, ti_hb29, ti_sb22, ti_sl22, ti_sz3, ti_sz49, ti_zr49, itD, itV, ndD, ndV, hf, hx, hz, ← List.map_take, ← List.map_drop])
      | (refine AWp_condC rfl ?_; intro KA KB hKA hKB; try simp only [onB_true, onB_false, onB_dec, onB_ndec, onB_not, onB_and, onB_or])
      | (refine AWp_condA rfl ?_ ?_)
      | (refine at_A l k hlen hS _ _ ?_; try simp (dsimp := false) only [go_sem, Nat.reduceAdd, Nat.reduceBEq, Nat.reduceEqDiff, Nat.reduceLT, Nat.reduceLeDiff, Nat.reduceMul, Int.reduceToNat, reduceCtorEq, ↓reduceIte, Tryd.ntmps11, Tryd.results11, ks_11, mu_11, nd_11, ti_ag3, ti_ag49, ti_fl49_0, ti_fl49_3, ti_fl49_4, ti_fl49_5, ti_hb28, ti_hb29, ti_sb22, ti_sl22, ti_sz3, ti_sz49, ti_zr49, itD, itV, ndD, ndV, hf, hx, hz, ← List.map_take, ← List.map_drop])
      | (refine QCall_of (at_A l k hlen hS _ _ (Two_intro _ _)) ?_; try simp (dsimp := false) only [go_sem, Nat.reduceAdd, Nat.reduceBEq, Nat.reduceEqDiff, Nat.reduceLT, Nat.reduceLeDiff, Nat.reduceMul, Int.reduceToNat, reduceCtorEq, ↓reduceIte, Tryd.ntmps11, Tryd.results11, ks_11, mu_11, nd_11, ti_ag3, ti_ag49, ti_fl49_0, ti_fl49_3, ti_fl49_4, ti_fl49_5, ti_hb28, ti_hb29, ti_sb22, ti_sl22, ti_sz3, ti_sz49, ti_zr49, itD, itV, ndD, ndV, hf, hx, hz, ← List.map_take, ← List.map_drop])
      | (refine cloneNds_A tl (by omega) _ _ ?_; try simp (dsimp := false) only [go_sem, Nat.reduceAdd, Nat.reduceBEq, Nat.reduceEqDiff, Nat.reduceLT, Nat.reduceLeDiff, Nat.reduceMul, Int.reduceToNat, reduceCtorEq, ↓reduceIte, Tryd.ntmps11, Tryd.results11, ks_11, mu_11, nd_11, ti_ag3, ti_ag49, ti_fl49_0, ti_fl49_3, ti_fl49_4, ti_fl49_5, ti_hb28, ti_hb29, ti_sb22, ti_sl22, ti_sz3, ti_sz49, ti_zr49, itD, itV, ndD, ndV, hf, hx, hz, ← List.map_take, ← List.map_drop])
      | (refine QCall_of (cloneNds_A tl (by omega) _ _ (Two_intro _ _)) ?_; try simp (dsimp := false) only [go_sem, Nat.reduceAdd, Nat.reduceBEq, Nat.reduceEqDiff, Nat.reduceLT, Nat.reduceLeDiff, Nat.reduceMul, Int.reduceToNat, reduceCtorEq, ↓reduceIte, Tryd.ntmps11, Tryd.results11, ks_11, mu_11, nd_11, ti_ag3, ti_ag49, ti_fl49_0, ti_fl49_3, ti_fl49_4, ti_fl49_5, ti_hb28, ti_hb29, ti_sb22, ti_sl22, ti_sz3, ti_sz49, ti_zr49, itD, itV, ndD, ndV, hf, hx, hz, ← List.map_take, ← List.map_drop])
      | with_reducible refine onB_of ?_ ?_
      | with_reducible rfl
      | omega)
    · rename_i h6
      have e : cpFault l k tl parent = 3 := by rw [hcf, if_pos h6]
      rw [copied, e, if_neg (by decide)] at hk
      exact keepFz hk (Fz_tu2 (.nil _) (.same _)) (by simp [Bel_tu, Bel_d])
    · have e : cpFault l k tl parent = 2 := by rw [hcf, if_neg (by assumption), if_neg (by omega)]
      rw [copied, e, if_neg (by decide)] at hk
      exact keepFz hk (Fz_tu2 (.nil _) (.same _)) (by simp [Bel_tu, Bel_d])
    · have e : cpFault l k tl parent = 2 := by rw [hcf, if_neg (by assumption), if_neg (by omega)]
      rw [copied, e, if_neg (by decide)] at hk
      exact keepFz hk (Fz_tu2 (.nil _) (.same _)) (by simp [Bel_tu, Bel_d])
    · have e : cpFault l k tl parent = 1 := by rw [hcf, if_neg (by assumption), if_pos ⟨by omega, by omega⟩, if_neg (by omega)]
      rw [copied, e, if_neg (by decide)] at hk
      exact keepFz hk (Fz_tu2 (.nil _) (.same _)) (by simp [Bel_tu, Bel_d])
    · exfalso
      simp_all
    · rename_i px hpx
      have hbase : cpBase tl parent = IntKind.i64.wrap (px.lv + 1) := by rw [cpBase, if_pos (by assumption), gd_of_get' hpx]; rfl
      have em : ((k : Int) + 1 + (z : Int)).toNat = k + 1 + z := by omega
      rw [em]
      generalize hL : List.drop k (List.take (k + 1 + z) l) = L
      have hLl : L.length = z + 1 := by rw [← hL]; simp; omega
      have hLg : ∀ j, j < z + 1 → L[j]? = l[k + j]? := fun j hj => by
        rw [← hL, List.getElem?_drop, List.getElem?_take, if_pos (by omega)]
      have hcf0 : cpFault l k tl parent = 0 := by rw [hcf, if_neg (by assumption), if_pos ⟨by omega, by omega⟩, if_pos (by omega)]
      rw [copied, hcf0, if_pos rfl, hgx, hz] at hk
      simp only [Int.toNat_natCast] at hk
      clear hcf hcf0
      refine AWp_whileD (fun y : Nat × Nat => y.2 ≤ z + 1) (fun y => [(0, .d (.sl 6 (l.map ndD))), (1, .d (.i .i64 k)), (2, .d (.sl 6 (tl.map ndD))), (3, .d (.i .i64 parent)), (11, .d (.i .i64 (cpBase tl parent))), (12, .os H.length y.1), (65, .d (.sl 6 (L.map ndD))), (66, .d (.i .i64 L.length)), (67, .d (.i .i64 y.2))])
        (fun y => [.row y.1 49 6 ((tl ++ cps l tl k parent y.2).map ndC)]) (fun y => z + 1 - y.2) (1, 0) (Nat.zero_le _) ⟨[], by simp [cps, *]⟩ ?_ ?_ ?_
      · rw [hbase]
        simp (dsimp := false) only [go_sem, Nat.reduceAdd, Nat.reduceBEq, Nat.reduceEqDiff, Nat.reduceLT, Nat.reduceLeDiff, Nat.reduceMul, Int.reduceToNat, reduceCtorEq, ↓reduceIte, Tryd.ntmps11, Tryd.results11, ks_11, mu_11, nd_11, ti_ag3, ti_ag49, ti_fl49_0, ti_fl49_3, ti_fl49_4, ti_fl49_5, ti_hb28, ti_hb29, ti_sb22, ti_sl22, ti_sz3, ti_sz49, ti_zr49, itD, itV, ndD, ndV, hf, hx, hz, ← List.map_take, ← List.map_drop]
        first | done | simp
      · rintro ⟨v, j⟩ _ ob hob
        simp only [List.mem_cons, List.not_mem_nil, or_false] at hob
        rcases hob with rfl
        exact obBel_nd _ _ _ _ _
      clear hbase
      rintro ⟨v, j⟩ hj
      simp only [] at hj ⊢
      have hlc := cps_len l tl k parent j
      have hlen2 : (tl ++ cps l tl k parent j).length = tl.length + j := by rw [List.length_append, hlc]
      by_cases hjz : j < z + 1
      · obtain ⟨y, hy⟩ : ∃ y, l[k + j]? = some y := ⟨l[k + j]'(by omega), List.getElem?_eq_getElem (by omega)⟩
        have hLy : L[j]? = some y := (hLg j hjz).trans hy
        have hgy := gd_of_get hy
        obtain ⟨c1, c2, c3, c4, c5, c6⟩ := good_bd hg (k + j) (by omega)
        rw [hgy] at c1 c2 c3 c4 c5 c6
        
        repeat' (first
          | with_reducible refine And.intro ?_ ?_
          | with_reducible intro _
          | with_reducible refine AWp_seq ?_
          | with_reducible refine AWp_block ?_
          | (with_reducible refine hKv _ _ (AWp_nop ?_); clear hKv Kv)
          | (with_reducible refine hKv _ _ ?_; clear hKv Kv; simp (dsimp := false) only [go_sem, Nat.reduceAdd, Nat.reduceBEq, Nat.reduceEqDiff, Nat.reduceLT, Nat.reduceLeDiff, Nat.reduceMul, Int.reduceToNat, reduceCtorEq, ↓reduceIte, Tryd.ntmps11, Tryd.results11, ks_11, mu_11, nd_11, ti_ag3, ti_ag49, ti_fl49_0, ti_fl49_3, ti_fl49_4, ti_fl49_5, ti_hb28, ti_hb29, ti_sb22, ti_sl22, ti_sz3, ti_sz49, ti_zr49, itD, itV, ndD, ndV, hx, hLy])
          | (with_reducible refine hKA ?_; clear hKA hKB KA KB)
          | (with_reducible refine hKB ?_; clear hKA hKB KA KB)
          | (with_reducible refine AWp_regC mu_11 ks_11 ?_; intro Kv hKv; simp (dsimp := false) only [go_sem, Nat.reduceAdd, Nat.reduceBEq, Nat.reduceEqDiff, Nat.reduceLT, Nat.reduceLeDiff, Nat.reduceMul, Int.reduceToNat, reduceCtorEq, ↓reduceIte, Tryd.ntmps11, Tryd.results11, ks_11, mu_11, nd_11, ti_ag3, ti_ag49, ti_fl49_0, ti_fl49_3, ti_fl49_4, ti_fl49_5, ti_hb28, ti_hb29, ti_sb22, ti_sl22, ti_sz3, ti_sz49, ti_zr49, itD, itV, ndD, ndV, hx, hLy])
          | (with_reducible refine AWp_draw nd_11 mu_11 ks_11 ti_mixed (by kernel_rfl) ?_; intro Kv hKv; simp (dsimp := false) only [go_sem, Nat.reduceAdd, Nat.reduceBEq, Nat.reduceEqDiff, Nat.reduceLT, Nat.reduceLeDiff, Nat.reduceMul, Int.reduceToNat, reduceCtorEq, ↓reduceIte, Tryd.ntmps11, Tryd.results11, ks_11, mu_11, nd_11, ti_ag3, ti_ag49, ti_fl49_0, ti_fl49_3, ti_fl49_4, ti_fl49_5, ti_hb28, ti_hb29, ti_sb22, ti_sl22, ti_sz3, ti_sz49, ti_zr49, itD, itV, ndD, ndV, hx, hLy])
          | with_reducible refine AWp_skipN ?_
          | with_reducible refine AWp_exitO (by repeat (first | with_reducible exact Out.hit | with_reducible apply Out.thenA | with_reducible apply Out.out rfl)) ?_
          | (with_reducible refine AWp_retR ?_; simp (dsimp := false) only [go_sem, Nat.reduceAdd, Nat.reduceBEq, Nat.reduceEqDiff, Nat.reduceLT, Nat.reduceLeDiff, Nat.reduceMul, Int.reduceToNat, reduceCtorEq, ↓reduceIte, Tryd.ntmps11, Tryd.results11, ks_11, mu_11, nd_11, ti_ag3, ti_ag49, ti_fl49_0, ti_fl49_3, ti_fl49_4, ti_fl49_5, ti_hb28, ti_hb29, ti_sb22, ti_sl22, ti_sz3, ti_sz49, ti_zr49, itD, itV, ndD, ndV, hx, hLy])
          | (with_reducible refine AWp_regE mu_11 ks_11 ?_; intro Kv hKv; simp (dsimp := false) only [go_sem, Nat.reduceAdd, Nat.reduceBEq, Nat.reduceEqDiff, Nat.reduceLT, Nat.reduceLeDiff, Nat.reduceMul, Int.reduceToNat, reduceCtorEq, ↓reduceIte, Tryd.ntmps11, Tryd.results11, ks_11, mu_11, nd_11, ti_ag3, ti_ag49, ti_fl49_0, ti_fl49_3, ti_fl49_4, ti_fl49_5, ti_hb28, ti_hb29, ti_sb22, ti_sl22, ti_sz3, ti_sz49, ti_zr49, itD, itV, ndD, ndV, hx, hLy])
          | (with_reducible refine AWp_drawE nd_11 mu_11 ks_11 ti_mixed (by kernel_rfl) ?_; intro Kv hKv; simp (dsimp := false) only [go_sem, Nat.reduceAdd, Nat.reduceBEq, Nat.reduceEqDiff, Nat.reduceLT, Nat.reduceLeDiff, Nat.reduceMul, Int.reduceToNat, reduceCtorEq, ↓reduceIte, Tryd.ntmps11, Tryd.results11, ks_11, mu_11, nd_11, ti_ag3, ti_ag49, ti_fl49_0, ti_fl49_3, ti_fl49_4, ti_fl49_5, ti_hb28, ti_hb29, ti_sb22, ti_sl22, ti_sz3, ti_sz49, ti_zr49, itD, itV, ndD, ndV, hx, hLy])
          | (refine AWp_condC rfl ?_; intro KA KB hKA hKB; try simp only [onB_true, onB_false, onB_dec, onB_ndec, onB_not, onB_and, onB_or])
          | (refine AWp_condA rfl ?_ ?_)
          | with_reducible refine onB_of ?_ ?_
          | with_reducible rfl
          | omega)
        all_goals first
          | (obtain rfl : j = 0 := by omega
             exact ⟨(v + 1, 0 + 1), [_], by show 0 + 1 ≤ z + 1; omega, by show z + 1 - (0 + 1) < z + 1 - 0; omega, by rw [cps_step0 hgx hgy], rfl, by omega, by simp⟩)
          | (have hj0 : j ≠ 0 := by omega
             exact ⟨(v + 1, j + 1), [_], by show j + 1 ≤ z + 1; omega, by show z + 1 - (j + 1) < z + 1 - j; omega, by rw [cps_step1 hgx hgy hj0], rfl, by omega, by simp⟩)
      · 
        repeat' (first
          | with_reducible refine And.intro ?_ ?_
          | with_reducible intro _
          | with_reducible refine AWp_seq ?_
          | with_reducible refine AWp_block ?_
          | (with_reducible refine hKv _ _ (AWp_nop ?_); clear hKv Kv)
          | (with_reducible refine hKv _ _ ?_; clear hKv Kv; simp (dsimp := false) only [go_sem, Nat.reduceAdd, Nat.reduceBEq, Nat.reduceEqDiff, Nat.reduceLT, Nat.reduceLeDiff, Nat.reduceMul, Int.reduceToNat, reduceCtorEq, ↓reduceIte, Tryd.ntmps11, Tryd.results11, ks_11, mu_11, nd_11, ti_ag3, ti_ag49, ti_fl49_0, ti_fl49_3, ti_fl49_4, ti_fl49_5, ti_hb28, ti_hb29, ti_sb22, ti_sl22, ti_sz3, ti_sz49, ti_zr49, itD, itV, ndD, ndV])
          | (with_reducible refine hKA ?_; clear hKA hKB KA KB)
          | (with_reducible refine hKB ?_; clear hKA hKB KA KB)
          | (with_reducible refine AWp_regC mu_11 ks_11 ?_; intro Kv hKv; simp (dsimp := false) only [go_sem, Nat.reduceAdd, Nat.reduceBEq, Nat.reduceEqDiff, Nat.reduceLT, Nat.reduceLeDiff, Nat.reduceMul, Int.reduceToNat, reduceCtorEq, ↓reduceIte, Tryd.ntmps11, Tryd.results11, ks_11, mu_11, nd_11, ti_ag3, ti_ag49, ti_fl49_0, ti_fl49_3, ti_fl49_4, ti_fl49_5, ti_hb28, ti_hb29, ti_sb22, ti_sl22, ti_sz3, ti_sz49, ti_zr49, itD, itV, ndD, ndV])
          | (with_reducible refine AWp_draw nd_11 mu_11 ks_11 ti_mixed (by kernel_rfl) ?_; intro Kv hKv; simp (dsimp := false) only [go_sem, Nat.reduceAdd, Nat.reduceBEq, Nat.reduceEqDiff, Nat.reduceLT, Nat.reduceLeDiff, Nat.reduceMul, Int.reduceToNat, reduceCtorEq, ↓reduceIte, Tryd.ntmps11, Tryd.results11, ks_11, mu_11, nd_11, ti_ag3, ti_ag49, ti_fl49_0, ti_fl49_3, ti_fl49_4, ti_fl49_5, ti_hb28, ti_hb29, ti_sb22, ti_sl22, ti_sz3, ti_sz49, ti_zr49, itD, itV, ndD, ndV])
          | with_reducible refine AWp_skipN ?_
          | with_reducible refine AWp_exitO (by repeat (first | with_reducible exact Out.hit | with_reducible apply Out.thenA | with_reducible apply Out.out rfl)) ?_
          | (with_reducible refine AWp_retR ?_; simp (dsimp := false) only [go_sem, Nat.reduceAdd, Nat.reduceBEq, Nat.reduceEqDiff, Nat.reduceLT, Nat.reduceLeDiff, Nat.reduceMul, Int.reduceToNat, reduceCtorEq, ↓reduceIte, Tryd.ntmps11, Tryd.results11, ks_11, mu_11, nd_11, ti_ag3, ti_ag49, ti_fl49_0, ti_fl49_3, ti_fl49_4, ti_fl49_5, ti_hb28, ti_hb29, ti_sb22, ti_sl22, ti_sz3, ti_sz49, ti_zr49, itD, itV, ndD, ndV])
          | (with_reducible refine AWp_regE mu_11 ks_11 ?_; intro Kv hKv; simp (dsimp := false) only [go_sem, Nat.reduceAdd, Nat.reduceBEq, Nat.reduceEqDiff, Nat.reduceLT, Nat.reduceLeDiff, Nat.reduceMul, Int.reduceToNat, reduceCtorEq, ↓reduceIte, Tryd.ntmps11, Tryd.results11, ks_11, mu_11, nd_11, ti_ag3, ti_ag49, ti_fl49_0, ti_fl49_3, ti_fl49_4, ti_fl49_5, ti_hb28, ti_hb29, ti_sb22, ti_sl22, ti_sz3, ti_sz49, ti_zr49, itD, itV, ndD, ndV])
          | (with_reducible refine AWp_drawE nd_11 mu_11 ks_11 ti_mixed (by kernel_rfl) ?_; intro Kv hKv; simp (dsimp := false) only [go_sem, Nat.reduceAdd, Nat.reduceBEq, Nat.reduceEqDiff, Nat.reduceLT, Nat.reduceLeDiff, Nat.reduceMul, Int.reduceToNat, reduceCtorEq, ↓reduceIte, Tryd.ntmps11, Tryd.results11, ks_11, mu_11, nd_11, ti_ag3, ti_ag49, ti_fl49_0, ti_fl49_3, ti_fl49_4, ti_fl49_5, ti_hb28, ti_hb29, ti_sb22, ti_sl22, ti_sz3, ti_sz49, ti_zr49, itD, itV, ndD, ndV])
          | (refine AWp_condC rfl ?_; intro KA KB hKA hKB; try simp only [onB_true, onB_false, onB_dec, onB_ndec, onB_not, onB_and, onB_or])
          | (refine AWp_condA rfl ?_ ?_)
          | with_reducible refine onB_of ?_ ?_
          | with_reducible rfl
          | omega)
        have e : j = z + 1 := by omega
        subst e
        exact dropF hk (Fz_tu2 (.os _ _ 49 6 _ _ (by omega) (get_app0 _ _) (nds_data _)) (.same _)) (by simp [Bel_tu, Bel_d])
    · rename_i htl
      have hbase : cpBase tl parent = 0 := by rw [cpBase, if_neg (by assumption)]
      have em : ((k : Int) + 1 + (z : Int)).toNat = k + 1 + z := by omega
      rw [em]
      generalize hL : List.drop k (List.take (k + 1 + z) l) = L
      have hLl : L.length = z + 1 := by rw [← hL]; simp; omega
      have hLg : ∀ j, j < z + 1 → L[j]? = l[k + j]? := fun j hj => by
        rw [← hL, List.getElem?_drop, List.getElem?_take, if_pos (by omega)]
      have hcf0 : cpFault l k tl parent = 0 := by rw [hcf, if_neg (by assumption), if_pos ⟨by omega, by omega⟩, if_pos (by omega)]
      rw [copied, hcf0, if_pos rfl, hgx, hz] at hk
      simp only [Int.toNat_natCast] at hk
      clear hcf hcf0
      refine AWp_whileD (fun y : Nat × Nat => y.2 ≤ z + 1) (fun y => [(0, .d (.sl 6 (l.map ndD))), (1, .d (.i .i64 k)), (2, .d (.sl 6 (tl.map ndD))), (3, .d (.i .i64 parent)), (11, .d (.i .i64 (cpBase tl parent))), (12, .os H.length y.1), (65, .d (.sl 6 (L.map ndD))), (66, .d (.i .i64 L.length)), (67, .d (.i .i64 y.2))])
        (fun y => [.row y.1 49 6 ((tl ++ cps l tl k parent y.2).map ndC)]) (fun y => z + 1 - y.2) (0, 0) (Nat.zero_le _) ⟨[], by simp [cps, *]⟩ ?_ ?_ ?_
      · rw [hbase]
        simp (dsimp := false) only [go_sem, Nat.reduceAdd, Nat.reduceBEq, Nat.reduceEqDiff, Nat.reduceLT, Nat.reduceLeDiff, Nat.reduceMul, Int.reduceToNat, reduceCtorEq, ↓reduceIte, Tryd.ntmps11, Tryd.results11, ks_11, mu_11, nd_11, ti_ag3, ti_ag49, ti_fl49_0, ti_fl49_3, ti_fl49_4, ti_fl49_5, ti_hb28, ti_hb29, ti_sb22, ti_sl22, ti_sz3, ti_sz49, ti_zr49, itD, itV, ndD, ndV]
        first | done | simp
      · rintro ⟨v, j⟩ _ ob hob
        simp only [List.mem_cons, List.not_mem_nil, or_false] at hob
        rcases hob with rfl
        exact obBel_nd _ _ _ _ _
      clear hbase
      rintro ⟨v, j⟩ hj
      simp only [] at hj ⊢
      have hlc := cps_len l tl k parent j
      have hlen2 : (tl ++ cps l tl k parent j).length = tl.length + j := by rw [List.length_append, hlc]
      by_cases hjz : j < z + 1
      · obtain ⟨y, hy⟩ : ∃ y, l[k + j]? = some y := ⟨l[k + j]'(by omega), List.getElem?_eq_getElem (by omega)⟩
        have hLy : L[j]? = some y := (hLg j hjz).trans hy
        have hgy := gd_of_get hy
        obtain ⟨c1, c2, c3, c4, c5, c6⟩ := good_bd hg (k + j) (by omega)
        rw [hgy] at c1 c2 c3 c4 c5 c6
        
        repeat' (first
          | with_reducible refine And.intro ?_ ?_
          | with_reducible intro _
          | with_reducible refine AWp_seq ?_
          | with_reducible refine AWp_block ?_
          | (with_reducible refine hKv _ _ (AWp_nop ?_); clear hKv Kv)
          | (with_reducible refine hKv _ _ ?_; clear hKv Kv; simp (dsimp := false) only [go_sem, Nat.reduceAdd, Nat.reduceBEq, Nat.reduceEqDiff, Nat.reduceLT, Nat.reduceLeDiff, Nat.reduceMul, Int.reduceToNat, reduceCtorEq, ↓reduceIte, Tryd.ntmps11, Tryd.results11, ks_11, mu_11, nd_11, ti_ag3, ti_ag49, ti_fl49_0, ti_fl49_3, ti_fl49_4, ti_fl49_5, ti_hb28, ti_hb29, ti_sb22, ti_sl22, ti_sz3, ti_sz49, ti_zr49, itD, itV, ndD, ndV, hx, hLy])
          | (with_reducible refine hKA ?_; clear hKA hKB KA KB)
          | (with_reducible refine hKB ?_; clear hKA hKB KA KB)
          | (with_reducible refine AWp_regC mu_11 ks_11 ?_; intro Kv hKv; simp (dsimp := false) only [go_sem, Nat.reduceAdd, Nat.reduceBEq, Nat.reduceEqDiff, Nat.reduceLT, Nat.reduceLeDiff, Nat.reduceMul, Int.reduceToNat, reduceCtorEq, ↓reduceIte, Tryd.ntmps11, Tryd.results11, ks_11, mu_11, nd_11, ti_ag3, ti_ag49, ti_fl49_0, ti_fl49_3, ti_fl49_4, ti_fl49_5, ti_hb28, ti_hb29, ti_sb22, ti_sl22, ti_sz3, ti_sz49, ti_zr49, itD, itV, ndD, ndV, hx, hLy])
          | (with_reducible refine AWp_draw nd_11 mu_11 ks_11 ti_mixed (by kernel_rfl) ?_; intro Kv hKv; simp (dsimp := false) only [go_sem, Nat.reduceAdd, Nat.reduceBEq, Nat.reduceEqDiff, Nat.reduceLT, Nat.reduceLeDiff, Nat.reduceMul, Int.reduceToNat, reduceCtorEq, ↓reduceIte, Tryd.ntmps11, Tryd.results11, ks_11, mu_11, nd_11, ti_ag3, ti_ag49, ti_fl49_0, ti_fl49_3, ti_fl49_4, ti_fl49_5, ti_hb28, ti_hb29, ti_sb22, ti_sl22, ti_sz3, ti_sz49, ti_zr49, itD, itV, ndD, ndV, hx, hLy])
          | with_reducible refine AWp_skipN ?_
          | with_reducible refine AWp_exitO (by repeat (first | with_reducible exact Out.hit | with_reducible apply Out.thenA | with_reducible apply Out.out rfl)) ?_
          | (with_reducible refine AWp_retR ?_; simp (dsimp := false) only [go_sem, Nat.reduceAdd, Nat.reduceBEq, Nat.reduceEqDiff, Nat.reduceLT, Nat.reduceLeDiff, Nat.reduceMul, Int.reduceToNat, reduceCtorEq, ↓reduceIte, Tryd.ntmps11, Tryd.results11, ks_11, mu_11, nd_11, ti_ag3, ti_ag49, ti_fl49_0, ti_fl49_3, ti_fl49_4, ti_fl49_5, ti_hb28, ti_hb29, ti_sb22, ti_sl22, ti_sz3, ti_sz49, ti_zr49, itD, itV, ndD, ndV, hx, hLy])
          | (with_reducible refine AWp_regE mu_11 ks_11 ?_; intro Kv hKv; simp (dsimp := false) only [go_sem, Nat.reduceAdd, Nat.reduceBEq, Nat.reduceEqDiff, Nat.reduceLT, Nat.reduceLeDiff, Nat.reduceMul, Int.reduceToNat, reduceCtorEq, ↓reduceIte, Tryd.ntmps11, Tryd.results11, ks_11, mu_11, nd_11, ti_ag3, ti_ag49, ti_fl49_0, ti_fl49_3, ti_fl49_4, ti_fl49_5, ti_hb28, ti_hb29, ti_sb22, ti_sl22, ti_sz3, ti_sz49, ti_zr49, itD, itV, ndD, ndV, hx, hLy])
          | (with_reducible refine AWp_drawE nd_11 mu_11 ks_11 ti_mixed (by kernel_rfl) ?_; intro Kv hKv; simp (dsimp := false) only [go_sem, Nat.reduceAdd, Nat.reduceBEq, Nat.reduceEqDiff, Nat.reduceLT, Nat.reduceLeDiff, Nat.reduceMul, Int.reduceToNat, reduceCtorEq, ↓reduceIte, Tryd.ntmps11, Tryd.results11, ks_11, mu_11, nd_11, ti_ag3, ti_ag49, ti_fl49_0, ti_fl49_3, ti_fl49_4, ti_fl49_5, ti_hb28, ti_hb29, ti_sb22, ti_sl22, ti_sz3, ti_sz49, ti_zr49, itD, itV, ndD, ndV, hx, hLy])
          | (refine AWp_condC rfl ?_; intro KA KB hKA hKB; try simp only [onB_true, onB_false, onB_dec, onB_ndec, onB_not, onB_and, onB_or])
          | (refine AWp_condA rfl ?_ ?_)
          | with_reducible refine onB_of ?_ ?_
          | with_reducible rfl
          | omega)
        all_goals first
          | (obtain rfl : j = 0 := by omega
             exact ⟨(v + 1, 0 + 1), [_], by show 0 + 1 ≤ z + 1; omega, by show z + 1 - (0 + 1) < z + 1 - 0; omega, by rw [cps_step0 hgx hgy], rfl, by omega, by simp⟩)
          | (have hj0 : j ≠ 0 := by omega
             exact ⟨(v + 1, j + 1), [_], by show j + 1 ≤ z + 1; omega, by show z + 1 - (j + 1) < z + 1 - j; omega, by rw [cps_step1 hgx hgy hj0], rfl, by omega, by simp⟩)
      · 
        repeat' (first
          | with_reducible refine And.intro ?_ ?_
          | with_reducible intro _
          | with_reducible refine AWp_seq ?_
          | with_reducible refine AWp_block ?_
          | (with_reducible refine hKv _ _ (AWp_nop ?_); clear hKv Kv)
          | (with_reducible refine hKv _ _ ?_; clear hKv Kv; simp (dsimp := false) only [go_sem, Nat.reduceAdd, Nat.reduceBEq, Nat.reduceEqDiff, Nat.reduceLT, Nat.reduceLeDiff, Nat.reduceMul, Int.reduceToNat, reduceCtorEq, ↓reduceIte, Tryd.ntmps11, Tryd.results11, ks_11, mu_11, nd_11, ti_ag3, ti_ag49, ti_fl49_0, ti_fl49_3, ti_fl49_4, ti_fl49_5, ti_hb28, ti_hb29, ti_sb22, ti_sl22, ti_sz3, ti_sz49, ti_zr49, itD, itV, ndD, ndV])
          | (with_reducible refine hKA ?_; clear hKA hKB KA KB)
          | (with_reducible refine hKB ?_; clear hKA hKB KA KB)
          | (with_reducible refine AWp_regC mu_11 ks_11 ?_; intro Kv hKv; simp (dsimp := false) only [go_sem, Nat.reduceAdd, Nat.reduceBEq, Nat.reduceEqDiff, Nat.reduceLT, Nat.reduceLeDiff, Nat.reduceMul, Int.reduceToNat, reduceCtorEq, ↓reduceIte, Tryd.ntmps11, Tryd.results11, ks_11, mu_11, nd_11, ti_ag3, ti_ag49, ti_fl49_0, ti_fl49_3, ti_fl49_4, ti_fl49_5, ti_hb28, ti_hb29, ti_sb22, ti_sl22, ti_sz3, ti_sz49, ti_zr49, itD, itV, ndD, ndV])
          | (with_reducible refine AWp_draw nd_11 mu_11 ks_11 ti_mixed (by kernel_rfl) ?_; intro Kv hKv; simp (dsimp := false) only [go_sem, Nat.reduceAdd, Nat.reduceBEq, Nat.reduceEqDiff, Nat.reduceLT, Nat.reduceLeDiff, Nat.reduceMul, Int.reduceToNat, reduceCtorEq, ↓reduceIte, Tryd.ntmps11, Tryd.results11, ks_11, mu_11, nd_11, ti_ag3, ti_ag49, ti_fl49_0, ti_fl49_3, ti_fl49_4, ti_fl49_5, ti_hb28, ti_hb29, ti_sb22, ti_sl22, ti_sz3, ti_sz49, ti_zr49, itD, itV, ndD, ndV])
          | with_reducible refine AWp_skipN ?_
          | with_reducible refine AWp_exitO (by repeat (first | with_reducible exact Out.hit | with_reducible apply Out.thenA | with_reducible apply Out.out rfl)) ?_
          | (with_reducible refine AWp_retR ?_; simp (dsimp := false) only [go_sem, Nat.reduceAdd, Nat.reduceBEq, Nat.reduceEqDiff, Nat.reduceLT, Nat.reduceLeDiff, Nat.reduceMul, Int.reduceToNat, reduceCtorEq, ↓reduceIte, Tryd.ntmps11, Tryd.results11, ks_11, mu_11, nd_11, ti_ag3, ti_ag49, ti_fl49_0, ti_fl49_3, ti_fl49_4, ti_fl49_5, ti_hb28, ti_hb29, ti_sb22, ti_sl22, ti_sz3, ti_sz49, ti_zr49, itD, itV, ndD, ndV])
          | (with_reducible refine AWp_regE mu_11 ks_11 ?_; intro Kv hKv; simp (dsimp := false) only [go_sem, Nat.reduceAdd, Nat.reduceBEq, Nat.reduceEqDiff, Nat.reduceLT, Nat.reduceLeDiff, Nat.reduceMul, Int.reduceToNat, reduceCtorEq, ↓reduceIte, Tryd.ntmps11, Tryd.results11, ks_11, mu_11, nd_11, ti_ag3, ti_ag49, ti_fl49_0, ti_fl49_3, ti_fl49_4, ti_fl49_5, ti_hb28, ti_hb29, ti_sb22, ti_sl22, ti_sz3, ti_sz49, ti_zr49, itD, itV, ndD, ndV])
          | (with_reducible refine AWp_drawE nd_11 mu_11 ks_11 ti_mixed (by kernel_rfl) ?_; intro Kv hKv; simp (dsimp := false) only [go_sem, Nat.reduceAdd, Nat.reduceBEq, Nat.reduceEqDiff, Nat.reduceLT, Nat.reduceLeDiff, Nat.reduceMul, Int.reduceToNat, reduceCtorEq, ↓reduceIte, Tryd.ntmps11, Tryd.results11, ks_11, mu_11, nd_11, ti_ag3, ti_ag49, ti_fl49_0, ti_fl49_3, ti_fl49_4, ti_fl49_5, ti_hb28, ti_hb29, ti_sb22, ti_sl22, ti_sz3, ti_sz49, ti_zr49, itD, itV, ndD, ndV])
          | (refine AWp_condC rfl ?_; intro KA KB hKA hKB; try simp only [onB_true, onB_false, onB_dec, onB_ndec, onB_not, onB_and, onB_or])
          | (refine AWp_condA rfl ?_ ?_)
          | with_reducible refine onB_of ?_ ?_
          | with_reducible rfl
          | omega)
        have e : j = z + 1 := by omega
        subst e
        exact dropF hk (Fz_tu2 (.os _ _ 49 6 _ _ (by omega) (get_app0 _ _) (nds_data _)) (.same _)) (by simp [Bel_tu, Bel_d])
    · have hbase : cpBase tl parent = 0 := by rw [cpBase, if_neg (by assumption)]
      have em : ((k : Int) + 1 + (z : Int)).toNat = k + 1 + z := by omega
      rw [em]
      generalize hL : List.drop k (List.take (k + 1 + z) l) = L
      have hLl : L.length = z + 1 := by rw [← hL]; simp; omega
      have hLg : ∀ j, j < z + 1 → L[j]? = l[k + j]? := fun j hj => by
        rw [← hL, List.getElem?_drop, List.getElem?_take, if_pos (by omega)]
      have hcf0 : cpFault l k tl parent = 0 := by rw [hcf, if_neg (by assumption), if_pos ⟨by omega, by omega⟩, if_pos (by omega)]
      rw [copied, hcf0, if_pos rfl, hgx, hz] at hk
      simp only [Int.toNat_natCast] at hk
      clear hcf hcf0
      refine AWp_whileD (fun y : Nat × Nat => y.2 ≤ z + 1) (fun y => [(0, .d (.sl 6 (l.map ndD))), (1, .d (.i .i64 k)), (2, .d (.sl 6 (tl.map ndD))), (3, .d (.i .i64 parent)), (11, .d (.i .i64 (cpBase tl parent))), (12, .os H.length y.1), (65, .d (.sl 6 (L.map ndD))), (66, .d (.i .i64 L.length)), (67, .d (.i .i64 y.2))])
        (fun y => [.row y.1 49 6 ((tl ++ cps l tl k parent y.2).map ndC)]) (fun y => z + 1 - y.2) (1, 0) (Nat.zero_le _) ⟨[], by simp [cps, *]⟩ ?_ ?_ ?_
      · rw [hbase]
        simp (dsimp := false) only [go_sem, Nat.reduceAdd, Nat.reduceBEq, Nat.reduceEqDiff, Nat.reduceLT, Nat.reduceLeDiff, Nat.reduceMul, Int.reduceToNat, reduceCtorEq, ↓reduceIte, Tryd.ntmps11, Tryd.results11, ks_11, mu_11, nd_11, ti_ag3, ti_ag49, ti_fl49_0, ti_fl49_3, ti_fl49_4, ti_fl49_5, ti_hb28, ti_hb29, ti_sb22, ti_sl22, ti_sz3, ti_sz49, ti_zr49, itD, itV, ndD, ndV]
        first | done | simp
      · rintro ⟨v, j⟩ _ ob hob
        simp only [List.mem_cons, List.not_mem_nil, or_false] at hob
        rcases hob with rfl
        exact obBel_nd _ _ _ _ _
      clear hbase
      rintro ⟨v, j⟩ hj
      simp only [] at hj ⊢
      have hlc := cps_len l tl k parent j
      have hlen2 : (tl ++ cps l tl k parent j).length = tl.length + j := by rw [List.length_append, hlc]
      by_cases hjz : j < z + 1
      · obtain ⟨y, hy⟩ : ∃ y, l[k + j]? = some y := ⟨l[k + j]'(by omega), List.getElem?_eq_getElem (by omega)⟩
        have hLy : L[j]? = some y := (hLg j hjz).trans hy
        have hgy := gd_of_get hy
        obtain ⟨c1, c2, c3, c4, c5, c6⟩ := good_bd hg (k + j) (by omega)
        rw [hgy] at c1 c2 c3 c4 c5 c6
        
        repeat' (first
          | with_reducible refine And.intro ?_ ?_
          | with_reducible intro _
          | with_reducible refine AWp_seq ?_
          | with_reducible refine AWp_block ?_
          | (with_reducible refine hKv _ _ (AWp_nop ?_); clear hKv Kv)
          | (with_reducible refine hKv _ _ ?_; clear hKv Kv; simp (dsimp := false) only [go_sem, Nat.reduceAdd, Nat.reduceBEq, Nat.reduceEqDiff, Nat.reduceLT, Nat.reduceLeDiff, Nat.reduceMul, Int.reduceToNat, reduceCtorEq, ↓reduceIte, Tryd.ntmps11, Tryd.results11, ks_11, mu_11, nd_11, ti_ag3, ti_ag49, ti_fl49_0, ti_fl49_3, ti_fl49_4, ti_fl49_5, ti_hb28, ti_hb29, ti_sb22, ti_sl22, ti_sz3, ti_sz49, ti_zr49, itD, itV, ndD, ndV, hx, hLy])
          | (with_reducible refine hKA ?_; clear hKA hKB KA KB)
          | (with_reducible refine hKB ?_; clear hKA hKB KA KB)
          | (with_reducible refine AWp_regC mu_11 ks_11 ?_; intro Kv hKv; simp (dsimp := false) only [go_sem, Nat.reduceAdd, Nat.reduceBEq, Nat.reduceEqDiff, Nat.reduceLT, Nat.reduceLeDiff, Nat.reduceMul, Int.reduceToNat, reduceCtorEq, ↓reduceIte, Tryd.ntmps11, Tryd.results11, ks_11, mu_11, nd_11, ti_ag3, ti_ag49, ti_fl49_0, ti_fl49_3, ti_fl49_4, ti_fl49_5, ti_hb28, ti_hb29, ti_sb22, ti_sl22, ti_sz3, ti_sz49, ti_zr49, itD, itV, ndD, ndV, hx, hLy])
          | (with_reducible refine AWp_draw nd_11 mu_11 ks_11 ti_mixed (by kernel_rfl) ?_; intro Kv hKv; simp (dsimp := false) only [go_sem, Nat.reduceAdd, Nat.reduceBEq, Nat.reduceEqDiff, Nat.reduceLT, Nat.reduceLeDiff, Nat.reduceMul, Int.reduceToNat, reduceCtorEq, ↓reduceIte, Tryd.ntmps11, Tryd.results11, ks_11, mu_11, nd_11, ti_ag3, ti_ag49, ti_fl49_0, ti_fl49_3, ti_fl49_4, ti_fl49_5, ti_hb28, ti_hb29, ti_sb22, ti_sl22, ti_sz3, ti_sz49, ti_zr49, itD, itV, ndD, ndV, hx, hLy])
          | with_reducible refine AWp_skipN ?_
          | with_reducible refine AWp_exitO (by repeat (first | with_reducible exact Out.hit | with_reducible apply Out.thenA | with_reducible apply Out.out rfl)) ?_
          | (with_reducible refine AWp_retR ?_; simp (dsimp := false) only [go_sem, Nat.reduceAdd, Nat.reduceBEq, Nat.reduceEqDiff, Nat.reduceLT, Nat.reduceLeDiff, Nat.reduceMul, Int.reduceToNat, reduceCtorEq, ↓reduceIte, Tryd.ntmps11, Tryd.results11, ks_11, mu_11, nd_11, ti_ag3, ti_ag49, ti_fl49_0, ti_fl49_3, ti_fl49_4, ti_fl49_5, ti_hb28, ti_hb29, ti_sb22, ti_sl22, ti_sz3, ti_sz49, ti_zr49, itD, itV, ndD, ndV, hx, hLy])
          | (with_reducible refine AWp_regE mu_11 ks_11 ?_; intro Kv hKv; simp (dsimp := false) only [go_sem, Nat.reduceAdd, Nat.reduceBEq, Nat.reduceEqDiff, Nat.reduceLT, Nat.reduceLeDiff, Nat.reduceMul, Int.reduceToNat, reduceCtorEq, ↓reduceIte, Tryd.ntmps11, Tryd.results11, ks_11, mu_11, nd_11, ti_ag3, ti_ag49, ti_fl49_0, ti_fl49_3, ti_fl49_4, ti_fl49_5, ti_hb28, ti_hb29, ti_sb22, ti_sl22, ti_sz3, ti_sz49, ti_zr49, itD, itV, ndD, ndV, hx, hLy])
          | (with_reducible refine AWp_drawE nd_11 mu_11 ks_11 ti_mixed (by kernel_rfl) ?_; intro Kv hKv; simp (dsimp := false) only [go_sem, Nat.reduceAdd, Nat.reduceBEq, Nat.reduceEqDiff, Nat.reduceLT, Nat.reduceLeDiff, Nat.reduceMul, Int.reduceToNat, reduceCtorEq, ↓reduceIte, Tryd.ntmps11, Tryd.results11, ks_11, mu_11, nd_11, ti_ag3, ti_ag49, ti_fl49_0, ti_fl49_3, ti_fl49_4, ti_fl49_5, ti_hb28, ti_hb29, ti_sb22, ti_sl22, ti_sz3, ti_sz49, ti_zr49, itD, itV, ndD, ndV, hx, hLy])
          | (refine AWp_condC rfl ?_; intro KA KB hKA hKB; try simp only [onB_true, onB_false, onB_dec, onB_ndec, onB_not, onB_and, onB_or])
          | (refine AWp_condA rfl ?_ ?_)
          | with_reducible refine onB_of ?_ ?_
          | with_reducible rfl
          | omega)
        all_goals first
          | (obtain rfl : j = 0 := by omega
             exact ⟨(v + 1, 0 + 1), [_], by show 0 + 1 ≤ z + 1; omega, by show z + 1 - (0 + 1) < z + 1 - 0; omega, by rw [cps_step0 hgx hgy], rfl, by omega, by simp⟩)
          | (have hj0 : j ≠ 0 := by omega
             exact ⟨(v + 1, j + 1), [_], by show j + 1 ≤ z + 1; omega, by show z + 1 - (j + 1) < z + 1 - j; omega, by rw [cps_step1 hgx hgy hj0], rfl, by omega, by simp⟩)
      · 
        repeat' (first
          | with_reducible refine And.intro ?_ ?_
          | with_reducible intro _
          | with_reducible refine AWp_seq ?_
          | with_reducible refine AWp_block ?_
          | (with_reducible refine hKv _ _ (AWp_nop ?_); clear hKv Kv)
          | (with_reducible refine hKv _ _ ?_; clear hKv Kv; simp (dsimp := false) only [go_sem, Nat.reduceAdd, Nat.reduceBEq, Nat.reduceEqDiff, Nat.reduceLT, Nat.reduceLeDiff, Nat.reduceMul, Int.reduceToNat, reduceCtorEq, ↓reduceIte, Tryd.ntmps11, Tryd.results11, ks_11, mu_11, nd_11, ti_ag3, ti_ag49, ti_fl49_0, ti_fl49_3, ti_fl49_4, ti_fl49_5, ti_hb28, ti_hb29, ti_sb22, ti_sl22, ti_sz3, ti_sz49, ti_zr49, itD, itV, ndD, ndV])
          | (with_reducible refine hKA ?_; clear hKA hKB KA KB)
          | (with_reducible refine hKB ?_; clear hKA hKB KA KB)
          | (with_reducible refine AWp_regC mu_11 ks_11 ?_; intro Kv hKv; simp (dsimp := false) only [go_sem, Nat.reduceAdd, Nat.reduceBEq, Nat.reduceEqDiff, Nat.reduceLT, Nat.reduceLeDiff, Nat.reduceMul, Int.reduceToNat, reduceCtorEq, ↓reduceIte, Tryd.ntmps11, Tryd.results11, ks_11, mu_11, nd_11, ti_ag3, ti_ag49, ti_fl49_0, ti_fl49_3, ti_fl49_4, ti_fl49_5, ti_hb28, ti_hb29, ti_sb22, ti_sl22, ti_sz3, ti_sz49, ti_zr49, itD, itV, ndD, ndV])
          | (with_reducible refine AWp_draw nd_11 mu_11 ks_11 ti_mixed (by kernel_rfl) ?_; intro Kv hKv; simp (dsimp := false) only [go_sem, Nat.reduceAdd, Nat.reduceBEq, Nat.reduceEqDiff, Nat.reduceLT, Nat.reduceLeDiff, Nat.reduceMul, Int.reduceToNat, reduceCtorEq, ↓reduceIte, Tryd.ntmps11, Tryd.results11, ks_11, mu_11, nd_11, ti_ag3, ti_ag49, ti_fl49_0, ti_fl49_3, ti_fl49_4, ti_fl49_5, ti_hb28, ti_hb29, ti_sb22, ti_sl22, ti_sz3, ti_sz49, ti_zr49, itD, itV, ndD, ndV])
          | with_reducible refine AWp_skipN ?_
          | with_reducible refine AWp_exitO (by repeat (first | with_reducible exact Out.hit | with_reducible apply Out.thenA | with_reducible apply Out.out rfl)) ?_
          | (with_reducible refine AWp_retR ?_; simp (dsimp := false) only [go_sem, Nat.reduceAdd, Nat.reduceBEq, Nat.reduceEqDiff, Nat.reduceLT, Nat.reduceLeDiff, Nat.reduceMul, Int.reduceToNat, reduceCtorEq, ↓reduceIte, Tryd.ntmps11, Tryd.results11, ks_11, mu_11, nd_11, ti_ag3, ti_ag49, ti_fl49_0, ti_fl49_3, ti_fl49_4, ti_fl49_5, ti_hb28, ti_hb29, ti_sb22, ti_sl22, ti_sz3, ti_sz49, ti_zr49, itD, itV, ndD, ndV])
          | (with_reducible refine AWp_regE mu_11 ks_11 ?_; intro Kv hKv; simp (dsimp := false) only [go_sem, Nat.reduceAdd, Nat.reduceBEq, Nat.reduceEqDiff, Nat.reduceLT, Nat.reduceLeDiff, Nat.reduceMul, Int.reduceToNat, reduceCtorEq, ↓reduceIte, Tryd.ntmps11, Tryd.results11, ks_11, mu_11, nd_11, ti_ag3, ti_ag49, ti_fl49_0, ti_fl49_3, ti_fl49_4, ti_fl49_5, ti_hb28, ti_hb29, ti_sb22, ti_sl22, ti_sz3, ti_sz49, ti_zr49, itD, itV, ndD, ndV])
          | (with_reducible refine AWp_drawE nd_11 mu_11 ks_11 ti_mixed (by kernel_rfl) ?_; intro Kv hKv; simp (dsimp := false) only [go_sem, Nat.reduceAdd, Nat.reduceBEq, Nat.reduceEqDiff, Nat.reduceLT, Nat.reduceLeDiff, Nat.reduceMul, Int.reduceToNat, reduceCtorEq, ↓reduceIte, Tryd.ntmps11, Tryd.results11, ks_11, mu_11, nd_11, ti_ag3, ti_ag49, ti_fl49_0, ti_fl49_3, ti_fl49_4, ti_fl49_5, ti_hb28, ti_hb29, ti_sb22, ti_sl22, ti_sz3, ti_sz49, ti_zr49, itD, itV, ndD, ndV])
          | (refine AWp_condC rfl ?_; intro KA KB hKA hKB; try simp only [onB_true, onB_false, onB_dec, onB_ndec, onB_not, onB_and, onB_or])
          | (refine AWp_condA rfl ?_ ?_)
          | with_reducible refine onB_of ?_ ?_
          | with_reducible rfl
          | omega)
        have e : j = z + 1 := by omega
        subst e
        exact dropF hk (Fz_tu2 (.os _ _ 49 6 _ _ (by omega) (get_app0 _ _) (nds_data _)) (.same _)) (by simp [Bel_tu, Bel_d])
  · have hcf : cpFault l n tl parent = atFault l n := by rw [cpFault, if_neg hf]
    rw [copied, hcf, if_neg hf] at hk
    
    refine ACalls_of Tryd.func11 rfl in_11 (Nat.le_of_ble_eq_true rfl) ?_
    intro F hF
    simp (dsimp := false) only [go_sem, Nat.reduceAdd, Nat.reduceBEq, Nat.reduceEqDiff, Nat.reduceLT, Nat.reduceLeDiff, Nat.reduceMul, Int.reduceToNat, reduceCtorEq, ↓reduceIte, Tryd.ntmps11, Tryd.results11, ks_11, mu_11, nd_11, ti_ag3, ti_ag49, ti_fl49_0, ti_fl49_3, ti_fl49_4, ti_fl49_5, ti_hb28, ti_hb29, ti_sb22, ti_sl22, ti_sz3, ti_sz49, ti_zr49, itD, itV, ndD, ndV, hf, in_11] at hF
    subst hF
    repeat' (first
      | with_reducible refine And.intro ?_ ?_
      | with_reducible intro _
      | with_reducible refine AWp_seq ?_
      | with_reducible refine AWp_block ?_
      | (with_reducible refine hKv _ _ (AWp_nop ?_); clear hKv Kv)
      | (with_reducible refine hKv _ _ ?_; clear hKv Kv; simp (dsimp := false) only [go_sem, Nat.reduceAdd, Nat.reduceBEq, Nat.reduceEqDiff, Nat.reduceLT, Nat.reduceLeDiff, Nat.reduceMul, Int.reduceToNat, reduceCtorEq, ↓reduceIte, Tryd.ntmps11, Tryd.results11, ks_11, mu_11, nd_11, ti_ag3, ti_ag49, ti_fl49_0, ti_fl49_3, ti_fl49_4, ti_fl49_5, ti_hb28, ti_hb29, ti_sb22, ti_sl22, ti_sz3, ti_sz49, ti_zr49, itD, itV, ndD, ndV, hf])
      | (with_reducible refine hKA ?_; clear hKA hKB KA KB)
      | (with_reducible refine hKB ?_; clear hKA hKB KA KB)
      | (with_reducible refine AWp_regC mu_11 ks_11 ?_; intro Kv hKv; simp (dsimp := false) only [go_sem, Nat.reduceAdd, Nat.reduceBEq, Nat.reduceEqDiff, Nat.reduceLT, Nat.reduceLeDiff, Nat.reduceMul, Int.reduceToNat, reduceCtorEq, ↓reduceIte, Tryd.ntmps11, Tryd.results11, ks_11, mu_11, nd_11, ti_ag3, ti_ag49, ti_fl49_0, ti_fl49_3, ti_fl49_4, ti_fl49_5, ti_hb28, ti_hb29, ti_sb22, ti_sl22, ti_sz3, ti_sz49, ti_zr49, itD, itV, ndD, ndV, hf])
      | (with_reducible refine AWp_draw nd_11 mu_11 ks_11 ti_mixed (by kernel_rfl) ?_; intro Kv hKv; simp (dsimp := false) only [go_sem, Nat.reduceAdd, Nat.reduceBEq, Nat.reduceEqDiff, Nat.reduceLT, Nat.reduceLeDiff, Nat.reduceMul, Int.reduceToNat, reduceCtorEq, ↓reduceIte, Tryd.ntmps11, Tryd.results11, ks_11, mu_11, nd_11, ti_ag3, ti_ag49, ti_fl49_0, ti_fl49_3, ti_fl49_4, ti_fl49_5, ti_hb28, ti_hb29, ti_sb22, ti_sl22, ti_sz3, ti_sz49, ti_zr49, itD, itV, ndD, ndV, hf])
      | with_reducible refine AWp_skipN ?_
      | with_reducible refine AWp_exitO (by repeat (first | with_reducible exact Out.hit | with_reducible apply Out.thenA | with_reducible apply Out.out rfl)) ?_
      | (with_reducible refine AWp_retR ?_; simp (dsimp := false) only [go_sem, Nat.reduceAdd, Nat.reduceBEq, Nat.reduceEqDiff, Nat.reduceLT, Nat.reduceLeDiff, Nat.reduceMul, Int.reduceToNat, reduceCtorEq, ↓reduceIte, Tryd.ntmps11, Tryd.results11, ks_11, mu_11, nd_11, ti_ag3, ti_ag49, ti_fl49_0, ti_fl49_3, ti_fl49_4, ti_fl49_5, ti_hb28, ti_hb29, ti_sb22, ti_sl22, ti_sz3, ti_sz49, ti_zr49, itD, itV, ndD, ndV, hf])
      | (with_reducible refine AWp_regE mu_11 ks_11 ?_; intro Kv hKv; simp (dsimp := false) only [go_sem, Nat.reduceAdd, Nat.reduceBEq, Nat.reduceEqDiff, Nat.reduceLT, Nat.reduceLeDiff, Nat.reduceMul, Int.reduceToNat, reduceCtorEq, ↓reduceIte, Tryd.ntmps11, Tryd.results11, ks_11, mu_11, nd_11, ti_ag3, ti_ag49, ti_fl49_0, ti_fl49_3, ti_fl49_4, ti_fl49_5, ti_hb28, ti_hb29, ti_sb22, ti_sl22, ti_sz3, ti_sz49, ti_zr49, itD, itV, ndD, ndV, hf])
      | (with_reducible refine AWp_drawE nd_11 mu_11 ks_11 ti_mixed (by kernel_rfl) ?_; intro Kv hKv; simp (dsimp := false) only [go_sem, Nat.reduceAdd, Nat.reduceBEq, Nat.reduceEqDiff, Nat.reduceLT, Nat.reduceLeDiff, Nat.reduceMul, Int.reduceToNat, reduceCtorEq, ↓reduceIte, Tryd.ntmps11, Tryd.results11, ks_11, mu_11, nd_11, ti_ag3, ti_ag49, ti_fl49_0, ti_fl49_3, ti_fl49_4, ti_fl49_5, ti_hb28, ti_hb29, ti_sb22, ti_sl22, ti_sz3, ti_sz49, ti_zr49, itD, itV, ndD, ndV, hf])
      | (refine AWp_condC rfl ?_; intro KA KB hKA hKB; try simp only [onB_true, onB_false, onB_dec, onB_ndec, onB_not, onB_and, onB_or])
      | (refine AWp_condA rfl ?_ ?_)
      | (refine at_A l n hlen hS _ _ ?_; try simp (dsimp := false) only [go_sem, Nat.reduceAdd, Nat.reduceBEq, Nat.reduceEqDiff, Nat.reduceLT, Nat.reduceLeDiff, Nat.reduceMul, Int.reduceToNat, reduceCtorEq, ↓reduceIte, Tryd.ntmps11, Tryd.results11, ks_11, mu_11, nd_11, ti_ag3, ti_ag49, ti_fl49_0, ti_fl49_3, ti_fl49_4, ti_fl49_5, ti_hb28, ti_hb29, ti_sb22, ti_sl22, ti_sz3, ti_sz49, ti_zr49, itD, itV, ndD, ndV, hf])
      | (refine QCall_of (at_A l n hlen hS _ _ (Two_intro _ _)) ?_; try simp (dsimp := false) only [go_sem, Nat.reduceAdd, Nat.reduceBEq, Nat.reduceEqDiff, Nat.reduceLT, Nat.reduceLeDiff, Nat.reduceMul, Int.reduceToNat, reduceCtorEq, ↓reduceIte, Tryd.ntmps11, Tryd.results11, ks_11, mu_11, nd_11, ti_ag3, ti_ag49, ti_fl49_0, ti_fl49_3, ti_fl49_4, ti_fl49_5, ti_hb28, ti_hb29, ti_sb22, ti_sl22, ti_sz3, ti_sz49, ti_zr49, itD, itV, ndD, ndV, hf])
      | with_reducible refine onB_of ?_ ?_
      | with_reducible rfl
      | omega)
    all_goals exact keepFz hk (Fz_tu2 (.nil _) (.same _)) (by simp [Bel_tu, Bel_d])
end Go.Proofs.YtohonoiojabjaaaDoor
