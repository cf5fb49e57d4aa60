/- Nodes copied to the end of others: what the program and the reference make of it. No condition but that the tables of package unicode/utf8 are there. -/
import Derived.Test.YtohonoiojabjaaaDoorCp
set_option linter.all false
set_option linter.unusedSimpArgs false
set_option linter.unusedVariables false
namespace Go.Proofs.YtohonoiojabjaaaDoor
open Go Go.Proofs.YtohonoiojabjaaaDoor.Ab
variable [Glo] [U8]
set_option maxHeartbeats 4000000
set_option maxRecDepth 20000

/- the live slots of pleacher/pleacherref.copyAt -/
def ks_32 : Nat → List Nat
  | 0 => [0, 1, 2, 3]
  | 1 => [0, 1, 2, 3, 9]
  | 2 => [0, 1, 2, 3, 9, 10]
  | 3 => [0, 1, 2, 3, 9, 10, 23]
  | 4 => [0, 1, 2, 3, 9, 10]
  | 5 => [0, 1, 2, 3, 9, 10, 11]
  | 6 => [0, 1, 2, 3, 9, 10, 11, 32]
  | 7 => [0, 1, 2, 3, 9, 10, 11]
  | 8 => [0, 1, 2, 3, 9, 10, 11]
  | 9 => [0, 1, 2, 3, 9, 10, 11, 37]
  | 10 => [0, 1, 2, 3, 9, 10, 11]
  | 11 => [0, 1, 2, 3, 9, 10, 11]
  | 12 => [0, 1, 2, 3, 9, 10, 11]
  | 13 => [0, 1, 2, 3, 9, 10]
  | 14 => [8]
  | _ => []
def mu_32 : List Nat := [9, 43, 59]
def in_32 : List Nat := [0, 1, 2, 3]
theorem copyAt_A (l : List Nd) (k : Nat) (tl : List Nd) (parent : Int) (hN : l.length ≤ 100000) (hg : Good l l.length) (hkl : k < l.length) (hto : tl.length ≤ 1048576) (hp1 : -1 ≤ parent) (hp2 : parent < tl.length) (h6 : (gd l k).k ≠ 6) (H : Heap) (K : V → Heap → Prop)
    (hk : K (.d (.sl 6 ((tl ++ cps l tl k parent ((gd l k).sz.toNat + 1)).map ndD))) H) :
    ACalls Tryd.prog 32 [.d (.sl 6 (l.map ndD)), .d (.i .i64 k), .d (.sl 6 (tl.map ndD)), .d (.i .i64 parent)] H K := by
  obtain ⟨x, hx⟩ : ∃ x, l[k]? = some x := ⟨l[k], List.getElem?_eq_getElem hkl⟩
  have hgx := gd_of_get hx
  obtain ⟨b1, b2, b3, b4, b5, b6⟩ := good_bd hg k hkl
  rw [hgx] at b1 b2 b3 b4 b5 b6 hk
  obtain ⟨z, hz⟩ : ∃ z : Nat, x.sz = z := ⟨x.sz.toNat, by omega⟩
  rw [hz] at b3 b4 hk
  simp only [Int.toNat_natCast] at hk
  
  refine ACalls_of Tryd.func32 rfl in_32 (Nat.le_of_ble_eq_true rfl) ?_
  intro F hF
  simp (dsimp := false) only [go_sem, Nat.reduceAdd, Nat.reduceBEq, Nat.reduceEqDiff, Nat.reduceLT, Nat.reduceLeDiff, Nat.reduceMul, Int.reduceToNat, reduceCtorEq, ↓reduceIte, Tryd.ntmps32, Tryd.results32, ks_32, mu_32, ti_ag3, ti_ag49, ti_fl49_3, ti_fl49_4, ti_fl49_5, ti_hb67, ti_sb22, ti_sl22, ti_sz3, ti_sz49, ti_zr49, itD, itV, ndD, ndV, hx, hz, in_32] at hF
  subst hF
  repeat' (first
    | with_reducible refine And.intro ?_ ?_
    | with_reducible intro _
    | with_reducible refine AWp_seq ?_
    | with_reducible refine AWp_block ?_
    | (with_reducible refine hKv _ _ (AWp_nop ?_); clear hKv Kv)
    | (with_reducible refine hKv _ _ ?_; clear hKv Kv; simp (dsimp := false) only [go_sem, Nat.reduceAdd, Nat.reduceBEq, Nat.reduceEqDiff, Nat.reduceLT, Nat.reduceLeDiff, Nat.reduceMul, Int.reduceToNat, reduceCtorEq, ↓reduceIte, Tryd.ntmps32, Tryd.results32, ks_32, mu_32, ti_ag3, ti_ag49, ti_fl49_3, ti_fl49_4, ti_fl49_5, ti_hb67, ti_sb22, ti_sl22, ti_sz3, ti_sz49, ti_zr49, itD, itV, ndD, ndV, hx, hz])
    | (with_reducible refine hKA ?_; clear hKA hKB KA KB)
    | (with_reducible refine hKB ?_; clear hKA hKB KA KB)
    | (with_reducible refine AWp_regC mu_32 ks_32 ?_; intro Kv hKv; simp (dsimp := false) only [go_sem, Nat.reduceAdd, Nat.reduceBEq, Nat.reduceEqDiff, Nat.reduceLT, Nat.reduceLeDiff, Nat.reduceMul, Int.reduceToNat, reduceCtorEq, ↓reduceIte, Tryd.ntmps32, Tryd.results32, ks_32, mu_32, ti_ag3, ti_ag49, ti_fl49_3, ti_fl49_4, ti_fl49_5, ti_hb67, ti_sb22, ti_sl22, ti_sz3, ti_sz49, ti_zr49, itD, itV, ndD, ndV, hx, hz])
    | with_reducible refine AWp_skipN ?_
    | with_reducible refine AWp_exitO (by repeat (first | with_reducible exact Out.hit | with_reducible apply Out.thenA | with_reducible apply Out.out rfl)) ?_
    | (with_reducible refine AWp_retR ?_; simp (dsimp := false) only [go_sem, Nat.reduceAdd, Nat.reduceBEq, Nat.reduceEqDiff, Nat.reduceLT, Nat.reduceLeDiff, Nat.reduceMul, Int.reduceToNat, reduceCtorEq, ↓reduceIte, Tryd.ntmps32, Tryd.results32, ks_32, mu_32, ti_ag3, ti_ag49, ti_fl49_3, ti_fl49_4, ti_fl49_5, ti_hb67, ti_sb22, ti_sl22, ti_sz3, ti_sz49, ti_zr49, itD, itV, ndD, ndV, hx, hz])
    | (with_reducible refine AWp_regE mu_32 ks_32 ?_; intro Kv hKv; simp (dsimp := false) only [go_sem, Nat.reduceAdd, Nat.reduceBEq, Nat.reduceEqDiff, Nat.reduceLT, Nat.reduceLeDiff, Nat.reduceMul, Int.reduceToNat, reduceCtorEq, ↓reduceIte, Tryd.ntmps32, Tryd.results32, ks_32, mu_32, ti_ag3, ti_ag49, ti_fl49_3, ti_fl49_4, ti_fl49_5, ti_hb67, ti_sb22, ti_sl22, ti_sz3, ti_sz49, ti_zr49, itD, itV, ndD, ndV, hx, hz])
    | (refine AWp_condC rfl ?_; intro KA KB hKA hKB; try simp only [onB_true, onB_false, onB_dec, onB_ndec, onB_not, onB_and, onB_or])
    | (refine AWp_condA rfl ?_ ?_)
    | (refine nodesCopy_A tl (by omega) _ _ ?_; try simp (dsimp := false) only [go_sem, Nat.reduceAdd, Nat.reduceBEq, Nat.reduceEqDiff, Nat.reduceLT, Nat.reduceLeDiff, Nat.reduceMul, Int.reduceToNat, reduceCtorEq, ↓reduceIte, Tryd.ntmps32, Tryd.results32, ks_32, mu_32, ti_ag3, ti_ag49, ti_fl49_3, ti_fl49_4, ti_fl49_5, ti_hb67, ti_sb22, ti_sl22, ti_sz3, ti_sz49, ti_zr49, itD, itV, ndD, ndV, hx, hz])
    | with_reducible refine onB_of ?_ ?_
    | with_reducible rfl
    | omega)
  refine AWp_whileD (fun y : Nat × Nat => y.2 ≤ z + 1) (fun y => [(0, .d (.sl 6 (l.map ndD))), (1, .d (.i .i64 k)), (2, .d (.sl 6 (tl.map ndD))), (3, .d (.i .i64 parent)), (9, .os H.length y.1), (10, .d (.i .i64 (k + y.2)))])
    (fun y => [.row y.1 49 6 ((tl ++ cps l tl k parent y.2).map ndC)]) (fun y => z + 1 - y.2) (tl.length, 0) (Nat.zero_le _) ⟨[], by simp [cps]⟩ ?_ ?_ ?_
  · simp (dsimp := false) only [go_sem, Nat.reduceAdd, Nat.reduceBEq, Nat.reduceEqDiff, Nat.reduceLT, Nat.reduceLeDiff, Nat.reduceMul, Int.reduceToNat, reduceCtorEq, ↓reduceIte, Tryd.ntmps32, Tryd.results32, ks_32, mu_32, ti_ag3, ti_ag49, ti_fl49_3, ti_fl49_4, ti_fl49_5, ti_hb67, ti_sb22, ti_sl22, ti_sz3, ti_sz49, ti_zr49, itD, itV, ndD, ndV, hx, hz]
    simp
  · rintro ⟨v, j⟩ _ ob hob
    simp only [List.mem_cons, List.not_mem_nil, or_false] at hob
    rcases hob with rfl
    exact obBel_nd _ _ _ _ _
  rintro ⟨v, j⟩ hj
  simp only [] at hj ⊢
  have hlc := cps_len l tl k parent j
  have hlen2 : (tl ++ cps l tl k parent j).length = tl.length + j := by rw [List.length_append, hlc]
  by_cases hjz : j < z + 1
  · obtain ⟨y, hy⟩ : ∃ y, l[k + j]? = some y := ⟨l[k + j]'(by omega), List.getElem?_eq_getElem (by omega)⟩
    have hgy := gd_of_get hy
    obtain ⟨c1, c2, c3, c4, c5, c6⟩ := good_bd hg (k + j) (by omega)
    rw [hgy] at c1 c2 c3 c4 c5 c6
    rcases Nat.eq_zero_or_pos j with hj0 | hj0
    · subst hj0
      have hxy : x = y := by rw [← hgx, ← hgy]; rfl
      have hy' : l[((k : Int) + ((0 : Nat) : Int)).toNat]? = some y := by rw [show ((k : Int) + ((0 : Nat) : Int)).toNat = k + 0 by omega]; exact hy
      
      repeat' (first
        | with_reducible refine And.intro ?_ ?_
        | with_reducible intro _
        | with_reducible refine AWp_seq ?_
        | with_reducible refine AWp_block ?_
        | (with_reducible refine hKv _ _ (AWp_nop ?_); clear hKv Kv)
        | (with_reducible refine hKv _ _ ?_; clear hKv Kv; simp (dsimp := false) only [go_sem, Nat.reduceAdd, Nat.reduceBEq, Nat.reduceEqDiff, Nat.reduceLT, Nat.reduceLeDiff, Nat.reduceMul, Int.reduceToNat, reduceCtorEq, ↓reduceIte, Tryd.ntmps32, Tryd.results32, ks_32, mu_32, ti_ag3, ti_ag49, ti_fl49_3, ti_fl49_4, ti_fl49_5, ti_hb67, ti_sb22, ti_sl22, ti_sz3, ti_sz49, ti_zr49, itD, itV, ndD, ndV, hx, hy'])
        | (with_reducible refine hKA ?_; clear hKA hKB KA KB)
        | (with_reducible refine hKB ?_; clear hKA hKB KA KB)
        | (with_reducible refine AWp_regC mu_32 ks_32 ?_; intro Kv hKv; simp (dsimp := false) only [go_sem, Nat.reduceAdd, Nat.reduceBEq, Nat.reduceEqDiff, Nat.reduceLT, Nat.reduceLeDiff, Nat.reduceMul, Int.reduceToNat, reduceCtorEq, ↓reduceIte, Tryd.ntmps32, Tryd.results32, ks_32, mu_32, ti_ag3, ti_ag49, ti_fl49_3, ti_fl49_4, ti_fl49_5, ti_hb67, ti_sb22, ti_sl22, ti_sz3, ti_sz49, ti_zr49, itD, itV, ndD, ndV, hx, hy'])
        | with_reducible refine AWp_skipN ?_
        | with_reducible refine AWp_exitO (by repeat (first | with_reducible exact Out.hit | with_reducible apply Out.thenA | with_reducible apply Out.out rfl)) ?_
        | (with_reducible refine AWp_retR ?_; simp (dsimp := false) only [go_sem, Nat.reduceAdd, Nat.reduceBEq, Nat.reduceEqDiff, Nat.reduceLT, Nat.reduceLeDiff, Nat.reduceMul, Int.reduceToNat, reduceCtorEq, ↓reduceIte, Tryd.ntmps32, Tryd.results32, ks_32, mu_32, ti_ag3, ti_ag49, ti_fl49_3, ti_fl49_4, ti_fl49_5, ti_hb67, ti_sb22, ti_sl22, ti_sz3, ti_sz49, ti_zr49, itD, itV, ndD, ndV, hx, hy'])
        | (with_reducible refine AWp_regE mu_32 ks_32 ?_; intro Kv hKv; simp (dsimp := false) only [go_sem, Nat.reduceAdd, Nat.reduceBEq, Nat.reduceEqDiff, Nat.reduceLT, Nat.reduceLeDiff, Nat.reduceMul, Int.reduceToNat, reduceCtorEq, ↓reduceIte, Tryd.ntmps32, Tryd.results32, ks_32, mu_32, ti_ag3, ti_ag49, ti_fl49_3, ti_fl49_4, ti_fl49_5, ti_hb67, ti_sb22, ti_sl22, ti_sz3, ti_sz49, ti_zr49, itD, itV, ndD, ndV, hx, hy'])
        | (refine AWp_condC rfl ?_; intro KA KB hKA hKB; try simp only [onB_true, onB_false, onB_dec, onB_ndec, onB_not, onB_and, onB_or])
        | (refine AWp_condA rfl ?_ ?_)
        | with_reducible refine onB_of ?_ ?_
        | with_reducible rfl
        | omega)
      · rename_i px hpx
        have eb : IntKind.i64.wrap (px.lv + 1) = cpBase tl parent := by rw [cpBase, if_pos (by assumption), gd_of_get' hpx]; rfl
        exact ⟨(v + 1, 0 + 1), [_], by show 0 + 1 ≤ z + 1; omega, by show z + 1 - (0 + 1) < z + 1 - 0; omega, by rw [cps_stepR hgx hgy hxy, eb], rfl, by omega, by simp⟩
      · have eb : (0 : Int) = cpBase tl parent := by rw [cpBase, if_neg (by assumption)]
        exact ⟨(v + 1, 0 + 1), [_], by show 0 + 1 ≤ z + 1; omega, by show z + 1 - (0 + 1) < z + 1 - 0; omega, by rw [cps_stepR hgx hgy hxy, ← eb], rfl, by omega, by simp⟩
    · have hnx := nest hg (k + j) k (by omega) (by omega) (by rw [hgx, hz]; omega)
      rw [hgy, hgx] at hnx
      obtain ⟨p, hp⟩ : ∃ p : Nat, y.up = k + p := ⟨(y.up - k).toNat, by omega⟩
      have hout := cps_get l tl k parent (m := j) (j := p) (by omega)
      have hlvl := okAt_lv (hg (k + j) (by omega)) (by rw [hgy]; omega)
      rw [hgy] at hlvl
      have hy' : l[((k : Int) + (j : Int)).toNat]? = some y := by rw [show ((k : Int) + (j : Int)).toNat = k + j by omega]; exact hy
      have hout' : (tl ++ cps l tl k parent j)[((tl.length : Int) + y.up - k).toNat]? = some (cpNode l tl k parent p) := by rw [show ((tl.length : Int) + y.up - k).toNat = tl.length + p by omega]; exact hout
      have elv : w64 ((cpNode l tl k parent p).lv + 1) = w64 (cpBase tl parent + (y.lv - x.lv)) := by
        show w64 (w64 (cpBase tl parent + ((gd l (k + p : Nat)).lv - (gd l k).lv)) + 1) = _
        rw [w64_add, hgx, hlvl, hp]
        congr 1
        rw [show ((k + p : Nat) : Int) = (k : Int) + (p : Int) by omega]
        omega
      generalize cpNode l tl k parent p = q at hout' elv hout
      
      repeat' (first
        | with_reducible refine And.intro ?_ ?_
        | with_reducible intro _
        | with_reducible refine AWp_seq ?_
        | with_reducible refine AWp_block ?_
        | (with_reducible refine hKv _ _ (AWp_nop ?_); clear hKv Kv)
        | (with_reducible refine hKv _ _ ?_; clear hKv Kv; simp (dsimp := false) only [go_sem, Nat.reduceAdd, Nat.reduceBEq, Nat.reduceEqDiff, Nat.reduceLT, Nat.reduceLeDiff, Nat.reduceMul, Int.reduceToNat, reduceCtorEq, ↓reduceIte, Tryd.ntmps32, Tryd.results32, ks_32, mu_32, ti_ag3, ti_ag49, ti_fl49_3, ti_fl49_4, ti_fl49_5, ti_hb67, ti_sb22, ti_sl22, ti_sz3, ti_sz49, ti_zr49, itD, itV, ndD, ndV, ndC, hx, hy', hout'])
        | (with_reducible refine hKA ?_; clear hKA hKB KA KB)
        | (with_reducible refine hKB ?_; clear hKA hKB KA KB)
        | (with_reducible refine AWp_regC mu_32 ks_32 ?_; intro Kv hKv; simp (dsimp := false) only [go_sem, Nat.reduceAdd, Nat.reduceBEq, Nat.reduceEqDiff, Nat.reduceLT, Nat.reduceLeDiff, Nat.reduceMul, Int.reduceToNat, reduceCtorEq, ↓reduceIte, Tryd.ntmps32, Tryd.results32, ks_32, mu_32, ti_ag3, ti_ag49, ti_fl49_3, ti_fl49_4, ti_fl49_5, ti_hb67, ti_sb22, ti_sl22, ti_sz3, ti_sz49, ti_zr49, itD, itV, ndD, ndV, ndC, hx, hy', hout'])
        | with_reducible refine AWp_skipN ?_
        | with_reducible refine AWp_exitO (by repeat (first | with_reducible exact Out.hit | with_reducible apply Out.thenA | with_reducible apply Out.out rfl)) ?_
        | (with_reducible refine AWp_retR ?_; simp (dsimp := false) only [go_sem, Nat.reduceAdd, Nat.reduceBEq, Nat.reduceEqDiff, Nat.reduceLT, Nat.reduceLeDiff, Nat.reduceMul, Int.reduceToNat, reduceCtorEq, ↓reduceIte, Tryd.ntmps32, Tryd.results32, ks_32, mu_32, ti_ag3, ti_ag49, ti_fl49_3, ti_fl49_4, ti_fl49_5, ti_hb67, ti_sb22, ti_sl22, ti_sz3, ti_sz49, ti_zr49, itD, itV, ndD, ndV, ndC, hx, hy', hout'])
        | (with_reducible refine AWp_regE mu_32 ks_32 ?_; intro Kv hKv; simp (dsimp := false) only [go_sem, Nat.reduceAdd, Nat.reduceBEq, Nat.reduceEqDiff, Nat.reduceLT, Nat.reduceLeDiff, Nat.reduceMul, Int.reduceToNat, reduceCtorEq, ↓reduceIte, Tryd.ntmps32, Tryd.results32, ks_32, mu_32, ti_ag3, ti_ag49, ti_fl49_3, ti_fl49_4, ti_fl49_5, ti_hb67, ti_sb22, ti_sl22, ti_sz3, ti_sz49, ti_zr49, itD, itV, ndD, ndV, ndC, hx, hy', hout'])
        | (refine AWp_condC rfl ?_; intro KA KB hKA hKB; try simp only [onB_true, onB_false, onB_dec, onB_ndec, onB_not, onB_and, onB_or])
        | (refine AWp_condA rfl ?_ ?_)
        | with_reducible refine onB_of ?_ ?_
        | with_reducible rfl
        | omega)
      have hj0' : j ≠ 0 := by omega
      exact ⟨(v + 1, j + 1), [_], by show j + 1 ≤ z + 1; omega, by show z + 1 - (j + 1) < z + 1 - j; omega, by
        rw [cps_step hgx hgy, if_neg hj0', ← elv]
        rfl, rfl, by omega, by show (k : Int) + j + 1 = k + ((j + 1 : Nat) : Int); omega⟩
  · 
    repeat' (first
      | with_reducible refine And.intro ?_ ?_
      | with_reducible intro _
      | with_reducible refine AWp_seq ?_
      | with_reducible refine AWp_block ?_
      | (with_reducible refine hKv _ _ (AWp_nop ?_); clear hKv Kv)
      | (with_reducible refine hKv _ _ ?_; clear hKv Kv; simp (dsimp := false) only [go_sem, Nat.reduceAdd, Nat.reduceBEq, Nat.reduceEqDiff, Nat.reduceLT, Nat.reduceLeDiff, Nat.reduceMul, Int.reduceToNat, reduceCtorEq, ↓reduceIte, Tryd.ntmps32, Tryd.results32, ks_32, mu_32, ti_ag3, ti_ag49, ti_fl49_3, ti_fl49_4, ti_fl49_5, ti_hb67, ti_sb22, ti_sl22, ti_sz3, ti_sz49, ti_zr49, itD, itV, ndD, ndV, hx, hz])
      | (with_reducible refine hKA ?_; clear hKA hKB KA KB)
      | (with_reducible refine hKB ?_; clear hKA hKB KA KB)
      | (with_reducible refine AWp_regC mu_32 ks_32 ?_; intro Kv hKv; simp (dsimp := false) only [go_sem, Nat.reduceAdd, Nat.reduceBEq, Nat.reduceEqDiff, Nat.reduceLT, Nat.reduceLeDiff, Nat.reduceMul, Int.reduceToNat, reduceCtorEq, ↓reduceIte, Tryd.ntmps32, Tryd.results32, ks_32, mu_32, ti_ag3, ti_ag49, ti_fl49_3, ti_fl49_4, ti_fl49_5, ti_hb67, ti_sb22, ti_sl22, ti_sz3, ti_sz49, ti_zr49, itD, itV, ndD, ndV, hx, hz])
      | with_reducible refine AWp_skipN ?_
      | with_reducible refine AWp_exitO (by repeat (first | with_reducible exact Out.hit | with_reducible apply Out.thenA | with_reducible apply Out.out rfl)) ?_
      | (with_reducible refine AWp_retR ?_; simp (dsimp := false) only [go_sem, Nat.reduceAdd, Nat.reduceBEq, Nat.reduceEqDiff, Nat.reduceLT, Nat.reduceLeDiff, Nat.reduceMul, Int.reduceToNat, reduceCtorEq, ↓reduceIte, Tryd.ntmps32, Tryd.results32, ks_32, mu_32, ti_ag3, ti_ag49, ti_fl49_3, ti_fl49_4, ti_fl49_5, ti_hb67, ti_sb22, ti_sl22, ti_sz3, ti_sz49, ti_zr49, itD, itV, ndD, ndV, hx, hz])
      | (with_reducible refine AWp_regE mu_32 ks_32 ?_; intro Kv hKv; simp (dsimp := false) only [go_sem, Nat.reduceAdd, Nat.reduceBEq, Nat.reduceEqDiff, Nat.reduceLT, Nat.reduceLeDiff, Nat.reduceMul, Int.reduceToNat, reduceCtorEq, ↓reduceIte, Tryd.ntmps32, Tryd.results32, ks_32, mu_32, ti_ag3, ti_ag49, ti_fl49_3, ti_fl49_4, ti_fl49_5, ti_hb67, ti_sb22, ti_sl22, ti_sz3, ti_sz49, ti_zr49, itD, itV, ndD, ndV, hx, hz])
      | (refine AWp_condC rfl ?_; intro KA KB hKA hKB; try simp only [onB_true, onB_false, onB_dec, onB_ndec, onB_not, onB_and, onB_or])
      | (refine AWp_condA rfl ?_ ?_)
      | with_reducible refine onB_of ?_ ?_
      | with_reducible rfl
      | omega)
    have e : j = z + 1 := by omega
    subst e
    exact dropF hk (.os _ _ 49 6 _ _ (by omega) (get_app0 _ _) (nds_data _)) (Bel_d _ _ ▸ trivial)

/- the live slots of pleacher/pleacherref.CopiedOf -/
def ks_12 : Nat → List Nat
  | 0 => [0, 1, 2, 3]
  | 1 => [0, 1, 2, 3, 10]
  | 2 => [0, 1, 2, 3, 10, 23]
  | 3 => [0, 1, 2, 3, 10]
  | 4 => [0, 1, 2, 3, 10, 33]
  | 5 => [0, 1, 2, 3, 10]
  | 6 => [0, 1, 2, 3, 10, 47]
  | 7 => [0, 1, 2, 3, 10]
  | 8 => [0, 1, 2, 3, 10, 49]
  | 9 => [8, 9]
  | 10 => [8, 9]
  | _ => []
def mu_12 : List Nat := []
def in_12 : List Nat := [0, 1, 2, 3]
theorem refCopied_A (l : List Nd) (n : Int) (tl : List Nd) (parent : Int) (hlen : l.length ≤ 9223372036854775807) (hS : Short l) (hto : tl.length ≤ 1048576) (H : Heap) (K : V → Heap → Prop)
    (hk : K (.tu [.d (.sl 6 ((copied l n tl parent).map ndD)), .d (.i .i64 (cpFault l n tl parent))]) H) :
    ACalls Tryd.prog 12 [.d (.sl 6 (l.map ndD)), .d (.i .i64 n), .d (.sl 6 (tl.map ndD)), .d (.i .i64 parent)] H K := by
  by_cases hf : atFault l n = 0
  · obtain ⟨hnf, hn0, hnl⟩ := atFault_ok hf
    obtain ⟨hN, hg⟩ := good_of hnf
    obtain ⟨k, rfl⟩ : ∃ k : Nat, n = k := ⟨n.toNat, by omega⟩
    have hkl : k < l.length := by omega
    obtain ⟨x, hx⟩ : ∃ x, l[k]? = some x := ⟨l[k], List.getElem?_eq_getElem hkl⟩
    have hgx := gd_of_get hx
    obtain ⟨b1, b2, b3, b4, b5, b6⟩ := good_bd hg k hkl
    rw [hgx] at b1 b2 b3 b4 b5 b6
    obtain ⟨z, hz⟩ : ∃ z : Nat, x.sz = z := ⟨x.sz.toNat, by omega⟩
    have hcf : cpFault l k tl parent = if x.k = 6 then 3 else if -1 ≤ parent ∧ parent < tl.length then (if (tl.length : Int) + z + 1 ≤ 100000 then 0 else 1) else 2 := by rw [cpFault, if_pos hf, hgx, hz]
    rw [hz] at b3 b4
    
    refine ACalls_of Tryd.func12 rfl in_12 (Nat.le_of_ble_eq_true rfl) ?_
    intro F hF
    simp (dsimp := false) only [go_sem, Nat.reduceAdd, Nat.reduceBEq, Nat.reduceEqDiff, Nat.reduceLT, Nat.reduceLeDiff, Nat.reduceMul, Int.reduceToNat, reduceCtorEq, ↓reduceIte, Tryd.ntmps12, Tryd.results12, ks_12, mu_12, ti_ag3, ti_fl49_0, ti_fl49_3, ti_hb30, ti_hb31, ti_hb32, ti_sb22, ti_sl22, itD, itV, ndD, ndV, hf, hx, hz, in_12] at hF
    subst hF
    repeat' (first
      | with_reducible refine And.intro ?_ ?_
      | with_reducible intro _
      | with_reducible refine AWp_seq ?_
      | with_reducible refine AWp_block ?_
      | (with_reducible refine hKv _ _ (AWp_nop ?_); clear hKv Kv)
      | (with_reducible refine hKv _ _ ?_; clear hKv Kv; simp (dsimp := false) only [go_sem, Nat.reduceAdd, Nat.reduceBEq, Nat.reduceEqDiff, Nat.reduceLT, Nat.reduceLeDiff, Nat.reduceMul, Int.reduceToNat, reduceCtorEq, ↓reduceIte, Tryd.ntmps12, Tryd.results12, ks_12, mu_12, ti_ag3, ti_fl49_0, ti_fl49_3, ti_hb30, ti_hb31, ti_hb32, ti_sb22, ti_sl22, itD, itV, ndD, ndV, hf, hx, hz])
      | (with_reducible refine hKA ?_; clear hKA hKB KA KB)
      | (with_reducible refine hKB ?_; clear hKA hKB KA KB)
      | (with_reducible refine AWp_regC mu_12 ks_12 ?_; intro Kv hKv; simp (dsimp := false) only [go_sem, Nat.reduceAdd, Nat.reduceBEq, Nat.reduceEqDiff, Nat.reduceLT, Nat.reduceLeDiff, Nat.reduceMul, Int.reduceToNat, reduceCtorEq, ↓reduceIte, Tryd.ntmps12, Tryd.results12, ks_12, mu_12, ti_ag3, ti_fl49_0, ti_fl49_3, ti_hb30, ti_hb31, ti_hb32, ti_sb22, ti_sl22, itD, itV, ndD, ndV, hf, hx, hz])
      | with_reducible refine AWp_skipN ?_
      | with_reducible refine AWp_exitO (by repeat (first | with_reducible exact Out.hit | with_reducible apply Out.thenA | with_reducible apply Out.out rfl)) ?_
      | (with_reducible refine AWp_retR ?_; simp (dsimp := false) only [go_sem, Nat.reduceAdd, Nat.reduceBEq, Nat.reduceEqDiff, Nat.reduceLT, Nat.reduceLeDiff, Nat.reduceMul, Int.reduceToNat, reduceCtorEq, ↓reduceIte, Tryd.ntmps12, Tryd.results12, ks_12, mu_12, ti_ag3, ti_fl49_0, ti_fl49_3, ti_hb30, ti_hb31, ti_hb32, ti_sb22, ti_sl22, itD, itV, ndD, ndV, hf, hx, hz])
      | (with_reducible refine AWp_regE mu_12 ks_12 ?_; intro Kv hKv; simp (dsimp := false) only [go_sem, Nat.reduceAdd, Nat.reduceBEq, Nat.reduceEqDiff, Nat.reduceLT, Nat.reduceLeDiff, Nat.reduceMul, Int.reduceToNat, reduceCtorEq, ↓reduceIte, Tryd.ntmps12, Tryd.results12, ks_12, mu_12, ti_ag3, ti_fl49_0, ti_fl49_3, ti_hb30, ti_hb31, ti_hb32, ti_sb22, ti_sl22, itD, itV, ndD, ndV, hf, hx, hz])
      | (refine AWp_condC rfl ?_; intro KA KB hKA hKB; try simp only [onB_true, onB_false, onB_dec, onB_ndec, onB_not, onB_and, onB_or])
      | (refine AWp_condA rfl ?_ ?_)
      | (refine nodeFault_A l k hlen hS _ _ ?_; try simp (dsimp := false) only [go_sem, Nat.reduceAdd, Nat.reduceBEq, Nat.reduceEqDiff, Nat.reduceLT, Nat.reduceLeDiff, Nat.reduceMul, Int.reduceToNat, reduceCtorEq, ↓reduceIte, Tryd.ntmps12, Tryd.results12, ks_12, mu_12, ti_ag3, ti_fl49_0, ti_fl49_3, ti_hb30, ti_hb31, ti_hb32, ti_sb22, ti_sl22, itD, itV, ndD, ndV, hf, hx, hz])
      | (refine in_A _ _ _ _ _ ?_; try simp (dsimp := false) only [go_sem, Nat.reduceAdd, Nat.reduceBEq, Nat.reduceEqDiff, Nat.reduceLT, Nat.reduceLeDiff, Nat.reduceMul, Int.reduceToNat, reduceCtorEq, ↓reduceIte, Tryd.ntmps12, Tryd.results12, ks_12, mu_12, ti_ag3, ti_fl49_0, ti_fl49_3, ti_hb30, ti_hb31, ti_hb32, ti_sb22, ti_sl22, itD, itV, ndD, ndV, hf, hx, hz])
      | (refine copyAt_A l k tl parent hN hg hkl hto (by omega) (by omega) (by rw [hgx]; assumption) _ _ ?_; try simp (dsimp := false) only [go_sem, Nat.reduceAdd, Nat.reduceBEq, Nat.reduceEqDiff, Nat.reduceLT, Nat.reduceLeDiff, Nat.reduceMul, Int.reduceToNat, reduceCtorEq, ↓reduceIte, Tryd.ntmps12, Tryd.results12, ks_12, mu_12, ti_ag3, ti_fl49_0, ti_fl49_3, ti_hb30, ti_hb31, ti_hb32, ti_sb22, ti_sl22, itD, itV, ndD, ndV, hf, hx, hz])
      | with_reducible refine onB_of ?_ ?_
      | with_reducible rfl
      | omega)
    · have e : cpFault l k tl parent = 3 := by rw [hcf, if_pos (by assumption)]
      rw [copied, e, if_neg (by decide)] at hk
      exact keepFz hk (Fz_tu2 (.nil _) (.same _)) (by simp [Bel_tu, Bel_d])
    · have e : cpFault l k tl parent = 1 := by rw [hcf, if_neg (by assumption), if_pos ⟨by omega, by omega⟩, if_neg (by omega)]
      rw [copied, e, if_neg (by decide)] at hk
      exact keepFz hk (Fz_tu2 (.nil _) (.same _)) (by simp [Bel_tu, Bel_d])
    · have e : cpFault l k tl parent = 0 := by rw [hcf, if_neg (by assumption), if_pos ⟨by omega, by omega⟩, if_pos (by omega)]
      rw [copied, e, if_pos rfl] at hk
      simp only [Int.toNat_natCast] at hk
      exact keepK hk (by simp [Bel_tu, Bel_d]) rfl
    · have e : cpFault l k tl parent = 2 := by rw [hcf, if_neg (by assumption), if_neg (by omega)]
      rw [copied, e, if_neg (by decide)] at hk
      exact keepFz hk (Fz_tu2 (.nil _) (.same _)) (by simp [Bel_tu, Bel_d])
  · have hcf : cpFault l n tl parent = atFault l n := by rw [cpFault, if_neg hf]
    rw [copied, hcf, if_neg hf] at hk
    
    refine ACalls_of Tryd.func12 rfl in_12 (Nat.le_of_ble_eq_true rfl) ?_
    intro F hF
    simp (dsimp := false) only [go_sem, Nat.reduceAdd, Nat.reduceBEq, Nat.reduceEqDiff, Nat.reduceLT, Nat.reduceLeDiff, Nat.reduceMul, Int.reduceToNat, reduceCtorEq, ↓reduceIte, Tryd.ntmps12, Tryd.results12, ks_12, mu_12, ti_ag3, ti_fl49_0, ti_fl49_3, ti_hb30, ti_hb31, ti_hb32, ti_sb22, ti_sl22, itD, itV, ndD, ndV, hf, in_12] at hF
    subst hF
    repeat' (first
      | with_reducible refine And.intro ?_ ?_
      | with_reducible intro _
      | with_reducible refine AWp_seq ?_
      | with_reducible refine AWp_block ?_
      | (with_reducible refine hKv _ _ (AWp_nop ?_); clear hKv Kv)
      | (with_reducible refine hKv _ _ ?_; clear hKv Kv; simp (dsimp := false) only [go_sem, Nat.reduceAdd, Nat.reduceBEq, Nat.reduceEqDiff, Nat.reduceLT, Nat.reduceLeDiff, Nat.reduceMul, Int.reduceToNat, reduceCtorEq, ↓reduceIte, Tryd.ntmps12, Tryd.results12, ks_12, mu_12, ti_ag3, ti_fl49_0, ti_fl49_3, ti_hb30, ti_hb31, ti_hb32, ti_sb22, ti_sl22, itD, itV, ndD, ndV, hf])
      | (with_reducible refine hKA ?_; clear hKA hKB KA KB)
      | (with_reducible refine hKB ?_; clear hKA hKB KA KB)
      | (with_reducible refine AWp_regC mu_12 ks_12 ?_; intro Kv hKv; simp (dsimp := false) only [go_sem, Nat.reduceAdd, Nat.reduceBEq, Nat.reduceEqDiff, Nat.reduceLT, Nat.reduceLeDiff, Nat.reduceMul, Int.reduceToNat, reduceCtorEq, ↓reduceIte, Tryd.ntmps12, Tryd.results12, ks_12, mu_12, ti_ag3, ti_fl49_0, ti_fl49_3, ti_hb30, ti_hb31, ti_hb32, ti_sb22, ti_sl22, itD, itV, ndD, ndV, hf])
      | with_reducible refine AWp_skipN ?_
      | with_reducible refine AWp_exitO (by repeat (first | with_reducible exact Out.hit | with_reducible apply Out.thenA | with_reducible apply Out.out rfl)) ?_
      | (with_reducible refine AWp_retR ?_; simp (dsimp := false) only [go_sem, Nat.reduceAdd, Nat.reduceBEq, Nat.reduceEqDiff, Nat.reduceLT, Nat.reduceLeDiff, Nat.reduceMul, Int.reduceToNat, reduceCtorEq, ↓reduceIte, Tryd.ntmps12, Tryd.results12, ks_12, mu_12, ti_ag3, ti_fl49_0, ti_fl49_3, ti_hb30, ti_hb31, ti_hb32, ti_sb22, ti_sl22, itD, itV, ndD, ndV, hf])
      | (with_reducible refine AWp_regE mu_12 ks_12 ?_; intro Kv hKv; simp (dsimp := false) only [go_sem, Nat.reduceAdd, Nat.reduceBEq, Nat.reduceEqDiff, Nat.reduceLT, Nat.reduceLeDiff, Nat.reduceMul, Int.reduceToNat, reduceCtorEq, ↓reduceIte, Tryd.ntmps12, Tryd.results12, ks_12, mu_12, ti_ag3, ti_fl49_0, ti_fl49_3, ti_hb30, ti_hb31, ti_hb32, ti_sb22, ti_sl22, itD, itV, ndD, ndV, hf])
      | (refine AWp_condC rfl ?_; intro KA KB hKA hKB; try simp only [onB_true, onB_false, onB_dec, onB_ndec, onB_not, onB_and, onB_or])
      | (refine AWp_condA rfl ?_ ?_)
      | (refine nodeFault_A l n hlen hS _ _ ?_; try simp (dsimp := false) only [go_sem, Nat.reduceAdd, Nat.reduceBEq, Nat.reduceEqDiff, Nat.reduceLT, Nat.reduceLeDiff, Nat.reduceMul, Int.reduceToNat, reduceCtorEq, ↓reduceIte, Tryd.ntmps12, Tryd.results12, ks_12, mu_12, ti_ag3, ti_fl49_0, ti_fl49_3, ti_hb30, ti_hb31, ti_hb32, ti_sb22, ti_sl22, itD, itV, ndD, ndV, hf])
      | with_reducible refine onB_of ?_ ?_
      | with_reducible rfl
      | omega)
    all_goals exact keepFz hk (Fz_tu2 (.nil _) (.same _)) (by simp [Bel_tu, Bel_d])
end Go.Proofs.YtohonoiojabjaaaDoor
