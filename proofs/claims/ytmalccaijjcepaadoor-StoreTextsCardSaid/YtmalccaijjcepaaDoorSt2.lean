/- Stores: what the program checks of them. No condition but that the tables of package unicode/utf8 are there. -/
import Derived.Test.YtmalccaijjcepaaDoorSt1
set_option linter.all false
set_option linter.unusedSimpArgs false
set_option linter.unusedVariables false
namespace Go.Proofs.YtmalccaijjcepaaDoor
open Go Go.Proofs.YtmalccaijjcepaaDoor.Ab
variable [Glo] [U8]
set_option maxHeartbeats 4000000
set_option maxRecDepth 20000
theorem ok_true {l : List Nd} {i : Nat} (hg : Good l i) {x : Nd} {up : Int} (hx : gd l i = x) (hc : climb l i ((i : Int) - 1) = up) (hb : soundB l i x (gd l x.up) = true) (he : up = x.up)
    (hq : x.k = 2 → 0 ≤ up → (gd l ((i : Int) - 1)).k ≠ 2 → (i : Int) - 1 ≠ up → False) : okAt l i = true := by
  rw [okAt_eq hg, hx, hc, hb]
  simp only [Bool.true_and, Bool.and_eq_true, Bool.not_eq_true', decide_eq_true_eq]
  refine ⟨he.symm, ?_⟩
  by_cases h1 : x.k = 2
  · by_cases h2 : 0 ≤ up
    · by_cases h3 : (gd l ((i : Int) - 1)).k ≠ 2
      · by_cases h4 : (i : Int) - 1 ≠ up
        · exact (hq h1 h2 h3 h4).elim
        · simp [h4]
      · simp [h3]
    · simp [h2]
  · simp [h1]
theorem ok_false1 {l : List Nd} {i : Nat} (hg : Good l i) {x : Nd} {up : Int} (hx : gd l i = x) (hc : climb l i ((i : Int) - 1) = up) (he : up ≠ x.up) : okAt l i = false := by
  rw [okAt_eq hg, hx, hc]
  have : decide (x.up = up) = false := decide_eq_false fun h => he h.symm
  rw [this]
  simp
theorem ok_false2 {l : List Nd} {i : Nat} (hg : Good l i) {x : Nd} {up : Int} (hx : gd l i = x) (hc : climb l i ((i : Int) - 1) = up) (h1 : x.k = 2) (h2 : 0 ≤ up) (h3 : (gd l ((i : Int) - 1)).k ≠ 2) (h4 : (i : Int) - 1 ≠ up) : okAt l i = false := by
  rw [okAt_eq hg, hx, hc]
  have e1 : decide (x.k = 2) = true := decide_eq_true h1
  have e2 : decide (0 ≤ up) = true := decide_eq_true h2
  have e3 : decide ((gd l ((i : Int) - 1)).k ≠ 2) = true := decide_eq_true h3
  have e4 : decide ((i : Int) - 1 ≠ up) = true := decide_eq_true h4
  rw [e1, e2, e3, e4]
  simp

/- the live slots of pleacher/store.Check -/
def ks_15 : Nat → List Nat
  | 0 => [0]
  | 1 => [0, 9]
  | 2 => [2]
  | 3 => [0, 3]
  | 4 => [0, 3, 10, 11, 12]
  | 5 => [0, 3, 10, 11, 12, 13]
  | 6 => [0, 3, 4, 5, 10, 11, 12]
  | 7 => [0, 3, 4, 5, 10, 11, 12, 20]
  | 8 => [2]
  | 9 => [0, 3, 4, 5, 10, 11, 12, 44]
  | 10 => [0, 3, 4, 5, 10, 11, 12]
  | 11 => [0, 3, 4, 5, 6, 10, 11, 12]
  | 12 => [0, 3, 4, 5, 6, 10, 11, 12, 52]
  | 13 => [0, 3, 4, 5, 6, 10, 11, 12]
  | 14 => [0, 3, 4, 10, 11, 12, 86]
  | 15 => [2]
  | 16 => [0, 3, 10, 11, 12]
  | 17 => [0, 3, 10, 11, 12]
  | 18 => [2]
  | _ => []
def mu_15 : List Nat := [3]
def in_15 : List Nat := [0]
def ro_15 : Nat → List Nat
  | 6 => [5]
  | _ => []
def nd_15 : Nat → Nat
  | 9 => 23
  | _ => 0
theorem storeCheck_A (l : List Nd) (hlen : l.length ≤ 9223372036854775807) (hS : Short l) (H : Heap) (K : V → Heap → Prop) (hk : K (.d (.i .i64 (nodesFault l))) H) :
    ACalls Tryd.prog 15 [.d (.sl 6 (l.map ndD))] H K := by
  refine ACalls_of Tryd.func15 rfl in_15 (Nat.le_of_ble_eq_true rfl) ?_
  intro F hF
  simp (dsimp := false) only [go_sem, Nat.reduceAdd, Nat.reduceBEq, Nat.reduceEqDiff, Nat.reduceLT, Nat.reduceLeDiff, Nat.reduceMul, Int.reduceToNat, reduceCtorEq, ↓reduceIte, Tryd.ntmps15, Tryd.results15, ks_15, mu_15, nd_15, ro_15, ti_ag3, ti_ag57, ti_fl57_0, ti_fl57_3, ti_fl57_5, ti_hb34, ti_sb29, ti_sb55, ti_sl29, ti_sl55, ti_sz57, ti_zr57, itD, itV, ndD, ndV, in_15] at hF
  subst hF
  repeat' (first | with_reducible (first | refine And.intro ?_ ?_ | intro _ | refine AWp_seq ?_ | refine AWp_block ?_ | (refine hKv _ _ (AWp_nop ?_); clear hKv Kv) | (refine hKA ?_; clear hKA hKB KA KB) | (refine hKB ?_; clear hKA hKB KA KB) | refine AWp_skipN ?_ | refine AWp_exitO (by repeat (first | exact Out.hit | apply Out.thenA | apply Out.out rfl)) ?_) | (with_reducible (first | (refine hKv _ _ ?_; clear hKv Kv) | ((first | refine AWp_regro mu_15 ks_15 ro_15 ?_ | refine AWp_regC mu_15 ks_15 ?_ | refine AWp_draw nd_15 mu_15 ks_15 ti_mixed (by kernel_rfl) ?_ | refine AWp_regE mu_15 ks_15 ?_ | refine AWp_drawE nd_15 mu_15 ks_15 ti_mixed (by kernel_rfl) ?_); intro Kv hKv) | refine AWp_retR ?_); try simp (dsimp := false) only [go_sem, Nat.reduceAdd, Nat.reduceBEq, Nat.reduceEqDiff, Nat.reduceLT, Nat.reduceLeDiff, Nat.reduceMul, Int.reduceToNat, reduceCtorEq, ↓reduceIte, Tryd.ntmps15, Tryd.results15, ks_15, mu_15, nd_15, ro_15, ti_ag3, ti_ag57, ti_fl57_0, ti_fl57_3, ti_fl57_5, ti_hb34, ti_sb29, ti_sb55, ti_sl29, ti_sl55, ti_sz57, ti_zr57, itD, itV, ndD, ndV]) | (refine AWp_condC rfl ?_; intro KA KB hKA hKB; try simp only [onB_true, onB_false, onB_dec, onB_ndec, onB_not, onB_and, onB_or]) | (refine AWp_condA rfl ?_ ?_) | with_reducible (first | refine onB_of ?_ ?_ | rfl) | omega)
  · exact keepD hk (by (simp only [V.d.injEq, D.i.injEq, D.b.injEq, D.s.injEq, true_and]; grind [nodesFault]))
  rename_i hN0
  have hN : l.length ≤ 100000 := by omega
  refine AWp_whileD (fun x : Nat × Nat => x.1 ≤ l.length ∧ Good l x.1) (fun x => [(0, .d (.sl 6 (l.map ndD))), (3, .os H.length x.2), (10, .d (.sl 6 (l.map ndD))), (11, .d (.i .i64 l.length)), (12, .d (.i .i64 x.1))])
    (fun x => [.row x.2 3 1 ((anc l ((x.1 : Int) - 1)).reverse.map intCells)]) (fun x => l.length - x.1) (0, 0) ⟨Nat.zero_le _, fun j hj => absurd hj (Nat.not_lt_zero _)⟩ ⟨[], ?_⟩ ?_ ?_ ?_
  · rw [anc_neg (by simp)]; simp
  · simp (dsimp := false) only [go_sem, Nat.reduceAdd, Nat.reduceBEq, Nat.reduceEqDiff, Nat.reduceLT, Nat.reduceLeDiff, Nat.reduceMul, Int.reduceToNat, reduceCtorEq, ↓reduceIte, Tryd.ntmps15, Tryd.results15, ks_15, mu_15, nd_15, ro_15, ti_ag3, ti_ag57, ti_fl57_0, ti_fl57_3, ti_fl57_5, ti_hb34, ti_sb29, ti_sb55, ti_sl29, ti_sl55, ti_sz57, ti_zr57, itD, itV, ndD, ndV]
    simp
  · rintro ⟨i, ver⟩ _ ob hob
    rcases List.mem_cons.1 hob with rfl | hob
    · exact obBel_map intRow _ _ _ _ _
    · cases hob
  rintro ⟨i, ver⟩ ⟨hi, hg⟩
  simp only [] at hi hg ⊢
  repeat' (first | with_reducible (first | refine And.intro ?_ ?_ | intro _ | refine AWp_seq ?_ | refine AWp_block ?_ | (refine hKv _ _ (AWp_nop ?_); clear hKv Kv) | (refine hKA ?_; clear hKA hKB KA KB) | (refine hKB ?_; clear hKA hKB KA KB) | refine AWp_skipN ?_ | refine AWp_exitO (by repeat (first | exact Out.hit | apply Out.thenA | apply Out.out rfl)) ?_) | ((first | with_reducible (first | (refine hKv _ _ ?_; clear hKv Kv) | ((first | refine AWp_regro mu_15 ks_15 ro_15 ?_ | refine AWp_regC mu_15 ks_15 ?_ | refine AWp_draw nd_15 mu_15 ks_15 ti_mixed (by kernel_rfl) ?_ | refine AWp_regE mu_15 ks_15 ?_ | refine AWp_drawE nd_15 mu_15 ks_15 ti_mixed (by kernel_rfl) ?_); intro Kv hKv) | refine AWp_retR ?_) | refine sound_A _ _ _ (by assumption) hN hS hg _ _ ?_ | refine QCall_of (sound_A _ _ _ (by assumption) hN hS hg _ _ (Two_intro _ _)) ?_); try simp (dsimp := false) only [go_sem, Nat.reduceAdd, Nat.reduceBEq, Nat.reduceEqDiff, Nat.reduceLT, Nat.reduceLeDiff, Nat.reduceMul, Int.reduceToNat, reduceCtorEq, ↓reduceIte, Tryd.ntmps15, Tryd.results15, ks_15, mu_15, nd_15, ro_15, ti_ag3, ti_ag57, ti_fl57_0, ti_fl57_3, ti_fl57_5, ti_hb34, ti_sb29, ti_sb55, ti_sl29, ti_sl55, ti_sz57, ti_zr57, itD, itV, ndD, ndV]) | (refine AWp_condC rfl ?_; intro KA KB hKA hKB; try simp only [onB_true, onB_false, onB_dec, onB_ndec, onB_not, onB_and, onB_or]) | (refine AWp_condA rfl ?_ ?_) | with_reducible (first | refine onB_of ?_ ?_ | rfl) | omega)
  · refine closed_app fun ob hob => ?_
    rcases List.mem_cons.1 hob with rfl | hob
    · exact obBel_map intRow _ _ _ _ _
    · cases hob
  rotate_left
  · rename_i x hx hb
    have hok : okAt l i = false := by rw [okAt_eq hg, gd_of_get hx, hb, Bool.false_and]
    exact dropD hk (by rw [nodesFault_bad (lt_of_get hx) hok hN])
  · have e : i = l.length := by omega
    subst e
    exact dropD hk (by rw [nodesFault_good hg hN])
  rename_i x hx hb
  have hilt := lt_of_get hx
  have hgx := gd_of_get hx
  refine AWp_whileH (fun y : Nat × Int => -1 ≤ y.2 ∧ y.2 < i ∧ climb l i y.2 = climb l i ((i : Int) - 1)) (fun y => [(0, .d (.sl 6 (l.map ndD))), (3, .os H.length y.1), (4, .d (.i .i64 i)), (5, .rp (ndD x)), (10, .d (.sl 6 (l.map ndD))), (11, .d (.i .i64 l.length)), (12, .d (.i .i64 i))])
    (fun y => [.row y.1 3 1 ((anc l y.2).reverse.map intCells)]) (fun y => (y.2 + 1).toNat) (ver, (i : Int) - 1) ?_ rfl ?_ ?_ ?_
  · exact ⟨by simp only []; omega, by simp only []; omega, rfl⟩
  · simp (dsimp := false) only [go_sem, Nat.reduceAdd, Nat.reduceBEq, Nat.reduceEqDiff, Nat.reduceLT, Nat.reduceLeDiff, Nat.reduceMul, Int.reduceToNat, reduceCtorEq, ↓reduceIte, Tryd.ntmps15, Tryd.results15, ks_15, mu_15, nd_15, ro_15, ti_ag3, ti_ag57, ti_fl57_0, ti_fl57_3, ti_fl57_5, ti_hb34, ti_sb29, ti_sb55, ti_sl29, ti_sl55, ti_sz57, ti_zr57, itD, itV, ndD, ndV]
    simp
  · rintro ⟨v, up⟩ _ ob hob
    rcases List.mem_cons.1 hob with rfl | hob
    · exact obBel_map intRow _ _ _ _ _
    · cases hob
  rintro ⟨v, up⟩ ⟨h1, h2, h3⟩
  simp only [] at h1 h2 h3 ⊢
  have hln := anc_len hg (i + 1) up (by omega) h2
  have hln' : (anc l up).reverse.length = (anc l up).length := List.length_reverse
  by_cases hup : 0 ≤ up
  · obtain ⟨hlp, htop⟩ := anc_some (l := l) hup
    obtain ⟨b1, b2, b3, b4, b5, b6⟩ := good_bd' hg hup h2
    obtain ⟨p, hp⟩ : ∃ p, l[up.toNat]? = some p := ⟨l[up.toNat]'(by omega), List.getElem?_eq_getElem (by omega)⟩
    have hgp := gd_of_get' hp
    rw [hgp] at b1 b2 b3 b4 b5 b6
    have hstep : List.take ((((anc l up).reverse.length : Nat) : Int) - 1).toNat ((anc l up).reverse.map intCells) = (anc l p.up).reverse.map intCells := by
      rw [← List.map_take, hln', anc_take hup (by rw [hgp]; omega), hgp]
    have hcl : ¬ up + p.sz < i → climb l i ((i : Int) - 1) = up := fun hs => by rw [← h3, climb_stop (by rw [hgp]; omega)]
    have hpush : up = x.up → (anc l up).reverse.map intCells ++ [[V.d (.i .i64 (i : Int))]] = (anc l (((i + 1 : Nat) : Int) - 1)).reverse.map intCells := fun he => by
      have e1 : (((i + 1 : Nat) : Int) - 1) = i := by omega
      rw [e1, anc_push (by rw [hgx]; omega), hgx, ← he]
      simp [intCells]
    
    repeat' (first | with_reducible (first | refine And.intro ?_ ?_ | intro _ | refine AWp_seq ?_ | refine AWp_block ?_ | (refine hKv _ _ (AWp_nop ?_); clear hKv Kv) | (refine hKA ?_; clear hKA hKB KA KB) | (refine hKB ?_; clear hKA hKB KA KB) | refine AWp_skipN ?_ | refine AWp_exitO (by repeat (first | exact Out.hit | apply Out.thenA | apply Out.out rfl)) ?_) | (with_reducible (first | (refine hKv _ _ ?_; clear hKv Kv) | ((first | refine AWp_regro mu_15 ks_15 ro_15 ?_ | refine AWp_regC mu_15 ks_15 ?_ | refine AWp_draw nd_15 mu_15 ks_15 ti_mixed (by kernel_rfl) ?_ | refine AWp_regE mu_15 ks_15 ?_ | refine AWp_drawE nd_15 mu_15 ks_15 ti_mixed (by kernel_rfl) ?_); intro Kv hKv) | refine AWp_retR ?_); try simp (dsimp := false) only [go_sem, Nat.reduceAdd, Nat.reduceBEq, Nat.reduceEqDiff, Nat.reduceLT, Nat.reduceLeDiff, Nat.reduceMul, Int.reduceToNat, reduceCtorEq, ↓reduceIte, Tryd.ntmps15, Tryd.results15, ks_15, mu_15, nd_15, ro_15, ti_ag3, ti_ag57, ti_fl57_0, ti_fl57_3, ti_fl57_5, ti_hb34, ti_sb29, ti_sb55, ti_sl29, ti_sl55, ti_sz57, ti_zr57, itD, itV, ndD, ndV, htop, hlp, hp]) | (refine AWp_condC rfl ?_; intro KA KB hKA hKB; try simp only [onB_true, onB_false, onB_dec, onB_ndec, onB_not, onB_and, onB_or]) | (refine AWp_condA rfl ?_ ?_) | with_reducible (first | refine onB_of ?_ ?_ | rfl) | omega)
    all_goals clear hlen hS
    all_goals first
      | (refine ⟨(v + 1, p.up), ⟨by simp only []; omega, by simp only []; omega, ?_⟩, by simp only []; omega, ?_, rfl, by omega⟩
         · have := climb_go (l := l) (i := i) hup (by rw [hgp]; assumption) (by rw [hgp]; omega)
           rw [hgp] at this
           exact this.symm.trans h3
         · rw [hstep])
      | (have hok : okAt l i = true := ok_true hg hgx (hcl (by assumption)) hb (by assumption) (fun q1 q2 q3 q4 => by
           first
           | exact absurd q1 (by assumption)
           | exact q4 (by assumption)
           | exact q3 (by rw [gd_of_get' ‹l[((i : Int) - 1).toNat]? = some _›]; assumption))
         exact ⟨(i + 1, v + 1), [], ⟨by simp only []; omega, hg.succ hok⟩, by simp only []; omega, by rw [hpush (by assumption)], rfl, by omega, by simp⟩)
      | exact dropD hk (by rw [nodesFault_bad hilt (ok_false1 hg hgx (hcl (by assumption)) (by assumption)) hN])
      | exact dropD hk (by rw [nodesFault_bad hilt (ok_false2 hg hgx (hcl (by assumption)) (by assumption) hup (by rw [gd_of_get' ‹l[((i : Int) - 1).toNat]? = some _›]; assumption) (by assumption)) hN])
  · have hneg : up < 0 := by omega
    have hm : up = -1 := by omega
    have hcl : climb l i ((i : Int) - 1) = -1 := by rw [← h3, climb_neg hneg, hm]
    rw [anc_neg hneg]
    simp only [List.reverse_nil, List.map_nil]
    have hpush : -1 = x.up → [[V.d (.i .i64 (i : Int))]] = (anc l (((i + 1 : Nat) : Int) - 1)).reverse.map intCells := fun he => by
      have e1 : (((i + 1 : Nat) : Int) - 1) = i := by omega
      rw [e1, anc_push (by rw [hgx]; omega), hgx, ← he, anc_neg (by omega)]
      simp [intCells]
    
    repeat' (first | with_reducible (first | refine And.intro ?_ ?_ | intro _ | refine AWp_seq ?_ | refine AWp_block ?_ | (refine hKv _ _ (AWp_nop ?_); clear hKv Kv) | (refine hKA ?_; clear hKA hKB KA KB) | (refine hKB ?_; clear hKA hKB KA KB) | refine AWp_skipN ?_ | refine AWp_exitO (by repeat (first | exact Out.hit | apply Out.thenA | apply Out.out rfl)) ?_) | (with_reducible (first | (refine hKv _ _ ?_; clear hKv Kv) | ((first | refine AWp_regro mu_15 ks_15 ro_15 ?_ | refine AWp_regC mu_15 ks_15 ?_ | refine AWp_draw nd_15 mu_15 ks_15 ti_mixed (by kernel_rfl) ?_ | refine AWp_regE mu_15 ks_15 ?_ | refine AWp_drawE nd_15 mu_15 ks_15 ti_mixed (by kernel_rfl) ?_); intro Kv hKv) | refine AWp_retR ?_); try simp (dsimp := false) only [go_sem, Nat.reduceAdd, Nat.reduceBEq, Nat.reduceEqDiff, Nat.reduceLT, Nat.reduceLeDiff, Nat.reduceMul, Int.reduceToNat, reduceCtorEq, ↓reduceIte, Tryd.ntmps15, Tryd.results15, ks_15, mu_15, nd_15, ro_15, ti_ag3, ti_ag57, ti_fl57_0, ti_fl57_3, ti_fl57_5, ti_hb34, ti_sb29, ti_sb55, ti_sl29, ti_sl55, ti_sz57, ti_zr57, itD, itV, ndD, ndV]) | (refine AWp_condC rfl ?_; intro KA KB hKA hKB; try simp only [onB_true, onB_false, onB_dec, onB_ndec, onB_not, onB_and, onB_or]) | (refine AWp_condA rfl ?_ ?_) | with_reducible (first | refine onB_of ?_ ?_ | rfl) | omega)
    all_goals clear hlen hS
    all_goals first
      | (have hok : okAt l i = true := ok_true hg hgx hcl hb (by assumption) (fun q1 q2 q3 q4 => absurd q2 (by omega))
         exact ⟨(i + 1, v + 1), [], ⟨by simp only []; omega, hg.succ hok⟩, by simp only []; omega, by rw [hpush (by assumption)], rfl, by omega, by simp⟩)
      | exact dropD hk (by rw [nodesFault_bad hilt (ok_false1 hg hgx hcl (by assumption)) hN])
end Go.Proofs.YtmalccaijjcepaaDoor
