/- Nodes: what the reference finds of them, and a copy of nodes. No condition but that the tables of package unicode/utf8 are there. -/
import Derived.Test.YtmalccaijjcepaaDoorSt2
set_option linter.all false
set_option linter.unusedSimpArgs false
set_option linter.unusedVariables false
namespace Go.Proofs.YtmalccaijjcepaaDoor
open Go Go.Proofs.YtmalccaijjcepaaDoor.Ab
variable [Glo] [U8]
set_option maxHeartbeats 4000000
set_option maxRecDepth 20000

theorem okAt_def {l : List Nd} {i : Nat} {x : Nd} {up : Int} (hx : gd l i = x) (hc : climb l i ((i : Int) - 1) = up) : okAt l i = (nodeMay x && decide (0 ≤ x.sz ∧ x.sz ≤ l.length - 1 - i) && decide (x.up = up) &&
    (if up < 0 then decide (x.lv = 0)
     else decide (x.lv = (gd l up).lv + 1 ∧ i + x.sz ≤ up + (gd l up).sz ∧ ((gd l up).k = 1 ∨ (gd l up).k = 6)) && !(decide (x.k = 2) && (decide ((gd l up).k = 6) || (decide ((i : Int) - 1 ≠ up) && decide ((gd l (i - 1)).k ≠ 2)))))) := by
  unfold okAt
  rw [hx, hc]
theorem ok_iff {l : List Nd} {i : Nat} {x : Nd} {up : Int} (hx : gd l i = x) (hc : climb l i ((i : Int) - 1) = up) (hb : nodeMay x = true) (hz : 0 ≤ x.sz ∧ x.sz ≤ l.length - 1 - i) :
    okAt l i = true ↔ x.up = up ∧ (up < 0 → x.lv = 0) ∧ (0 ≤ up → x.lv = (gd l up).lv + 1 ∧ i + x.sz ≤ up + (gd l up).sz ∧ ((gd l up).k = 1 ∨ (gd l up).k = 6) ∧ ¬ (x.k = 2 ∧ ((gd l up).k = 6 ∨ ((i : Int) - 1 ≠ up ∧ (gd l (i - 1)).k ≠ 2)))) := by
  rw [okAt_def hx hc, hb, decide_eq_true hz]
  generalize gd l up = p
  generalize gd l (i - 1) = q
  by_cases h0 : up < 0
  · rw [if_pos h0]
    simp only [Bool.true_and, Bool.and_eq_true, decide_eq_true_eq]
    omega
  · rw [if_neg h0]
    simp only [Bool.true_and, Bool.and_eq_true, decide_eq_true_eq, Bool.not_eq_true', Bool.and_eq_false_imp, Bool.or_eq_false_iff, decide_eq_false_iff_not]
    omega
/- the live slots of pleacher/pleacherref.NodesFault -/
def ks_17 : Nat → List Nat
  | 0 => [0]
  | 1 => [0, 9]
  | 2 => [2]
  | 3 => [0, 3]
  | 4 => [0, 3, 13]
  | 5 => [0, 3]
  | 6 => [0, 3, 4]
  | 7 => [0, 3, 4, 33]
  | 8 => [2]
  | 9 => [0, 3, 4, 5]
  | 10 => [0, 3, 4, 5, 48]
  | 11 => [0, 3, 4, 5]
  | 12 => [0, 3, 4, 5, 57]
  | 13 => [2]
  | 14 => [0, 3, 4, 5, 59]
  | 15 => [0, 3, 62]
  | 16 => [2]
  | 17 => [0, 3, 4, 5, 6]
  | 18 => [0, 3, 4, 5, 6, 93]
  | 19 => [2]
  | 20 => [0, 3, 116]
  | 21 => [2]
  | 22 => [2]
  | _ => []
def mu_17 : List Nat := []
def in_17 : List Nat := [0]
def ro_17 : Nat → List Nat
  | 6 => [4]
  | 17 => [6]
  | _ => []
theorem nodesFault_A (l : List Nd) (hlen : l.length ≤ 9223372036854775807) (hS : Short l) (H : Heap) (K : V → Heap → Prop) (hk : K (.d (.i .i64 (nodesFault l))) H) :
    ACalls Tryd.prog 17 [.d (.sl 6 (l.map ndD))] H K := by
  refine ACalls_of Tryd.func17 rfl in_17 (Nat.le_of_ble_eq_true rfl) ?_
  intro F hF
  simp (dsimp := false) only [go_sem, Nat.reduceAdd, Nat.reduceBEq, Nat.reduceEqDiff, Nat.reduceLT, Nat.reduceLeDiff, Nat.reduceMul, Int.reduceToNat, reduceCtorEq, ↓reduceIte, Tryd.ntmps17, Tryd.results17, ks_17, mu_17, ro_17, ti_ag3, ti_ag57, ti_fl57_0, ti_fl57_3, ti_fl57_4, ti_fl57_5, ti_hb35, ti_hb36, ti_sb29, ti_sl29, ti_sz57, ti_zr57, itD, itV, ndD, ndV, in_17] at hF
  subst hF
  repeat' (first | with_reducible (first | refine And.intro ?_ ?_ | intro _ | refine AWp_seq ?_ | refine AWp_block ?_ | (refine hKv _ _ (AWp_nop ?_); clear hKv Kv) | (refine hKA ?_; clear hKA hKB KA KB) | (refine hKB ?_; clear hKA hKB KA KB) | refine AWp_skipN ?_ | refine AWp_exitO (by repeat (first | exact Out.hit | apply Out.thenA | apply Out.out rfl)) ?_) | (with_reducible (first | (refine hKv _ _ ?_; clear hKv Kv) | ((first | refine AWp_regro mu_17 ks_17 ro_17 ?_ | refine AWp_regC mu_17 ks_17 ?_ | refine AWp_regE mu_17 ks_17 ?_); intro Kv hKv) | refine AWp_retR ?_); try simp (dsimp := false) only [go_sem, Nat.reduceAdd, Nat.reduceBEq, Nat.reduceEqDiff, Nat.reduceLT, Nat.reduceLeDiff, Nat.reduceMul, Int.reduceToNat, reduceCtorEq, ↓reduceIte, Tryd.ntmps17, Tryd.results17, ks_17, mu_17, ro_17, ti_ag3, ti_ag57, ti_fl57_0, ti_fl57_3, ti_fl57_4, ti_fl57_5, ti_hb35, ti_hb36, ti_sb29, ti_sl29, ti_sz57, ti_zr57, itD, itV, ndD, ndV]) | (refine AWp_condC rfl ?_; intro KA KB hKA hKB; try simp only [onB_true, onB_false, onB_dec, onB_ndec, onB_not, onB_and, onB_or]) | (refine AWp_condA rfl ?_ ?_) | with_reducible (first | refine onB_of ?_ ?_ | rfl) | omega)
  · exact keepD hk (by (simp only [V.d.injEq, D.i.injEq, D.b.injEq, D.s.injEq, true_and]; grind [nodesFault]))
  rename_i hN0
  have hN : l.length ≤ 100000 := by omega
  refine AWp_while0 (fun i : Nat => i ≤ l.length ∧ Good l i) (fun i => [(0, .d (.sl 6 (l.map ndD))), (3, .d (.i .i64 i))]) (fun i => l.length - i) 0 ⟨Nat.zero_le _, fun j hj => absurd hj (Nat.not_lt_zero _)⟩ ?_ ?_
  · simp (dsimp := false) only [go_sem, Nat.reduceAdd, Nat.reduceBEq, Nat.reduceEqDiff, Nat.reduceLT, Nat.reduceLeDiff, Nat.reduceMul, Int.reduceToNat, reduceCtorEq, ↓reduceIte, Tryd.ntmps17, Tryd.results17, ks_17, mu_17, ro_17, ti_ag3, ti_ag57, ti_fl57_0, ti_fl57_3, ti_fl57_4, ti_fl57_5, ti_hb35, ti_hb36, ti_sb29, ti_sl29, ti_sz57, ti_zr57, itD, itV, ndD, ndV]
    first | done | simp
  rintro i ⟨hi, hg⟩
  repeat' (first | with_reducible (first | refine And.intro ?_ ?_ | intro _ | refine AWp_seq ?_ | refine AWp_block ?_ | (refine hKv _ _ (AWp_nop ?_); clear hKv Kv) | (refine hKA ?_; clear hKA hKB KA KB) | (refine hKB ?_; clear hKA hKB KA KB) | refine AWp_skipN ?_ | refine AWp_exitO (by repeat (first | exact Out.hit | apply Out.thenA | apply Out.out rfl)) ?_) | ((first | with_reducible (first | (refine hKv _ _ ?_; clear hKv Kv) | ((first | refine AWp_regro mu_17 ks_17 ro_17 ?_ | refine AWp_regC mu_17 ks_17 ?_ | refine AWp_regE mu_17 ks_17 ?_); intro Kv hKv) | refine AWp_retR ?_) | refine nodeMay_A _ (hS.get (by assumption)).1 (hS.get (by assumption)).2 _ _ ?_ | refine in_A _ _ _ _ _ ?_); try simp (dsimp := false) only [go_sem, Nat.reduceAdd, Nat.reduceBEq, Nat.reduceEqDiff, Nat.reduceLT, Nat.reduceLeDiff, Nat.reduceMul, Int.reduceToNat, reduceCtorEq, ↓reduceIte, Tryd.ntmps17, Tryd.results17, ks_17, mu_17, ro_17, ti_ag3, ti_ag57, ti_fl57_0, ti_fl57_3, ti_fl57_4, ti_fl57_5, ti_hb35, ti_hb36, ti_sb29, ti_sl29, ti_sz57, ti_zr57, itD, itV, ndD, ndV]) | (refine AWp_condC rfl ?_; intro KA KB hKA hKB; try simp only [onB_true, onB_false, onB_dec, onB_ndec, onB_not, onB_and, onB_or]) | (refine AWp_condA rfl ?_ ?_) | with_reducible (first | refine onB_of ?_ ?_ | rfl) | omega)
  · rename_i x hx hb hz
    have hilt := lt_of_get hx
    have hgx := gd_of_get hx
    refine AWp_while0 (fun up : Int => -1 ≤ up ∧ up < i ∧ climb l i up = climb l i ((i : Int) - 1)) (fun up => [(0, .d (.sl 6 (l.map ndD))), (3, .d (.i .i64 i)), (4, .rp (ndD x)), (5, .d (.i .i64 up))]) (fun up => (up + 1).toNat) ((i : Int) - 1) ⟨by omega, by omega, rfl⟩ ?_ ?_
    · simp (dsimp := false) only [go_sem, Nat.reduceAdd, Nat.reduceBEq, Nat.reduceEqDiff, Nat.reduceLT, Nat.reduceLeDiff, Nat.reduceMul, Int.reduceToNat, reduceCtorEq, ↓reduceIte, Tryd.ntmps17, Tryd.results17, ks_17, mu_17, ro_17, ti_ag3, ti_ag57, ti_fl57_0, ti_fl57_3, ti_fl57_4, ti_fl57_5, ti_hb35, ti_hb36, ti_sb29, ti_sl29, ti_sz57, ti_zr57, itD, itV, ndD, ndV]
      first | done | simp
    rintro up ⟨h1, h2, h3⟩
    by_cases hup : 0 ≤ up
    · obtain ⟨b1, b2, b3, b4, b5, b6⟩ := good_bd' hg hup h2
      obtain ⟨p, hp⟩ : ∃ p, l[up.toNat]? = some p := ⟨l[up.toNat]'(by omega), List.getElem?_eq_getElem (by omega)⟩
      have hgp := gd_of_get' hp
      rw [hgp] at b1 b2 b3 b4 b5 b6
      have hcl : ¬ up + p.sz < i → climb l i ((i : Int) - 1) = up := fun hs => by rw [← h3, climb_stop (by rw [hgp]; omega)]
      
      repeat' (first | with_reducible (first | refine And.intro ?_ ?_ | intro _ | refine AWp_seq ?_ | refine AWp_block ?_ | (refine hKv _ _ (AWp_nop ?_); clear hKv Kv) | (refine hKA ?_; clear hKA hKB KA KB) | (refine hKB ?_; clear hKA hKB KA KB) | refine AWp_skipN ?_ | refine AWp_exitO (by repeat (first | exact Out.hit | apply Out.thenA | apply Out.out rfl)) ?_) | (with_reducible (first | (refine hKv _ _ ?_; clear hKv Kv) | ((first | refine AWp_regro mu_17 ks_17 ro_17 ?_ | refine AWp_regC mu_17 ks_17 ?_ | refine AWp_regE mu_17 ks_17 ?_); intro Kv hKv) | refine AWp_retR ?_); try simp (dsimp := false) only [go_sem, Nat.reduceAdd, Nat.reduceBEq, Nat.reduceEqDiff, Nat.reduceLT, Nat.reduceLeDiff, Nat.reduceMul, Int.reduceToNat, reduceCtorEq, ↓reduceIte, Tryd.ntmps17, Tryd.results17, ks_17, mu_17, ro_17, ti_ag3, ti_ag57, ti_fl57_0, ti_fl57_3, ti_fl57_4, ti_fl57_5, ti_hb35, ti_hb36, ti_sb29, ti_sl29, ti_sz57, ti_zr57, itD, itV, ndD, ndV, hp]) | (refine AWp_condC rfl ?_; intro KA KB hKA hKB; try simp only [onB_true, onB_false, onB_dec, onB_ndec, onB_not, onB_and, onB_or]) | (refine AWp_condA rfl ?_ ?_) | with_reducible (first | refine onB_of ?_ ?_ | rfl) | omega)
      all_goals clear hlen hS
      all_goals try have hq := gd_of_get' ‹l[((i : Int) - 1).toNat]? = some _›
      all_goals first
        | (refine ⟨p.up, ⟨by omega, by omega, ?_⟩, by omega, rfl⟩
           have := climb_go (l := l) (i := i) hup (by rw [hgp]; assumption) (by rw [hgp]; omega)
           rw [hgp] at this
           exact this.symm.trans h3)
        | (have hok : okAt l i = true := by
             refine (ok_iff hgx (hcl (by assumption)) hb hz).2 ⟨by assumption, fun q => absurd q (by assumption), fun _ => ?_⟩
             rw [hgp]
             refine ⟨by assumption, Int.not_lt.1 (by assumption), by first | exact Or.inl (by assumption) | exact Or.inr (by assumption), ?_⟩
             rintro ⟨q1, q2⟩
             first
             | exact absurd q1 (by assumption)
             | (rcases q2 with q2 | ⟨q3, q4⟩
                · exact absurd q2 (by assumption)
                · first
                  | exact q3 (by assumption)
                  | exact q4 (by rw [hq]; assumption))
           exact ⟨i + 1, ⟨by omega, hg.succ hok⟩, by omega, by omega⟩)
        | (have hok : okAt l i = false := by
             rw [Bool.eq_false_iff, Ne, ok_iff hgx (hcl (by assumption)) hb hz, hgp]
             rintro ⟨q1, _, q3⟩
             obtain ⟨r1, r2, r3, r4⟩ := q3 hup
             first
             | exact absurd q1 (by assumption)
             | exact absurd r1 (by assumption)
             | exact absurd r2 (Int.not_le.2 (by assumption))
             | (rcases r3 with r3 | r3 <;> exact absurd r3 (by assumption))
             | exact r4 ⟨by assumption, Or.inl (by assumption)⟩
             | exact r4 ⟨by assumption, Or.inr ⟨by assumption, by rw [hq]; assumption⟩⟩
           exact keepD hk (by rw [nodesFault_bad hilt hok hN]))
    · have hneg : up < 0 := by omega
      have hm : up = -1 := by omega
      have hcl : climb l i ((i : Int) - 1) = -1 := by rw [← h3, climb_neg hneg, hm]
      
      repeat' (first | with_reducible (first | refine And.intro ?_ ?_ | intro _ | refine AWp_seq ?_ | refine AWp_block ?_ | (refine hKv _ _ (AWp_nop ?_); clear hKv Kv) | (refine hKA ?_; clear hKA hKB KA KB) | (refine hKB ?_; clear hKA hKB KA KB) | refine AWp_skipN ?_ | refine AWp_exitO (by repeat (first | exact Out.hit | apply Out.thenA | apply Out.out rfl)) ?_) | (with_reducible (first | (refine hKv _ _ ?_; clear hKv Kv) | ((first | refine AWp_regro mu_17 ks_17 ro_17 ?_ | refine AWp_regC mu_17 ks_17 ?_ | refine AWp_regE mu_17 ks_17 ?_); intro Kv hKv) | refine AWp_retR ?_); try simp (dsimp := false) only [go_sem, Nat.reduceAdd, Nat.reduceBEq, Nat.reduceEqDiff, Nat.reduceLT, Nat.reduceLeDiff, Nat.reduceMul, Int.reduceToNat, reduceCtorEq, ↓reduceIte, Tryd.ntmps17, Tryd.results17, ks_17, mu_17, ro_17, ti_ag3, ti_ag57, ti_fl57_0, ti_fl57_3, ti_fl57_4, ti_fl57_5, ti_hb35, ti_hb36, ti_sb29, ti_sl29, ti_sz57, ti_zr57, itD, itV, ndD, ndV]) | (refine AWp_condC rfl ?_; intro KA KB hKA hKB; try simp only [onB_true, onB_false, onB_dec, onB_ndec, onB_not, onB_and, onB_or]) | (refine AWp_condA rfl ?_ ?_) | with_reducible (first | refine onB_of ?_ ?_ | rfl) | omega)
      all_goals clear hlen hS
      all_goals first
        | (have hok : okAt l i = true := (ok_iff hgx hcl hb hz).2 ⟨by omega, fun _ => by assumption, fun q => absurd q (by omega)⟩
           exact ⟨i + 1, ⟨by omega, hg.succ hok⟩, by omega, by omega⟩)
        | (have hok : okAt l i = false := by
             rw [Bool.eq_false_iff, Ne, ok_iff hgx hcl hb hz]
             rintro ⟨q1, q2, _⟩
             first
             | exact absurd (q2 (by decide)) (by assumption)
             | omega
           exact keepD hk (by rw [nodesFault_bad hilt hok hN]))
  · rename_i x hx hb hz
    exact keepD hk (by rw [nodesFault_bad (lt_of_get hx) (by rw [okAt_def (gd_of_get hx) rfl, decide_eq_false hz]; simp) hN])
  · rename_i x hx hb
    exact keepD hk (by rw [nodesFault_bad (lt_of_get hx) (by rw [okAt_def (gd_of_get hx) rfl, hb]; simp) hN])
  · have e : i = l.length := by omega
    subst e
    exact keepD hk (by rw [nodesFault_good hg hN])
/- the live slots of pleacher/pleacherlaw.nodes -/
def ks_16 : Nat → List Nat
  | 0 => [0]
  | 1 => [2]
  | _ => []
def mu_16 : List Nat := []
def in_16 : List Nat := [0]
theorem nodes_A (l : List Nd) (hlen : l.length * 64 ≤ 140737488355328) (H : Heap) (K : V → Heap → Prop) (hk : K (.d (.sl 6 (l.map ndD))) H) :
    ACalls Tryd.prog 16 [.d (.sl 6 (l.map ndD))] H K := by
  refine ACalls_of Tryd.func16 rfl in_16 (Nat.le_of_ble_eq_true rfl) ?_
  intro F hF
  simp (dsimp := false) only [go_sem, Nat.reduceAdd, Nat.reduceBEq, Nat.reduceEqDiff, Nat.reduceLT, Nat.reduceLeDiff, Nat.reduceMul, Int.reduceToNat, reduceCtorEq, ↓reduceIte, Tryd.ntmps16, Tryd.results16, ks_16, mu_16, ti_sl29, itD, itV, ndD, ndV, in_16] at hF
  subst hF
  repeat' (first | with_reducible (first | refine And.intro ?_ ?_ | intro _ | refine AWp_seq ?_ | refine AWp_block ?_ | (refine hKv _ _ (AWp_nop ?_); clear hKv Kv) | (refine hKA ?_; clear hKA hKB KA KB) | (refine hKB ?_; clear hKA hKB KA KB) | refine AWp_skipN ?_ | refine AWp_exitO (by repeat (first | exact Out.hit | apply Out.thenA | apply Out.out rfl)) ?_) | (with_reducible (first | (refine hKv _ _ ?_; clear hKv Kv) | ((first | refine AWp_regC mu_16 ks_16 ?_ | refine AWp_regE mu_16 ks_16 ?_); intro Kv hKv) | refine AWp_retR ?_); try simp (dsimp := false) only [go_sem, Nat.reduceAdd, Nat.reduceBEq, Nat.reduceEqDiff, Nat.reduceLT, Nat.reduceLeDiff, Nat.reduceMul, Int.reduceToNat, reduceCtorEq, ↓reduceIte, Tryd.ntmps16, Tryd.results16, ks_16, mu_16, ti_sl29, itD, itV, ndD, ndV]) | (refine AWp_condC rfl ?_; intro KA KB hKA hKB; try simp only [onB_true, onB_false, onB_dec, onB_ndec, onB_not, onB_and, onB_or]) | (refine AWp_condA rfl ?_ ?_) | with_reducible (first | refine onB_of ?_ ?_ | rfl) | omega)
  · exact keepD hk rfl
end Go.Proofs.YtmalccaijjcepaaDoor
