/- Steps from nodes: the reference's answer; two lists of ints held side by side. No condition but that the tables of package unicode/utf8 are there. -/
import Derived.Test.YtpgdflhcmijaiaaDoorZ45
import Derived.Test.YtpgdflhcmijaiaaDoorZ31
import Derived.Test.YtpgdflhcmijaiaaDoorZ46
import Derived.Test.YtpgdflhcmijaiaaDoorZ17
set_option linter.all false
set_option linter.unusedSimpArgs false
set_option linter.unusedVariables false
namespace Go.Proofs.YtpgdflhcmijaiaaDoor
open Go Go.Proofs.YtpgdflhcmijaiaaDoor.Ab
variable [Glo] [U8]
set_option maxHeartbeats 4000000
set_option maxRecDepth 20000
def ks_15 : Nat → List Nat
  | 0 => [0, 1, 2, 7]
  | 1 => [0, 1, 2, 7, 10]
  | 2 => [0, 1, 2, 7, 10, 26]
  | 3 => [0, 1, 2, 7, 10]
  | 4 => [0, 1, 2, 7, 10, 11]
  | 5 => [0, 1, 2, 7, 10, 11, 34]
  | 6 => [0, 1, 2, 7, 10, 11]
  | 7 => [0, 1, 2, 7, 10, 11, 45]
  | 8 => [0, 1, 2, 7, 10, 11]
  | 9 => [0, 1, 2, 7, 10, 47]
  | 10 => [8, 9]
  | 11 => [8, 9]
  | _ => []
def mu_15 : List Nat := []
def in_15 : List Nat := [0, 1, 2, 3]
theorem walkedOf_A (l : List Nd) (hlen : l.length ≤ 1048576) (hS : Short l) (t : Ts) (axis : Int) (zs : List Int) (hzl : zs.length ≤ 1048576) (H : Heap) (K : V → Heap → Prop) (hk : K (.tu [.d (.sl 1 ((walkR l zs axis t).map natR)), .d (.i .i64 (walkF l zs axis t))]) H) : ACalls Tryd.prog 15 [.d (.sl 6 (l.map ndD)), .d (.sl 1 (zs.map zR)), .d (.i .i64 axis), tsV t] H K := by
  -- the loop, when there is an error already
  by_cases hnf : nodesFault l = 0
  · have hnf' : (nodesFault l = 0) = True := eq_true hnf
    by_cases ha : (1 ≤ axis ∧ axis ≤ 12) ∧ (1 ≤ t.k ∧ t.k ≤ 5)
    · have h1 : (1 ≤ axis ∧ axis ≤ 12) = True := eq_true ha.1
      have h2 : (1 ≤ t.k ∧ t.k ≤ 5) = True := eq_true ha.2
      have hwF : walkF l zs axis t = if zs.any (badB l) = true then 6 else 0 := by rw [walkF, if_pos hnf, if_pos ha]
      obtain ⟨hN, hg⟩ := good_of hnf
      refine ACalls_of Tryd.func15 rfl in_15 (Nat.le_of_ble_eq_true rfl) ?_
      intro F hF
      simp (dsimp := false) only [go_sem, Nat.reduceAdd, Nat.reduceBEq, Nat.reduceEqDiff, Nat.reduceLT, Nat.reduceLeDiff, Nat.reduceMul, Int.reduceToNat, reduceCtorEq, ↓reduceIte, Tryd.ntmps15, Tryd.results15, ks_15, mu_15, ti_ag3, ti_ag37, ti_fl37_0, ti_hb54, ti_hb55, ti_hb56, ti_sb34, ti_sb35, ti_sl35, ti_sz37, ndD, ndV, tsV, tsD, hnf, h1, h2, not_true_eq_false, not_false_eq_true, Int.reduceEq, in_15] at hF
      subst hF
      repeat' (first | with_reducible (first | refine And.intro ?_ ?_ | intro _ | refine AWp_seq ?_ | refine AWp_block ?_ | (refine hKv _ _ (AWp_nop ?_); clear hKv Kv) | (refine hKA ?_; clear hKA hKB KA KB) | (refine hKB ?_; clear hKA hKB KA KB) | refine AWp_skipN ?_ | refine AWp_exitO (by repeat (first | exact Out.hit | apply Out.thenA | apply Out.out rfl)) ?_) | ((first | with_reducible (first | (refine hKv _ _ ?_; clear hKv Kv) | ((first | refine AWp_regC mu_15 ks_15 ?_ | refine AWp_regE mu_15 ks_15 ?_); intro Kv hKv) | refine AWp_retR ?_) | refine nodesFault_A l (by omega) hS _ _ ?_ | refine in_A _ _ _ _ _ ?_); try simp (dsimp := false) only [go_sem, Nat.reduceAdd, Nat.reduceBEq, Nat.reduceEqDiff, Nat.reduceLT, Nat.reduceLeDiff, Nat.reduceMul, Int.reduceToNat, reduceCtorEq, ↓reduceIte, Tryd.ntmps15, Tryd.results15, ks_15, mu_15, ti_ag3, ti_ag37, ti_fl37_0, ti_hb54, ti_hb55, ti_hb56, ti_sb34, ti_sb35, ti_sl35, ti_sz37, ndD, ndV, tsV, tsD, hnf, h1, h2, not_true_eq_false, not_false_eq_true, Int.reduceEq]) | (refine AWp_condC rfl ?_; intro KA KB hKA hKB; try simp only [onB_true, onB_false, onB_dec, onB_ndec, onB_not, onB_and, onB_or]) | (refine AWp_condA rfl ?_ ?_) | with_reducible (first | refine onB_of ?_ ?_ | rfl) | omega)
      refine AWp_while0 (fun i : Nat => i ≤ zs.length ∧ (zs.take (i - 1)).any (badB l) = false) (fun i => [(0, .d (.sl 6 (l.map ndD))), (1, .d (.sl 1 (zs.map zR))), (2, .d (.i .i64 axis)), (7, .rp [.i .i64 t.k, .s t.nm]), (10, .d (.i .i64 (if (zs.take i).any (badB l) = true then 6 else 0))), (11, .d (.i .i64 i))]) (fun i => zs.length - i) 0 ⟨Nat.zero_le _, by simp⟩ ?_ ?_
      · simp (dsimp := false) only [go_sem, Nat.reduceAdd, Nat.reduceBEq, Nat.reduceEqDiff, Nat.reduceLT, Nat.reduceLeDiff, Nat.reduceMul, Int.reduceToNat, reduceCtorEq, ↓reduceIte, Tryd.ntmps15, Tryd.results15, ks_15, mu_15, ti_ag3, ti_ag37, ti_fl37_0, ti_hb54, ti_hb55, ti_hb56, ti_sb34, ti_sb35, ti_sl35, ti_sz37, ndD, ndV, tsV, tsD, hnf, h1, h2, not_true_eq_false, not_false_eq_true, Int.reduceEq]
        first | done | (simp; done)
      rintro i ⟨hi, hpv⟩
      cases hb : (zs.take i).any (badB l) with
      | true =>
        have hall : zs.any (badB l) = true := by
          obtain ⟨z, z1, z2⟩ := List.any_eq_true.1 hb
          exact List.any_eq_true.2 ⟨z, List.mem_of_mem_take z1, z2⟩
        rw [if_pos hall] at hwF
        rw [walkR, hwF, if_neg (by decide)] at hk
        by_cases hiN : i < zs.length
        · have i1 : ((i : Int) < (zs.length : Int)) = True := eq_true (by omega)
          repeat' (first | with_reducible (first | refine And.intro ?_ ?_ | intro _ | refine AWp_seq ?_ | refine AWp_block ?_ | (refine hKv _ _ (AWp_nop ?_); clear hKv Kv) | (refine hKA ?_; clear hKA hKB KA KB) | (refine hKB ?_; clear hKA hKB KA KB) | refine AWp_skipN ?_ | refine AWp_exitO (by repeat (first | exact Out.hit | apply Out.thenA | apply Out.out rfl)) ?_) | (with_reducible (first | (refine hKv _ _ ?_; clear hKv Kv) | ((first | refine AWp_regC mu_15 ks_15 ?_ | refine AWp_regE mu_15 ks_15 ?_); intro Kv hKv) | refine AWp_retR ?_); try simp (dsimp := false) only [go_sem, Nat.reduceAdd, Nat.reduceBEq, Nat.reduceEqDiff, Nat.reduceLT, Nat.reduceLeDiff, Nat.reduceMul, Int.reduceToNat, reduceCtorEq, ↓reduceIte, Tryd.ntmps15, Tryd.results15, ks_15, mu_15, ti_ag3, ti_ag37, ti_fl37_0, ti_hb54, ti_hb55, ti_hb56, ti_sb34, ti_sb35, ti_sl35, ti_sz37, ndD, ndV, tsV, tsD, i1, not_true_eq_false, not_false_eq_true, Int.reduceEq, eq_self]) | (refine AWp_condC rfl ?_; intro KA KB hKA hKB; try simp only [onB_true, onB_false, onB_dec, onB_ndec, onB_not, onB_and, onB_or]) | (refine AWp_condA rfl ?_ ?_) | with_reducible (first | refine onB_of ?_ ?_ | rfl) | omega)
          all_goals first
            | omega
            | exact keepFz hk (Fz_tu2 (.nil _) (.same _)) (by simp [Bel_tu, Bel_d])
        · have i1 : ((i : Int) < (zs.length : Int)) = False := eq_false (by omega)
          repeat' (first | with_reducible (first | refine And.intro ?_ ?_ | intro _ | refine AWp_seq ?_ | refine AWp_block ?_ | (refine hKv _ _ (AWp_nop ?_); clear hKv Kv) | (refine hKA ?_; clear hKA hKB KA KB) | (refine hKB ?_; clear hKA hKB KA KB) | refine AWp_skipN ?_ | refine AWp_exitO (by repeat (first | exact Out.hit | apply Out.thenA | apply Out.out rfl)) ?_) | (with_reducible (first | (refine hKv _ _ ?_; clear hKv Kv) | ((first | refine AWp_regC mu_15 ks_15 ?_ | refine AWp_regE mu_15 ks_15 ?_); intro Kv hKv) | refine AWp_retR ?_); try simp (dsimp := false) only [go_sem, Nat.reduceAdd, Nat.reduceBEq, Nat.reduceEqDiff, Nat.reduceLT, Nat.reduceLeDiff, Nat.reduceMul, Int.reduceToNat, reduceCtorEq, ↓reduceIte, Tryd.ntmps15, Tryd.results15, ks_15, mu_15, ti_ag3, ti_ag37, ti_fl37_0, ti_hb54, ti_hb55, ti_hb56, ti_sb34, ti_sb35, ti_sl35, ti_sz37, ndD, ndV, tsV, tsD, i1, not_true_eq_false, not_false_eq_true, Int.reduceEq, eq_self]) | (refine AWp_condC rfl ?_; intro KA KB hKA hKB; try simp only [onB_true, onB_false, onB_dec, onB_ndec, onB_not, onB_and, onB_or]) | (refine AWp_condA rfl ?_ ?_) | with_reducible (first | refine onB_of ?_ ?_ | rfl) | omega)
          all_goals first
            | omega
            | exact keepFz hk (Fz_tu2 (.nil _) (.same _)) (by simp [Bel_tu, Bel_d])
      | false =>
        by_cases hiN : i < zs.length
        · obtain ⟨z, hz⟩ : ∃ z, zs[i]? = some z := ⟨zs[i], List.getElem?_eq_getElem hiN⟩
          have i1 : ((i : Int) < (zs.length : Int)) = True := eq_true (by omega)
          have i0 : ((0 : Int) ≤ (i : Int)) = True := eq_true (by omega)
          have ei : (i : Int) + 1 = ((i + 1 : Nat) : Int) := by omega
          have hnx : (zs.take (i + 1)).any (badB l) = badB l z := by rw [take_of_get hz, List.any_append, hb]; simp
          have hpv2 : (zs.take (i + 1 - 1)).any (badB l) = false := hb
          cases hbz : badB l z with
          | true =>
            have hin : (0 ≤ z ∧ z ≤ (l.length : Int) - 1) = False := eq_false fun h => by
              simp only [badB, Bool.or_eq_true, decide_eq_true_eq] at hbz
              omega
            rw [hbz] at hnx
            repeat' (first | with_reducible (first | refine And.intro ?_ ?_ | intro _ | refine AWp_seq ?_ | refine AWp_block ?_ | (refine hKv _ _ (AWp_nop ?_); clear hKv Kv) | (refine hKA ?_; clear hKA hKB KA KB) | (refine hKB ?_; clear hKA hKB KA KB) | refine AWp_skipN ?_ | refine AWp_exitO (by repeat (first | exact Out.hit | apply Out.thenA | apply Out.out rfl)) ?_) | ((first | with_reducible (first | (refine hKv _ _ ?_; clear hKv Kv) | ((first | refine AWp_regC mu_15 ks_15 ?_ | refine AWp_regE mu_15 ks_15 ?_); intro Kv hKv) | refine AWp_retR ?_) | refine in_A _ _ _ _ _ ?_); try simp (dsimp := false) only [go_sem, Nat.reduceAdd, Nat.reduceBEq, Nat.reduceEqDiff, Nat.reduceLT, Nat.reduceLeDiff, Nat.reduceMul, Int.reduceToNat, reduceCtorEq, ↓reduceIte, Tryd.ntmps15, Tryd.results15, ks_15, mu_15, ti_ag3, ti_ag37, ti_fl37_0, ti_hb54, ti_hb55, ti_hb56, ti_sb34, ti_sb35, ti_sl35, ti_sz37, ndD, ndV, tsV, tsD, zR, i0, i1, ei, hz, hin, not_true_eq_false, not_false_eq_true, Int.reduceEq, eq_self]) | (refine AWp_condC rfl ?_; intro KA KB hKA hKB; try simp only [onB_true, onB_false, onB_dec, onB_ndec, onB_not, onB_and, onB_or]) | (refine AWp_condA rfl ?_ ?_) | with_reducible (first | refine onB_of ?_ ?_ | rfl) | omega)
            all_goals first
              | omega
              | exact ⟨i + 1, ⟨by omega, hpv2⟩, by omega, by (repeat' (refine And.intro ?_ ?_)) <;> first | rfl | omega | (rw [hnx]; done) | (rw [hnx]; rfl) | (rw [hnx, if_pos rfl]; done) | (simp; done) | (simp [hnx]; done)⟩
          | false =>
            have hin : (0 ≤ z ∧ z ≤ (l.length : Int) - 1) = True := eq_true (by
              simp only [badB, Bool.or_eq_false_iff, decide_eq_false_iff_not] at hbz
              omega)
            rw [hbz] at hnx
            repeat' (first | with_reducible (first | refine And.intro ?_ ?_ | intro _ | refine AWp_seq ?_ | refine AWp_block ?_ | (refine hKv _ _ (AWp_nop ?_); clear hKv Kv) | (refine hKA ?_; clear hKA hKB KA KB) | (refine hKB ?_; clear hKA hKB KA KB) | refine AWp_skipN ?_ | refine AWp_exitO (by repeat (first | exact Out.hit | apply Out.thenA | apply Out.out rfl)) ?_) | ((first | with_reducible (first | (refine hKv _ _ ?_; clear hKv Kv) | ((first | refine AWp_regC mu_15 ks_15 ?_ | refine AWp_regE mu_15 ks_15 ?_); intro Kv hKv) | refine AWp_retR ?_) | refine in_A _ _ _ _ _ ?_); try simp (dsimp := false) only [go_sem, Nat.reduceAdd, Nat.reduceBEq, Nat.reduceEqDiff, Nat.reduceLT, Nat.reduceLeDiff, Nat.reduceMul, Int.reduceToNat, reduceCtorEq, ↓reduceIte, Tryd.ntmps15, Tryd.results15, ks_15, mu_15, ti_ag3, ti_ag37, ti_fl37_0, ti_hb54, ti_hb55, ti_hb56, ti_sb34, ti_sb35, ti_sl35, ti_sz37, ndD, ndV, tsV, tsD, zR, i0, i1, ei, hz, hin, not_true_eq_false, not_false_eq_true, Int.reduceEq, eq_self]) | (refine AWp_condC rfl ?_; intro KA KB hKA hKB; try simp only [onB_true, onB_false, onB_dec, onB_ndec, onB_not, onB_and, onB_or]) | (refine AWp_condA rfl ?_ ?_) | with_reducible (first | refine onB_of ?_ ?_ | rfl) | omega)
            all_goals first
              | omega
              | exact ⟨i + 1, ⟨by omega, hpv2⟩, by omega, by (repeat' (refine And.intro ?_ ?_)) <;> first | rfl | omega | (rw [hnx]; done) | (rw [hnx]; rfl) | (rw [hnx, if_neg (by decide)]; done) | (simp; done) | (simp [hnx]; done)⟩
        · obtain rfl : i = zs.length := by omega
          rw [List.take_length] at hb
          rw [hb, if_neg (by decide)] at hwF
          rw [walkR, hwF, if_pos rfl] at hk
          have i1 : ((zs.length : Int) < (zs.length : Int)) = False := eq_false (by omega)
          have hw := fun H K hk => walkedAt_A l hg hN t axis ha.1 zs hzl (good_zs hb) H K hk
          repeat' (first | with_reducible (first | refine And.intro ?_ ?_ | intro _ | refine AWp_seq ?_ | refine AWp_block ?_ | (refine hKv _ _ (AWp_nop ?_); clear hKv Kv) | (refine hKA ?_; clear hKA hKB KA KB) | (refine hKB ?_; clear hKA hKB KA KB) | refine AWp_skipN ?_ | refine AWp_exitO (by repeat (first | exact Out.hit | apply Out.thenA | apply Out.out rfl)) ?_) | ((first | with_reducible (first | (refine hKv _ _ ?_; clear hKv Kv) | ((first | refine AWp_regC mu_15 ks_15 ?_ | refine AWp_regE mu_15 ks_15 ?_); intro Kv hKv) | refine AWp_retR ?_) | refine hw _ _ ?_); try simp (dsimp := false) only [go_sem, Nat.reduceAdd, Nat.reduceBEq, Nat.reduceEqDiff, Nat.reduceLT, Nat.reduceLeDiff, Nat.reduceMul, Int.reduceToNat, reduceCtorEq, ↓reduceIte, Tryd.ntmps15, Tryd.results15, ks_15, mu_15, ti_ag3, ti_ag37, ti_fl37_0, ti_hb54, ti_hb55, ti_hb56, ti_sb34, ti_sb35, ti_sl35, ti_sz37, ndD, ndV, tsV, tsD, i1, not_true_eq_false, not_false_eq_true, Int.reduceEq, eq_self]) | (refine AWp_condC rfl ?_; intro KA KB hKA hKB; try simp only [onB_true, onB_false, onB_dec, onB_ndec, onB_not, onB_and, onB_or]) | (refine AWp_condA rfl ?_ ?_) | with_reducible (first | refine onB_of ?_ ?_ | rfl) | omega)
          all_goals first
            | omega
            | exact keepFz hk (.same _) (by simp [Bel_tu, Bel_d])
    · have hwF : walkF l zs axis t = 3 := by rw [walkF, if_pos hnf, if_neg ha]
      rw [walkR, hwF, if_neg (by decide)] at hk
      by_cases h1 : 1 ≤ axis ∧ axis ≤ 12
      · have h2 : (1 ≤ t.k ∧ t.k ≤ 5) = False := eq_false fun h => ha ⟨h1, h⟩
        have h1 : (1 ≤ axis ∧ axis ≤ 12) = True := eq_true h1
        refine ACalls_of Tryd.func15 rfl in_15 (Nat.le_of_ble_eq_true rfl) ?_
        intro F hF
        simp (dsimp := false) only [go_sem, Nat.reduceAdd, Nat.reduceBEq, Nat.reduceEqDiff, Nat.reduceLT, Nat.reduceLeDiff, Nat.reduceMul, Int.reduceToNat, reduceCtorEq, ↓reduceIte, Tryd.ntmps15, Tryd.results15, ks_15, mu_15, ti_ag3, ti_ag37, ti_fl37_0, ti_hb54, ti_hb55, ti_hb56, ti_sb34, ti_sb35, ti_sl35, ti_sz37, ndD, ndV, tsV, tsD, hnf, h1, h2, not_true_eq_false, not_false_eq_true, Int.reduceEq, in_15] at hF
        subst hF
        repeat' (first | with_reducible (first | refine And.intro ?_ ?_ | intro _ | refine AWp_seq ?_ | refine AWp_block ?_ | (refine hKv _ _ (AWp_nop ?_); clear hKv Kv) | (refine hKA ?_; clear hKA hKB KA KB) | (refine hKB ?_; clear hKA hKB KA KB) | refine AWp_skipN ?_ | refine AWp_exitO (by repeat (first | exact Out.hit | apply Out.thenA | apply Out.out rfl)) ?_) | ((first | with_reducible (first | (refine hKv _ _ ?_; clear hKv Kv) | ((first | refine AWp_regC mu_15 ks_15 ?_ | refine AWp_regE mu_15 ks_15 ?_); intro Kv hKv) | refine AWp_retR ?_) | refine nodesFault_A l (by omega) hS _ _ ?_ | refine in_A _ _ _ _ _ ?_); try simp (dsimp := false) only [go_sem, Nat.reduceAdd, Nat.reduceBEq, Nat.reduceEqDiff, Nat.reduceLT, Nat.reduceLeDiff, Nat.reduceMul, Int.reduceToNat, reduceCtorEq, ↓reduceIte, Tryd.ntmps15, Tryd.results15, ks_15, mu_15, ti_ag3, ti_ag37, ti_fl37_0, ti_hb54, ti_hb55, ti_hb56, ti_sb34, ti_sb35, ti_sl35, ti_sz37, ndD, ndV, tsV, tsD, hnf, h1, h2, not_true_eq_false, not_false_eq_true, Int.reduceEq]) | (refine AWp_condC rfl ?_; intro KA KB hKA hKB; try simp only [onB_true, onB_false, onB_dec, onB_ndec, onB_not, onB_and, onB_or]) | (refine AWp_condA rfl ?_ ?_) | with_reducible (first | refine onB_of ?_ ?_ | rfl) | omega)
        refine AWp_while0 (fun i : Nat => i = 0) (fun i => [(0, .d (.sl 6 (l.map ndD))), (1, .d (.sl 1 (zs.map zR))), (2, .d (.i .i64 axis)), (7, .rp [.i .i64 t.k, .s t.nm]), (10, .d (.i .i64 3)), (11, .d (.i .i64 i))]) (fun i => 0) 0 rfl ?_ ?_
        · simp (dsimp := false) only [go_sem, Nat.reduceAdd, Nat.reduceBEq, Nat.reduceEqDiff, Nat.reduceLT, Nat.reduceLeDiff, Nat.reduceMul, Int.reduceToNat, reduceCtorEq, ↓reduceIte, Tryd.ntmps15, Tryd.results15, ks_15, mu_15, ti_ag3, ti_ag37, ti_fl37_0, ti_hb54, ti_hb55, ti_hb56, ti_sb34, ti_sb35, ti_sl35, ti_sz37, ndD, ndV, tsV, tsD, hnf, h1, h2, not_true_eq_false, not_false_eq_true, Int.reduceEq]
          first | done | (simp; done)
        rintro i rfl
        cases hz : zs with
        | nil =>
          repeat' (first | with_reducible (first | refine And.intro ?_ ?_ | intro _ | refine AWp_seq ?_ | refine AWp_block ?_ | (refine hKv _ _ (AWp_nop ?_); clear hKv Kv) | (refine hKA ?_; clear hKA hKB KA KB) | (refine hKB ?_; clear hKA hKB KA KB) | refine AWp_skipN ?_ | refine AWp_exitO (by repeat (first | exact Out.hit | apply Out.thenA | apply Out.out rfl)) ?_) | (with_reducible (first | (refine hKv _ _ ?_; clear hKv Kv) | ((first | refine AWp_regC mu_15 ks_15 ?_ | refine AWp_regE mu_15 ks_15 ?_); intro Kv hKv) | refine AWp_retR ?_); try simp (dsimp := false) only [go_sem, Nat.reduceAdd, Nat.reduceBEq, Nat.reduceEqDiff, Nat.reduceLT, Nat.reduceLeDiff, Nat.reduceMul, Int.reduceToNat, reduceCtorEq, ↓reduceIte, Tryd.ntmps15, Tryd.results15, ks_15, mu_15, ti_ag3, ti_ag37, ti_fl37_0, ti_hb54, ti_hb55, ti_hb56, ti_sb34, ti_sb35, ti_sl35, ti_sz37, ndD, ndV, tsV, tsD, not_true_eq_false, not_false_eq_true, Int.reduceEq, Int.reduceLT]) | (refine AWp_condC rfl ?_; intro KA KB hKA hKB; try simp only [onB_true, onB_false, onB_dec, onB_ndec, onB_not, onB_and, onB_or]) | (refine AWp_condA rfl ?_ ?_) | with_reducible (first | refine onB_of ?_ ?_ | rfl) | omega)
          all_goals first
            | omega
            | exact keepFz hk (Fz_tu2 (.nil _) (.same _)) (by simp [Bel_tu, Bel_d])
        | cons z zs' =>
          repeat' (first | with_reducible (first | refine And.intro ?_ ?_ | intro _ | refine AWp_seq ?_ | refine AWp_block ?_ | (refine hKv _ _ (AWp_nop ?_); clear hKv Kv) | (refine hKA ?_; clear hKA hKB KA KB) | (refine hKB ?_; clear hKA hKB KA KB) | refine AWp_skipN ?_ | refine AWp_exitO (by repeat (first | exact Out.hit | apply Out.thenA | apply Out.out rfl)) ?_) | (with_reducible (first | (refine hKv _ _ ?_; clear hKv Kv) | ((first | refine AWp_regC mu_15 ks_15 ?_ | refine AWp_regE mu_15 ks_15 ?_); intro Kv hKv) | refine AWp_retR ?_); try simp (dsimp := false) only [go_sem, Nat.reduceAdd, Nat.reduceBEq, Nat.reduceEqDiff, Nat.reduceLT, Nat.reduceLeDiff, Nat.reduceMul, Int.reduceToNat, reduceCtorEq, ↓reduceIte, Tryd.ntmps15, Tryd.results15, ks_15, mu_15, ti_ag3, ti_ag37, ti_fl37_0, ti_hb54, ti_hb55, ti_hb56, ti_sb34, ti_sb35, ti_sl35, ti_sz37, ndD, ndV, tsV, tsD, not_true_eq_false, not_false_eq_true, Int.reduceEq, Int.reduceLT]) | (refine AWp_condC rfl ?_; intro KA KB hKA hKB; try simp only [onB_true, onB_false, onB_dec, onB_ndec, onB_not, onB_and, onB_or]) | (refine AWp_condA rfl ?_ ?_) | with_reducible (first | refine onB_of ?_ ?_ | rfl) | omega)
          all_goals first
            | omega
            | exact keepFz hk (Fz_tu2 (.nil _) (.same _)) (by simp [Bel_tu, Bel_d])
      · have h1 : (1 ≤ axis ∧ axis ≤ 12) = False := eq_false h1
        refine ACalls_of Tryd.func15 rfl in_15 (Nat.le_of_ble_eq_true rfl) ?_
        intro F hF
        simp (dsimp := false) only [go_sem, Nat.reduceAdd, Nat.reduceBEq, Nat.reduceEqDiff, Nat.reduceLT, Nat.reduceLeDiff, Nat.reduceMul, Int.reduceToNat, reduceCtorEq, ↓reduceIte, Tryd.ntmps15, Tryd.results15, ks_15, mu_15, ti_ag3, ti_ag37, ti_fl37_0, ti_hb54, ti_hb55, ti_hb56, ti_sb34, ti_sb35, ti_sl35, ti_sz37, ndD, ndV, tsV, tsD, hnf, h1, not_true_eq_false, not_false_eq_true, Int.reduceEq, in_15] at hF
        subst hF
        repeat' (first | with_reducible (first | refine And.intro ?_ ?_ | intro _ | refine AWp_seq ?_ | refine AWp_block ?_ | (refine hKv _ _ (AWp_nop ?_); clear hKv Kv) | (refine hKA ?_; clear hKA hKB KA KB) | (refine hKB ?_; clear hKA hKB KA KB) | refine AWp_skipN ?_ | refine AWp_exitO (by repeat (first | exact Out.hit | apply Out.thenA | apply Out.out rfl)) ?_) | ((first | with_reducible (first | (refine hKv _ _ ?_; clear hKv Kv) | ((first | refine AWp_regC mu_15 ks_15 ?_ | refine AWp_regE mu_15 ks_15 ?_); intro Kv hKv) | refine AWp_retR ?_) | refine nodesFault_A l (by omega) hS _ _ ?_ | refine in_A _ _ _ _ _ ?_); try simp (dsimp := false) only [go_sem, Nat.reduceAdd, Nat.reduceBEq, Nat.reduceEqDiff, Nat.reduceLT, Nat.reduceLeDiff, Nat.reduceMul, Int.reduceToNat, reduceCtorEq, ↓reduceIte, Tryd.ntmps15, Tryd.results15, ks_15, mu_15, ti_ag3, ti_ag37, ti_fl37_0, ti_hb54, ti_hb55, ti_hb56, ti_sb34, ti_sb35, ti_sl35, ti_sz37, ndD, ndV, tsV, tsD, hnf, h1, not_true_eq_false, not_false_eq_true, Int.reduceEq]) | (refine AWp_condC rfl ?_; intro KA KB hKA hKB; try simp only [onB_true, onB_false, onB_dec, onB_ndec, onB_not, onB_and, onB_or]) | (refine AWp_condA rfl ?_ ?_) | with_reducible (first | refine onB_of ?_ ?_ | rfl) | omega)
        refine AWp_while0 (fun i : Nat => i = 0) (fun i => [(0, .d (.sl 6 (l.map ndD))), (1, .d (.sl 1 (zs.map zR))), (2, .d (.i .i64 axis)), (7, .rp [.i .i64 t.k, .s t.nm]), (10, .d (.i .i64 3)), (11, .d (.i .i64 i))]) (fun i => 0) 0 rfl ?_ ?_
        · simp (dsimp := false) only [go_sem, Nat.reduceAdd, Nat.reduceBEq, Nat.reduceEqDiff, Nat.reduceLT, Nat.reduceLeDiff, Nat.reduceMul, Int.reduceToNat, reduceCtorEq, ↓reduceIte, Tryd.ntmps15, Tryd.results15, ks_15, mu_15, ti_ag3, ti_ag37, ti_fl37_0, ti_hb54, ti_hb55, ti_hb56, ti_sb34, ti_sb35, ti_sl35, ti_sz37, ndD, ndV, tsV, tsD, hnf, h1, not_true_eq_false, not_false_eq_true, Int.reduceEq]
          first | done | (simp; done)
        rintro i rfl
        cases hz : zs with
        | nil =>
          repeat' (first | with_reducible (first | refine And.intro ?_ ?_ | intro _ | refine AWp_seq ?_ | refine AWp_block ?_ | (refine hKv _ _ (AWp_nop ?_); clear hKv Kv) | (refine hKA ?_; clear hKA hKB KA KB) | (refine hKB ?_; clear hKA hKB KA KB) | refine AWp_skipN ?_ | refine AWp_exitO (by repeat (first | exact Out.hit | apply Out.thenA | apply Out.out rfl)) ?_) | (with_reducible (first | (refine hKv _ _ ?_; clear hKv Kv) | ((first | refine AWp_regC mu_15 ks_15 ?_ | refine AWp_regE mu_15 ks_15 ?_); intro Kv hKv) | refine AWp_retR ?_); try simp (dsimp := false) only [go_sem, Nat.reduceAdd, Nat.reduceBEq, Nat.reduceEqDiff, Nat.reduceLT, Nat.reduceLeDiff, Nat.reduceMul, Int.reduceToNat, reduceCtorEq, ↓reduceIte, Tryd.ntmps15, Tryd.results15, ks_15, mu_15, ti_ag3, ti_ag37, ti_fl37_0, ti_hb54, ti_hb55, ti_hb56, ti_sb34, ti_sb35, ti_sl35, ti_sz37, ndD, ndV, tsV, tsD, not_true_eq_false, not_false_eq_true, Int.reduceEq, Int.reduceLT]) | (refine AWp_condC rfl ?_; intro KA KB hKA hKB; try simp only [onB_true, onB_false, onB_dec, onB_ndec, onB_not, onB_and, onB_or]) | (refine AWp_condA rfl ?_ ?_) | with_reducible (first | refine onB_of ?_ ?_ | rfl) | omega)
          all_goals first
            | omega
            | exact keepFz hk (Fz_tu2 (.nil _) (.same _)) (by simp [Bel_tu, Bel_d])
        | cons z zs' =>
          repeat' (first | with_reducible (first | refine And.intro ?_ ?_ | intro _ | refine AWp_seq ?_ | refine AWp_block ?_ | (refine hKv _ _ (AWp_nop ?_); clear hKv Kv) | (refine hKA ?_; clear hKA hKB KA KB) | (refine hKB ?_; clear hKA hKB KA KB) | refine AWp_skipN ?_ | refine AWp_exitO (by repeat (first | exact Out.hit | apply Out.thenA | apply Out.out rfl)) ?_) | (with_reducible (first | (refine hKv _ _ ?_; clear hKv Kv) | ((first | refine AWp_regC mu_15 ks_15 ?_ | refine AWp_regE mu_15 ks_15 ?_); intro Kv hKv) | refine AWp_retR ?_); try simp (dsimp := false) only [go_sem, Nat.reduceAdd, Nat.reduceBEq, Nat.reduceEqDiff, Nat.reduceLT, Nat.reduceLeDiff, Nat.reduceMul, Int.reduceToNat, reduceCtorEq, ↓reduceIte, Tryd.ntmps15, Tryd.results15, ks_15, mu_15, ti_ag3, ti_ag37, ti_fl37_0, ti_hb54, ti_hb55, ti_hb56, ti_sb34, ti_sb35, ti_sl35, ti_sz37, ndD, ndV, tsV, tsD, not_true_eq_false, not_false_eq_true, Int.reduceEq, Int.reduceLT]) | (refine AWp_condC rfl ?_; intro KA KB hKA hKB; try simp only [onB_true, onB_false, onB_dec, onB_ndec, onB_not, onB_and, onB_or]) | (refine AWp_condA rfl ?_ ?_) | with_reducible (first | refine onB_of ?_ ?_ | rfl) | omega)
          all_goals first
            | omega
            | exact keepFz hk (Fz_tu2 (.nil _) (.same _)) (by simp [Bel_tu, Bel_d])
  · have hwF : walkF l zs axis t = nodesFault l := by rw [walkF, if_neg hnf]
    rw [walkR, hwF, if_neg hnf] at hk
    have hnf' : (nodesFault l = 0) = False := eq_false hnf
    refine ACalls_of Tryd.func15 rfl in_15 (Nat.le_of_ble_eq_true rfl) ?_
    intro F hF
    simp (dsimp := false) only [go_sem, Nat.reduceAdd, Nat.reduceBEq, Nat.reduceEqDiff, Nat.reduceLT, Nat.reduceLeDiff, Nat.reduceMul, Int.reduceToNat, reduceCtorEq, ↓reduceIte, Tryd.ntmps15, Tryd.results15, ks_15, mu_15, ti_ag3, ti_ag37, ti_fl37_0, ti_hb54, ti_hb55, ti_hb56, ti_sb34, ti_sb35, ti_sl35, ti_sz37, ndD, ndV, tsV, tsD, hnf', not_true_eq_false, not_false_eq_true, Int.reduceEq, in_15] at hF
    subst hF
    repeat' (first | with_reducible (first | refine And.intro ?_ ?_ | intro _ | refine AWp_seq ?_ | refine AWp_block ?_ | (refine hKv _ _ (AWp_nop ?_); clear hKv Kv) | (refine hKA ?_; clear hKA hKB KA KB) | (refine hKB ?_; clear hKA hKB KA KB) | refine AWp_skipN ?_ | refine AWp_exitO (by repeat (first | exact Out.hit | apply Out.thenA | apply Out.out rfl)) ?_) | ((first | with_reducible (first | (refine hKv _ _ ?_; clear hKv Kv) | ((first | refine AWp_regC mu_15 ks_15 ?_ | refine AWp_regE mu_15 ks_15 ?_); intro Kv hKv) | refine AWp_retR ?_) | refine nodesFault_A l (by omega) hS _ _ ?_ | refine in_A _ _ _ _ _ ?_); try simp (dsimp := false) only [go_sem, Nat.reduceAdd, Nat.reduceBEq, Nat.reduceEqDiff, Nat.reduceLT, Nat.reduceLeDiff, Nat.reduceMul, Int.reduceToNat, reduceCtorEq, ↓reduceIte, Tryd.ntmps15, Tryd.results15, ks_15, mu_15, ti_ag3, ti_ag37, ti_fl37_0, ti_hb54, ti_hb55, ti_hb56, ti_sb34, ti_sb35, ti_sl35, ti_sz37, ndD, ndV, tsV, tsD, hnf', not_true_eq_false, not_false_eq_true, Int.reduceEq]) | (refine AWp_condC rfl ?_; intro KA KB hKA hKB; try simp only [onB_true, onB_false, onB_dec, onB_ndec, onB_not, onB_and, onB_or]) | (refine AWp_condA rfl ?_ ?_) | with_reducible (first | refine onB_of ?_ ?_ | rfl) | omega)
    refine AWp_while0 (fun i : Nat => i = 0) (fun i => [(0, .d (.sl 6 (l.map ndD))), (1, .d (.sl 1 (zs.map zR))), (2, .d (.i .i64 axis)), (7, .rp [.i .i64 t.k, .s t.nm]), (10, .d (.i .i64 (nodesFault l))), (11, .d (.i .i64 i))]) (fun i => 0) 0 rfl ?_ ?_
    · simp (dsimp := false) only [go_sem, Nat.reduceAdd, Nat.reduceBEq, Nat.reduceEqDiff, Nat.reduceLT, Nat.reduceLeDiff, Nat.reduceMul, Int.reduceToNat, reduceCtorEq, ↓reduceIte, Tryd.ntmps15, Tryd.results15, ks_15, mu_15, ti_ag3, ti_ag37, ti_fl37_0, ti_hb54, ti_hb55, ti_hb56, ti_sb34, ti_sb35, ti_sl35, ti_sz37, ndD, ndV, tsV, tsD, hnf', not_true_eq_false, not_false_eq_true, Int.reduceEq]
      first | done | (simp; done)
    rintro i rfl
    cases hz : zs with
    | nil =>
      repeat' (first | with_reducible (first | refine And.intro ?_ ?_ | intro _ | refine AWp_seq ?_ | refine AWp_block ?_ | (refine hKv _ _ (AWp_nop ?_); clear hKv Kv) | (refine hKA ?_; clear hKA hKB KA KB) | (refine hKB ?_; clear hKA hKB KA KB) | refine AWp_skipN ?_ | refine AWp_exitO (by repeat (first | exact Out.hit | apply Out.thenA | apply Out.out rfl)) ?_) | (with_reducible (first | (refine hKv _ _ ?_; clear hKv Kv) | ((first | refine AWp_regC mu_15 ks_15 ?_ | refine AWp_regE mu_15 ks_15 ?_); intro Kv hKv) | refine AWp_retR ?_); try simp (dsimp := false) only [go_sem, Nat.reduceAdd, Nat.reduceBEq, Nat.reduceEqDiff, Nat.reduceLT, Nat.reduceLeDiff, Nat.reduceMul, Int.reduceToNat, reduceCtorEq, ↓reduceIte, Tryd.ntmps15, Tryd.results15, ks_15, mu_15, ti_ag3, ti_ag37, ti_fl37_0, ti_hb54, ti_hb55, ti_hb56, ti_sb34, ti_sb35, ti_sl35, ti_sz37, ndD, ndV, tsV, tsD, hnf', not_true_eq_false, not_false_eq_true, Int.reduceEq, Int.reduceLT]) | (refine AWp_condC rfl ?_; intro KA KB hKA hKB; try simp only [onB_true, onB_false, onB_dec, onB_ndec, onB_not, onB_and, onB_or]) | (refine AWp_condA rfl ?_ ?_) | with_reducible (first | refine onB_of ?_ ?_ | rfl) | omega)
      all_goals first
        | omega
        | exact keepFz hk (Fz_tu2 (.nil _) (.same _)) (by simp [Bel_tu, Bel_d])
    | cons z zs' =>
      repeat' (first | with_reducible (first | refine And.intro ?_ ?_ | intro _ | refine AWp_seq ?_ | refine AWp_block ?_ | (refine hKv _ _ (AWp_nop ?_); clear hKv Kv) | (refine hKA ?_; clear hKA hKB KA KB) | (refine hKB ?_; clear hKA hKB KA KB) | refine AWp_skipN ?_ | refine AWp_exitO (by repeat (first | exact Out.hit | apply Out.thenA | apply Out.out rfl)) ?_) | (with_reducible (first | (refine hKv _ _ ?_; clear hKv Kv) | ((first | refine AWp_regC mu_15 ks_15 ?_ | refine AWp_regE mu_15 ks_15 ?_); intro Kv hKv) | refine AWp_retR ?_); try simp (dsimp := false) only [go_sem, Nat.reduceAdd, Nat.reduceBEq, Nat.reduceEqDiff, Nat.reduceLT, Nat.reduceLeDiff, Nat.reduceMul, Int.reduceToNat, reduceCtorEq, ↓reduceIte, Tryd.ntmps15, Tryd.results15, ks_15, mu_15, ti_ag3, ti_ag37, ti_fl37_0, ti_hb54, ti_hb55, ti_hb56, ti_sb34, ti_sb35, ti_sl35, ti_sz37, ndD, ndV, tsV, tsD, hnf', not_true_eq_false, not_false_eq_true, Int.reduceEq, Int.reduceLT]) | (refine AWp_condC rfl ?_; intro KA KB hKA hKB; try simp only [onB_true, onB_false, onB_dec, onB_ndec, onB_not, onB_and, onB_or]) | (refine AWp_condA rfl ?_ ?_) | with_reducible (first | refine onB_of ?_ ?_ | rfl) | omega)
      all_goals first
        | omega
        | exact keepFz hk (Fz_tu2 (.nil _) (.same _)) (by simp [Bel_tu, Bel_d])
def ks_12 : Nat → List Nat
  | 0 => [0]
  | 1 => [2]
  | _ => []
def mu_12 : List Nat := []
def in_12 : List Nat := [0]
theorem ints_A (zs : List Int) (hlen : zs.length ≤ 1048576) (H : Heap) (K : V → Heap → Prop) (hk : K (.d (.sl 1 (zs.map zR))) H) : ACalls Tryd.prog 12 [.d (.sl 1 (zs.map zR))] H K := by
  refine ACalls_of Tryd.func12 rfl in_12 (Nat.le_of_ble_eq_true rfl) ?_
  intro F hF
  simp (dsimp := false) only [go_sem, Nat.reduceAdd, Nat.reduceBEq, Nat.reduceEqDiff, Nat.reduceLT, Nat.reduceLeDiff, Nat.reduceMul, Int.reduceToNat, reduceCtorEq, ↓reduceIte, Tryd.ntmps12, Tryd.results12, ks_12, mu_12, ti_sl35, zR, in_12] at hF
  subst hF
  repeat' (first | with_reducible (first | refine And.intro ?_ ?_ | intro _ | refine AWp_seq ?_ | refine AWp_block ?_ | (refine hKv _ _ (AWp_nop ?_); clear hKv Kv) | (refine hKA ?_; clear hKA hKB KA KB) | (refine hKB ?_; clear hKA hKB KA KB) | refine AWp_skipN ?_ | refine AWp_exitO (by repeat (first | exact Out.hit | apply Out.thenA | apply Out.out rfl)) ?_) | (with_reducible (first | (refine hKv _ _ ?_; clear hKv Kv) | ((first | refine AWp_regC mu_12 ks_12 ?_ | refine AWp_regE mu_12 ks_12 ?_); intro Kv hKv) | refine AWp_retR ?_); try simp (dsimp := false) only [go_sem, Nat.reduceAdd, Nat.reduceBEq, Nat.reduceEqDiff, Nat.reduceLT, Nat.reduceLeDiff, Nat.reduceMul, Int.reduceToNat, reduceCtorEq, ↓reduceIte, Tryd.ntmps12, Tryd.results12, ks_12, mu_12, ti_sl35, zR]) | (refine AWp_condC rfl ?_; intro KA KB hKA hKB; try simp only [onB_true, onB_false, onB_dec, onB_ndec, onB_not, onB_and, onB_or]) | (refine AWp_condA rfl ?_ ?_) | with_reducible (first | refine onB_of ?_ ?_ | rfl) | omega)
  all_goals first
    | omega
    | exact keepD hk rfl
    | (simp; omega)
def ks_16 : Nat → List Nat
  | 0 => [0, 1]
  | 1 => [0, 1, 10]
  | 2 => [4]
  | 3 => [0, 1, 5]
  | 4 => [0, 1, 5, 14]
  | 5 => [0, 1, 5]
  | 6 => [0, 1, 5, 25]
  | 7 => [4]
  | 8 => [4]
  | _ => []
def mu_16 : List Nat := []
def in_16 : List Nat := [0, 1]
def nd_16 : Nat → Nat
  | 6 => 8
  | _ => 0
theorem sameInts_A (zs : List Int) (hlen : zs.length ≤ 9223372036854775807) (H : Heap) (K : V → Heap → Prop) (hk : K (.d (.b true)) H) : ACalls Tryd.prog 16 [.d (.sl 1 (zs.map zR)), .d (.sl 1 (zs.map zR))] H K := by
  refine ACalls_of Tryd.func16 rfl in_16 (Nat.le_of_ble_eq_true rfl) ?_
  intro F hF
  simp (dsimp := false) only [go_sem, Nat.reduceAdd, Nat.reduceBEq, Nat.reduceEqDiff, Nat.reduceLT, Nat.reduceLeDiff, Nat.reduceMul, Int.reduceToNat, reduceCtorEq, ↓reduceIte, Tryd.ntmps16, Tryd.results16, ks_16, mu_16, nd_16, ti_ag3, ti_sb35, ti_sl35, zR, eq_self, not_true_eq_false, in_16] at hF
  subst hF
  repeat' (first | with_reducible (first | refine And.intro ?_ ?_ | intro _ | refine AWp_seq ?_ | refine AWp_block ?_ | (refine hKv _ _ (AWp_nop ?_); clear hKv Kv) | (refine hKA ?_; clear hKA hKB KA KB) | (refine hKB ?_; clear hKA hKB KA KB) | refine AWp_skipN ?_ | refine AWp_exitO (by repeat (first | exact Out.hit | apply Out.thenA | apply Out.out rfl)) ?_) | (with_reducible (first | (refine hKv _ _ ?_; clear hKv Kv) | ((first | refine AWp_regC mu_16 ks_16 ?_ | refine AWp_draw nd_16 mu_16 ks_16 ti_mixed (by kernel_rfl) ?_ | refine AWp_regE mu_16 ks_16 ?_ | refine AWp_drawE nd_16 mu_16 ks_16 ti_mixed (by kernel_rfl) ?_); intro Kv hKv) | refine AWp_retR ?_); try simp (dsimp := false) only [go_sem, Nat.reduceAdd, Nat.reduceBEq, Nat.reduceEqDiff, Nat.reduceLT, Nat.reduceLeDiff, Nat.reduceMul, Int.reduceToNat, reduceCtorEq, ↓reduceIte, Tryd.ntmps16, Tryd.results16, ks_16, mu_16, nd_16, ti_ag3, ti_sb35, ti_sl35, zR, eq_self, not_true_eq_false]) | (refine AWp_condC rfl ?_; intro KA KB hKA hKB; try simp only [onB_true, onB_false, onB_dec, onB_ndec, onB_not, onB_and, onB_or]) | (refine AWp_condA rfl ?_ ?_) | with_reducible (first | refine onB_of ?_ ?_ | rfl) | omega)
  refine AWp_while0 (fun i : Nat => i ≤ zs.length) (fun i => [(0, .d (.sl 1 (zs.map zR))), (1, .d (.sl 1 (zs.map zR))), (5, .d (.i .i64 i))]) (fun i => zs.length - i) 0 (Nat.zero_le _) ?_ ?_
  · simp (dsimp := false) only [go_sem, Nat.reduceAdd, Nat.reduceBEq, Nat.reduceEqDiff, Nat.reduceLT, Nat.reduceLeDiff, Nat.reduceMul, Int.reduceToNat, reduceCtorEq, ↓reduceIte, Tryd.ntmps16, Tryd.results16, ks_16, mu_16, nd_16, ti_ag3, ti_sb35, ti_sl35, zR, eq_self, not_true_eq_false]
    first | done | (simp; done)
  rintro i hi
  by_cases hiN : i < zs.length
  · obtain ⟨z, hz⟩ : ∃ z, zs[i]? = some z := ⟨zs[i], List.getElem?_eq_getElem hiN⟩
    have i1 : ((i : Int) < (zs.length : Int)) = True := eq_true (by omega)
    have i0 : ((0 : Int) ≤ (i : Int)) = True := eq_true (by omega)
    have ei : (i : Int) + 1 = ((i + 1 : Nat) : Int) := by omega
    repeat' (first | with_reducible (first | refine And.intro ?_ ?_ | intro _ | refine AWp_seq ?_ | refine AWp_block ?_ | (refine hKv _ _ (AWp_nop ?_); clear hKv Kv) | (refine hKA ?_; clear hKA hKB KA KB) | (refine hKB ?_; clear hKA hKB KA KB) | refine AWp_skipN ?_ | refine AWp_exitO (by repeat (first | exact Out.hit | apply Out.thenA | apply Out.out rfl)) ?_) | (with_reducible (first | (refine hKv _ _ ?_; clear hKv Kv) | ((first | refine AWp_regC mu_16 ks_16 ?_ | refine AWp_draw nd_16 mu_16 ks_16 ti_mixed (by kernel_rfl) ?_ | refine AWp_regE mu_16 ks_16 ?_ | refine AWp_drawE nd_16 mu_16 ks_16 ti_mixed (by kernel_rfl) ?_); intro Kv hKv) | refine AWp_retR ?_); try simp (dsimp := false) only [go_sem, Nat.reduceAdd, Nat.reduceBEq, Nat.reduceEqDiff, Nat.reduceLT, Nat.reduceLeDiff, Nat.reduceMul, Int.reduceToNat, reduceCtorEq, ↓reduceIte, Tryd.ntmps16, Tryd.results16, ks_16, mu_16, nd_16, ti_ag3, ti_sb35, ti_sl35, zR, i0, i1, ei, hz, eq_self, not_true_eq_false]) | (refine AWp_condC rfl ?_; intro KA KB hKA hKB; try simp only [onB_true, onB_false, onB_dec, onB_ndec, onB_not, onB_and, onB_or]) | (refine AWp_condA rfl ?_ ?_) | with_reducible (first | refine onB_of ?_ ?_ | rfl) | omega)
    all_goals first
      | omega
      | exact ⟨i + 1, by omega, by omega, by (repeat' (refine And.intro ?_ ?_)) <;> first | rfl | omega | (simp; done)⟩
  · have i1 : ((i : Int) < (zs.length : Int)) = False := eq_false (by omega)
    repeat' (first | with_reducible (first | refine And.intro ?_ ?_ | intro _ | refine AWp_seq ?_ | refine AWp_block ?_ | (refine hKv _ _ (AWp_nop ?_); clear hKv Kv) | (refine hKA ?_; clear hKA hKB KA KB) | (refine hKB ?_; clear hKA hKB KA KB) | refine AWp_skipN ?_ | refine AWp_exitO (by repeat (first | exact Out.hit | apply Out.thenA | apply Out.out rfl)) ?_) | (with_reducible (first | (refine hKv _ _ ?_; clear hKv Kv) | ((first | refine AWp_regC mu_16 ks_16 ?_ | refine AWp_draw nd_16 mu_16 ks_16 ti_mixed (by kernel_rfl) ?_ | refine AWp_regE mu_16 ks_16 ?_ | refine AWp_drawE nd_16 mu_16 ks_16 ti_mixed (by kernel_rfl) ?_); intro Kv hKv) | refine AWp_retR ?_); try simp (dsimp := false) only [go_sem, Nat.reduceAdd, Nat.reduceBEq, Nat.reduceEqDiff, Nat.reduceLT, Nat.reduceLeDiff, Nat.reduceMul, Int.reduceToNat, reduceCtorEq, ↓reduceIte, Tryd.ntmps16, Tryd.results16, ks_16, mu_16, nd_16, ti_ag3, ti_sb35, ti_sl35, zR, i1]) | (refine AWp_condC rfl ?_; intro KA KB hKA hKB; try simp only [onB_true, onB_false, onB_dec, onB_ndec, onB_not, onB_and, onB_or]) | (refine AWp_condA rfl ?_ ?_) | with_reducible (first | refine onB_of ?_ ?_ | rfl) | omega)
    all_goals first
      | omega
      | exact keepD hk rfl
end Go.Proofs.YtpgdflhcmijaiaaDoor
