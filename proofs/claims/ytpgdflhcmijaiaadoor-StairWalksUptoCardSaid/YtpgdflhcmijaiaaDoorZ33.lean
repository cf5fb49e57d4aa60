/- Steps from nodes: children. No condition. -/
import Derived.Test.YtpgdflhcmijaiaaDoorZ32
set_option linter.all false
set_option linter.unusedSimpArgs false
set_option linter.unusedVariables false
namespace Go.Proofs.YtpgdflhcmijaiaaDoor
open Go Go.Proofs.YtpgdflhcmijaiaaDoor.Ab
variable [Glo]
set_option maxHeartbeats 4000000
set_option maxRecDepth 20000
theorem near1_A (l : List Nd) (hg : Good l l.length) (hN : l.length ≤ 100000) (t : Ts) (idw ido : Nat) (C : List Nat) (hC : ∀ c, c ∈ C → c < l.length) (hCL : C.length ≤ 100000) (H : Heap) (K : V → Heap → Prop) (hW : Wk H idw ido l 1 t []) (hk : K (.tu []) (wst H idw ido l 1 t (walked l C 1 t))) : ACalls Tryd.prog 53 [.pt idw 0 0 0, .d (.sl 1 (C.map natR))] H K := by
  have hwl := hW.hw
  have hcl0 : ∀ (AL : List Nat), Closed H (H ++ [.row AL.length 3 1 (AL.map natC)]) := fun AL => closed_app fun ob hob => by
    rw [List.mem_singleton.1 hob]
    exact outO_bel _ AL
  have hwA0 : ∀ X, (H ++ X)[idw]? = some (wkO l 1 t (.os ido 0)) := fun X => (hW.app X).w
  rw [wkO] at hwA0
  refine ACalls_of Tryd.func53 rfl in_53 (Nat.le_of_ble_eq_true rfl) ?_
  intro F hF
  simp (dsimp := false) only [go_sem, Nat.reduceAdd, Nat.reduceBEq, Nat.reduceEqDiff, Nat.reduceLT, Nat.reduceLeDiff, Nat.reduceMul, Int.reduceToNat, reduceCtorEq, ↓reduceIte, Tryd.ntmps53, Tryd.results53, ks_53, mu_53, nd_53, gv_53, ti_ag3, ti_ag34, ti_bo4, ti_fl73_0, ti_fl73_1, ti_fl101_0, ti_fl101_3, ti_fl101_5, ti_hb44, ti_hb45, ti_hb48, ti_sb35, ti_sl34, ti_sl35, ndD, ndV, tsV, hwl, in_53] at hF
  subst hF
  repeat' (first | with_reducible (first | refine And.intro ?_ ?_ | intro _ | refine AWp_seq ?_ | refine AWp_block ?_ | (refine hKv _ _ (AWp_nop ?_); clear hKv Kv) | (refine hKA ?_; clear hKA hKB KA KB) | (refine hKB ?_; clear hKA hKB KA KB) | refine AWp_skipN ?_ | refine AWp_exitO (by repeat (first | exact Out.hit | apply Out.thenA | apply Out.out rfl)) ?_) | (with_reducible (first | (refine hKv _ _ ?_; clear hKv Kv) | ((first | refine AWp_regG gv_53 mu_53 ks_53 (by decide) ?_ | refine AWp_regC mu_53 ks_53 ?_ | refine AWp_draw nd_53 mu_53 ks_53 ti_mixed (by kernel_rfl) ?_ | refine AWp_regE mu_53 ks_53 ?_ | refine AWp_drawE nd_53 mu_53 ks_53 ti_mixed (by kernel_rfl) ?_); intro Kv hKv) | refine AWp_retR ?_); try simp (dsimp := false) only [go_sem, Nat.reduceAdd, Nat.reduceBEq, Nat.reduceEqDiff, Nat.reduceLT, Nat.reduceLeDiff, Nat.reduceMul, Int.reduceToNat, reduceCtorEq, ↓reduceIte, Tryd.ntmps53, Tryd.results53, ks_53, mu_53, nd_53, gv_53, ti_ag3, ti_ag34, ti_bo4, ti_fl73_0, ti_fl73_1, ti_fl101_0, ti_fl101_3, ti_fl101_5, ti_hb44, ti_hb45, ti_hb48, ti_sb35, ti_sl34, ti_sl35, ndD, ndV, tsV, hwl]) | (refine AWp_condC rfl ?_; intro KA KB hKA hKB; try simp only [onB_true, onB_false, onB_dec, onB_ndec, onB_not, onB_and, onB_or]) | (refine AWp_condA rfl ?_ ?_) | with_reducible (first | refine onB_of ?_ ?_ | rfl) | omega)
  refine AWp_whileP (fun y : Nat × List Nat => y.1 ≤ C.length ∧ y.2.length ≤ y.1 * 100000 ∧ (∀ j, j ∈ y.2 → j < l.length) ∧ ∀ j, j < l.length → (j ∈ y.2 ↔ ∃ c, c ∈ C.take y.1 ∧ onAx l c 1 j = true))
    (fun y => [(0, .pt idw 0 0 0), (4, .os H.length y.2.length), (12, .d (.sl 1 (C.map natR))), (13, .d (.i .i64 C.length)), (14, .d (.i .i64 y.1))])
    (fun y => H ++ [.row y.2.length 3 1 (y.2.map natC)]) (fun y => C.length - y.1) (0, []) ⟨Nat.zero_le _, by simp, fun j hj => (by cases hj), fun j _ => by simp⟩ ?_ ?_ ?_ ?_ ?_
  · first | rfl
  · simp (dsimp := false) only [go_sem, Nat.reduceAdd, Nat.reduceBEq, Nat.reduceEqDiff, Nat.reduceLT, Nat.reduceLeDiff, Nat.reduceMul, Int.reduceToNat, reduceCtorEq, ↓reduceIte, Tryd.ntmps53, Tryd.results53, ks_53, mu_53, nd_53, gv_53, ti_ag3, ti_ag34, ti_bo4, ti_fl73_0, ti_fl73_1, ti_fl101_0, ti_fl101_3, ti_fl101_5, ti_hb44, ti_hb45, ti_hb48, ti_sb35, ti_sl34, ti_sl35, ndD, ndV, tsV, hwl]
    first | done | exact hwl | (simp [hwl]; done) | (simp [hwl]; omega)
  · intro k _
    simp
  · rintro ⟨k, AL⟩ _
    exact hcl0 _
  rintro ⟨k, AL⟩ ⟨hk1, hkl, hAl, hmem⟩
  simp only [] at hk1 hkl hAl hmem ⊢
  by_cases hkC : k < C.length
  · obtain ⟨n, hn⟩ : ∃ n, C[k]? = some n := ⟨C[k], List.getElem?_eq_getElem hkC⟩
    have hnl := hC n (List.mem_of_getElem? hn)
    obtain ⟨x, hx⟩ : ∃ x, l[n]? = some x := ⟨l[n], List.getElem?_eq_getElem hnl⟩
    have bn := good_bd hg n hnl
    have hgx := gd_of_get hx
    rw [hgx] at bn
    have k1 : ((k : Int) < (C.length : Int)) = True := eq_true (by omega)
    have k0 : ((0 : Int) ≤ (k : Int)) = True := eq_true (by omega)
    have n0 : ((0 : Int) ≤ (n : Int)) = True := eq_true (by omega)
    have n1 : ((n : Int) < (l.length : Int)) = True := eq_true (by omega)
    have ek : (k : Int) + 1 = ((k + 1 : Nat) : Int) := by omega
    have hS : ∀ j, j < l.length → ((∃ c, c ∈ C.take (k + 1) ∧ onAx l c 1 j = true) ↔ j ∈ AL ∨ onAx l n 1 j = true) := fun j hj => by
      rw [hmem j hj]
      constructor
      · rintro ⟨c, hc, ho⟩
        rcases (take_mem hn c).1 hc with h | rfl
        · exact .inl ⟨c, h, ho⟩
        · exact .inr ho
      · rintro (⟨c, hc, ho⟩ | ho)
        · exact ⟨c, (take_mem hn c).2 (.inl hc), ho⟩
        · exact ⟨n, (take_mem hn n).2 (.inr rfl), ho⟩
    have hAB : AL.length ≤ 10000000000 := by
      have := Nat.mul_le_mul_right 100000 (show k ≤ 100000 by omega)
      omega
    have hb2 : AL.length + 100000 ≤ (k + 1) * 100000 := by
      rw [Nat.succ_mul]
      exact Nat.add_le_add_right hkl _
    have hb3 : AL.length ≤ (k + 1) * 100000 := Nat.le_trans (Nat.le_add_right _ _) hb2
    obtain ⟨cB, hcB⟩ : ∃ cB : Nat → Bool, cB = fun j : Nat => !decide ((gd l j).k = 2) := ⟨_, rfl⟩
    have hax : ∀ j, j < l.length → (onAx l n 1 j = true ↔ (gd l j).up = n ∧ cB j = true) := fun j _ => by
      rw [hcB]
      show (decide ((gd l j).up = n) && !decide ((gd l j).k = 2)) = true ↔ _
      simp
    have hen := en_int hg hnl
    rw [hgx] at hen
    repeat' (first | with_reducible (first | refine And.intro ?_ ?_ | intro _ | refine AWp_seq ?_ | refine AWp_block ?_ | (refine hKv _ _ (AWp_nop ?_); clear hKv Kv) | (refine hKA ?_; clear hKA hKB KA KB) | (refine hKB ?_; clear hKA hKB KA KB) | refine AWp_skipN ?_ | refine AWp_exitO (by repeat (first | exact Out.hit | apply Out.thenA | apply Out.out rfl)) ?_) | (with_reducible (first | (refine hKv _ _ ?_; clear hKv Kv) | ((first | refine AWp_regG gv_53 mu_53 ks_53 (by decide) ?_ | refine AWp_regC mu_53 ks_53 ?_ | refine AWp_draw nd_53 mu_53 ks_53 ti_mixed (by kernel_rfl) ?_ | refine AWp_regE mu_53 ks_53 ?_ | refine AWp_drawE nd_53 mu_53 ks_53 ti_mixed (by kernel_rfl) ?_); intro Kv hKv) | refine AWp_retR ?_); try simp (dsimp := false) only [go_sem, Nat.reduceAdd, Nat.reduceBEq, Nat.reduceEqDiff, Nat.reduceLT, Nat.reduceLeDiff, Nat.reduceMul, Int.reduceToNat, reduceCtorEq, ↓reduceIte, Tryd.ntmps53, Tryd.results53, ks_53, mu_53, nd_53, gv_53, ti_ag3, ti_ag34, ti_bo4, ti_fl73_0, ti_fl73_1, ti_fl101_0, ti_fl101_3, ti_fl101_5, ti_hb44, ti_hb45, ti_hb48, ti_sb35, ti_sl34, ti_sl35, ndD, ndV, tsV, natR, hwl, hn, hwA0, hx, k0, k1, n0, n1, not_true_eq_false, not_false_eq_true, Bool.and_true, Bool.true_and, Bool.false_and, Bool.and_false, Bool.false_or, Bool.or_false, Bool.true_beq, Bool.false_beq, Int.reduceEq, Int.reduceLT, Int.reduceLE]) | (refine AWp_condC rfl ?_; intro KA KB hKA hKB; try simp only [onB_true, onB_false, onB_dec, onB_ndec, onB_not, onB_and, onB_or]) | (refine AWp_condA rfl ?_ ?_) | with_reducible (first | refine onB_of ?_ ?_ | rfl) | omega)
    have en1 : (n : Int) + 1 = ((n + 1 : Nat) : Int) := by omega
    have hPe := en_lt hg hnl
    have hPi := en_int hg hnl
    refine AWp_whileP (fun y : Nat × List Nat => n + 1 ≤ y.1 ∧ y.1 ≤ en l n + 1 ∧ (y.1 ≤ en l n → (gd l (y.1 : Int)).up = n) ∧ y.2.length ≤ AL.length + (y.1 - (n + 1)) ∧ (∀ j, j ∈ y.2 → j < l.length) ∧ ∀ j, j < l.length → (j ∈ y.2 ↔ j ∈ AL ∨ chP l n cB y.1 j))
      (fun y => [(0, .pt idw 0 0 0), (4, .os H.length y.2.length), (6, .d (.i .i64 n)), (8, .d (.i .i64 y.1)), (12, .d (.sl 1 (C.map natR))), (13, .d (.i .i64 C.length)), (14, .d (.i .i64 k))])
      (fun y => H ++ [.row y.2.length 3 1 (y.2.map natC)]) (fun y => l.length + 1 - y.1) (n + 1, AL) ⟨Nat.le_refl _, by have := en_ge l n; show n + 1 ≤ en l n + 1; omega, fun h => first_child hg hnl h, by show AL.length ≤ AL.length + _; omega, hAl, fun j _ => ⟨.inl, fun h => h.elim (fun h => h) fun h => absurd h (chP_0 hg hnl j)⟩⟩ ?_ ?_ ?_ ?_ ?_
    · first | rfl
    · simp (dsimp := false) only [go_sem, Nat.reduceAdd, Nat.reduceBEq, Nat.reduceEqDiff, Nat.reduceLT, Nat.reduceLeDiff, Nat.reduceMul, Int.reduceToNat, reduceCtorEq, ↓reduceIte, Tryd.ntmps53, Tryd.results53, ks_53, mu_53, nd_53, gv_53, ti_ag3, ti_ag34, ti_bo4, ti_fl73_0, ti_fl73_1, ti_fl101_0, ti_fl101_3, ti_fl101_5, ti_hb44, ti_hb45, ti_hb48, ti_sb35, ti_sl34, ti_sl35, ndD, ndV, tsV, natR, hwl, hn, hwA0, hx, k0, k1, n0, n1, not_true_eq_false, not_false_eq_true, Bool.and_true, Bool.true_and, Bool.false_and, Bool.and_false, Bool.false_or, Bool.or_false, Bool.true_beq, Bool.false_beq, Int.reduceEq, Int.reduceLT, Int.reduceLE]
      first | done | exact hwl | (simp [hwl]; done) | (simp [hwl]; omega)
    · intro y _
      simp
    · rintro ⟨i, AN⟩ _
      exact hcl0 _
    rintro ⟨i, AN⟩ ⟨i1, i2, i3, i4, i5, i6⟩
    simp only [] at i1 i2 i3 i4 i5 i6 ⊢
    by_cases hie : i ≤ en l n
    · have hil : i < l.length := by omega
      have hiu := i3 hie
      obtain ⟨y, hy⟩ : ∃ y, l[i]? = some y := ⟨l[i], List.getElem?_eq_getElem hil⟩
      have hgy := gd_of_get hy
      have hei := en_int hg hil
      have hel := en_lt hg hil
      have heg := en_ge l i
      rw [hgy] at hei
      have hlm := lam hg hil (j := n) (by omega) hie
      have y0 : ((0 : Int) ≤ (i : Int)) = True := eq_true (by omega)
      have y1 : ((i : Int) < (l.length : Int)) = True := eq_true (by omega)
      have e1 : (i : Int) + (y.sz + 1) = ((en l i + 1 : Nat) : Int) := by omega
      have hnx := fun j => chP_next hg (cB := cB) hil hiu j
      have hu2 : en l i + 1 ≤ en l n → (gd l ((en l i + 1 : Nat) : Int)).up = n := fun h => next_child hg hnl hil hiu h
      have yes : cB i = true → (∀ j, j ∈ AN ++ [i] → j < l.length) ∧ ∀ j, j < l.length → (j ∈ AN ++ [i] ↔ j ∈ AL ∨ chP l n cB (en l i + 1) j) := fun h => ⟨fun j hj => by
        rcases List.mem_append.1 hj with hj | hj
        · exact i5 j hj
        · rw [List.mem_singleton.1 hj]; exact hil, fun j hj => by
        rw [List.mem_append, List.mem_singleton, i6 j hj, hnx, or_assoc]
        simp [h]⟩
      have no : cB i = false → ∀ j, j < l.length → (j ∈ AN ↔ j ∈ AL ∨ chP l n cB (en l i + 1) j) := fun h j hj => by
        rw [i6 j hj, hnx]
        simp [h]
      have hoa := outO_app AN i
      rw [outO] at hoa
      by_cases h2 : y.k = 2
      · have h2' : (y.k = 2) = True := eq_true h2
        have hie' : ((i : Int) ≤ (n : Int) + x.sz) = True := eq_true (by omega)
        repeat' (first | with_reducible (first | refine And.intro ?_ ?_ | intro _ | refine AWp_seq ?_ | refine AWp_block ?_ | (refine hKv _ _ (AWp_nop ?_); clear hKv Kv) | (refine hKA ?_; clear hKA hKB KA KB) | (refine hKB ?_; clear hKA hKB KA KB) | refine AWp_skipN ?_ | refine AWp_exitO (by repeat (first | exact Out.hit | apply Out.thenA | apply Out.out rfl)) ?_) | (with_reducible (first | (refine hKv _ _ ?_; clear hKv Kv) | ((first | refine AWp_regG gv_53 mu_53 ks_53 (by decide) ?_ | refine AWp_regC mu_53 ks_53 ?_ | refine AWp_draw nd_53 mu_53 ks_53 ti_mixed (by kernel_rfl) ?_ | refine AWp_regE mu_53 ks_53 ?_ | refine AWp_drawE nd_53 mu_53 ks_53 ti_mixed (by kernel_rfl) ?_); intro Kv hKv) | refine AWp_retR ?_); try simp (dsimp := false) only [go_sem, Nat.reduceAdd, Nat.reduceBEq, Nat.reduceEqDiff, Nat.reduceLT, Nat.reduceLeDiff, Nat.reduceMul, Int.reduceToNat, reduceCtorEq, ↓reduceIte, Tryd.ntmps53, Tryd.results53, ks_53, mu_53, nd_53, gv_53, ti_ag3, ti_ag34, ti_bo4, ti_fl73_0, ti_fl73_1, ti_fl101_0, ti_fl101_3, ti_fl101_5, ti_hb44, ti_hb45, ti_hb48, ti_sb35, ti_sl34, ti_sl35, ndD, ndV, tsV, natR, hwl, hwA0, hx, n0, n1, hn, hie', hy, y0, y1, e1, h2', not_true_eq_false, not_false_eq_true, Bool.and_true, Bool.true_and, Bool.false_and, Bool.and_false, Bool.false_or, Bool.or_false, Bool.true_beq, Bool.false_beq, Int.reduceEq, Int.reduceLT, Int.reduceLE]) | (refine AWp_condC rfl ?_; intro KA KB hKA hKB; try simp only [onB_true, onB_false, onB_dec, onB_ndec, onB_not, onB_and, onB_or]) | (refine AWp_condA rfl ?_ ?_) | with_reducible (first | refine onB_of ?_ ?_ | rfl) | omega)
        all_goals first
          | omega
          | exact hcl0 _
          | exact ⟨(en l i + 1, AN), ⟨by show _ ≤ en l i + 1; omega, by show en l i + 1 ≤ _; omega, hu2, by show AN.length ≤ _; omega, i5, (no (by rw [hcB]; simp [hgy, h2]))⟩, by show l.length + 1 - (en l i + 1) < l.length + 1 - i; omega, rfl, by (repeat' (refine And.intro ?_ ?_)) <;> first | rfl | omega | (simp; done) | (simp; omega)⟩
      · have h2' : (y.k = 2) = False := eq_false h2
        have hie' : ((i : Int) ≤ (n : Int) + x.sz) = True := eq_true (by omega)
        repeat' (first | with_reducible (first | refine And.intro ?_ ?_ | intro _ | refine AWp_seq ?_ | refine AWp_block ?_ | (refine hKv _ _ (AWp_nop ?_); clear hKv Kv) | (refine hKA ?_; clear hKA hKB KA KB) | (refine hKB ?_; clear hKA hKB KA KB) | refine AWp_skipN ?_ | refine AWp_exitO (by repeat (first | exact Out.hit | apply Out.thenA | apply Out.out rfl)) ?_) | (with_reducible (first | (refine hKv _ _ ?_; clear hKv Kv) | ((first | refine AWp_regG gv_53 mu_53 ks_53 (by decide) ?_ | refine AWp_regC mu_53 ks_53 ?_ | refine AWp_draw nd_53 mu_53 ks_53 ti_mixed (by kernel_rfl) ?_ | refine AWp_regE mu_53 ks_53 ?_ | refine AWp_drawE nd_53 mu_53 ks_53 ti_mixed (by kernel_rfl) ?_); intro Kv hKv) | refine AWp_retR ?_); try simp (dsimp := false) only [go_sem, Nat.reduceAdd, Nat.reduceBEq, Nat.reduceEqDiff, Nat.reduceLT, Nat.reduceLeDiff, Nat.reduceMul, Int.reduceToNat, reduceCtorEq, ↓reduceIte, Tryd.ntmps53, Tryd.results53, ks_53, mu_53, nd_53, gv_53, ti_ag3, ti_ag34, ti_bo4, ti_fl73_0, ti_fl73_1, ti_fl101_0, ti_fl101_3, ti_fl101_5, ti_hb44, ti_hb45, ti_hb48, ti_sb35, ti_sl34, ti_sl35, ndD, ndV, tsV, natR, hwl, hwA0, hx, n0, n1, hn, hie', hy, y0, y1, e1, h2', not_true_eq_false, not_false_eq_true, Bool.and_true, Bool.true_and, Bool.false_and, Bool.and_false, Bool.false_or, Bool.or_false, Bool.true_beq, Bool.false_beq, Int.reduceEq, Int.reduceLT, Int.reduceLE]) | (refine AWp_condC rfl ?_; intro KA KB hKA hKB; try simp only [onB_true, onB_false, onB_dec, onB_ndec, onB_not, onB_and, onB_or]) | (refine AWp_condA rfl ?_ ?_) | with_reducible (first | refine onB_of ?_ ?_ | rfl) | omega)
        all_goals first
          | omega
          | exact hcl0 _
          | exact ⟨(en l i + 1, AN ++ [i]), ⟨by show _ ≤ en l i + 1; omega, by show en l i + 1 ≤ _; omega, hu2, by show (AN ++ [i]).length ≤ _; rw [List.length_append, List.length_singleton]; omega, (yes (by rw [hcB]; simp [hgy, h2])).1, (yes (by rw [hcB]; simp [hgy, h2])).2⟩, by show l.length + 1 - (en l i + 1) < l.length + 1 - i; omega, by show _ = H ++ [Ob.row (AN ++ [i]).length _ 1 ((AN ++ [i]).map natC)]; rw [← hoa], by (repeat' (refine And.intro ?_ ?_)) <;> first | rfl | omega | (simp; done) | (simp; omega)⟩
    · have hie' : ((i : Int) ≤ (n : Int) + x.sz) = False := eq_false (by omega)
      obtain rfl : i = en l n + 1 := by omega
      repeat' (first | with_reducible (first | refine And.intro ?_ ?_ | intro _ | refine AWp_seq ?_ | refine AWp_block ?_ | (refine hKv _ _ (AWp_nop ?_); clear hKv Kv) | (refine hKA ?_; clear hKA hKB KA KB) | (refine hKB ?_; clear hKA hKB KA KB) | refine AWp_skipN ?_ | refine AWp_exitO (by repeat (first | exact Out.hit | apply Out.thenA | apply Out.out rfl)) ?_) | (with_reducible (first | (refine hKv _ _ ?_; clear hKv Kv) | ((first | refine AWp_regG gv_53 mu_53 ks_53 (by decide) ?_ | refine AWp_regC mu_53 ks_53 ?_ | refine AWp_draw nd_53 mu_53 ks_53 ti_mixed (by kernel_rfl) ?_ | refine AWp_regE mu_53 ks_53 ?_ | refine AWp_drawE nd_53 mu_53 ks_53 ti_mixed (by kernel_rfl) ?_); intro Kv hKv) | refine AWp_retR ?_); try simp (dsimp := false) only [go_sem, Nat.reduceAdd, Nat.reduceBEq, Nat.reduceEqDiff, Nat.reduceLT, Nat.reduceLeDiff, Nat.reduceMul, Int.reduceToNat, reduceCtorEq, ↓reduceIte, Tryd.ntmps53, Tryd.results53, ks_53, mu_53, nd_53, gv_53, ti_ag3, ti_ag34, ti_bo4, ti_fl73_0, ti_fl73_1, ti_fl101_0, ti_fl101_3, ti_fl101_5, ti_hb44, ti_hb45, ti_hb48, ti_sb35, ti_sl34, ti_sl35, ndD, ndV, tsV, natR, hwl, hwA0, hx, n0, n1, hn, hie', ek, not_true_eq_false, not_false_eq_true, Bool.and_true, Bool.true_and, Bool.false_and, Bool.and_false, Bool.false_or, Bool.or_false, Bool.true_beq, Bool.false_beq, Int.reduceEq, Int.reduceLT, Int.reduceLE]) | (refine AWp_condC rfl ?_; intro KA KB hKA hKB; try simp only [onB_true, onB_false, onB_dec, onB_ndec, onB_not, onB_and, onB_or]) | (refine AWp_condA rfl ?_ ?_) | with_reducible (first | refine onB_of ?_ ?_ | rfl) | omega)
      all_goals first
        | omega
        | exact hcl0 _
        | exact ⟨(k + 1, AN), ⟨by show k + 1 ≤ C.length; omega, Nat.le_trans (show AN.length ≤ AL.length + 100000 by omega) hb2, i5, fun j hj => ((i6 j hj).trans (or_congr Iff.rfl ((chP_end hg hj).trans (hax j hj).symm))).trans (hS j hj).symm⟩, by show C.length - (k + 1) < C.length - k; omega, rfl, by (repeat' (refine And.intro ?_ ?_)) <;> first | rfl | omega | (simp; done) | (simp; omega)⟩
  obtain rfl : k = C.length := by omega
  rw [List.take_length] at hmem
  have hALl : AL.length ≤ 10000000000 := by
    have := Nat.mul_le_mul_right 100000 hCL
    omega
  have k1 : ((C.length : Int) < (C.length : Int)) = False := eq_false (by omega)
  have hs : ∀ K, K (.tu []) (H ++ [.row AL.length 3 1 (((AL.map fun i : Nat => (i : Int)).mergeSort fun x y => decide (x ≤ y)).map icell)]) → ACalls Tryd.prog 44 [.os H.length AL.length] (H ++ [.row AL.length 3 1 (AL.map natC)]) K := fun K hk =>
    sortI_A 3 (AL.map fun i : Nat => (i : Int)) (by rw [List.length_map]; omega) _ _ _ K ((get_app0 _ _).trans (by rw [nat_cells]; rfl)) (by rw [set_app0]; exact hk)
  have hc : ∀ K, K (.os H.length (AL.length + 1)) (H ++ [.row (AL.length + 1) 3 1 ((sortU (AL.map fun i : Nat => (i : Int))).map natC)]) → ACalls Tryd.prog 45 [.os H.length AL.length] (H ++ [.row AL.length 3 1 (((AL.map fun i : Nat => (i : Int)).mergeSort fun x y => decide (x ≤ y)).map icell)]) K := fun K hk =>
    compactI_A 3 _ (by rw [List.length_mergeSort, List.length_map]; omega) _ _ _ K ((get_app0 _ _).trans rfl) (by rw [set_app0, sortU_nat]; exact hk)
  have hCr := sortU_rise (nat_pos AL)
  have hCm' := fun j => (sortU_mem (nat_pos AL) j).trans (nat_mem AL j)
  generalize sortU (AL.map fun i : Nat => (i : Int)) = D at hc hCr hCm'
  have hCl : ∀ c, c ∈ D → c < l.length := fun c hc => hAl c ((hCm' c).1 hc)
  have hCm : ∀ j, j < l.length → (j ∈ D ↔ ∃ c, c ∈ C ∧ onAx l c 1 j = true) := fun j hj => (hCm' j).trans (hmem j hj)
  have hlen : D.length ≤ 100000 := Nat.le_trans (nodup_len (hCr.imp fun h => Nat.ne_of_lt h) hCl) hN
  have hdd := natC_data D
  have hGb : ∀ ob, ob ∈ [Ob.dead] → ∀ m, ObBel m ob := fun ob hob m => by
    rw [List.mem_singleton.1 hob]
    exact trivial
  repeat' (first | with_reducible (first | refine And.intro ?_ ?_ | intro _ | refine AWp_seq ?_ | refine AWp_block ?_ | (refine hKv _ _ (AWp_nop ?_); clear hKv Kv) | (refine hKA ?_; clear hKA hKB KA KB) | (refine hKB ?_; clear hKA hKB KA KB) | refine AWp_skipN ?_ | refine AWp_exitO (by repeat (first | exact Out.hit | apply Out.thenA | apply Out.out rfl)) ?_) | ((first | with_reducible (first | (refine hKv _ _ ?_; clear hKv Kv) | ((first | refine AWp_regG gv_53 mu_53 ks_53 (by decide) ?_ | refine AWp_regC mu_53 ks_53 ?_ | refine AWp_draw nd_53 mu_53 ks_53 ti_mixed (by kernel_rfl) ?_ | refine AWp_regE mu_53 ks_53 ?_ | refine AWp_drawE nd_53 mu_53 ks_53 ti_mixed (by kernel_rfl) ?_); intro Kv hKv) | refine AWp_retR ?_) | refine hs _ ?_ | refine QCall_of (hs _ (Two_intro _ _)) ?_ | refine hc _ ?_ | refine QCall_of (hc _ (Two_intro _ _)) ?_); try simp (dsimp := false) only [go_sem, Nat.reduceAdd, Nat.reduceBEq, Nat.reduceEqDiff, Nat.reduceLT, Nat.reduceLeDiff, Nat.reduceMul, Int.reduceToNat, reduceCtorEq, ↓reduceIte, Tryd.ntmps53, Tryd.results53, ks_53, mu_53, nd_53, gv_53, ti_ag3, ti_ag34, ti_bo4, ti_fl73_0, ti_fl73_1, ti_fl101_0, ti_fl101_3, ti_fl101_5, ti_hb44, ti_hb45, ti_hb48, ti_sb35, ti_sl34, ti_sl35, ndD, ndV, tsV, natR, hwl, k1, hdd, not_true_eq_false, not_false_eq_true, Bool.and_true, Bool.true_and, Bool.false_and, Bool.and_false, Bool.false_or, Bool.or_false, Bool.true_beq, Bool.false_beq, Int.reduceEq, Int.reduceLT, Int.reduceLE]) | (refine AWp_condC rfl ?_; intro KA KB hKA hKB; try simp only [onB_true, onB_false, onB_dec, onB_ndec, onB_not, onB_and, onB_or]) | (refine AWp_condA rfl ?_ ?_) | with_reducible (first | refine onB_of ?_ ?_ | rfl) | omega)
  have hwA := fun L => (hW.next L).app [Ob.dead]
  have hlA : ∀ L, (wst H idw ido l 1 t L ++ [Ob.dead]).length = H.length + [Ob.dead].length := fun L => by rw [List.length_append, hW.len]
  have hclA : ∀ L, Closed H (wst H idw ido l 1 t L ++ [Ob.dead]) := fun L => by
    rw [← hW.wst_app]
    have h1 := hW.ho
    exact closed_set (closed_set (closed_app fun ob hob => hGb ob hob _) (outO_bel _ _)) (wkO_bel _ _ _ (by rw [List.length_set, List.length_append]; omega))
  refine AWp_whileP (fun k : Nat => k ≤ (D).length) (fun k => [(0, .pt idw 0 0 0), (156, .d (.sl 1 ((D).map natR))), (157, .d (.i .i64 (D).length)), (158, .d (.i .i64 k))]) (fun k => wst H idw ido l 1 t (colF (setQ l (D) 1 t) (past (D) k)) ++ [Ob.dead]) (fun k => (D).length - k) 0 (Nat.zero_le _) ?_ ?_ ?_ ?_ ?_
  · show _ = wst H idw ido l 1 t [] ++ [Ob.dead]
    rw [hW.self]
    first | done | rfl | (simp; done)
  · simp (dsimp := false) only [go_sem, Nat.reduceAdd, Nat.reduceBEq, Nat.reduceEqDiff, Nat.reduceLT, Nat.reduceLeDiff, Nat.reduceMul, Int.reduceToNat, reduceCtorEq, ↓reduceIte, Tryd.ntmps53, Tryd.results53, ks_53, mu_53, nd_53, gv_53, ti_ag3, ti_ag34, ti_bo4, ti_fl73_0, ti_fl73_1, ti_fl101_0, ti_fl101_3, ti_fl101_5, ti_hb44, ti_hb45, ti_hb48, ti_sb35, ti_sl34, ti_sl35, ndD, ndV, tsV, natR, hwl, k1, hdd, not_true_eq_false, not_false_eq_true, Bool.and_true, Bool.true_and, Bool.false_and, Bool.and_false, Bool.false_or, Bool.or_false, Bool.true_beq, Bool.false_beq, Int.reduceEq, Int.reduceLT, Int.reduceLE]
    first | done | (rw [hlA]; omega) | (simp [wst, hwl]; done) | (simp [wst]; omega)
  · intro k _
    rw [hlA]; exact Nat.le_add_right _ _
  · intro k _
    exact hclA _
  rintro k hk2
  have hwk := (hwA (colF (setQ l (D) 1 t) (past (D) k))).w
  rw [wkO] at hwk
  by_cases hkC : k < (D).length
  · obtain ⟨n, hn⟩ : ∃ n, (D)[k]? = some n := ⟨(D)[k], List.getElem?_eq_getElem hkC⟩
    have hnl := hCl n (List.mem_of_getElem? hn)
    obtain ⟨x, hx⟩ : ∃ x, l[n]? = some x := ⟨l[n], List.getElem?_eq_getElem hnl⟩
    have k1 : ((k : Int) < ((D).length : Int)) = True := eq_true (by omega)
    have k0 : ((0 : Int) ≤ (k : Int)) = True := eq_true (by omega)
    have ec : (k : Int) + 1 = ((k + 1 : Nat) : Int) := by omega
    have hpl := past_le hCl k
    have hcl2 := colF_len (setQ l (D) 1 t) (past (D) k)
    have ht : ∀ K, K (.tu []) (wst H idw ido l 1 t (colF (setQ l (D) 1 t) (past (D) (k + 1))) ++ [Ob.dead]) → ACalls Tryd.prog 48 [.pt idw 0 0 0, .d (.i .i64 n), .d (.b true)] (wst H idw ido l 1 t (colF (setQ l (D) 1 t) (past (D) k)) ++ [Ob.dead]) K := fun K hk => take_A l hN 1 t idw ido _ (by omega) n _ x hx _ K (hwA _) (by rw [(hW.next _).wst_app, hW.wst2, setQ_step hCr hn hx]; exact hk)
    repeat' (first | with_reducible (first | refine And.intro ?_ ?_ | intro _ | refine AWp_seq ?_ | refine AWp_block ?_ | (refine hKv _ _ (AWp_nop ?_); clear hKv Kv) | (refine hKA ?_; clear hKA hKB KA KB) | (refine hKB ?_; clear hKA hKB KA KB) | refine AWp_skipN ?_ | refine AWp_exitO (by repeat (first | exact Out.hit | apply Out.thenA | apply Out.out rfl)) ?_) | ((first | with_reducible (first | (refine hKv _ _ ?_; clear hKv Kv) | ((first | refine AWp_regG gv_53 mu_53 ks_53 (by decide) ?_ | refine AWp_regC mu_53 ks_53 ?_ | refine AWp_draw nd_53 mu_53 ks_53 ti_mixed (by kernel_rfl) ?_ | refine AWp_regE mu_53 ks_53 ?_ | refine AWp_drawE nd_53 mu_53 ks_53 ti_mixed (by kernel_rfl) ?_); intro Kv hKv) | refine AWp_retR ?_) | refine ht _ ?_ | refine QCall_of (ht _ (Two_intro _ _)) ?_); try simp (dsimp := false) only [go_sem, Nat.reduceAdd, Nat.reduceBEq, Nat.reduceEqDiff, Nat.reduceLT, Nat.reduceLeDiff, Nat.reduceMul, Int.reduceToNat, reduceCtorEq, ↓reduceIte, Tryd.ntmps53, Tryd.results53, ks_53, mu_53, nd_53, gv_53, ti_ag3, ti_ag34, ti_bo4, ti_fl73_0, ti_fl73_1, ti_fl101_0, ti_fl101_3, ti_fl101_5, ti_hb44, ti_hb45, ti_hb48, ti_sb35, ti_sl34, ti_sl35, ndD, ndV, tsV, natR, hlA, hwl, hn, k0, k1, ec, not_true_eq_false, not_false_eq_true, Bool.and_true, Bool.true_and, Bool.false_and, Bool.and_false, Bool.false_or, Bool.or_false, Bool.true_beq, Bool.false_beq, Int.reduceEq, Int.reduceLT, Int.reduceLE]) | (refine AWp_condC rfl ?_; intro KA KB hKA hKB; try simp only [onB_true, onB_false, onB_dec, onB_ndec, onB_not, onB_and, onB_or]) | (refine AWp_condA rfl ?_ ?_) | with_reducible (first | refine onB_of ?_ ?_ | rfl) | omega)
    all_goals first
      | omega
      | exact ⟨k + 1, by omega, by omega, rfl, by (repeat' (refine And.intro ?_ ?_)) <;> first | rfl | omega | (rw [hlA]; omega) | (simp; done) | (simp; omega)⟩
  obtain rfl : k = (D).length := by omega
  have k1 : (((D).length : Int) < ((D).length : Int)) = False := eq_false (by omega)
  rw [setQ_end hCr hCl, setQ_walked hCm] at *
  repeat' (first | with_reducible (first | refine And.intro ?_ ?_ | intro _ | refine AWp_seq ?_ | refine AWp_block ?_ | (refine hKv _ _ (AWp_nop ?_); clear hKv Kv) | (refine hKA ?_; clear hKA hKB KA KB) | (refine hKB ?_; clear hKA hKB KA KB) | refine AWp_skipN ?_ | refine AWp_exitO (by repeat (first | exact Out.hit | apply Out.thenA | apply Out.out rfl)) ?_) | (with_reducible (first | (refine hKv _ _ ?_; clear hKv Kv) | ((first | refine AWp_regG gv_53 mu_53 ks_53 (by decide) ?_ | refine AWp_regC mu_53 ks_53 ?_ | refine AWp_draw nd_53 mu_53 ks_53 ti_mixed (by kernel_rfl) ?_ | refine AWp_regE mu_53 ks_53 ?_ | refine AWp_drawE nd_53 mu_53 ks_53 ti_mixed (by kernel_rfl) ?_); intro Kv hKv) | refine AWp_retR ?_); try simp (dsimp := false) only [go_sem, Nat.reduceAdd, Nat.reduceBEq, Nat.reduceEqDiff, Nat.reduceLT, Nat.reduceLeDiff, Nat.reduceMul, Int.reduceToNat, reduceCtorEq, ↓reduceIte, Tryd.ntmps53, Tryd.results53, ks_53, mu_53, nd_53, gv_53, ti_ag3, ti_ag34, ti_bo4, ti_fl73_0, ti_fl73_1, ti_fl101_0, ti_fl101_3, ti_fl101_5, ti_hb44, ti_hb45, ti_hb48, ti_sb35, ti_sl34, ti_sl35, ndD, ndV, tsV, natR, k1, not_true_eq_false, not_false_eq_true, Bool.and_true, Bool.true_and, Bool.false_and, Bool.and_false, Bool.false_or, Bool.or_false, Bool.true_beq, Bool.false_beq, Int.reduceEq, Int.reduceLT, Int.reduceLE]) | (refine AWp_condC rfl ?_; intro KA KB hKA hKB; try simp only [onB_true, onB_false, onB_dec, onB_ndec, onB_not, onB_and, onB_or]) | (refine AWp_condA rfl ?_ ?_) | with_reducible (first | refine onB_of ?_ ?_ | rfl) | omega)
  all_goals try first | (refine AWp_skip ?_; simp (dsimp := false) only [go_sem, Nat.reduceAdd, Nat.reduceBEq, Nat.reduceEqDiff, Nat.reduceLT, Nat.reduceLeDiff, Nat.reduceMul, Int.reduceToNat, reduceCtorEq, ↓reduceIte, Tryd.ntmps53, Tryd.results53, ks_53, mu_53, nd_53, gv_53, ti_ag3, ti_ag34, ti_bo4, ti_fl73_0, ti_fl73_1, ti_fl101_0, ti_fl101_3, ti_fl101_5, ti_hb44, ti_hb45, ti_hb48, ti_sb35, ti_sl34, ti_sl35, ndD, ndV, tsV, natR, k1, not_true_eq_false, not_false_eq_true, Bool.and_true, Bool.true_and, Bool.false_and, Bool.and_false, Bool.false_or, Bool.or_false, Bool.true_beq, Bool.false_beq, Int.reduceEq, Int.reduceLT, Int.reduceLE]) | (refine AWp_exit ?_; simp (dsimp := false) only [go_sem, Nat.reduceAdd, Nat.reduceBEq, Nat.reduceEqDiff, Nat.reduceLT, Nat.reduceLeDiff, Nat.reduceMul, Int.reduceToNat, reduceCtorEq, ↓reduceIte, Tryd.ntmps53, Tryd.results53, ks_53, mu_53, nd_53, gv_53, ti_ag3, ti_ag34, ti_bo4, ti_fl73_0, ti_fl73_1, ti_fl101_0, ti_fl101_3, ti_fl101_5, ti_hb44, ti_hb45, ti_hb48, ti_sb35, ti_sl34, ti_sl35, ndD, ndV, tsV, natR, k1, not_true_eq_false, not_false_eq_true, Bool.and_true, Bool.true_and, Bool.false_and, Bool.and_false, Bool.false_or, Bool.or_false, Bool.true_beq, Bool.false_beq, Int.reduceEq, Int.reduceLT, Int.reduceLE])
  all_goals first
    | omega
    | exact dropS hk (by rw [hW.len]; exact Nat.le_refl _) (hW.closed _) (by simp [Bel_tu])
end Go.Proofs.YtpgdflhcmijaiaaDoor
