/- An event that comes, within elements that are open: what the program makes of it. No condition but that the tables of package unicode/utf8, and what package bytealg calls its greatest length, are there. -/
import Derived.Test.YtjghnaohlfgloaaDoorJ20
set_option linter.all false
set_option linter.unusedSimpArgs false
set_option linter.unusedVariables false
namespace Go.Proofs.YtjghnaohlfgloaaDoor
open Go Go.Proofs.YtjghnaohlfgloaaDoor.Ab
variable [Glo] [U8] [Ml]
set_option maxHeartbeats 4000000
set_option maxRecDepth 20000
theorem event_1 (s : Es) (x : Ev) (first : Bool) (id ver : Nat) (rows : List (List V)) (H : Heap) (K : V → Heap → Prop) (ho : OpenAt H id ver s rows) (hB : ObBel H.length (.row ver 177 3 rows)) (hn : s.n ≤ 20) (hx : x.nm.length + x.vl.length ≤ 1048576) (h1 : x.k = 1)
    (hk : (evF1 s x first ≠ 0 → K (evBad (evF1 s x first)) H) ∧ (evF1 s x first = 0 → K (evOut id (ver + 1)) (H.set id (.row (ver + 1) 177 3 ((if 0 < s.n then mark rows s.n false else rows) ++ [newRow]))))) :
    ACalls Tryd.prog 111 [.os id ver, evV x, .d (.b first)] H K := by
  have hg := ho.get
  have hl := ho.len
  have hid := lt_of_get hg
  rw [evF1_1 h1] at hk
  by_cases h0 : s.n = 0
  · rw [if_pos h0] at hk
    have h0t : ((s.n : Int) = 0) = True := eq_true (by first | exact h0 | omega)
    by_cases hfi : first = true
    · rw [if_pos hfi] at hk
      subst hfi
      by_cases hnf : nameFault x.nm = 0
      · rw [if_pos hnf] at hk
        have hnft : (nameFault x.nm = 0) = True := eq_true (by first | exact hnf | omega)
        by_cases hv : x.vl = []
        · rw [if_pos hv] at hk
          have hvt : (x.vl = []) = True := eq_true (by first | exact hv | omega)
          rw [if_neg (by omega : ¬ 0 < s.n)] at hk
          have hng : (0 < (s.n : Int)) = False := eq_false (by omega)
          have h20 : ((s.n : Int) = 20) = False := eq_false (by omega)
          refine ACalls_of Tryd.func111 rfl in_111 (Nat.le_of_ble_eq_true rfl) ?_
          intro F hF
          simp (dsimp := false) only [go_sem, Nat.reduceAdd, Nat.reduceBEq, Nat.reduceEqDiff, Nat.reduceLT, Nat.reduceLeDiff, Nat.reduceMul, Int.reduceToNat, reduceCtorEq, ↓reduceIte, Tryd.ntmps111, Tryd.results111, ks_111, mu_111, xd_111, vw_111, ti_ag3, ti_ag4, ti_ag9, ti_ag32, ti_fl97_0, ti_fl97_1, ti_fl97_2, ti_fl177_0, ti_fl177_1, ti_fl177_2, ti_hb132, ti_hb145, ti_hb146, ti_pl177, ti_sb32, ti_sb146, ti_sl32, ti_sl146, ti_sz4, ti_sz32, ti_zr177, evD, evV, h1, Int.reduceEq, Int.reduceLT, Int.reduceLE, hg, hl, h0t, hnft, hvt, hng, h20, in_111] at hF
          subst hF
          repeat' (first | with_reducible (first | refine And.intro ?_ ?_ | intro _ | refine AWp_seq ?_ | refine AWp_block ?_ | (refine hKv _ _ (AWp_nop ?_); clear hKv Kv) | (refine hKA ?_; clear hKA hKB KA KB) | (refine hKB ?_; clear hKA hKB KA KB) | refine AWp_skipN ?_ | refine AWp_exitO (by repeat (first | exact Out.hit | apply Out.thenA | apply Out.out rfl)) ?_) | ((first | with_reducible (first | (refine hKv _ _ ?_; clear hKv Kv) | ((first | refine AWp_regC mu_111 ks_111 ?_ | refine AWp_drawX xd_111 mu_111 ks_111 vw_111 (by decide) ti_mixed (by kernel_rfl) ?_ | refine AWp_regE mu_111 ks_111 ?_ | refine AWp_drawXE xd_111 mu_111 ks_111 vw_111 (by decide) ti_mixed (by kernel_rfl) ?_); intro Kv hKv) | refine AWp_retR ?_) | refine checkName_A x.nm (by omega) _ _ ?_ | refine QCall_of (checkName_A x.nm (by omega) _ _ (Two_intro _ _)) ?_ | refine checkText_A x.vl (by omega) _ _ ?_ | refine QCall_of (checkText_A x.vl (by omega) _ _ (Two_intro _ _)) ?_); try simp (dsimp := false) only [go_sem, Nat.reduceAdd, Nat.reduceBEq, Nat.reduceEqDiff, Nat.reduceLT, Nat.reduceLeDiff, Nat.reduceMul, Int.reduceToNat, reduceCtorEq, ↓reduceIte, Tryd.ntmps111, Tryd.results111, ks_111, mu_111, xd_111, vw_111, ti_ag3, ti_ag4, ti_ag9, ti_ag32, ti_fl97_0, ti_fl97_1, ti_fl97_2, ti_fl177_0, ti_fl177_1, ti_fl177_2, ti_hb132, ti_hb145, ti_hb146, ti_pl177, ti_sb32, ti_sb146, ti_sl32, ti_sl146, ti_sz4, ti_sz32, ti_zr177, evD, evV, h1, Int.reduceEq, Int.reduceLT, Int.reduceLE, hg, hl, h0t, hnft, hvt, hng, h20]) | (refine AWp_condC rfl ?_; intro KA KB hKA hKB; try simp only [onB_true, onB_false, onB_dec, onB_ndec, onB_not, onB_and, onB_or]) | (refine AWp_condA rfl ?_ ?_) | with_reducible (first | refine onB_of ?_ ?_ | rfl) | omega)
          all_goals first
            | omega
            | exact out_ret (hk.2 rfl) hg (ob_app hB (bel_new _))
        · rw [if_neg hv] at hk
          have hvf : (x.vl = []) = False := eq_false (by first | exact hv | omega)
          refine ACalls_of Tryd.func111 rfl in_111 (Nat.le_of_ble_eq_true rfl) ?_
          intro F hF
          simp (dsimp := false) only [go_sem, Nat.reduceAdd, Nat.reduceBEq, Nat.reduceEqDiff, Nat.reduceLT, Nat.reduceLeDiff, Nat.reduceMul, Int.reduceToNat, reduceCtorEq, ↓reduceIte, Tryd.ntmps111, Tryd.results111, ks_111, mu_111, xd_111, vw_111, ti_ag3, ti_ag4, ti_ag9, ti_ag32, ti_fl97_0, ti_fl97_1, ti_fl97_2, ti_fl177_0, ti_fl177_1, ti_fl177_2, ti_hb132, ti_hb145, ti_hb146, ti_pl177, ti_sb32, ti_sb146, ti_sl32, ti_sl146, ti_sz4, ti_sz32, ti_zr177, evD, evV, h1, Int.reduceEq, Int.reduceLT, Int.reduceLE, hg, hl, h0t, hnft, hvf, in_111] at hF
          subst hF
          repeat' (first | with_reducible (first | refine And.intro ?_ ?_ | intro _ | refine AWp_seq ?_ | refine AWp_block ?_ | (refine hKv _ _ (AWp_nop ?_); clear hKv Kv) | (refine hKA ?_; clear hKA hKB KA KB) | (refine hKB ?_; clear hKA hKB KA KB) | refine AWp_skipN ?_ | refine AWp_exitO (by repeat (first | exact Out.hit | apply Out.thenA | apply Out.out rfl)) ?_) | ((first | with_reducible (first | (refine hKv _ _ ?_; clear hKv Kv) | ((first | refine AWp_regC mu_111 ks_111 ?_ | refine AWp_drawX xd_111 mu_111 ks_111 vw_111 (by decide) ti_mixed (by kernel_rfl) ?_ | refine AWp_regE mu_111 ks_111 ?_ | refine AWp_drawXE xd_111 mu_111 ks_111 vw_111 (by decide) ti_mixed (by kernel_rfl) ?_); intro Kv hKv) | refine AWp_retR ?_) | refine checkName_A x.nm (by omega) _ _ ?_ | refine QCall_of (checkName_A x.nm (by omega) _ _ (Two_intro _ _)) ?_ | refine checkText_A x.vl (by omega) _ _ ?_ | refine QCall_of (checkText_A x.vl (by omega) _ _ (Two_intro _ _)) ?_); try simp (dsimp := false) only [go_sem, Nat.reduceAdd, Nat.reduceBEq, Nat.reduceEqDiff, Nat.reduceLT, Nat.reduceLeDiff, Nat.reduceMul, Int.reduceToNat, reduceCtorEq, ↓reduceIte, Tryd.ntmps111, Tryd.results111, ks_111, mu_111, xd_111, vw_111, ti_ag3, ti_ag4, ti_ag9, ti_ag32, ti_fl97_0, ti_fl97_1, ti_fl97_2, ti_fl177_0, ti_fl177_1, ti_fl177_2, ti_hb132, ti_hb145, ti_hb146, ti_pl177, ti_sb32, ti_sb146, ti_sl32, ti_sl146, ti_sz4, ti_sz32, ti_zr177, evD, evV, h1, Int.reduceEq, Int.reduceLT, Int.reduceLE, hg, hl, h0t, hnft, hvf]) | (refine AWp_condC rfl ?_; intro KA KB hKA hKB; try simp only [onB_true, onB_false, onB_dec, onB_ndec, onB_not, onB_and, onB_or]) | (refine AWp_condA rfl ?_ ?_) | with_reducible (first | refine onB_of ?_ ?_ | rfl) | omega)
          all_goals first
            | omega
            | exact bad_ret hk rfl (by first | decide | assumption)
      · rw [if_neg hnf] at hk
        have hnff : (nameFault x.nm = 0) = False := eq_false (by first | exact hnf | omega)
        refine ACalls_of Tryd.func111 rfl in_111 (Nat.le_of_ble_eq_true rfl) ?_
        intro F hF
        simp (dsimp := false) only [go_sem, Nat.reduceAdd, Nat.reduceBEq, Nat.reduceEqDiff, Nat.reduceLT, Nat.reduceLeDiff, Nat.reduceMul, Int.reduceToNat, reduceCtorEq, ↓reduceIte, Tryd.ntmps111, Tryd.results111, ks_111, mu_111, xd_111, vw_111, ti_ag3, ti_ag4, ti_ag9, ti_ag32, ti_fl97_0, ti_fl97_1, ti_fl97_2, ti_fl177_0, ti_fl177_1, ti_fl177_2, ti_hb132, ti_hb145, ti_hb146, ti_pl177, ti_sb32, ti_sb146, ti_sl32, ti_sl146, ti_sz4, ti_sz32, ti_zr177, evD, evV, h1, Int.reduceEq, Int.reduceLT, Int.reduceLE, hg, hl, h0t, hnff, in_111] at hF
        subst hF
        repeat' (first | with_reducible (first | refine And.intro ?_ ?_ | intro _ | refine AWp_seq ?_ | refine AWp_block ?_ | (refine hKv _ _ (AWp_nop ?_); clear hKv Kv) | (refine hKA ?_; clear hKA hKB KA KB) | (refine hKB ?_; clear hKA hKB KA KB) | refine AWp_skipN ?_ | refine AWp_exitO (by repeat (first | exact Out.hit | apply Out.thenA | apply Out.out rfl)) ?_) | ((first | with_reducible (first | (refine hKv _ _ ?_; clear hKv Kv) | ((first | refine AWp_regC mu_111 ks_111 ?_ | refine AWp_drawX xd_111 mu_111 ks_111 vw_111 (by decide) ti_mixed (by kernel_rfl) ?_ | refine AWp_regE mu_111 ks_111 ?_ | refine AWp_drawXE xd_111 mu_111 ks_111 vw_111 (by decide) ti_mixed (by kernel_rfl) ?_); intro Kv hKv) | refine AWp_retR ?_) | refine checkName_A x.nm (by omega) _ _ ?_ | refine QCall_of (checkName_A x.nm (by omega) _ _ (Two_intro _ _)) ?_ | refine checkText_A x.vl (by omega) _ _ ?_ | refine QCall_of (checkText_A x.vl (by omega) _ _ (Two_intro _ _)) ?_); try simp (dsimp := false) only [go_sem, Nat.reduceAdd, Nat.reduceBEq, Nat.reduceEqDiff, Nat.reduceLT, Nat.reduceLeDiff, Nat.reduceMul, Int.reduceToNat, reduceCtorEq, ↓reduceIte, Tryd.ntmps111, Tryd.results111, ks_111, mu_111, xd_111, vw_111, ti_ag3, ti_ag4, ti_ag9, ti_ag32, ti_fl97_0, ti_fl97_1, ti_fl97_2, ti_fl177_0, ti_fl177_1, ti_fl177_2, ti_hb132, ti_hb145, ti_hb146, ti_pl177, ti_sb32, ti_sb146, ti_sl32, ti_sl146, ti_sz4, ti_sz32, ti_zr177, evD, evV, h1, Int.reduceEq, Int.reduceLT, Int.reduceLE, hg, hl, h0t, hnff]) | (refine AWp_condC rfl ?_; intro KA KB hKA hKB; try simp only [onB_true, onB_false, onB_dec, onB_ndec, onB_not, onB_and, onB_or]) | (refine AWp_condA rfl ?_ ?_) | with_reducible (first | refine onB_of ?_ ?_ | rfl) | omega)
        all_goals first
          | omega
          | exact bad_ret hk rfl (by first | decide | assumption)
    · rw [if_neg hfi] at hk
      obtain rfl : first = false := by simpa using hfi
      refine ACalls_of Tryd.func111 rfl in_111 (Nat.le_of_ble_eq_true rfl) ?_
      intro F hF
      simp (dsimp := false) only [go_sem, Nat.reduceAdd, Nat.reduceBEq, Nat.reduceEqDiff, Nat.reduceLT, Nat.reduceLeDiff, Nat.reduceMul, Int.reduceToNat, reduceCtorEq, ↓reduceIte, Tryd.ntmps111, Tryd.results111, ks_111, mu_111, xd_111, vw_111, ti_ag3, ti_ag4, ti_ag9, ti_ag32, ti_fl97_0, ti_fl97_1, ti_fl97_2, ti_fl177_0, ti_fl177_1, ti_fl177_2, ti_hb132, ti_hb145, ti_hb146, ti_pl177, ti_sb32, ti_sb146, ti_sl32, ti_sl146, ti_sz4, ti_sz32, ti_zr177, evD, evV, h1, Int.reduceEq, Int.reduceLT, Int.reduceLE, hg, hl, h0t, in_111] at hF
      subst hF
      repeat' (first | with_reducible (first | refine And.intro ?_ ?_ | intro _ | refine AWp_seq ?_ | refine AWp_block ?_ | (refine hKv _ _ (AWp_nop ?_); clear hKv Kv) | (refine hKA ?_; clear hKA hKB KA KB) | (refine hKB ?_; clear hKA hKB KA KB) | refine AWp_skipN ?_ | refine AWp_exitO (by repeat (first | exact Out.hit | apply Out.thenA | apply Out.out rfl)) ?_) | ((first | with_reducible (first | (refine hKv _ _ ?_; clear hKv Kv) | ((first | refine AWp_regC mu_111 ks_111 ?_ | refine AWp_drawX xd_111 mu_111 ks_111 vw_111 (by decide) ti_mixed (by kernel_rfl) ?_ | refine AWp_regE mu_111 ks_111 ?_ | refine AWp_drawXE xd_111 mu_111 ks_111 vw_111 (by decide) ti_mixed (by kernel_rfl) ?_); intro Kv hKv) | refine AWp_retR ?_) | refine checkName_A x.nm (by omega) _ _ ?_ | refine QCall_of (checkName_A x.nm (by omega) _ _ (Two_intro _ _)) ?_ | refine checkText_A x.vl (by omega) _ _ ?_ | refine QCall_of (checkText_A x.vl (by omega) _ _ (Two_intro _ _)) ?_); try simp (dsimp := false) only [go_sem, Nat.reduceAdd, Nat.reduceBEq, Nat.reduceEqDiff, Nat.reduceLT, Nat.reduceLeDiff, Nat.reduceMul, Int.reduceToNat, reduceCtorEq, ↓reduceIte, Tryd.ntmps111, Tryd.results111, ks_111, mu_111, xd_111, vw_111, ti_ag3, ti_ag4, ti_ag9, ti_ag32, ti_fl97_0, ti_fl97_1, ti_fl97_2, ti_fl177_0, ti_fl177_1, ti_fl177_2, ti_hb132, ti_hb145, ti_hb146, ti_pl177, ti_sb32, ti_sb146, ti_sl32, ti_sl146, ti_sz4, ti_sz32, ti_zr177, evD, evV, h1, Int.reduceEq, Int.reduceLT, Int.reduceLE, hg, hl, h0t]) | (refine AWp_condC rfl ?_; intro KA KB hKA hKB; try simp only [onB_true, onB_false, onB_dec, onB_ndec, onB_not, onB_and, onB_or]) | (refine AWp_condA rfl ?_ ?_) | with_reducible (first | refine onB_of ?_ ?_ | rfl) | omega)
      all_goals first
        | omega
        | exact bad_ret hk rfl (by first | decide | assumption)
  · rw [if_neg h0] at hk
    have h0f : ((s.n : Int) = 0) = False := eq_false (by first | exact h0 | omega)
    obtain ⟨c, htop, hat⟩ := ho.top h0
    have hgx : ∀ X, (H.set id X)[id]? = some X := fun X => get_self hg X
    have hss : ∀ X Y, (H.set id X).set id Y = H.set id Y := fun X Y => List.set_set ..
    have hil := lt_of_get htop
    have hri : ∀ X, (rows.set ((s.n : Int) - 1).toNat X)[((s.n : Int) - 1).toNat]? = some X := fun X => by rw [List.getElem?_set_self hil]
    have hrr : ∀ X Y, (rows.set ((s.n : Int) - 1).toNat X).set ((s.n : Int) - 1).toNat Y = rows.set ((s.n : Int) - 1).toNat Y := fun X Y => List.set_set ..
    have hpos : (0 < (s.n : Int)) = True := eq_true (by omega)
    have hge : ((0 : Int) ≤ (s.n : Int) - 1) = True := eq_true (by omega)
    have hlt : ((s.n : Int) - 1 < (s.n : Int)) = True := eq_true (by omega)
    by_cases hnf : nameFault x.nm = 0
    · rw [if_pos hnf] at hk
      have hnft : (nameFault x.nm = 0) = True := eq_true (by first | exact hnf | omega)
      by_cases hv : x.vl = []
      · rw [if_pos hv] at hk
        have hvt : (x.vl = []) = True := eq_true (by first | exact hv | omega)
        by_cases h20 : s.n = 20
        · rw [if_pos h20] at hk
          have h20t : ((s.n : Int) = 20) = True := eq_true (by first | exact h20 | omega)
          refine ACalls_of Tryd.func111 rfl in_111 (Nat.le_of_ble_eq_true rfl) ?_
          intro F hF
          simp (dsimp := false) only [go_sem, Nat.reduceAdd, Nat.reduceBEq, Nat.reduceEqDiff, Nat.reduceLT, Nat.reduceLeDiff, Nat.reduceMul, Int.reduceToNat, reduceCtorEq, ↓reduceIte, Tryd.ntmps111, Tryd.results111, ks_111, mu_111, xd_111, vw_111, ti_ag3, ti_ag4, ti_ag9, ti_ag32, ti_fl97_0, ti_fl97_1, ti_fl97_2, ti_fl177_0, ti_fl177_1, ti_fl177_2, ti_hb132, ti_hb145, ti_hb146, ti_pl177, ti_sb32, ti_sb146, ti_sl32, ti_sl146, ti_sz4, ti_sz32, ti_zr177, evD, evV, h1, Int.reduceEq, Int.reduceLT, Int.reduceLE, hg, hl, h0f, htop, hgx, hss, hri, hrr, hpos, hge, hlt, List.length_set, hnft, hvt, h20t, in_111] at hF
          subst hF
          repeat' (first | with_reducible (first | refine And.intro ?_ ?_ | intro _ | refine AWp_seq ?_ | refine AWp_block ?_ | (refine hKv _ _ (AWp_nop ?_); clear hKv Kv) | (refine hKA ?_; clear hKA hKB KA KB) | (refine hKB ?_; clear hKA hKB KA KB) | refine AWp_skipN ?_ | refine AWp_exitO (by repeat (first | exact Out.hit | apply Out.thenA | apply Out.out rfl)) ?_) | ((first | with_reducible (first | (refine hKv _ _ ?_; clear hKv Kv) | ((first | refine AWp_regC mu_111 ks_111 ?_ | refine AWp_drawX xd_111 mu_111 ks_111 vw_111 (by decide) ti_mixed (by kernel_rfl) ?_ | refine AWp_regE mu_111 ks_111 ?_ | refine AWp_drawXE xd_111 mu_111 ks_111 vw_111 (by decide) ti_mixed (by kernel_rfl) ?_); intro Kv hKv) | refine AWp_retR ?_) | refine checkName_A x.nm (by omega) _ _ ?_ | refine QCall_of (checkName_A x.nm (by omega) _ _ (Two_intro _ _)) ?_ | refine checkText_A x.vl (by omega) _ _ ?_ | refine QCall_of (checkText_A x.vl (by omega) _ _ (Two_intro _ _)) ?_); try simp (dsimp := false) only [go_sem, Nat.reduceAdd, Nat.reduceBEq, Nat.reduceEqDiff, Nat.reduceLT, Nat.reduceLeDiff, Nat.reduceMul, Int.reduceToNat, reduceCtorEq, ↓reduceIte, Tryd.ntmps111, Tryd.results111, ks_111, mu_111, xd_111, vw_111, ti_ag3, ti_ag4, ti_ag9, ti_ag32, ti_fl97_0, ti_fl97_1, ti_fl97_2, ti_fl177_0, ti_fl177_1, ti_fl177_2, ti_hb132, ti_hb145, ti_hb146, ti_pl177, ti_sb32, ti_sb146, ti_sl32, ti_sl146, ti_sz4, ti_sz32, ti_zr177, evD, evV, h1, Int.reduceEq, Int.reduceLT, Int.reduceLE, hg, hl, h0f, htop, hgx, hss, hri, hrr, hpos, hge, hlt, List.length_set, hnft, hvt, h20t]) | (refine AWp_condC rfl ?_; intro KA KB hKA hKB; try simp only [onB_true, onB_false, onB_dec, onB_ndec, onB_not, onB_and, onB_or]) | (refine AWp_condA rfl ?_ ?_) | with_reducible (first | refine onB_of ?_ ?_ | rfl) | omega)
          all_goals first
            | omega
            | exact bad_ret hk rfl (by first | decide | assumption)
        · rw [if_neg h20] at hk
          have h20f : ((s.n : Int) = 20) = False := eq_false (by first | exact h20 | omega)
          rw [if_pos (by omega : 0 < s.n), mark_eq htop] at hk
          refine ACalls_of Tryd.func111 rfl in_111 (Nat.le_of_ble_eq_true rfl) ?_
          intro F hF
          simp (dsimp := false) only [go_sem, Nat.reduceAdd, Nat.reduceBEq, Nat.reduceEqDiff, Nat.reduceLT, Nat.reduceLeDiff, Nat.reduceMul, Int.reduceToNat, reduceCtorEq, ↓reduceIte, Tryd.ntmps111, Tryd.results111, ks_111, mu_111, xd_111, vw_111, ti_ag3, ti_ag4, ti_ag9, ti_ag32, ti_fl97_0, ti_fl97_1, ti_fl97_2, ti_fl177_0, ti_fl177_1, ti_fl177_2, ti_hb132, ti_hb145, ti_hb146, ti_pl177, ti_sb32, ti_sb146, ti_sl32, ti_sl146, ti_sz4, ti_sz32, ti_zr177, evD, evV, h1, Int.reduceEq, Int.reduceLT, Int.reduceLE, hg, hl, h0f, htop, hgx, hss, hri, hrr, hpos, hge, hlt, List.length_set, hnft, hvt, h20f, in_111] at hF
          subst hF
          repeat' (first | with_reducible (first | refine And.intro ?_ ?_ | intro _ | refine AWp_seq ?_ | refine AWp_block ?_ | (refine hKv _ _ (AWp_nop ?_); clear hKv Kv) | (refine hKA ?_; clear hKA hKB KA KB) | (refine hKB ?_; clear hKA hKB KA KB) | refine AWp_skipN ?_ | refine AWp_exitO (by repeat (first | exact Out.hit | apply Out.thenA | apply Out.out rfl)) ?_) | ((first | with_reducible (first | (refine hKv _ _ ?_; clear hKv Kv) | ((first | refine AWp_regC mu_111 ks_111 ?_ | refine AWp_drawX xd_111 mu_111 ks_111 vw_111 (by decide) ti_mixed (by kernel_rfl) ?_ | refine AWp_regE mu_111 ks_111 ?_ | refine AWp_drawXE xd_111 mu_111 ks_111 vw_111 (by decide) ti_mixed (by kernel_rfl) ?_); intro Kv hKv) | refine AWp_retR ?_) | refine checkName_A x.nm (by omega) _ _ ?_ | refine QCall_of (checkName_A x.nm (by omega) _ _ (Two_intro _ _)) ?_ | refine checkText_A x.vl (by omega) _ _ ?_ | refine QCall_of (checkText_A x.vl (by omega) _ _ (Two_intro _ _)) ?_); try simp (dsimp := false) only [go_sem, Nat.reduceAdd, Nat.reduceBEq, Nat.reduceEqDiff, Nat.reduceLT, Nat.reduceLeDiff, Nat.reduceMul, Int.reduceToNat, reduceCtorEq, ↓reduceIte, Tryd.ntmps111, Tryd.results111, ks_111, mu_111, xd_111, vw_111, ti_ag3, ti_ag4, ti_ag9, ti_ag32, ti_fl97_0, ti_fl97_1, ti_fl97_2, ti_fl177_0, ti_fl177_1, ti_fl177_2, ti_hb132, ti_hb145, ti_hb146, ti_pl177, ti_sb32, ti_sb146, ti_sl32, ti_sl146, ti_sz4, ti_sz32, ti_zr177, evD, evV, h1, Int.reduceEq, Int.reduceLT, Int.reduceLE, hg, hl, h0f, htop, hgx, hss, hri, hrr, hpos, hge, hlt, List.length_set, hnft, hvt, h20f]) | (refine AWp_condC rfl ?_; intro KA KB hKA hKB; try simp only [onB_true, onB_false, onB_dec, onB_ndec, onB_not, onB_and, onB_or]) | (refine AWp_condA rfl ?_ ?_) | with_reducible (first | refine onB_of ?_ ?_ | rfl) | omega)
          all_goals first
            | omega
            | exact out_ret (hk.2 rfl) hg (ob_app (v := 0) (ob_set hB (bel_mark (ob_get hB htop))) (bel_new _))
      · rw [if_neg hv] at hk
        have hvf : (x.vl = []) = False := eq_false (by first | exact hv | omega)
        refine ACalls_of Tryd.func111 rfl in_111 (Nat.le_of_ble_eq_true rfl) ?_
        intro F hF
        simp (dsimp := false) only [go_sem, Nat.reduceAdd, Nat.reduceBEq, Nat.reduceEqDiff, Nat.reduceLT, Nat.reduceLeDiff, Nat.reduceMul, Int.reduceToNat, reduceCtorEq, ↓reduceIte, Tryd.ntmps111, Tryd.results111, ks_111, mu_111, xd_111, vw_111, ti_ag3, ti_ag4, ti_ag9, ti_ag32, ti_fl97_0, ti_fl97_1, ti_fl97_2, ti_fl177_0, ti_fl177_1, ti_fl177_2, ti_hb132, ti_hb145, ti_hb146, ti_pl177, ti_sb32, ti_sb146, ti_sl32, ti_sl146, ti_sz4, ti_sz32, ti_zr177, evD, evV, h1, Int.reduceEq, Int.reduceLT, Int.reduceLE, hg, hl, h0f, htop, hgx, hss, hri, hrr, hpos, hge, hlt, List.length_set, hnft, hvf, in_111] at hF
        subst hF
        repeat' (first | with_reducible (first | refine And.intro ?_ ?_ | intro _ | refine AWp_seq ?_ | refine AWp_block ?_ | (refine hKv _ _ (AWp_nop ?_); clear hKv Kv) | (refine hKA ?_; clear hKA hKB KA KB) | (refine hKB ?_; clear hKA hKB KA KB) | refine AWp_skipN ?_ | refine AWp_exitO (by repeat (first | exact Out.hit | apply Out.thenA | apply Out.out rfl)) ?_) | ((first | with_reducible (first | (refine hKv _ _ ?_; clear hKv Kv) | ((first | refine AWp_regC mu_111 ks_111 ?_ | refine AWp_drawX xd_111 mu_111 ks_111 vw_111 (by decide) ti_mixed (by kernel_rfl) ?_ | refine AWp_regE mu_111 ks_111 ?_ | refine AWp_drawXE xd_111 mu_111 ks_111 vw_111 (by decide) ti_mixed (by kernel_rfl) ?_); intro Kv hKv) | refine AWp_retR ?_) | refine checkName_A x.nm (by omega) _ _ ?_ | refine QCall_of (checkName_A x.nm (by omega) _ _ (Two_intro _ _)) ?_ | refine checkText_A x.vl (by omega) _ _ ?_ | refine QCall_of (checkText_A x.vl (by omega) _ _ (Two_intro _ _)) ?_); try simp (dsimp := false) only [go_sem, Nat.reduceAdd, Nat.reduceBEq, Nat.reduceEqDiff, Nat.reduceLT, Nat.reduceLeDiff, Nat.reduceMul, Int.reduceToNat, reduceCtorEq, ↓reduceIte, Tryd.ntmps111, Tryd.results111, ks_111, mu_111, xd_111, vw_111, ti_ag3, ti_ag4, ti_ag9, ti_ag32, ti_fl97_0, ti_fl97_1, ti_fl97_2, ti_fl177_0, ti_fl177_1, ti_fl177_2, ti_hb132, ti_hb145, ti_hb146, ti_pl177, ti_sb32, ti_sb146, ti_sl32, ti_sl146, ti_sz4, ti_sz32, ti_zr177, evD, evV, h1, Int.reduceEq, Int.reduceLT, Int.reduceLE, hg, hl, h0f, htop, hgx, hss, hri, hrr, hpos, hge, hlt, List.length_set, hnft, hvf]) | (refine AWp_condC rfl ?_; intro KA KB hKA hKB; try simp only [onB_true, onB_false, onB_dec, onB_ndec, onB_not, onB_and, onB_or]) | (refine AWp_condA rfl ?_ ?_) | with_reducible (first | refine onB_of ?_ ?_ | rfl) | omega)
        all_goals first
          | omega
          | exact bad_ret hk rfl (by first | decide | assumption)
    · rw [if_neg hnf] at hk
      have hnff : (nameFault x.nm = 0) = False := eq_false (by first | exact hnf | omega)
      refine ACalls_of Tryd.func111 rfl in_111 (Nat.le_of_ble_eq_true rfl) ?_
      intro F hF
      simp (dsimp := false) only [go_sem, Nat.reduceAdd, Nat.reduceBEq, Nat.reduceEqDiff, Nat.reduceLT, Nat.reduceLeDiff, Nat.reduceMul, Int.reduceToNat, reduceCtorEq, ↓reduceIte, Tryd.ntmps111, Tryd.results111, ks_111, mu_111, xd_111, vw_111, ti_ag3, ti_ag4, ti_ag9, ti_ag32, ti_fl97_0, ti_fl97_1, ti_fl97_2, ti_fl177_0, ti_fl177_1, ti_fl177_2, ti_hb132, ti_hb145, ti_hb146, ti_pl177, ti_sb32, ti_sb146, ti_sl32, ti_sl146, ti_sz4, ti_sz32, ti_zr177, evD, evV, h1, Int.reduceEq, Int.reduceLT, Int.reduceLE, hg, hl, h0f, htop, hgx, hss, hri, hrr, hpos, hge, hlt, List.length_set, hnff, in_111] at hF
      subst hF
      repeat' (first | with_reducible (first | refine And.intro ?_ ?_ | intro _ | refine AWp_seq ?_ | refine AWp_block ?_ | (refine hKv _ _ (AWp_nop ?_); clear hKv Kv) | (refine hKA ?_; clear hKA hKB KA KB) | (refine hKB ?_; clear hKA hKB KA KB) | refine AWp_skipN ?_ | refine AWp_exitO (by repeat (first | exact Out.hit | apply Out.thenA | apply Out.out rfl)) ?_) | ((first | with_reducible (first | (refine hKv _ _ ?_; clear hKv Kv) | ((first | refine AWp_regC mu_111 ks_111 ?_ | refine AWp_drawX xd_111 mu_111 ks_111 vw_111 (by decide) ti_mixed (by kernel_rfl) ?_ | refine AWp_regE mu_111 ks_111 ?_ | refine AWp_drawXE xd_111 mu_111 ks_111 vw_111 (by decide) ti_mixed (by kernel_rfl) ?_); intro Kv hKv) | refine AWp_retR ?_) | refine checkName_A x.nm (by omega) _ _ ?_ | refine QCall_of (checkName_A x.nm (by omega) _ _ (Two_intro _ _)) ?_ | refine checkText_A x.vl (by omega) _ _ ?_ | refine QCall_of (checkText_A x.vl (by omega) _ _ (Two_intro _ _)) ?_); try simp (dsimp := false) only [go_sem, Nat.reduceAdd, Nat.reduceBEq, Nat.reduceEqDiff, Nat.reduceLT, Nat.reduceLeDiff, Nat.reduceMul, Int.reduceToNat, reduceCtorEq, ↓reduceIte, Tryd.ntmps111, Tryd.results111, ks_111, mu_111, xd_111, vw_111, ti_ag3, ti_ag4, ti_ag9, ti_ag32, ti_fl97_0, ti_fl97_1, ti_fl97_2, ti_fl177_0, ti_fl177_1, ti_fl177_2, ti_hb132, ti_hb145, ti_hb146, ti_pl177, ti_sb32, ti_sb146, ti_sl32, ti_sl146, ti_sz4, ti_sz32, ti_zr177, evD, evV, h1, Int.reduceEq, Int.reduceLT, Int.reduceLE, hg, hl, h0f, htop, hgx, hss, hri, hrr, hpos, hge, hlt, List.length_set, hnff]) | (refine AWp_condC rfl ?_; intro KA KB hKA hKB; try simp only [onB_true, onB_false, onB_dec, onB_ndec, onB_not, onB_and, onB_or]) | (refine AWp_condA rfl ?_ ?_) | with_reducible (first | refine onB_of ?_ ?_ | rfl) | omega)
      all_goals first
        | omega
        | exact bad_ret hk rfl (by first | decide | assumption)
theorem event_3 (s : Es) (x : Ev) (first : Bool) (id ver : Nat) (rows : List (List V)) (H : Heap) (K : V → Heap → Prop) (ho : OpenAt H id ver s rows) (hB : ObBel H.length (.row ver 177 3 rows)) (hn : s.n ≤ 20) (hx : x.nm.length + x.vl.length ≤ 1048576) (h1 : x.k = 3)
    (hk : (evF1 s x first ≠ 0 → K (evBad (evF1 s x first)) H) ∧ (evF1 s x first = 0 → K (evOut id ver) (H.set id (.row ver 177 3 (mark rows s.n true))))) :
    ACalls Tryd.prog 111 [.os id ver, evV x, .d (.b first)] H K := by
  have hg := ho.get
  have hl := ho.len
  have hid := lt_of_get hg
  rw [evF1_3 h1] at hk
  by_cases h0 : s.n = 0
  · rw [if_pos h0] at hk
    have h0t : ((s.n : Int) = 0) = True := eq_true (by first | exact h0 | omega)
    refine ACalls_of Tryd.func111 rfl in_111 (Nat.le_of_ble_eq_true rfl) ?_
    intro F hF
    simp (dsimp := false) only [go_sem, Nat.reduceAdd, Nat.reduceBEq, Nat.reduceEqDiff, Nat.reduceLT, Nat.reduceLeDiff, Nat.reduceMul, Int.reduceToNat, reduceCtorEq, ↓reduceIte, Tryd.ntmps111, Tryd.results111, ks_111, mu_111, xd_111, vw_111, ti_ag3, ti_ag4, ti_ag9, ti_ag32, ti_fl97_0, ti_fl97_1, ti_fl97_2, ti_fl177_0, ti_fl177_1, ti_fl177_2, ti_hb132, ti_hb145, ti_hb146, ti_pl177, ti_sb32, ti_sb146, ti_sl32, ti_sl146, ti_sz4, ti_sz32, ti_zr177, evD, evV, h1, Int.reduceEq, Int.reduceLT, Int.reduceLE, hg, hl, h0t, in_111] at hF
    subst hF
    repeat' (first | with_reducible (first | refine And.intro ?_ ?_ | intro _ | refine AWp_seq ?_ | refine AWp_block ?_ | (refine hKv _ _ (AWp_nop ?_); clear hKv Kv) | (refine hKA ?_; clear hKA hKB KA KB) | (refine hKB ?_; clear hKA hKB KA KB) | refine AWp_skipN ?_ | refine AWp_exitO (by repeat (first | exact Out.hit | apply Out.thenA | apply Out.out rfl)) ?_) | ((first | with_reducible (first | (refine hKv _ _ ?_; clear hKv Kv) | ((first | refine AWp_regC mu_111 ks_111 ?_ | refine AWp_drawX xd_111 mu_111 ks_111 vw_111 (by decide) ti_mixed (by kernel_rfl) ?_ | refine AWp_regE mu_111 ks_111 ?_ | refine AWp_drawXE xd_111 mu_111 ks_111 vw_111 (by decide) ti_mixed (by kernel_rfl) ?_); intro Kv hKv) | refine AWp_retR ?_) | refine checkName_A x.nm (by omega) _ _ ?_ | refine QCall_of (checkName_A x.nm (by omega) _ _ (Two_intro _ _)) ?_ | refine checkText_A x.vl (by omega) _ _ ?_ | refine QCall_of (checkText_A x.vl (by omega) _ _ (Two_intro _ _)) ?_); try simp (dsimp := false) only [go_sem, Nat.reduceAdd, Nat.reduceBEq, Nat.reduceEqDiff, Nat.reduceLT, Nat.reduceLeDiff, Nat.reduceMul, Int.reduceToNat, reduceCtorEq, ↓reduceIte, Tryd.ntmps111, Tryd.results111, ks_111, mu_111, xd_111, vw_111, ti_ag3, ti_ag4, ti_ag9, ti_ag32, ti_fl97_0, ti_fl97_1, ti_fl97_2, ti_fl177_0, ti_fl177_1, ti_fl177_2, ti_hb132, ti_hb145, ti_hb146, ti_pl177, ti_sb32, ti_sb146, ti_sl32, ti_sl146, ti_sz4, ti_sz32, ti_zr177, evD, evV, h1, Int.reduceEq, Int.reduceLT, Int.reduceLE, hg, hl, h0t]) | (refine AWp_condC rfl ?_; intro KA KB hKA hKB; try simp only [onB_true, onB_false, onB_dec, onB_ndec, onB_not, onB_and, onB_or]) | (refine AWp_condA rfl ?_ ?_) | with_reducible (first | refine onB_of ?_ ?_ | rfl) | omega)
    all_goals first
      | omega
      | exact bad_ret hk rfl (by first | decide | assumption)
  · rw [if_neg h0] at hk
    have h0f : ((s.n : Int) = 0) = False := eq_false (by first | exact h0 | omega)
    obtain ⟨c, htop, hat⟩ := ho.top h0
    have hgx : ∀ X, (H.set id X)[id]? = some X := fun X => get_self hg X
    have hss : ∀ X Y, (H.set id X).set id Y = H.set id Y := fun X Y => List.set_set ..
    have hil := lt_of_get htop
    have hri : ∀ X, (rows.set ((s.n : Int) - 1).toNat X)[((s.n : Int) - 1).toNat]? = some X := fun X => by rw [List.getElem?_set_self hil]
    have hrr : ∀ X Y, (rows.set ((s.n : Int) - 1).toNat X).set ((s.n : Int) - 1).toNat Y = rows.set ((s.n : Int) - 1).toNat Y := fun X Y => List.set_set ..
    have hpos : (0 < (s.n : Int)) = True := eq_true (by omega)
    have hge : ((0 : Int) ≤ (s.n : Int) - 1) = True := eq_true (by omega)
    have hlt : ((s.n : Int) - 1 < (s.n : Int)) = True := eq_true (by omega)
    rw [mark_eq htop] at hk
    by_cases hnm : x.nm = []
    · rw [if_pos hnm] at hk
      have hnmt : (x.nm = []) = True := eq_true (by first | exact hnm | omega)
      by_cases htf : textFault x.vl = 0
      · rw [if_pos htf] at hk
        have htft : (textFault x.vl = 0) = True := eq_true (by first | exact htf | omega)
        by_cases hv : x.vl = []
        · rw [if_pos hv] at hk
          have hvt : (x.vl = []) = True := eq_true (by first | exact hv | omega)
          refine ACalls_of Tryd.func111 rfl in_111 (Nat.le_of_ble_eq_true rfl) ?_
          intro F hF
          simp (dsimp := false) only [go_sem, Nat.reduceAdd, Nat.reduceBEq, Nat.reduceEqDiff, Nat.reduceLT, Nat.reduceLeDiff, Nat.reduceMul, Int.reduceToNat, reduceCtorEq, ↓reduceIte, Tryd.ntmps111, Tryd.results111, ks_111, mu_111, xd_111, vw_111, ti_ag3, ti_ag4, ti_ag9, ti_ag32, ti_fl97_0, ti_fl97_1, ti_fl97_2, ti_fl177_0, ti_fl177_1, ti_fl177_2, ti_hb132, ti_hb145, ti_hb146, ti_pl177, ti_sb32, ti_sb146, ti_sl32, ti_sl146, ti_sz4, ti_sz32, ti_zr177, evD, evV, h1, Int.reduceEq, Int.reduceLT, Int.reduceLE, hg, hl, h0f, htop, hgx, hss, hri, hrr, hpos, hge, hlt, List.length_set, hnmt, htft, hvt, in_111] at hF
          subst hF
          repeat' (first | with_reducible (first | refine And.intro ?_ ?_ | intro _ | refine AWp_seq ?_ | refine AWp_block ?_ | (refine hKv _ _ (AWp_nop ?_); clear hKv Kv) | (refine hKA ?_; clear hKA hKB KA KB) | (refine hKB ?_; clear hKA hKB KA KB) | refine AWp_skipN ?_ | refine AWp_exitO (by repeat (first | exact Out.hit | apply Out.thenA | apply Out.out rfl)) ?_) | ((first | with_reducible (first | (refine hKv _ _ ?_; clear hKv Kv) | ((first | refine AWp_regC mu_111 ks_111 ?_ | refine AWp_drawX xd_111 mu_111 ks_111 vw_111 (by decide) ti_mixed (by kernel_rfl) ?_ | refine AWp_regE mu_111 ks_111 ?_ | refine AWp_drawXE xd_111 mu_111 ks_111 vw_111 (by decide) ti_mixed (by kernel_rfl) ?_); intro Kv hKv) | refine AWp_retR ?_) | refine checkName_A x.nm (by omega) _ _ ?_ | refine QCall_of (checkName_A x.nm (by omega) _ _ (Two_intro _ _)) ?_ | refine checkText_A x.vl (by omega) _ _ ?_ | refine QCall_of (checkText_A x.vl (by omega) _ _ (Two_intro _ _)) ?_); try simp (dsimp := false) only [go_sem, Nat.reduceAdd, Nat.reduceBEq, Nat.reduceEqDiff, Nat.reduceLT, Nat.reduceLeDiff, Nat.reduceMul, Int.reduceToNat, reduceCtorEq, ↓reduceIte, Tryd.ntmps111, Tryd.results111, ks_111, mu_111, xd_111, vw_111, ti_ag3, ti_ag4, ti_ag9, ti_ag32, ti_fl97_0, ti_fl97_1, ti_fl97_2, ti_fl177_0, ti_fl177_1, ti_fl177_2, ti_hb132, ti_hb145, ti_hb146, ti_pl177, ti_sb32, ti_sb146, ti_sl32, ti_sl146, ti_sz4, ti_sz32, ti_zr177, evD, evV, h1, Int.reduceEq, Int.reduceLT, Int.reduceLE, hg, hl, h0f, htop, hgx, hss, hri, hrr, hpos, hge, hlt, List.length_set, hnmt, htft, hvt]) | (refine AWp_condC rfl ?_; intro KA KB hKA hKB; try simp only [onB_true, onB_false, onB_dec, onB_ndec, onB_not, onB_and, onB_or]) | (refine AWp_condA rfl ?_ ?_) | with_reducible (first | refine onB_of ?_ ?_ | rfl) | omega)
          all_goals first
            | omega
            | exact bad_ret hk rfl (by first | decide | assumption)
        · rw [if_neg hv] at hk
          have hvf : (x.vl = []) = False := eq_false (by first | exact hv | omega)
          by_cases ht : s.txt = true
          · rw [if_pos ht] at hk
            refine ACalls_of Tryd.func111 rfl in_111 (Nat.le_of_ble_eq_true rfl) ?_
            intro F hF
            simp (dsimp := false) only [go_sem, Nat.reduceAdd, Nat.reduceBEq, Nat.reduceEqDiff, Nat.reduceLT, Nat.reduceLeDiff, Nat.reduceMul, Int.reduceToNat, reduceCtorEq, ↓reduceIte, Tryd.ntmps111, Tryd.results111, ks_111, mu_111, xd_111, vw_111, ti_ag3, ti_ag4, ti_ag9, ti_ag32, ti_fl97_0, ti_fl97_1, ti_fl97_2, ti_fl177_0, ti_fl177_1, ti_fl177_2, ti_hb132, ti_hb145, ti_hb146, ti_pl177, ti_sb32, ti_sb146, ti_sl32, ti_sl146, ti_sz4, ti_sz32, ti_zr177, evD, evV, h1, Int.reduceEq, Int.reduceLT, Int.reduceLE, hg, hl, h0f, htop, hgx, hss, hri, hrr, hpos, hge, hlt, List.length_set, hnmt, htft, hvf, ht, in_111] at hF
            subst hF
            repeat' (first | with_reducible (first | refine And.intro ?_ ?_ | intro _ | refine AWp_seq ?_ | refine AWp_block ?_ | (refine hKv _ _ (AWp_nop ?_); clear hKv Kv) | (refine hKA ?_; clear hKA hKB KA KB) | (refine hKB ?_; clear hKA hKB KA KB) | refine AWp_skipN ?_ | refine AWp_exitO (by repeat (first | exact Out.hit | apply Out.thenA | apply Out.out rfl)) ?_) | ((first | with_reducible (first | (refine hKv _ _ ?_; clear hKv Kv) | ((first | refine AWp_regC mu_111 ks_111 ?_ | refine AWp_drawX xd_111 mu_111 ks_111 vw_111 (by decide) ti_mixed (by kernel_rfl) ?_ | refine AWp_regE mu_111 ks_111 ?_ | refine AWp_drawXE xd_111 mu_111 ks_111 vw_111 (by decide) ti_mixed (by kernel_rfl) ?_); intro Kv hKv) | refine AWp_retR ?_) | refine checkName_A x.nm (by omega) _ _ ?_ | refine QCall_of (checkName_A x.nm (by omega) _ _ (Two_intro _ _)) ?_ | refine checkText_A x.vl (by omega) _ _ ?_ | refine QCall_of (checkText_A x.vl (by omega) _ _ (Two_intro _ _)) ?_); try simp (dsimp := false) only [go_sem, Nat.reduceAdd, Nat.reduceBEq, Nat.reduceEqDiff, Nat.reduceLT, Nat.reduceLeDiff, Nat.reduceMul, Int.reduceToNat, reduceCtorEq, ↓reduceIte, Tryd.ntmps111, Tryd.results111, ks_111, mu_111, xd_111, vw_111, ti_ag3, ti_ag4, ti_ag9, ti_ag32, ti_fl97_0, ti_fl97_1, ti_fl97_2, ti_fl177_0, ti_fl177_1, ti_fl177_2, ti_hb132, ti_hb145, ti_hb146, ti_pl177, ti_sb32, ti_sb146, ti_sl32, ti_sl146, ti_sz4, ti_sz32, ti_zr177, evD, evV, h1, Int.reduceEq, Int.reduceLT, Int.reduceLE, hg, hl, h0f, htop, hgx, hss, hri, hrr, hpos, hge, hlt, List.length_set, hnmt, htft, hvf, ht]) | (refine AWp_condC rfl ?_; intro KA KB hKA hKB; try simp only [onB_true, onB_false, onB_dec, onB_ndec, onB_not, onB_and, onB_or]) | (refine AWp_condA rfl ?_ ?_) | with_reducible (first | refine onB_of ?_ ?_ | rfl) | omega)
            all_goals first
              | omega
              | exact bad_ret hk rfl (by first | decide | assumption)
          · rw [if_neg ht] at hk
            have htf : s.txt = false := by simpa using ht
            refine ACalls_of Tryd.func111 rfl in_111 (Nat.le_of_ble_eq_true rfl) ?_
            intro F hF
            simp (dsimp := false) only [go_sem, Nat.reduceAdd, Nat.reduceBEq, Nat.reduceEqDiff, Nat.reduceLT, Nat.reduceLeDiff, Nat.reduceMul, Int.reduceToNat, reduceCtorEq, ↓reduceIte, Tryd.ntmps111, Tryd.results111, ks_111, mu_111, xd_111, vw_111, ti_ag3, ti_ag4, ti_ag9, ti_ag32, ti_fl97_0, ti_fl97_1, ti_fl97_2, ti_fl177_0, ti_fl177_1, ti_fl177_2, ti_hb132, ti_hb145, ti_hb146, ti_pl177, ti_sb32, ti_sb146, ti_sl32, ti_sl146, ti_sz4, ti_sz32, ti_zr177, evD, evV, h1, Int.reduceEq, Int.reduceLT, Int.reduceLE, hg, hl, h0f, htop, hgx, hss, hri, hrr, hpos, hge, hlt, List.length_set, hnmt, htft, hvf, htf, in_111] at hF
            subst hF
            repeat' (first | with_reducible (first | refine And.intro ?_ ?_ | intro _ | refine AWp_seq ?_ | refine AWp_block ?_ | (refine hKv _ _ (AWp_nop ?_); clear hKv Kv) | (refine hKA ?_; clear hKA hKB KA KB) | (refine hKB ?_; clear hKA hKB KA KB) | refine AWp_skipN ?_ | refine AWp_exitO (by repeat (first | exact Out.hit | apply Out.thenA | apply Out.out rfl)) ?_) | ((first | with_reducible (first | (refine hKv _ _ ?_; clear hKv Kv) | ((first | refine AWp_regC mu_111 ks_111 ?_ | refine AWp_drawX xd_111 mu_111 ks_111 vw_111 (by decide) ti_mixed (by kernel_rfl) ?_ | refine AWp_regE mu_111 ks_111 ?_ | refine AWp_drawXE xd_111 mu_111 ks_111 vw_111 (by decide) ti_mixed (by kernel_rfl) ?_); intro Kv hKv) | refine AWp_retR ?_) | refine checkName_A x.nm (by omega) _ _ ?_ | refine QCall_of (checkName_A x.nm (by omega) _ _ (Two_intro _ _)) ?_ | refine checkText_A x.vl (by omega) _ _ ?_ | refine QCall_of (checkText_A x.vl (by omega) _ _ (Two_intro _ _)) ?_); try simp (dsimp := false) only [go_sem, Nat.reduceAdd, Nat.reduceBEq, Nat.reduceEqDiff, Nat.reduceLT, Nat.reduceLeDiff, Nat.reduceMul, Int.reduceToNat, reduceCtorEq, ↓reduceIte, Tryd.ntmps111, Tryd.results111, ks_111, mu_111, xd_111, vw_111, ti_ag3, ti_ag4, ti_ag9, ti_ag32, ti_fl97_0, ti_fl97_1, ti_fl97_2, ti_fl177_0, ti_fl177_1, ti_fl177_2, ti_hb132, ti_hb145, ti_hb146, ti_pl177, ti_sb32, ti_sb146, ti_sl32, ti_sl146, ti_sz4, ti_sz32, ti_zr177, evD, evV, h1, Int.reduceEq, Int.reduceLT, Int.reduceLE, hg, hl, h0f, htop, hgx, hss, hri, hrr, hpos, hge, hlt, List.length_set, hnmt, htft, hvf, htf]) | (refine AWp_condC rfl ?_; intro KA KB hKA hKB; try simp only [onB_true, onB_false, onB_dec, onB_ndec, onB_not, onB_and, onB_or]) | (refine AWp_condA rfl ?_ ?_) | with_reducible (first | refine onB_of ?_ ?_ | rfl) | omega)
            all_goals first
              | omega
              | exact out_ret (hk.2 rfl) hg (ob_set hB (bel_mark (ob_get hB htop)))
      · rw [if_neg htf] at hk
        have htff : (textFault x.vl = 0) = False := eq_false (by first | exact htf | omega)
        refine ACalls_of Tryd.func111 rfl in_111 (Nat.le_of_ble_eq_true rfl) ?_
        intro F hF
        simp (dsimp := false) only [go_sem, Nat.reduceAdd, Nat.reduceBEq, Nat.reduceEqDiff, Nat.reduceLT, Nat.reduceLeDiff, Nat.reduceMul, Int.reduceToNat, reduceCtorEq, ↓reduceIte, Tryd.ntmps111, Tryd.results111, ks_111, mu_111, xd_111, vw_111, ti_ag3, ti_ag4, ti_ag9, ti_ag32, ti_fl97_0, ti_fl97_1, ti_fl97_2, ti_fl177_0, ti_fl177_1, ti_fl177_2, ti_hb132, ti_hb145, ti_hb146, ti_pl177, ti_sb32, ti_sb146, ti_sl32, ti_sl146, ti_sz4, ti_sz32, ti_zr177, evD, evV, h1, Int.reduceEq, Int.reduceLT, Int.reduceLE, hg, hl, h0f, htop, hgx, hss, hri, hrr, hpos, hge, hlt, List.length_set, hnmt, htff, in_111] at hF
        subst hF
        repeat' (first | with_reducible (first | refine And.intro ?_ ?_ | intro _ | refine AWp_seq ?_ | refine AWp_block ?_ | (refine hKv _ _ (AWp_nop ?_); clear hKv Kv) | (refine hKA ?_; clear hKA hKB KA KB) | (refine hKB ?_; clear hKA hKB KA KB) | refine AWp_skipN ?_ | refine AWp_exitO (by repeat (first | exact Out.hit | apply Out.thenA | apply Out.out rfl)) ?_) | ((first | with_reducible (first | (refine hKv _ _ ?_; clear hKv Kv) | ((first | refine AWp_regC mu_111 ks_111 ?_ | refine AWp_drawX xd_111 mu_111 ks_111 vw_111 (by decide) ti_mixed (by kernel_rfl) ?_ | refine AWp_regE mu_111 ks_111 ?_ | refine AWp_drawXE xd_111 mu_111 ks_111 vw_111 (by decide) ti_mixed (by kernel_rfl) ?_); intro Kv hKv) | refine AWp_retR ?_) | refine checkName_A x.nm (by omega) _ _ ?_ | refine QCall_of (checkName_A x.nm (by omega) _ _ (Two_intro _ _)) ?_ | refine checkText_A x.vl (by omega) _ _ ?_ | refine QCall_of (checkText_A x.vl (by omega) _ _ (Two_intro _ _)) ?_); try simp (dsimp := false) only [go_sem, Nat.reduceAdd, Nat.reduceBEq, Nat.reduceEqDiff, Nat.reduceLT, Nat.reduceLeDiff, Nat.reduceMul, Int.reduceToNat, reduceCtorEq, ↓reduceIte, Tryd.ntmps111, Tryd.results111, ks_111, mu_111, xd_111, vw_111, ti_ag3, ti_ag4, ti_ag9, ti_ag32, ti_fl97_0, ti_fl97_1, ti_fl97_2, ti_fl177_0, ti_fl177_1, ti_fl177_2, ti_hb132, ti_hb145, ti_hb146, ti_pl177, ti_sb32, ti_sb146, ti_sl32, ti_sl146, ti_sz4, ti_sz32, ti_zr177, evD, evV, h1, Int.reduceEq, Int.reduceLT, Int.reduceLE, hg, hl, h0f, htop, hgx, hss, hri, hrr, hpos, hge, hlt, List.length_set, hnmt, htff]) | (refine AWp_condC rfl ?_; intro KA KB hKA hKB; try simp only [onB_true, onB_false, onB_dec, onB_ndec, onB_not, onB_and, onB_or]) | (refine AWp_condA rfl ?_ ?_) | with_reducible (first | refine onB_of ?_ ?_ | rfl) | omega)
        all_goals first
          | omega
          | exact bad_ret hk rfl (by first | decide | assumption)
    · rw [if_neg hnm] at hk
      have hnmf : (x.nm = []) = False := eq_false (by first | exact hnm | omega)
      refine ACalls_of Tryd.func111 rfl in_111 (Nat.le_of_ble_eq_true rfl) ?_
      intro F hF
      simp (dsimp := false) only [go_sem, Nat.reduceAdd, Nat.reduceBEq, Nat.reduceEqDiff, Nat.reduceLT, Nat.reduceLeDiff, Nat.reduceMul, Int.reduceToNat, reduceCtorEq, ↓reduceIte, Tryd.ntmps111, Tryd.results111, ks_111, mu_111, xd_111, vw_111, ti_ag3, ti_ag4, ti_ag9, ti_ag32, ti_fl97_0, ti_fl97_1, ti_fl97_2, ti_fl177_0, ti_fl177_1, ti_fl177_2, ti_hb132, ti_hb145, ti_hb146, ti_pl177, ti_sb32, ti_sb146, ti_sl32, ti_sl146, ti_sz4, ti_sz32, ti_zr177, evD, evV, h1, Int.reduceEq, Int.reduceLT, Int.reduceLE, hg, hl, h0f, htop, hgx, hss, hri, hrr, hpos, hge, hlt, List.length_set, hnmf, in_111] at hF
      subst hF
      repeat' (first | with_reducible (first | refine And.intro ?_ ?_ | intro _ | refine AWp_seq ?_ | refine AWp_block ?_ | (refine hKv _ _ (AWp_nop ?_); clear hKv Kv) | (refine hKA ?_; clear hKA hKB KA KB) | (refine hKB ?_; clear hKA hKB KA KB) | refine AWp_skipN ?_ | refine AWp_exitO (by repeat (first | exact Out.hit | apply Out.thenA | apply Out.out rfl)) ?_) | ((first | with_reducible (first | (refine hKv _ _ ?_; clear hKv Kv) | ((first | refine AWp_regC mu_111 ks_111 ?_ | refine AWp_drawX xd_111 mu_111 ks_111 vw_111 (by decide) ti_mixed (by kernel_rfl) ?_ | refine AWp_regE mu_111 ks_111 ?_ | refine AWp_drawXE xd_111 mu_111 ks_111 vw_111 (by decide) ti_mixed (by kernel_rfl) ?_); intro Kv hKv) | refine AWp_retR ?_) | refine checkName_A x.nm (by omega) _ _ ?_ | refine QCall_of (checkName_A x.nm (by omega) _ _ (Two_intro _ _)) ?_ | refine checkText_A x.vl (by omega) _ _ ?_ | refine QCall_of (checkText_A x.vl (by omega) _ _ (Two_intro _ _)) ?_); try simp (dsimp := false) only [go_sem, Nat.reduceAdd, Nat.reduceBEq, Nat.reduceEqDiff, Nat.reduceLT, Nat.reduceLeDiff, Nat.reduceMul, Int.reduceToNat, reduceCtorEq, ↓reduceIte, Tryd.ntmps111, Tryd.results111, ks_111, mu_111, xd_111, vw_111, ti_ag3, ti_ag4, ti_ag9, ti_ag32, ti_fl97_0, ti_fl97_1, ti_fl97_2, ti_fl177_0, ti_fl177_1, ti_fl177_2, ti_hb132, ti_hb145, ti_hb146, ti_pl177, ti_sb32, ti_sb146, ti_sl32, ti_sl146, ti_sz4, ti_sz32, ti_zr177, evD, evV, h1, Int.reduceEq, Int.reduceLT, Int.reduceLE, hg, hl, h0f, htop, hgx, hss, hri, hrr, hpos, hge, hlt, List.length_set, hnmf]) | (refine AWp_condC rfl ?_; intro KA KB hKA hKB; try simp only [onB_true, onB_false, onB_dec, onB_ndec, onB_not, onB_and, onB_or]) | (refine AWp_condA rfl ?_ ?_) | with_reducible (first | refine onB_of ?_ ?_ | rfl) | omega)
      all_goals first
        | omega
        | exact bad_ret hk rfl (by first | decide | assumption)
theorem event_4 (s : Es) (x : Ev) (first : Bool) (id ver : Nat) (rows : List (List V)) (H : Heap) (K : V → Heap → Prop) (ho : OpenAt H id ver s rows) (hB : ObBel H.length (.row ver 177 3 rows)) (hn : s.n ≤ 20) (hx : x.nm.length + x.vl.length ≤ 1048576) (h1 : x.k = 4)
    (hk : (evF1 s x first ≠ 0 → K (evBad (evF1 s x first)) H) ∧ (evF1 s x first = 0 → K (evOut id ver) (H.set id (.row ver 177 3 (mark rows s.n false))))) :
    ACalls Tryd.prog 111 [.os id ver, evV x, .d (.b first)] H K := by
  have hg := ho.get
  have hl := ho.len
  have hid := lt_of_get hg
  rw [evF1_4 h1] at hk
  by_cases h0 : s.n = 0
  · rw [if_pos h0] at hk
    have h0t : ((s.n : Int) = 0) = True := eq_true (by first | exact h0 | omega)
    refine ACalls_of Tryd.func111 rfl in_111 (Nat.le_of_ble_eq_true rfl) ?_
    intro F hF
    simp (dsimp := false) only [go_sem, Nat.reduceAdd, Nat.reduceBEq, Nat.reduceEqDiff, Nat.reduceLT, Nat.reduceLeDiff, Nat.reduceMul, Int.reduceToNat, reduceCtorEq, ↓reduceIte, Tryd.ntmps111, Tryd.results111, ks_111, mu_111, xd_111, vw_111, ti_ag3, ti_ag4, ti_ag9, ti_ag32, ti_fl97_0, ti_fl97_1, ti_fl97_2, ti_fl177_0, ti_fl177_1, ti_fl177_2, ti_hb132, ti_hb145, ti_hb146, ti_pl177, ti_sb32, ti_sb146, ti_sl32, ti_sl146, ti_sz4, ti_sz32, ti_zr177, evD, evV, h1, Int.reduceEq, Int.reduceLT, Int.reduceLE, hg, hl, h0t, in_111] at hF
    subst hF
    repeat' (first | with_reducible (first | refine And.intro ?_ ?_ | intro _ | refine AWp_seq ?_ | refine AWp_block ?_ | (refine hKv _ _ (AWp_nop ?_); clear hKv Kv) | (refine hKA ?_; clear hKA hKB KA KB) | (refine hKB ?_; clear hKA hKB KA KB) | refine AWp_skipN ?_ | refine AWp_exitO (by repeat (first | exact Out.hit | apply Out.thenA | apply Out.out rfl)) ?_) | ((first | with_reducible (first | (refine hKv _ _ ?_; clear hKv Kv) | ((first | refine AWp_regC mu_111 ks_111 ?_ | refine AWp_drawX xd_111 mu_111 ks_111 vw_111 (by decide) ti_mixed (by kernel_rfl) ?_ | refine AWp_regE mu_111 ks_111 ?_ | refine AWp_drawXE xd_111 mu_111 ks_111 vw_111 (by decide) ti_mixed (by kernel_rfl) ?_); intro Kv hKv) | refine AWp_retR ?_) | refine checkName_A x.nm (by omega) _ _ ?_ | refine QCall_of (checkName_A x.nm (by omega) _ _ (Two_intro _ _)) ?_ | refine checkText_A x.vl (by omega) _ _ ?_ | refine QCall_of (checkText_A x.vl (by omega) _ _ (Two_intro _ _)) ?_ | refine comment_A x.vl (by omega) _ _ ?_ | refine QCall_of (comment_A x.vl (by omega) _ _ (Two_intro _ _)) ?_); try simp (dsimp := false) only [go_sem, Nat.reduceAdd, Nat.reduceBEq, Nat.reduceEqDiff, Nat.reduceLT, Nat.reduceLeDiff, Nat.reduceMul, Int.reduceToNat, reduceCtorEq, ↓reduceIte, Tryd.ntmps111, Tryd.results111, ks_111, mu_111, xd_111, vw_111, ti_ag3, ti_ag4, ti_ag9, ti_ag32, ti_fl97_0, ti_fl97_1, ti_fl97_2, ti_fl177_0, ti_fl177_1, ti_fl177_2, ti_hb132, ti_hb145, ti_hb146, ti_pl177, ti_sb32, ti_sb146, ti_sl32, ti_sl146, ti_sz4, ti_sz32, ti_zr177, evD, evV, h1, Int.reduceEq, Int.reduceLT, Int.reduceLE, hg, hl, h0t]) | (refine AWp_condC rfl ?_; intro KA KB hKA hKB; try simp only [onB_true, onB_false, onB_dec, onB_ndec, onB_not, onB_and, onB_or]) | (refine AWp_condA rfl ?_ ?_) | with_reducible (first | refine onB_of ?_ ?_ | rfl) | omega)
    all_goals first
      | omega
      | exact bad_ret hk rfl (by first | decide | assumption)
  · rw [if_neg h0] at hk
    have h0f : ((s.n : Int) = 0) = False := eq_false (by first | exact h0 | omega)
    obtain ⟨c, htop, hat⟩ := ho.top h0
    have hgx : ∀ X, (H.set id X)[id]? = some X := fun X => get_self hg X
    have hss : ∀ X Y, (H.set id X).set id Y = H.set id Y := fun X Y => List.set_set ..
    have hil := lt_of_get htop
    have hri : ∀ X, (rows.set ((s.n : Int) - 1).toNat X)[((s.n : Int) - 1).toNat]? = some X := fun X => by rw [List.getElem?_set_self hil]
    have hrr : ∀ X Y, (rows.set ((s.n : Int) - 1).toNat X).set ((s.n : Int) - 1).toNat Y = rows.set ((s.n : Int) - 1).toNat Y := fun X Y => List.set_set ..
    have hpos : (0 < (s.n : Int)) = True := eq_true (by omega)
    have hge : ((0 : Int) ≤ (s.n : Int) - 1) = True := eq_true (by omega)
    have hlt : ((s.n : Int) - 1 < (s.n : Int)) = True := eq_true (by omega)
    rw [mark_eq htop] at hk
    by_cases hnm : x.nm = []
    · rw [if_pos hnm] at hk
      have hnmt : (x.nm = []) = True := eq_true (by first | exact hnm | omega)
      by_cases htf : textFault x.vl = 0
      · rw [if_pos htf] at hk
        have htft : (textFault x.vl = 0) = True := eq_true (by first | exact htf | omega)
        by_cases hd : dashB x.vl = true
        · rw [if_pos hd] at hk
          refine ACalls_of Tryd.func111 rfl in_111 (Nat.le_of_ble_eq_true rfl) ?_
          intro F hF
          simp (dsimp := false) only [go_sem, Nat.reduceAdd, Nat.reduceBEq, Nat.reduceEqDiff, Nat.reduceLT, Nat.reduceLeDiff, Nat.reduceMul, Int.reduceToNat, reduceCtorEq, ↓reduceIte, Tryd.ntmps111, Tryd.results111, ks_111, mu_111, xd_111, vw_111, ti_ag3, ti_ag4, ti_ag9, ti_ag32, ti_fl97_0, ti_fl97_1, ti_fl97_2, ti_fl177_0, ti_fl177_1, ti_fl177_2, ti_hb132, ti_hb145, ti_hb146, ti_pl177, ti_sb32, ti_sb146, ti_sl32, ti_sl146, ti_sz4, ti_sz32, ti_zr177, evD, evV, h1, Int.reduceEq, Int.reduceLT, Int.reduceLE, hg, hl, h0f, htop, hgx, hss, hri, hrr, hpos, hge, hlt, List.length_set, hnmt, htft, hd, in_111] at hF
          subst hF
          repeat' (first | with_reducible (first | refine And.intro ?_ ?_ | intro _ | refine AWp_seq ?_ | refine AWp_block ?_ | (refine hKv _ _ (AWp_nop ?_); clear hKv Kv) | (refine hKA ?_; clear hKA hKB KA KB) | (refine hKB ?_; clear hKA hKB KA KB) | refine AWp_skipN ?_ | refine AWp_exitO (by repeat (first | exact Out.hit | apply Out.thenA | apply Out.out rfl)) ?_) | ((first | with_reducible (first | (refine hKv _ _ ?_; clear hKv Kv) | ((first | refine AWp_regC mu_111 ks_111 ?_ | refine AWp_drawX xd_111 mu_111 ks_111 vw_111 (by decide) ti_mixed (by kernel_rfl) ?_ | refine AWp_regE mu_111 ks_111 ?_ | refine AWp_drawXE xd_111 mu_111 ks_111 vw_111 (by decide) ti_mixed (by kernel_rfl) ?_); intro Kv hKv) | refine AWp_retR ?_) | refine checkName_A x.nm (by omega) _ _ ?_ | refine QCall_of (checkName_A x.nm (by omega) _ _ (Two_intro _ _)) ?_ | refine checkText_A x.vl (by omega) _ _ ?_ | refine QCall_of (checkText_A x.vl (by omega) _ _ (Two_intro _ _)) ?_ | refine comment_A x.vl (by omega) _ _ ?_ | refine QCall_of (comment_A x.vl (by omega) _ _ (Two_intro _ _)) ?_); try simp (dsimp := false) only [go_sem, Nat.reduceAdd, Nat.reduceBEq, Nat.reduceEqDiff, Nat.reduceLT, Nat.reduceLeDiff, Nat.reduceMul, Int.reduceToNat, reduceCtorEq, ↓reduceIte, Tryd.ntmps111, Tryd.results111, ks_111, mu_111, xd_111, vw_111, ti_ag3, ti_ag4, ti_ag9, ti_ag32, ti_fl97_0, ti_fl97_1, ti_fl97_2, ti_fl177_0, ti_fl177_1, ti_fl177_2, ti_hb132, ti_hb145, ti_hb146, ti_pl177, ti_sb32, ti_sb146, ti_sl32, ti_sl146, ti_sz4, ti_sz32, ti_zr177, evD, evV, h1, Int.reduceEq, Int.reduceLT, Int.reduceLE, hg, hl, h0f, htop, hgx, hss, hri, hrr, hpos, hge, hlt, List.length_set, hnmt, htft, hd]) | (refine AWp_condC rfl ?_; intro KA KB hKA hKB; try simp only [onB_true, onB_false, onB_dec, onB_ndec, onB_not, onB_and, onB_or]) | (refine AWp_condA rfl ?_ ?_) | with_reducible (first | refine onB_of ?_ ?_ | rfl) | omega)
          all_goals first
            | omega
            | exact bad_ret hk rfl (by first | decide | assumption)
        · rw [if_neg hd] at hk
          have hdf : dashB x.vl = false := by simpa using hd
          refine ACalls_of Tryd.func111 rfl in_111 (Nat.le_of_ble_eq_true rfl) ?_
          intro F hF
          simp (dsimp := false) only [go_sem, Nat.reduceAdd, Nat.reduceBEq, Nat.reduceEqDiff, Nat.reduceLT, Nat.reduceLeDiff, Nat.reduceMul, Int.reduceToNat, reduceCtorEq, ↓reduceIte, Tryd.ntmps111, Tryd.results111, ks_111, mu_111, xd_111, vw_111, ti_ag3, ti_ag4, ti_ag9, ti_ag32, ti_fl97_0, ti_fl97_1, ti_fl97_2, ti_fl177_0, ti_fl177_1, ti_fl177_2, ti_hb132, ti_hb145, ti_hb146, ti_pl177, ti_sb32, ti_sb146, ti_sl32, ti_sl146, ti_sz4, ti_sz32, ti_zr177, evD, evV, h1, Int.reduceEq, Int.reduceLT, Int.reduceLE, hg, hl, h0f, htop, hgx, hss, hri, hrr, hpos, hge, hlt, List.length_set, hnmt, htft, hdf, in_111] at hF
          subst hF
          repeat' (first | with_reducible (first | refine And.intro ?_ ?_ | intro _ | refine AWp_seq ?_ | refine AWp_block ?_ | (refine hKv _ _ (AWp_nop ?_); clear hKv Kv) | (refine hKA ?_; clear hKA hKB KA KB) | (refine hKB ?_; clear hKA hKB KA KB) | refine AWp_skipN ?_ | refine AWp_exitO (by repeat (first | exact Out.hit | apply Out.thenA | apply Out.out rfl)) ?_) | ((first | with_reducible (first | (refine hKv _ _ ?_; clear hKv Kv) | ((first | refine AWp_regC mu_111 ks_111 ?_ | refine AWp_drawX xd_111 mu_111 ks_111 vw_111 (by decide) ti_mixed (by kernel_rfl) ?_ | refine AWp_regE mu_111 ks_111 ?_ | refine AWp_drawXE xd_111 mu_111 ks_111 vw_111 (by decide) ti_mixed (by kernel_rfl) ?_); intro Kv hKv) | refine AWp_retR ?_) | refine checkName_A x.nm (by omega) _ _ ?_ | refine QCall_of (checkName_A x.nm (by omega) _ _ (Two_intro _ _)) ?_ | refine checkText_A x.vl (by omega) _ _ ?_ | refine QCall_of (checkText_A x.vl (by omega) _ _ (Two_intro _ _)) ?_ | refine comment_A x.vl (by omega) _ _ ?_ | refine QCall_of (comment_A x.vl (by omega) _ _ (Two_intro _ _)) ?_); try simp (dsimp := false) only [go_sem, Nat.reduceAdd, Nat.reduceBEq, Nat.reduceEqDiff, Nat.reduceLT, Nat.reduceLeDiff, Nat.reduceMul, Int.reduceToNat, reduceCtorEq, ↓reduceIte, Tryd.ntmps111, Tryd.results111, ks_111, mu_111, xd_111, vw_111, ti_ag3, ti_ag4, ti_ag9, ti_ag32, ti_fl97_0, ti_fl97_1, ti_fl97_2, ti_fl177_0, ti_fl177_1, ti_fl177_2, ti_hb132, ti_hb145, ti_hb146, ti_pl177, ti_sb32, ti_sb146, ti_sl32, ti_sl146, ti_sz4, ti_sz32, ti_zr177, evD, evV, h1, Int.reduceEq, Int.reduceLT, Int.reduceLE, hg, hl, h0f, htop, hgx, hss, hri, hrr, hpos, hge, hlt, List.length_set, hnmt, htft, hdf]) | (refine AWp_condC rfl ?_; intro KA KB hKA hKB; try simp only [onB_true, onB_false, onB_dec, onB_ndec, onB_not, onB_and, onB_or]) | (refine AWp_condA rfl ?_ ?_) | with_reducible (first | refine onB_of ?_ ?_ | rfl) | omega)
          all_goals first
            | omega
            | exact out_ret (hk.2 rfl) hg (ob_set hB (bel_mark (ob_get hB htop)))
      · rw [if_neg htf] at hk
        have htff : (textFault x.vl = 0) = False := eq_false (by first | exact htf | omega)
        refine ACalls_of Tryd.func111 rfl in_111 (Nat.le_of_ble_eq_true rfl) ?_
        intro F hF
        simp (dsimp := false) only [go_sem, Nat.reduceAdd, Nat.reduceBEq, Nat.reduceEqDiff, Nat.reduceLT, Nat.reduceLeDiff, Nat.reduceMul, Int.reduceToNat, reduceCtorEq, ↓reduceIte, Tryd.ntmps111, Tryd.results111, ks_111, mu_111, xd_111, vw_111, ti_ag3, ti_ag4, ti_ag9, ti_ag32, ti_fl97_0, ti_fl97_1, ti_fl97_2, ti_fl177_0, ti_fl177_1, ti_fl177_2, ti_hb132, ti_hb145, ti_hb146, ti_pl177, ti_sb32, ti_sb146, ti_sl32, ti_sl146, ti_sz4, ti_sz32, ti_zr177, evD, evV, h1, Int.reduceEq, Int.reduceLT, Int.reduceLE, hg, hl, h0f, htop, hgx, hss, hri, hrr, hpos, hge, hlt, List.length_set, hnmt, htff, in_111] at hF
        subst hF
        repeat' (first | with_reducible (first | refine And.intro ?_ ?_ | intro _ | refine AWp_seq ?_ | refine AWp_block ?_ | (refine hKv _ _ (AWp_nop ?_); clear hKv Kv) | (refine hKA ?_; clear hKA hKB KA KB) | (refine hKB ?_; clear hKA hKB KA KB) | refine AWp_skipN ?_ | refine AWp_exitO (by repeat (first | exact Out.hit | apply Out.thenA | apply Out.out rfl)) ?_) | ((first | with_reducible (first | (refine hKv _ _ ?_; clear hKv Kv) | ((first | refine AWp_regC mu_111 ks_111 ?_ | refine AWp_drawX xd_111 mu_111 ks_111 vw_111 (by decide) ti_mixed (by kernel_rfl) ?_ | refine AWp_regE mu_111 ks_111 ?_ | refine AWp_drawXE xd_111 mu_111 ks_111 vw_111 (by decide) ti_mixed (by kernel_rfl) ?_); intro Kv hKv) | refine AWp_retR ?_) | refine checkName_A x.nm (by omega) _ _ ?_ | refine QCall_of (checkName_A x.nm (by omega) _ _ (Two_intro _ _)) ?_ | refine checkText_A x.vl (by omega) _ _ ?_ | refine QCall_of (checkText_A x.vl (by omega) _ _ (Two_intro _ _)) ?_ | refine comment_A x.vl (by omega) _ _ ?_ | refine QCall_of (comment_A x.vl (by omega) _ _ (Two_intro _ _)) ?_); try simp (dsimp := false) only [go_sem, Nat.reduceAdd, Nat.reduceBEq, Nat.reduceEqDiff, Nat.reduceLT, Nat.reduceLeDiff, Nat.reduceMul, Int.reduceToNat, reduceCtorEq, ↓reduceIte, Tryd.ntmps111, Tryd.results111, ks_111, mu_111, xd_111, vw_111, ti_ag3, ti_ag4, ti_ag9, ti_ag32, ti_fl97_0, ti_fl97_1, ti_fl97_2, ti_fl177_0, ti_fl177_1, ti_fl177_2, ti_hb132, ti_hb145, ti_hb146, ti_pl177, ti_sb32, ti_sb146, ti_sl32, ti_sl146, ti_sz4, ti_sz32, ti_zr177, evD, evV, h1, Int.reduceEq, Int.reduceLT, Int.reduceLE, hg, hl, h0f, htop, hgx, hss, hri, hrr, hpos, hge, hlt, List.length_set, hnmt, htff]) | (refine AWp_condC rfl ?_; intro KA KB hKA hKB; try simp only [onB_true, onB_false, onB_dec, onB_ndec, onB_not, onB_and, onB_or]) | (refine AWp_condA rfl ?_ ?_) | with_reducible (first | refine onB_of ?_ ?_ | rfl) | omega)
        all_goals first
          | omega
          | exact bad_ret hk rfl (by first | decide | assumption)
    · rw [if_neg hnm] at hk
      have hnmf : (x.nm = []) = False := eq_false (by first | exact hnm | omega)
      refine ACalls_of Tryd.func111 rfl in_111 (Nat.le_of_ble_eq_true rfl) ?_
      intro F hF
      simp (dsimp := false) only [go_sem, Nat.reduceAdd, Nat.reduceBEq, Nat.reduceEqDiff, Nat.reduceLT, Nat.reduceLeDiff, Nat.reduceMul, Int.reduceToNat, reduceCtorEq, ↓reduceIte, Tryd.ntmps111, Tryd.results111, ks_111, mu_111, xd_111, vw_111, ti_ag3, ti_ag4, ti_ag9, ti_ag32, ti_fl97_0, ti_fl97_1, ti_fl97_2, ti_fl177_0, ti_fl177_1, ti_fl177_2, ti_hb132, ti_hb145, ti_hb146, ti_pl177, ti_sb32, ti_sb146, ti_sl32, ti_sl146, ti_sz4, ti_sz32, ti_zr177, evD, evV, h1, Int.reduceEq, Int.reduceLT, Int.reduceLE, hg, hl, h0f, htop, hgx, hss, hri, hrr, hpos, hge, hlt, List.length_set, hnmf, in_111] at hF
      subst hF
      repeat' (first | with_reducible (first | refine And.intro ?_ ?_ | intro _ | refine AWp_seq ?_ | refine AWp_block ?_ | (refine hKv _ _ (AWp_nop ?_); clear hKv Kv) | (refine hKA ?_; clear hKA hKB KA KB) | (refine hKB ?_; clear hKA hKB KA KB) | refine AWp_skipN ?_ | refine AWp_exitO (by repeat (first | exact Out.hit | apply Out.thenA | apply Out.out rfl)) ?_) | ((first | with_reducible (first | (refine hKv _ _ ?_; clear hKv Kv) | ((first | refine AWp_regC mu_111 ks_111 ?_ | refine AWp_drawX xd_111 mu_111 ks_111 vw_111 (by decide) ti_mixed (by kernel_rfl) ?_ | refine AWp_regE mu_111 ks_111 ?_ | refine AWp_drawXE xd_111 mu_111 ks_111 vw_111 (by decide) ti_mixed (by kernel_rfl) ?_); intro Kv hKv) | refine AWp_retR ?_) | refine checkName_A x.nm (by omega) _ _ ?_ | refine QCall_of (checkName_A x.nm (by omega) _ _ (Two_intro _ _)) ?_ | refine checkText_A x.vl (by omega) _ _ ?_ | refine QCall_of (checkText_A x.vl (by omega) _ _ (Two_intro _ _)) ?_ | refine comment_A x.vl (by omega) _ _ ?_ | refine QCall_of (comment_A x.vl (by omega) _ _ (Two_intro _ _)) ?_); try simp (dsimp := false) only [go_sem, Nat.reduceAdd, Nat.reduceBEq, Nat.reduceEqDiff, Nat.reduceLT, Nat.reduceLeDiff, Nat.reduceMul, Int.reduceToNat, reduceCtorEq, ↓reduceIte, Tryd.ntmps111, Tryd.results111, ks_111, mu_111, xd_111, vw_111, ti_ag3, ti_ag4, ti_ag9, ti_ag32, ti_fl97_0, ti_fl97_1, ti_fl97_2, ti_fl177_0, ti_fl177_1, ti_fl177_2, ti_hb132, ti_hb145, ti_hb146, ti_pl177, ti_sb32, ti_sb146, ti_sl32, ti_sl146, ti_sz4, ti_sz32, ti_zr177, evD, evV, h1, Int.reduceEq, Int.reduceLT, Int.reduceLE, hg, hl, h0f, htop, hgx, hss, hri, hrr, hpos, hge, hlt, List.length_set, hnmf]) | (refine AWp_condC rfl ?_; intro KA KB hKA hKB; try simp only [onB_true, onB_false, onB_dec, onB_ndec, onB_not, onB_and, onB_or]) | (refine AWp_condA rfl ?_ ?_) | with_reducible (first | refine onB_of ?_ ?_ | rfl) | omega)
      all_goals first
        | omega
        | exact bad_ret hk rfl (by first | decide | assumption)
theorem event_5 (s : Es) (x : Ev) (first : Bool) (id ver : Nat) (rows : List (List V)) (H : Heap) (K : V → Heap → Prop) (ho : OpenAt H id ver s rows) (hB : ObBel H.length (.row ver 177 3 rows)) (hn : s.n ≤ 20) (hx : x.nm.length + x.vl.length ≤ 1048576) (h1 : x.k = 5)
    (hk : (evF1 s x first ≠ 0 → K (evBad (evF1 s x first)) H) ∧ (evF1 s x first = 0 → K (evOut id (ver + 1)) (H.set id (.row (ver + 1) 177 3 (rows.take ((s.n : Int) - 1).toNat))))) :
    ACalls Tryd.prog 111 [.os id ver, evV x, .d (.b first)] H K := by
  have hg := ho.get
  have hl := ho.len
  have hid := lt_of_get hg
  rw [evF1_5 h1] at hk
  by_cases h0 : s.n = 0
  · rw [if_pos h0] at hk
    have h0t : ((s.n : Int) = 0) = True := eq_true (by first | exact h0 | omega)
    refine ACalls_of Tryd.func111 rfl in_111 (Nat.le_of_ble_eq_true rfl) ?_
    intro F hF
    simp (dsimp := false) only [go_sem, Nat.reduceAdd, Nat.reduceBEq, Nat.reduceEqDiff, Nat.reduceLT, Nat.reduceLeDiff, Nat.reduceMul, Int.reduceToNat, reduceCtorEq, ↓reduceIte, Tryd.ntmps111, Tryd.results111, ks_111, mu_111, xd_111, vw_111, ti_ag3, ti_ag4, ti_ag9, ti_ag32, ti_fl97_0, ti_fl97_1, ti_fl97_2, ti_fl177_0, ti_fl177_1, ti_fl177_2, ti_hb132, ti_hb145, ti_hb146, ti_pl177, ti_sb32, ti_sb146, ti_sl32, ti_sl146, ti_sz4, ti_sz32, ti_zr177, evD, evV, h1, Int.reduceEq, Int.reduceLT, Int.reduceLE, hg, hl, h0t, in_111] at hF
    subst hF
    repeat' (first | with_reducible (first | refine And.intro ?_ ?_ | intro _ | refine AWp_seq ?_ | refine AWp_block ?_ | (refine hKv _ _ (AWp_nop ?_); clear hKv Kv) | (refine hKA ?_; clear hKA hKB KA KB) | (refine hKB ?_; clear hKA hKB KA KB) | refine AWp_skipN ?_ | refine AWp_exitO (by repeat (first | exact Out.hit | apply Out.thenA | apply Out.out rfl)) ?_) | ((first | with_reducible (first | (refine hKv _ _ ?_; clear hKv Kv) | ((first | refine AWp_regC mu_111 ks_111 ?_ | refine AWp_drawX xd_111 mu_111 ks_111 vw_111 (by decide) ti_mixed (by kernel_rfl) ?_ | refine AWp_regE mu_111 ks_111 ?_ | refine AWp_drawXE xd_111 mu_111 ks_111 vw_111 (by decide) ti_mixed (by kernel_rfl) ?_); intro Kv hKv) | refine AWp_retR ?_) | refine checkName_A x.nm (by omega) _ _ ?_ | refine QCall_of (checkName_A x.nm (by omega) _ _ (Two_intro _ _)) ?_ | refine checkText_A x.vl (by omega) _ _ ?_ | refine QCall_of (checkText_A x.vl (by omega) _ _ (Two_intro _ _)) ?_); try simp (dsimp := false) only [go_sem, Nat.reduceAdd, Nat.reduceBEq, Nat.reduceEqDiff, Nat.reduceLT, Nat.reduceLeDiff, Nat.reduceMul, Int.reduceToNat, reduceCtorEq, ↓reduceIte, Tryd.ntmps111, Tryd.results111, ks_111, mu_111, xd_111, vw_111, ti_ag3, ti_ag4, ti_ag9, ti_ag32, ti_fl97_0, ti_fl97_1, ti_fl97_2, ti_fl177_0, ti_fl177_1, ti_fl177_2, ti_hb132, ti_hb145, ti_hb146, ti_pl177, ti_sb32, ti_sb146, ti_sl32, ti_sl146, ti_sz4, ti_sz32, ti_zr177, evD, evV, h1, Int.reduceEq, Int.reduceLT, Int.reduceLE, hg, hl, h0t]) | (refine AWp_condC rfl ?_; intro KA KB hKA hKB; try simp only [onB_true, onB_false, onB_dec, onB_ndec, onB_not, onB_and, onB_or]) | (refine AWp_condA rfl ?_ ?_) | with_reducible (first | refine onB_of ?_ ?_ | rfl) | omega)
    all_goals first
      | omega
      | exact bad_ret hk rfl (by first | decide | assumption)
  · rw [if_neg h0] at hk
    have h0f : ((s.n : Int) = 0) = False := eq_false (by first | exact h0 | omega)
    obtain ⟨c, htop, hat⟩ := ho.top h0
    have hgx : ∀ X, (H.set id X)[id]? = some X := fun X => get_self hg X
    have hss : ∀ X Y, (H.set id X).set id Y = H.set id Y := fun X Y => List.set_set ..
    have hil := lt_of_get htop
    have hri : ∀ X, (rows.set ((s.n : Int) - 1).toNat X)[((s.n : Int) - 1).toNat]? = some X := fun X => by rw [List.getElem?_set_self hil]
    have hrr : ∀ X Y, (rows.set ((s.n : Int) - 1).toNat X).set ((s.n : Int) - 1).toNat Y = rows.set ((s.n : Int) - 1).toNat Y := fun X Y => List.set_set ..
    have hpos : (0 < (s.n : Int)) = True := eq_true (by omega)
    have hge : ((0 : Int) ≤ (s.n : Int) - 1) = True := eq_true (by omega)
    have hlt : ((s.n : Int) - 1 < (s.n : Int)) = True := eq_true (by omega)
    by_cases hnm : x.nm = []
    · rw [if_pos hnm] at hk
      have hnmt : (x.nm = []) = True := eq_true (by first | exact hnm | omega)
      by_cases hv : x.vl = []
      · rw [if_pos hv] at hk
        have hvt : (x.vl = []) = True := eq_true (by first | exact hv | omega)
        refine ACalls_of Tryd.func111 rfl in_111 (Nat.le_of_ble_eq_true rfl) ?_
        intro F hF
        simp (dsimp := false) only [go_sem, Nat.reduceAdd, Nat.reduceBEq, Nat.reduceEqDiff, Nat.reduceLT, Nat.reduceLeDiff, Nat.reduceMul, Int.reduceToNat, reduceCtorEq, ↓reduceIte, Tryd.ntmps111, Tryd.results111, ks_111, mu_111, xd_111, vw_111, ti_ag3, ti_ag4, ti_ag9, ti_ag32, ti_fl97_0, ti_fl97_1, ti_fl97_2, ti_fl177_0, ti_fl177_1, ti_fl177_2, ti_hb132, ti_hb145, ti_hb146, ti_pl177, ti_sb32, ti_sb146, ti_sl32, ti_sl146, ti_sz4, ti_sz32, ti_zr177, evD, evV, h1, Int.reduceEq, Int.reduceLT, Int.reduceLE, hg, hl, h0f, htop, hgx, hss, hri, hrr, hpos, hge, hlt, List.length_set, hnmt, hvt, in_111] at hF
        subst hF
        repeat' (first | with_reducible (first | refine And.intro ?_ ?_ | intro _ | refine AWp_seq ?_ | refine AWp_block ?_ | (refine hKv _ _ (AWp_nop ?_); clear hKv Kv) | (refine hKA ?_; clear hKA hKB KA KB) | (refine hKB ?_; clear hKA hKB KA KB) | refine AWp_skipN ?_ | refine AWp_exitO (by repeat (first | exact Out.hit | apply Out.thenA | apply Out.out rfl)) ?_) | ((first | with_reducible (first | (refine hKv _ _ ?_; clear hKv Kv) | ((first | refine AWp_regC mu_111 ks_111 ?_ | refine AWp_drawX xd_111 mu_111 ks_111 vw_111 (by decide) ti_mixed (by kernel_rfl) ?_ | refine AWp_regE mu_111 ks_111 ?_ | refine AWp_drawXE xd_111 mu_111 ks_111 vw_111 (by decide) ti_mixed (by kernel_rfl) ?_); intro Kv hKv) | refine AWp_retR ?_) | refine checkName_A x.nm (by omega) _ _ ?_ | refine QCall_of (checkName_A x.nm (by omega) _ _ (Two_intro _ _)) ?_ | refine checkText_A x.vl (by omega) _ _ ?_ | refine QCall_of (checkText_A x.vl (by omega) _ _ (Two_intro _ _)) ?_); try simp (dsimp := false) only [go_sem, Nat.reduceAdd, Nat.reduceBEq, Nat.reduceEqDiff, Nat.reduceLT, Nat.reduceLeDiff, Nat.reduceMul, Int.reduceToNat, reduceCtorEq, ↓reduceIte, Tryd.ntmps111, Tryd.results111, ks_111, mu_111, xd_111, vw_111, ti_ag3, ti_ag4, ti_ag9, ti_ag32, ti_fl97_0, ti_fl97_1, ti_fl97_2, ti_fl177_0, ti_fl177_1, ti_fl177_2, ti_hb132, ti_hb145, ti_hb146, ti_pl177, ti_sb32, ti_sb146, ti_sl32, ti_sl146, ti_sz4, ti_sz32, ti_zr177, evD, evV, h1, Int.reduceEq, Int.reduceLT, Int.reduceLE, hg, hl, h0f, htop, hgx, hss, hri, hrr, hpos, hge, hlt, List.length_set, hnmt, hvt]) | (refine AWp_condC rfl ?_; intro KA KB hKA hKB; try simp only [onB_true, onB_false, onB_dec, onB_ndec, onB_not, onB_and, onB_or]) | (refine AWp_condA rfl ?_ ?_) | with_reducible (first | refine onB_of ?_ ?_ | rfl) | omega)
        all_goals first
          | omega
          | exact out_ret (hk.2 rfl) hg (ob_take hB)
      · rw [if_neg hv] at hk
        have hvf : (x.vl = []) = False := eq_false (by first | exact hv | omega)
        refine ACalls_of Tryd.func111 rfl in_111 (Nat.le_of_ble_eq_true rfl) ?_
        intro F hF
        simp (dsimp := false) only [go_sem, Nat.reduceAdd, Nat.reduceBEq, Nat.reduceEqDiff, Nat.reduceLT, Nat.reduceLeDiff, Nat.reduceMul, Int.reduceToNat, reduceCtorEq, ↓reduceIte, Tryd.ntmps111, Tryd.results111, ks_111, mu_111, xd_111, vw_111, ti_ag3, ti_ag4, ti_ag9, ti_ag32, ti_fl97_0, ti_fl97_1, ti_fl97_2, ti_fl177_0, ti_fl177_1, ti_fl177_2, ti_hb132, ti_hb145, ti_hb146, ti_pl177, ti_sb32, ti_sb146, ti_sl32, ti_sl146, ti_sz4, ti_sz32, ti_zr177, evD, evV, h1, Int.reduceEq, Int.reduceLT, Int.reduceLE, hg, hl, h0f, htop, hgx, hss, hri, hrr, hpos, hge, hlt, List.length_set, hnmt, hvf, in_111] at hF
        subst hF
        repeat' (first | with_reducible (first | refine And.intro ?_ ?_ | intro _ | refine AWp_seq ?_ | refine AWp_block ?_ | (refine hKv _ _ (AWp_nop ?_); clear hKv Kv) | (refine hKA ?_; clear hKA hKB KA KB) | (refine hKB ?_; clear hKA hKB KA KB) | refine AWp_skipN ?_ | refine AWp_exitO (by repeat (first | exact Out.hit | apply Out.thenA | apply Out.out rfl)) ?_) | ((first | with_reducible (first | (refine hKv _ _ ?_; clear hKv Kv) | ((first | refine AWp_regC mu_111 ks_111 ?_ | refine AWp_drawX xd_111 mu_111 ks_111 vw_111 (by decide) ti_mixed (by kernel_rfl) ?_ | refine AWp_regE mu_111 ks_111 ?_ | refine AWp_drawXE xd_111 mu_111 ks_111 vw_111 (by decide) ti_mixed (by kernel_rfl) ?_); intro Kv hKv) | refine AWp_retR ?_) | refine checkName_A x.nm (by omega) _ _ ?_ | refine QCall_of (checkName_A x.nm (by omega) _ _ (Two_intro _ _)) ?_ | refine checkText_A x.vl (by omega) _ _ ?_ | refine QCall_of (checkText_A x.vl (by omega) _ _ (Two_intro _ _)) ?_); try simp (dsimp := false) only [go_sem, Nat.reduceAdd, Nat.reduceBEq, Nat.reduceEqDiff, Nat.reduceLT, Nat.reduceLeDiff, Nat.reduceMul, Int.reduceToNat, reduceCtorEq, ↓reduceIte, Tryd.ntmps111, Tryd.results111, ks_111, mu_111, xd_111, vw_111, ti_ag3, ti_ag4, ti_ag9, ti_ag32, ti_fl97_0, ti_fl97_1, ti_fl97_2, ti_fl177_0, ti_fl177_1, ti_fl177_2, ti_hb132, ti_hb145, ti_hb146, ti_pl177, ti_sb32, ti_sb146, ti_sl32, ti_sl146, ti_sz4, ti_sz32, ti_zr177, evD, evV, h1, Int.reduceEq, Int.reduceLT, Int.reduceLE, hg, hl, h0f, htop, hgx, hss, hri, hrr, hpos, hge, hlt, List.length_set, hnmt, hvf]) | (refine AWp_condC rfl ?_; intro KA KB hKA hKB; try simp only [onB_true, onB_false, onB_dec, onB_ndec, onB_not, onB_and, onB_or]) | (refine AWp_condA rfl ?_ ?_) | with_reducible (first | refine onB_of ?_ ?_ | rfl) | omega)
        all_goals first
          | omega
          | exact bad_ret hk rfl (by first | decide | assumption)
    · rw [if_neg hnm] at hk
      have hnmf : (x.nm = []) = False := eq_false (by first | exact hnm | omega)
      refine ACalls_of Tryd.func111 rfl in_111 (Nat.le_of_ble_eq_true rfl) ?_
      intro F hF
      simp (dsimp := false) only [go_sem, Nat.reduceAdd, Nat.reduceBEq, Nat.reduceEqDiff, Nat.reduceLT, Nat.reduceLeDiff, Nat.reduceMul, Int.reduceToNat, reduceCtorEq, ↓reduceIte, Tryd.ntmps111, Tryd.results111, ks_111, mu_111, xd_111, vw_111, ti_ag3, ti_ag4, ti_ag9, ti_ag32, ti_fl97_0, ti_fl97_1, ti_fl97_2, ti_fl177_0, ti_fl177_1, ti_fl177_2, ti_hb132, ti_hb145, ti_hb146, ti_pl177, ti_sb32, ti_sb146, ti_sl32, ti_sl146, ti_sz4, ti_sz32, ti_zr177, evD, evV, h1, Int.reduceEq, Int.reduceLT, Int.reduceLE, hg, hl, h0f, htop, hgx, hss, hri, hrr, hpos, hge, hlt, List.length_set, hnmf, in_111] at hF
      subst hF
      repeat' (first | with_reducible (first | refine And.intro ?_ ?_ | intro _ | refine AWp_seq ?_ | refine AWp_block ?_ | (refine hKv _ _ (AWp_nop ?_); clear hKv Kv) | (refine hKA ?_; clear hKA hKB KA KB) | (refine hKB ?_; clear hKA hKB KA KB) | refine AWp_skipN ?_ | refine AWp_exitO (by repeat (first | exact Out.hit | apply Out.thenA | apply Out.out rfl)) ?_) | ((first | with_reducible (first | (refine hKv _ _ ?_; clear hKv Kv) | ((first | refine AWp_regC mu_111 ks_111 ?_ | refine AWp_drawX xd_111 mu_111 ks_111 vw_111 (by decide) ti_mixed (by kernel_rfl) ?_ | refine AWp_regE mu_111 ks_111 ?_ | refine AWp_drawXE xd_111 mu_111 ks_111 vw_111 (by decide) ti_mixed (by kernel_rfl) ?_); intro Kv hKv) | refine AWp_retR ?_) | refine checkName_A x.nm (by omega) _ _ ?_ | refine QCall_of (checkName_A x.nm (by omega) _ _ (Two_intro _ _)) ?_ | refine checkText_A x.vl (by omega) _ _ ?_ | refine QCall_of (checkText_A x.vl (by omega) _ _ (Two_intro _ _)) ?_); try simp (dsimp := false) only [go_sem, Nat.reduceAdd, Nat.reduceBEq, Nat.reduceEqDiff, Nat.reduceLT, Nat.reduceLeDiff, Nat.reduceMul, Int.reduceToNat, reduceCtorEq, ↓reduceIte, Tryd.ntmps111, Tryd.results111, ks_111, mu_111, xd_111, vw_111, ti_ag3, ti_ag4, ti_ag9, ti_ag32, ti_fl97_0, ti_fl97_1, ti_fl97_2, ti_fl177_0, ti_fl177_1, ti_fl177_2, ti_hb132, ti_hb145, ti_hb146, ti_pl177, ti_sb32, ti_sb146, ti_sl32, ti_sl146, ti_sz4, ti_sz32, ti_zr177, evD, evV, h1, Int.reduceEq, Int.reduceLT, Int.reduceLE, hg, hl, h0f, htop, hgx, hss, hri, hrr, hpos, hge, hlt, List.length_set, hnmf]) | (refine AWp_condC rfl ?_; intro KA KB hKA hKB; try simp only [onB_true, onB_false, onB_dec, onB_ndec, onB_not, onB_and, onB_or]) | (refine AWp_condA rfl ?_ ?_) | with_reducible (first | refine onB_of ?_ ?_ | rfl) | omega)
      all_goals first
        | omega
        | exact bad_ret hk rfl (by first | decide | assumption)
end Go.Proofs.YtjghnaohlfgloaaDoor
