/- An attribute that comes, and events one behind the other: what the program makes of them. No condition but that the tables of package unicode/utf8, and what package bytealg calls its greatest length, are there. -/
import Derived.Test.YtafbojmnmadlpaaDoorEcA
set_option linter.all false
set_option linter.unusedSimpArgs false
set_option linter.unusedVariables false
namespace Go.Proofs.YtafbojmnmadlpaaDoor
open Go Go.Proofs.YtafbojmnmadlpaaDoor.Ab
variable [Glo] [U8] [Ml]
set_option maxHeartbeats 4000000
set_option maxRecDepth 20000


theorem event_2 (s : Es) (x : Ev) (first : Bool) (id ver : Nat) (rows : List (List V)) (H : Heap) (K : V → Heap → Prop) (ho : OpenAt H id ver s rows) (hB : ObBel H.length (.row ver 153 3 rows)) (hn : s.n ≤ 20) (hx : x.nm.length + x.vl.length ≤ 1048576) (h1 : x.k = 2) (hal : s.at_.length ≤ 1000)
    (hk : (evF1 s x first ≠ 0 → K (evBad (evF1 s x first)) H) ∧ 
      (evF1 s x first = 0 → s.at_ = [] → K (evOut id ver) ((H ++ [Ob.row 0 9 1 [strC x.nm]]).set id (.row ver 153 3 (rows.set ((s.n : Int) - 1).toNat [.os H.length 0, .d (.b false), .d (.b s.txt)])))) ∧
      (evF1 s x first = 0 → ∀ ia va, s.at_ ≠ [] → id < ia → H[ia]? = some (.row va 9 1 (s.at_.map strC)) →
        K (evOut id ver) ((H.set ia (.row (va + 1) 9 1 ((s.at_ ++ [x.nm]).map strC))).set id (.row ver 153 3 (rows.set ((s.n : Int) - 1).toNat [.os ia (va + 1), .d (.b false), .d (.b s.txt)]))))) :
    ACalls Tryd.prog 71 [.os id ver, evV x, .d (.b first)] H K := by
  have hg := ho.get
  have hl := ho.len
  have hid := lt_of_get hg
  rw [evF1_2 h1] at hk
  by_cases h0 : s.n = 0
  · rw [if_pos h0] at hk
    have h0t : ((s.n : Int) = 0) = True := eq_true (by first | exact h0 | omega)
    
    refine ACalls_of Tryd.func71 rfl in_71 (Nat.le_of_ble_eq_true rfl) ?_
    intro F hF
    simp (dsimp := false) only [go_sem, Nat.reduceAdd, Nat.reduceBEq, Nat.reduceEqDiff, Nat.reduceLT, Nat.reduceLeDiff, Nat.reduceMul, Int.reduceToNat, reduceCtorEq, ↓reduceIte, Tryd.ntmps71, Tryd.results71, ks_71, mu_71, xd_71, vw_71, ti_ag3, ti_ag4, ti_ag9, ti_ag22, ti_fl100_0, ti_fl100_1, ti_fl100_2, ti_fl153_0, ti_fl153_1, ti_fl153_2, ti_hb113, ti_hb114, ti_hb115, ti_pl153, ti_sb22, ti_sb98, ti_sl22, ti_sl98, ti_sz4, ti_sz22, ti_zr153, evD, evV, h1, Int.reduceEq, Int.reduceLT, Int.reduceLE, hg, hl, h0t, in_71] at hF
    subst hF
    repeat' (first
      | with_reducible refine And.intro ?_ ?_
      | with_reducible intro _
      | with_reducible refine AWp_seq ?_
      | with_reducible refine AWp_block ?_
      | (with_reducible refine hKv _ _ (AWp_nop ?_); clear hKv Kv)
      | (with_reducible refine hKv _ _ ?_; clear hKv Kv; simp (dsimp := false) only [go_sem, Nat.reduceAdd, Nat.reduceBEq, Nat.reduceEqDiff, Nat.reduceLT, Nat.reduceLeDiff, Nat.reduceMul, Int.reduceToNat, reduceCtorEq, ↓reduceIte, Tryd.ntmps71, Tryd.results71, ks_71, mu_71, xd_71, vw_71, ti_ag3, ti_ag4, ti_ag9, ti_ag22, ti_fl100_0, ti_fl100_1, ti_fl100_2, ti_fl153_0, ti_fl153_1, ti_fl153_2, ti_hb113, ti_hb114, ti_hb115, ti_pl153, ti_sb22, ti_sb98, ti_sl22, ti_sl98, ti_sz4, ti_sz22, ti_zr153, evD, evV, h1, Int.reduceEq, Int.reduceLT, Int.reduceLE, hg, hl, h0t])
      | (with_reducible refine hKA ?_; clear hKA hKB KA KB)
      | (with_reducible refine hKB ?_; clear hKA hKB KA KB)
      | ((first | with_reducible refine AWp_regC mu_71 ks_71 ?_ | with_reducible refine AWp_drawX xd_71 mu_71 ks_71 vw_71 (by decide) ti_mixed (by kernel_rfl) ?_); intro Kv hKv; simp (dsimp := false) only [go_sem, Nat.reduceAdd, Nat.reduceBEq, Nat.reduceEqDiff, Nat.reduceLT, Nat.reduceLeDiff, Nat.reduceMul, Int.reduceToNat, reduceCtorEq, ↓reduceIte, Tryd.ntmps71, Tryd.results71, ks_71, mu_71, xd_71, vw_71, ti_ag3, ti_ag4, ti_ag9, ti_ag22, ti_fl100_0, ti_fl100_1, ti_fl100_2, ti_fl153_0, ti_fl153_1, ti_fl153_2, ti_hb113, ti_hb114, ti_hb115, ti_pl153, ti_sb22, ti_sb98, ti_sl22, ti_sl98, ti_sz4, ti_sz22, ti_zr153, evD, evV, h1, Int.reduceEq, Int.reduceLT, Int.reduceLE, hg, hl, h0t])
      | with_reducible refine AWp_skipN ?_
      | with_reducible refine AWp_exitO (by repeat (first | with_reducible exact Out.hit | with_reducible apply Out.thenA | with_reducible apply Out.out rfl)) ?_
      | (with_reducible refine AWp_retR ?_; simp (dsimp := false) only [go_sem, Nat.reduceAdd, Nat.reduceBEq, Nat.reduceEqDiff, Nat.reduceLT, Nat.reduceLeDiff, Nat.reduceMul, Int.reduceToNat, reduceCtorEq, ↓reduceIte, Tryd.ntmps71, Tryd.results71, ks_71, mu_71, xd_71, vw_71, ti_ag3, ti_ag4, ti_ag9, ti_ag22, ti_fl100_0, ti_fl100_1, ti_fl100_2, ti_fl153_0, ti_fl153_1, ti_fl153_2, ti_hb113, ti_hb114, ti_hb115, ti_pl153, ti_sb22, ti_sb98, ti_sl22, ti_sl98, ti_sz4, ti_sz22, ti_zr153, evD, evV, h1, Int.reduceEq, Int.reduceLT, Int.reduceLE, hg, hl, h0t])
      | (with_reducible refine AWp_regE mu_71 ks_71 ?_; intro Kv hKv; simp (dsimp := false) only [go_sem, Nat.reduceAdd, Nat.reduceBEq, Nat.reduceEqDiff, Nat.reduceLT, Nat.reduceLeDiff, Nat.reduceMul, Int.reduceToNat, reduceCtorEq, ↓reduceIte, Tryd.ntmps71, Tryd.results71, ks_71, mu_71, xd_71, vw_71, ti_ag3, ti_ag4, ti_ag9, ti_ag22, ti_fl100_0, ti_fl100_1, ti_fl100_2, ti_fl153_0, ti_fl153_1, ti_fl153_2, ti_hb113, ti_hb114, ti_hb115, ti_pl153, ti_sb22, ti_sb98, ti_sl22, ti_sl98, ti_sz4, ti_sz22, ti_zr153, evD, evV, h1, Int.reduceEq, Int.reduceLT, Int.reduceLE, hg, hl, h0t])
      | (refine AWp_condC rfl ?_; intro KA KB hKA hKB; try simp only [onB_true, onB_false, onB_dec, onB_ndec, onB_not, onB_and, onB_or])
      | (with_reducible refine AWp_drawXE xd_71 mu_71 ks_71 vw_71 (by decide) ti_mixed (by kernel_rfl) ?_; intro Kv hKv; simp (dsimp := false) only [go_sem, Nat.reduceAdd, Nat.reduceBEq, Nat.reduceEqDiff, Nat.reduceLT, Nat.reduceLeDiff, Nat.reduceMul, Int.reduceToNat, reduceCtorEq, ↓reduceIte, Tryd.ntmps71, Tryd.results71, ks_71, mu_71, xd_71, vw_71, ti_ag3, ti_ag4, ti_ag9, ti_ag22, ti_fl100_0, ti_fl100_1, ti_fl100_2, ti_fl153_0, ti_fl153_1, ti_fl153_2, ti_hb113, ti_hb114, ti_hb115, ti_pl153, ti_sb22, ti_sb98, ti_sl22, ti_sl98, ti_sz4, ti_sz22, ti_zr153, evD, evV, h1, Int.reduceEq, Int.reduceLT, Int.reduceLE, hg, hl, h0t])
      | (refine AWp_condA rfl ?_ ?_)
      | ((first | refine checkName_A x.nm (by omega) _ _ ?_ | refine QCall_of (checkName_A x.nm (by omega) _ _ (Two_intro _ _)) ?_ | refine checkText_A x.vl (by omega) _ _ ?_ | refine QCall_of (checkText_A x.vl (by omega) _ _ (Two_intro _ _)) ?_); try simp (dsimp := false) only [go_sem, Nat.reduceAdd, Nat.reduceBEq, Nat.reduceEqDiff, Nat.reduceLT, Nat.reduceLeDiff, Nat.reduceMul, Int.reduceToNat, reduceCtorEq, ↓reduceIte, Tryd.ntmps71, Tryd.results71, ks_71, mu_71, xd_71, vw_71, ti_ag3, ti_ag4, ti_ag9, ti_ag22, ti_fl100_0, ti_fl100_1, ti_fl100_2, ti_fl153_0, ti_fl153_1, ti_fl153_2, ti_hb113, ti_hb114, ti_hb115, ti_pl153, ti_sb22, ti_sb98, ti_sl22, ti_sl98, ti_sz4, ti_sz22, ti_zr153, evD, evV, h1, Int.reduceEq, Int.reduceLT, Int.reduceLE, hg, hl, h0t])
      | with_reducible refine onB_of ?_ ?_
      | with_reducible rfl
      | omega)
    all_goals first
      | omega
      | exact bad_ret hk rfl (by first | decide | assumption)
  · rw [if_neg h0] at hk
    have h0f : ((s.n : Int) = 0) = False := eq_false (by first | exact h0 | omega)
    obtain ⟨c, htop, hat⟩ := ho.top h0
    have hgx : ∀ X, (H.set id X)[id]? = some X := fun X => get_self hg X
    have hss : ∀ X Y, (H.set id X).set id Y = H.set id Y := fun X Y => List.set_set ..
    have hil := lt_of_get htop
    have hri : ∀ X, (rows.set ((s.n : Int) - 1).toNat X)[((s.n : Int) - 1).toNat]? = some X := fun X => by rw [List.getElem?_set_self hil]
    have hrr : ∀ X Y, (rows.set ((s.n : Int) - 1).toNat X).set ((s.n : Int) - 1).toNat Y = rows.set ((s.n : Int) - 1).toNat Y := fun X Y => List.set_set ..
    have hpos : (0 < (s.n : Int)) = True := eq_true (by omega)
    have hge : ((0 : Int) ≤ (s.n : Int) - 1) = True := eq_true (by omega)
    have hlt : ((s.n : Int) - 1 < (s.n : Int)) = True := eq_true (by omega)
    by_cases hnf : nameFault x.nm = 0
    · rw [if_pos hnf] at hk
      have hnft : (nameFault x.nm = 0) = True := eq_true (by first | exact hnf | omega)
      by_cases htf : textFault x.vl = 0
      · rw [if_pos htf] at hk
        have htft : (textFault x.vl = 0) = True := eq_true (by first | exact htf | omega)
        by_cases hi : s.ins = true
        · rw [if_pos hi] at hk
          
          refine ACalls_of Tryd.func71 rfl in_71 (Nat.le_of_ble_eq_true rfl) ?_
          intro F hF
          simp (dsimp := false) only [go_sem, Nat.reduceAdd, Nat.reduceBEq, Nat.reduceEqDiff, Nat.reduceLT, Nat.reduceLeDiff, Nat.reduceMul, Int.reduceToNat, reduceCtorEq, ↓reduceIte, Tryd.ntmps71, Tryd.results71, ks_71, mu_71, xd_71, vw_71, ti_ag3, ti_ag4, ti_ag9, ti_ag22, ti_fl100_0, ti_fl100_1, ti_fl100_2, ti_fl153_0, ti_fl153_1, ti_fl153_2, ti_hb113, ti_hb114, ti_hb115, ti_pl153, ti_sb22, ti_sb98, ti_sl22, ti_sl98, ti_sz4, ti_sz22, ti_zr153, evD, evV, h1, Int.reduceEq, Int.reduceLT, Int.reduceLE, hg, hl, h0f, htop, hgx, hss, hri, hrr, hpos, hge, hlt, List.length_set, hnft, htft, hi, in_71] at hF
          subst hF
          repeat' (first
            | with_reducible refine And.intro ?_ ?_
            | with_reducible intro _
            | with_reducible refine AWp_seq ?_
            | with_reducible refine AWp_block ?_
            | (with_reducible refine hKv _ _ (AWp_nop ?_); clear hKv Kv)
            | (with_reducible refine hKv _ _ ?_; clear hKv Kv; simp (dsimp := false) only [go_sem, Nat.reduceAdd, Nat.reduceBEq, Nat.reduceEqDiff, Nat.reduceLT, Nat.reduceLeDiff, Nat.reduceMul, Int.reduceToNat, reduceCtorEq, ↓reduceIte, Tryd.ntmps71, Tryd.results71, ks_71, mu_71, xd_71, vw_71, ti_ag3, ti_ag4, ti_ag9, ti_ag22, ti_fl100_0, ti_fl100_1, ti_fl100_2, ti_fl153_0, ti_fl153_1, ti_fl153_2, ti_hb113, ti_hb114, ti_hb115, ti_pl153, ti_sb22, ti_sb98, ti_sl22, ti_sl98, ti_sz4, ti_sz22, ti_zr153, evD, evV, h1, Int.reduceEq, Int.reduceLT, Int.reduceLE, hg, hl, h0f, htop, hgx, hss, hri, hrr, hpos, hge, hlt, List.length_set, hnft, htft, hi])
            | (with_reducible refine hKA ?_; clear hKA hKB KA KB)
            | (with_reducible refine hKB ?_; clear hKA hKB KA KB)
            | ((first | with_reducible refine AWp_regC mu_71 ks_71 ?_ | with_reducible refine AWp_drawX xd_71 mu_71 ks_71 vw_71 (by decide) ti_mixed (by kernel_rfl) ?_); intro Kv hKv; simp (dsimp := false) only [go_sem, Nat.reduceAdd, Nat.reduceBEq, Nat.reduceEqDiff, Nat.reduceLT, Nat.reduceLeDiff, Nat.reduceMul, Int.reduceToNat, reduceCtorEq, ↓reduceIte, Tryd.ntmps71, Tryd.results71, ks_71, mu_71, xd_71, vw_71, ti_ag3, ti_ag4, ti_ag9, ti_ag22, ti_fl100_0, ti_fl100_1, ti_fl100_2, ti_fl153_0, ti_fl153_1, ti_fl153_2, ti_hb113, ti_hb114, ti_hb115, ti_pl153, ti_sb22, ti_sb98, ti_sl22, ti_sl98, ti_sz4, ti_sz22, ti_zr153, evD, evV, h1, Int.reduceEq, Int.reduceLT, Int.reduceLE, hg, hl, h0f, htop, hgx, hss, hri, hrr, hpos, hge, hlt, List.length_set, hnft, htft, hi])
            | with_reducible refine AWp_skipN ?_
            | with_reducible refine AWp_exitO (by repeat (first | with_reducible exact Out.hit | with_reducible apply Out.thenA | with_reducible apply Out.out rfl)) ?_
            | (with_reducible refine AWp_retR ?_; simp (dsimp := false) only [go_sem, Nat.reduceAdd, Nat.reduceBEq, Nat.reduceEqDiff, Nat.reduceLT, Nat.reduceLeDiff, Nat.reduceMul, Int.reduceToNat, reduceCtorEq, ↓reduceIte, Tryd.ntmps71, Tryd.results71, ks_71, mu_71, xd_71, vw_71, ti_ag3, ti_ag4, ti_ag9, ti_ag22, ti_fl100_0, ti_fl100_1, ti_fl100_2, ti_fl153_0, ti_fl153_1, ti_fl153_2, ti_hb113, ti_hb114, ti_hb115, ti_pl153, ti_sb22, ti_sb98, ti_sl22, ti_sl98, ti_sz4, ti_sz22, ti_zr153, evD, evV, h1, Int.reduceEq, Int.reduceLT, Int.reduceLE, hg, hl, h0f, htop, hgx, hss, hri, hrr, hpos, hge, hlt, List.length_set, hnft, htft, hi])
            | (with_reducible refine AWp_regE mu_71 ks_71 ?_; intro Kv hKv; simp (dsimp := false) only [go_sem, Nat.reduceAdd, Nat.reduceBEq, Nat.reduceEqDiff, Nat.reduceLT, Nat.reduceLeDiff, Nat.reduceMul, Int.reduceToNat, reduceCtorEq, ↓reduceIte, Tryd.ntmps71, Tryd.results71, ks_71, mu_71, xd_71, vw_71, ti_ag3, ti_ag4, ti_ag9, ti_ag22, ti_fl100_0, ti_fl100_1, ti_fl100_2, ti_fl153_0, ti_fl153_1, ti_fl153_2, ti_hb113, ti_hb114, ti_hb115, ti_pl153, ti_sb22, ti_sb98, ti_sl22, ti_sl98, ti_sz4, ti_sz22, ti_zr153, evD, evV, h1, Int.reduceEq, Int.reduceLT, Int.reduceLE, hg, hl, h0f, htop, hgx, hss, hri, hrr, hpos, hge, hlt, List.length_set, hnft, htft, hi])
            | (refine AWp_condC rfl ?_; intro KA KB hKA hKB; try simp only [onB_true, onB_false, onB_dec, onB_ndec, onB_not, onB_and, onB_or])
            | (with_reducible refine AWp_drawXE xd_71 mu_71 ks_71 vw_71 (by decide) ti_mixed (by kernel_rfl) ?_; intro Kv hKv; simp (dsimp := false) only [go_sem, Nat.reduceAdd, Nat.reduceBEq, Nat.reduceEqDiff, Nat.reduceLT, Nat.reduceLeDiff, Nat.reduceMul, Int.reduceToNat, reduceCtorEq, ↓reduceIte, Tryd.ntmps71, Tryd.results71, ks_71, mu_71, xd_71, vw_71, ti_ag3, ti_ag4, ti_ag9, ti_ag22, ti_fl100_0, ti_fl100_1, ti_fl100_2, ti_fl153_0, ti_fl153_1, ti_fl153_2, ti_hb113, ti_hb114, ti_hb115, ti_pl153, ti_sb22, ti_sb98, ti_sl22, ti_sl98, ti_sz4, ti_sz22, ti_zr153, evD, evV, h1, Int.reduceEq, Int.reduceLT, Int.reduceLE, hg, hl, h0f, htop, hgx, hss, hri, hrr, hpos, hge, hlt, List.length_set, hnft, htft, hi])
            | (refine AWp_condA rfl ?_ ?_)
            | ((first | refine checkName_A x.nm (by omega) _ _ ?_ | refine QCall_of (checkName_A x.nm (by omega) _ _ (Two_intro _ _)) ?_ | refine checkText_A x.vl (by omega) _ _ ?_ | refine QCall_of (checkText_A x.vl (by omega) _ _ (Two_intro _ _)) ?_); try simp (dsimp := false) only [go_sem, Nat.reduceAdd, Nat.reduceBEq, Nat.reduceEqDiff, Nat.reduceLT, Nat.reduceLeDiff, Nat.reduceMul, Int.reduceToNat, reduceCtorEq, ↓reduceIte, Tryd.ntmps71, Tryd.results71, ks_71, mu_71, xd_71, vw_71, ti_ag3, ti_ag4, ti_ag9, ti_ag22, ti_fl100_0, ti_fl100_1, ti_fl100_2, ti_fl153_0, ti_fl153_1, ti_fl153_2, ti_hb113, ti_hb114, ti_hb115, ti_pl153, ti_sb22, ti_sb98, ti_sl22, ti_sl98, ti_sz4, ti_sz22, ti_zr153, evD, evV, h1, Int.reduceEq, Int.reduceLT, Int.reduceLE, hg, hl, h0f, htop, hgx, hss, hri, hrr, hpos, hge, hlt, List.length_set, hnft, htft, hi])
            | with_reducible refine onB_of ?_ ?_
            | with_reducible rfl
            | omega)
          all_goals first
            | omega
            | exact bad_ret hk rfl (by first | decide | assumption)
        · rw [if_neg hi] at hk
          have hif : s.ins = false := by simpa using hi
          rcases hat hif with ⟨ha, rfl⟩ | ⟨ia, va, ha, rfl, hltia, hga⟩
          · rw [if_neg (by rw [ha]; simp)] at hk
            have hap : ∀ X : Ob, (H ++ [X])[id]? = some (Ob.row ver 153 3 rows) := fun X => by rw [List.getElem?_append_left hid, hg]
            
            refine ACalls_of Tryd.func71 rfl in_71 (Nat.le_of_ble_eq_true rfl) ?_
            intro F hF
            simp (dsimp := false) only [go_sem, Nat.reduceAdd, Nat.reduceBEq, Nat.reduceEqDiff, Nat.reduceLT, Nat.reduceLeDiff, Nat.reduceMul, Int.reduceToNat, reduceCtorEq, ↓reduceIte, Tryd.ntmps71, Tryd.results71, ks_71, mu_71, xd_71, vw_71, ti_ag3, ti_ag4, ti_ag9, ti_ag22, ti_fl100_0, ti_fl100_1, ti_fl100_2, ti_fl153_0, ti_fl153_1, ti_fl153_2, ti_hb113, ti_hb114, ti_hb115, ti_pl153, ti_sb22, ti_sb98, ti_sl22, ti_sl98, ti_sz4, ti_sz22, ti_zr153, evD, evV, h1, Int.reduceEq, Int.reduceLT, Int.reduceLE, hg, hl, hap, h0f, htop, hgx, hss, hri, hrr, hpos, hge, hlt, List.length_set, hnft, htft, hif, in_71] at hF
            subst hF
            repeat' (first
              | with_reducible refine And.intro ?_ ?_
              | with_reducible intro _
              | with_reducible refine AWp_seq ?_
              | with_reducible refine AWp_block ?_
              | (with_reducible refine hKv _ _ (AWp_nop ?_); clear hKv Kv)
              | (with_reducible refine hKv _ _ ?_; clear hKv Kv; simp (dsimp := false) only [go_sem, Nat.reduceAdd, Nat.reduceBEq, Nat.reduceEqDiff, Nat.reduceLT, Nat.reduceLeDiff, Nat.reduceMul, Int.reduceToNat, reduceCtorEq, ↓reduceIte, Tryd.ntmps71, Tryd.results71, ks_71, mu_71, xd_71, vw_71, ti_ag3, ti_ag4, ti_ag9, ti_ag22, ti_fl100_0, ti_fl100_1, ti_fl100_2, ti_fl153_0, ti_fl153_1, ti_fl153_2, ti_hb113, ti_hb114, ti_hb115, ti_pl153, ti_sb22, ti_sb98, ti_sl22, ti_sl98, ti_sz4, ti_sz22, ti_zr153, evD, evV, h1, Int.reduceEq, Int.reduceLT, Int.reduceLE, hg, hl, hap, h0f, htop, hgx, hss, hri, hrr, hpos, hge, hlt, List.length_set, hnft, htft, hif])
              | (with_reducible refine hKA ?_; clear hKA hKB KA KB)
              | (with_reducible refine hKB ?_; clear hKA hKB KA KB)
              | ((first | with_reducible refine AWp_regC mu_71 ks_71 ?_ | with_reducible refine AWp_drawX xd_71 mu_71 ks_71 vw_71 (by decide) ti_mixed (by kernel_rfl) ?_); intro Kv hKv; simp (dsimp := false) only [go_sem, Nat.reduceAdd, Nat.reduceBEq, Nat.reduceEqDiff, Nat.reduceLT, Nat.reduceLeDiff, Nat.reduceMul, Int.reduceToNat, reduceCtorEq, ↓reduceIte, Tryd.ntmps71, Tryd.results71, ks_71, mu_71, xd_71, vw_71, ti_ag3, ti_ag4, ti_ag9, ti_ag22, ti_fl100_0, ti_fl100_1, ti_fl100_2, ti_fl153_0, ti_fl153_1, ti_fl153_2, ti_hb113, ti_hb114, ti_hb115, ti_pl153, ti_sb22, ti_sb98, ti_sl22, ti_sl98, ti_sz4, ti_sz22, ti_zr153, evD, evV, h1, Int.reduceEq, Int.reduceLT, Int.reduceLE, hg, hl, hap, h0f, htop, hgx, hss, hri, hrr, hpos, hge, hlt, List.length_set, hnft, htft, hif])
              | with_reducible refine AWp_skipN ?_
              | with_reducible refine AWp_exitO (by repeat (first | with_reducible exact Out.hit | with_reducible apply Out.thenA | with_reducible apply Out.out rfl)) ?_
              | (with_reducible refine AWp_retR ?_; simp (dsimp := false) only [go_sem, Nat.reduceAdd, Nat.reduceBEq, Nat.reduceEqDiff, Nat.reduceLT, Nat.reduceLeDiff, Nat.reduceMul, Int.reduceToNat, reduceCtorEq, ↓reduceIte, Tryd.ntmps71, Tryd.results71, ks_71, mu_71, xd_71, vw_71, ti_ag3, ti_ag4, ti_ag9, ti_ag22, ti_fl100_0, ti_fl100_1, ti_fl100_2, ti_fl153_0, ti_fl153_1, ti_fl153_2, ti_hb113, ti_hb114, ti_hb115, ti_pl153, ti_sb22, ti_sb98, ti_sl22, ti_sl98, ti_sz4, ti_sz22, ti_zr153, evD, evV, h1, Int.reduceEq, Int.reduceLT, Int.reduceLE, hg, hl, hap, h0f, htop, hgx, hss, hri, hrr, hpos, hge, hlt, List.length_set, hnft, htft, hif])
              | (with_reducible refine AWp_regE mu_71 ks_71 ?_; intro Kv hKv; simp (dsimp := false) only [go_sem, Nat.reduceAdd, Nat.reduceBEq, Nat.reduceEqDiff, Nat.reduceLT, Nat.reduceLeDiff, Nat.reduceMul, Int.reduceToNat, reduceCtorEq, ↓reduceIte, Tryd.ntmps71, Tryd.results71, ks_71, mu_71, xd_71, vw_71, ti_ag3, ti_ag4, ti_ag9, ti_ag22, ti_fl100_0, ti_fl100_1, ti_fl100_2, ti_fl153_0, ti_fl153_1, ti_fl153_2, ti_hb113, ti_hb114, ti_hb115, ti_pl153, ti_sb22, ti_sb98, ti_sl22, ti_sl98, ti_sz4, ti_sz22, ti_zr153, evD, evV, h1, Int.reduceEq, Int.reduceLT, Int.reduceLE, hg, hl, hap, h0f, htop, hgx, hss, hri, hrr, hpos, hge, hlt, List.length_set, hnft, htft, hif])
              | (refine AWp_condC rfl ?_; intro KA KB hKA hKB; try simp only [onB_true, onB_false, onB_dec, onB_ndec, onB_not, onB_and, onB_or])
              | (with_reducible refine AWp_drawXE xd_71 mu_71 ks_71 vw_71 (by decide) ti_mixed (by kernel_rfl) ?_; intro Kv hKv; simp (dsimp := false) only [go_sem, Nat.reduceAdd, Nat.reduceBEq, Nat.reduceEqDiff, Nat.reduceLT, Nat.reduceLeDiff, Nat.reduceMul, Int.reduceToNat, reduceCtorEq, ↓reduceIte, Tryd.ntmps71, Tryd.results71, ks_71, mu_71, xd_71, vw_71, ti_ag3, ti_ag4, ti_ag9, ti_ag22, ti_fl100_0, ti_fl100_1, ti_fl100_2, ti_fl153_0, ti_fl153_1, ti_fl153_2, ti_hb113, ti_hb114, ti_hb115, ti_pl153, ti_sb22, ti_sb98, ti_sl22, ti_sl98, ti_sz4, ti_sz22, ti_zr153, evD, evV, h1, Int.reduceEq, Int.reduceLT, Int.reduceLE, hg, hl, hap, h0f, htop, hgx, hss, hri, hrr, hpos, hge, hlt, List.length_set, hnft, htft, hif])
              | (refine AWp_condA rfl ?_ ?_)
              | ((first | refine checkName_A x.nm (by omega) _ _ ?_ | refine QCall_of (checkName_A x.nm (by omega) _ _ (Two_intro _ _)) ?_ | refine checkText_A x.vl (by omega) _ _ ?_ | refine QCall_of (checkText_A x.vl (by omega) _ _ (Two_intro _ _)) ?_); try simp (dsimp := false) only [go_sem, Nat.reduceAdd, Nat.reduceBEq, Nat.reduceEqDiff, Nat.reduceLT, Nat.reduceLeDiff, Nat.reduceMul, Int.reduceToNat, reduceCtorEq, ↓reduceIte, Tryd.ntmps71, Tryd.results71, ks_71, mu_71, xd_71, vw_71, ti_ag3, ti_ag4, ti_ag9, ti_ag22, ti_fl100_0, ti_fl100_1, ti_fl100_2, ti_fl153_0, ti_fl153_1, ti_fl153_2, ti_hb113, ti_hb114, ti_hb115, ti_pl153, ti_sb22, ti_sb98, ti_sl22, ti_sl98, ti_sz4, ti_sz22, ti_zr153, evD, evV, h1, Int.reduceEq, Int.reduceLT, Int.reduceLE, hg, hl, hap, h0f, htop, hgx, hss, hri, hrr, hpos, hge, hlt, List.length_set, hnft, htft, hif])
              | with_reducible refine onB_of ?_ ?_
              | with_reducible rfl
              | omega)
            refine AWp_while0 (fun _ : Unit => True) (fun _ => [(0, .os id ver), (4, .rp (evD x)), (8, .d (.i .i64 s.n)), (97, .d (.c (.slice none 0 0))), (98, .d (.i .i64 0)), (99, .d (.i .i64 0))]) (fun _ => 0) () trivial ?_ ?_
            · simp (dsimp := false) only [go_sem, Nat.reduceAdd, Nat.reduceBEq, Nat.reduceEqDiff, Nat.reduceLT, Nat.reduceLeDiff, Nat.reduceMul, Int.reduceToNat, reduceCtorEq, ↓reduceIte, Tryd.ntmps71, Tryd.results71, ks_71, mu_71, xd_71, vw_71, ti_ag3, ti_ag4, ti_ag9, ti_ag22, ti_fl100_0, ti_fl100_1, ti_fl100_2, ti_fl153_0, ti_fl153_1, ti_fl153_2, ti_hb113, ti_hb114, ti_hb115, ti_pl153, ti_sb22, ti_sb98, ti_sl22, ti_sl98, ti_sz4, ti_sz22, ti_zr153, evD, evV, h1, Int.reduceEq, Int.reduceLT, Int.reduceLE, hg, hl, hap, h0f, htop, hgx, hss, hri, hrr, hpos, hge, hlt, List.length_set, hnft, htft, hif]
              first | done | exact hid | (simp; done)
            rintro ⟨⟩ _
            repeat' (first
              | with_reducible refine And.intro ?_ ?_
              | with_reducible intro _
              | with_reducible refine AWp_seq ?_
              | with_reducible refine AWp_block ?_
              | (with_reducible refine hKv _ _ (AWp_nop ?_); clear hKv Kv)
              | (with_reducible refine hKv _ _ ?_; clear hKv Kv; simp (dsimp := false) only [go_sem, Nat.reduceAdd, Nat.reduceBEq, Nat.reduceEqDiff, Nat.reduceLT, Nat.reduceLeDiff, Nat.reduceMul, Int.reduceToNat, reduceCtorEq, ↓reduceIte, Tryd.ntmps71, Tryd.results71, ks_71, mu_71, xd_71, vw_71, ti_ag3, ti_ag4, ti_ag9, ti_ag22, ti_fl100_0, ti_fl100_1, ti_fl100_2, ti_fl153_0, ti_fl153_1, ti_fl153_2, ti_hb113, ti_hb114, ti_hb115, ti_pl153, ti_sb22, ti_sb98, ti_sl22, ti_sl98, ti_sz4, ti_sz22, ti_zr153, evD, evV, h1, Int.reduceEq, Int.reduceLT, Int.reduceLE, hg, hl, hap, h0f, htop, hgx, hss, hri, hrr, hpos, hge, hlt, List.length_set, hnft, htft, hif])
              | (with_reducible refine hKA ?_; clear hKA hKB KA KB)
              | (with_reducible refine hKB ?_; clear hKA hKB KA KB)
              | ((first | with_reducible refine AWp_regC mu_71 ks_71 ?_ | with_reducible refine AWp_drawX xd_71 mu_71 ks_71 vw_71 (by decide) ti_mixed (by kernel_rfl) ?_); intro Kv hKv; simp (dsimp := false) only [go_sem, Nat.reduceAdd, Nat.reduceBEq, Nat.reduceEqDiff, Nat.reduceLT, Nat.reduceLeDiff, Nat.reduceMul, Int.reduceToNat, reduceCtorEq, ↓reduceIte, Tryd.ntmps71, Tryd.results71, ks_71, mu_71, xd_71, vw_71, ti_ag3, ti_ag4, ti_ag9, ti_ag22, ti_fl100_0, ti_fl100_1, ti_fl100_2, ti_fl153_0, ti_fl153_1, ti_fl153_2, ti_hb113, ti_hb114, ti_hb115, ti_pl153, ti_sb22, ti_sb98, ti_sl22, ti_sl98, ti_sz4, ti_sz22, ti_zr153, evD, evV, h1, Int.reduceEq, Int.reduceLT, Int.reduceLE, hg, hl, hap, h0f, htop, hgx, hss, hri, hrr, hpos, hge, hlt, List.length_set, hnft, htft, hif])
              | with_reducible refine AWp_skipN ?_
              | with_reducible refine AWp_exitO (by repeat (first | with_reducible exact Out.hit | with_reducible apply Out.thenA | with_reducible apply Out.out rfl)) ?_
              | (with_reducible refine AWp_retR ?_; simp (dsimp := false) only [go_sem, Nat.reduceAdd, Nat.reduceBEq, Nat.reduceEqDiff, Nat.reduceLT, Nat.reduceLeDiff, Nat.reduceMul, Int.reduceToNat, reduceCtorEq, ↓reduceIte, Tryd.ntmps71, Tryd.results71, ks_71, mu_71, xd_71, vw_71, ti_ag3, ti_ag4, ti_ag9, ti_ag22, ti_fl100_0, ti_fl100_1, ti_fl100_2, ti_fl153_0, ti_fl153_1, ti_fl153_2, ti_hb113, ti_hb114, ti_hb115, ti_pl153, ti_sb22, ti_sb98, ti_sl22, ti_sl98, ti_sz4, ti_sz22, ti_zr153, evD, evV, h1, Int.reduceEq, Int.reduceLT, Int.reduceLE, hg, hl, hap, h0f, htop, hgx, hss, hri, hrr, hpos, hge, hlt, List.length_set, hnft, htft, hif])
              | (with_reducible refine AWp_regE mu_71 ks_71 ?_; intro Kv hKv; simp (dsimp := false) only [go_sem, Nat.reduceAdd, Nat.reduceBEq, Nat.reduceEqDiff, Nat.reduceLT, Nat.reduceLeDiff, Nat.reduceMul, Int.reduceToNat, reduceCtorEq, ↓reduceIte, Tryd.ntmps71, Tryd.results71, ks_71, mu_71, xd_71, vw_71, ti_ag3, ti_ag4, ti_ag9, ti_ag22, ti_fl100_0, ti_fl100_1, ti_fl100_2, ti_fl153_0, ti_fl153_1, ti_fl153_2, ti_hb113, ti_hb114, ti_hb115, ti_pl153, ti_sb22, ti_sb98, ti_sl22, ti_sl98, ti_sz4, ti_sz22, ti_zr153, evD, evV, h1, Int.reduceEq, Int.reduceLT, Int.reduceLE, hg, hl, hap, h0f, htop, hgx, hss, hri, hrr, hpos, hge, hlt, List.length_set, hnft, htft, hif])
              | (refine AWp_condC rfl ?_; intro KA KB hKA hKB; try simp only [onB_true, onB_false, onB_dec, onB_ndec, onB_not, onB_and, onB_or])
              | (with_reducible refine AWp_drawXE xd_71 mu_71 ks_71 vw_71 (by decide) ti_mixed (by kernel_rfl) ?_; intro Kv hKv; simp (dsimp := false) only [go_sem, Nat.reduceAdd, Nat.reduceBEq, Nat.reduceEqDiff, Nat.reduceLT, Nat.reduceLeDiff, Nat.reduceMul, Int.reduceToNat, reduceCtorEq, ↓reduceIte, Tryd.ntmps71, Tryd.results71, ks_71, mu_71, xd_71, vw_71, ti_ag3, ti_ag4, ti_ag9, ti_ag22, ti_fl100_0, ti_fl100_1, ti_fl100_2, ti_fl153_0, ti_fl153_1, ti_fl153_2, ti_hb113, ti_hb114, ti_hb115, ti_pl153, ti_sb22, ti_sb98, ti_sl22, ti_sl98, ti_sz4, ti_sz22, ti_zr153, evD, evV, h1, Int.reduceEq, Int.reduceLT, Int.reduceLE, hg, hl, hap, h0f, htop, hgx, hss, hri, hrr, hpos, hge, hlt, List.length_set, hnft, htft, hif])
              | (refine AWp_condA rfl ?_ ?_)
              | with_reducible refine onB_of ?_ ?_
              | with_reducible rfl
              | omega)
            all_goals first
              | omega
              | exact attr_ret (hk.2.1 rfl ha) (by simp) (closed_app (by simp; exact obBel_str _ _ _ [x.nm])) hid (ob_set (ObBel.mono' (by simp) hB) (bel_cell (.os _ _ (by simp))))
          · skip
            have hne : ∀ X : Ob, (H.set ia X)[id]? = some (Ob.row ver 153 3 rows) := fun X => by rw [get_ne (by omega), hg]
            have hila := lt_of_get hga
            have hgxa : ∀ X, (H.set ia X)[ia]? = some X := fun X => get_self hga X
            have hgl : (s.at_.map strC).length = s.at_.length := List.length_map _
            
            refine ACalls_of Tryd.func71 rfl in_71 (Nat.le_of_ble_eq_true rfl) ?_
            intro F hF
            simp (dsimp := false) only [go_sem, Nat.reduceAdd, Nat.reduceBEq, Nat.reduceEqDiff, Nat.reduceLT, Nat.reduceLeDiff, Nat.reduceMul, Int.reduceToNat, reduceCtorEq, ↓reduceIte, Tryd.ntmps71, Tryd.results71, ks_71, mu_71, xd_71, vw_71, ti_ag3, ti_ag4, ti_ag9, ti_ag22, ti_fl100_0, ti_fl100_1, ti_fl100_2, ti_fl153_0, ti_fl153_1, ti_fl153_2, ti_hb113, ti_hb114, ti_hb115, ti_pl153, ti_sb22, ti_sb98, ti_sl22, ti_sl98, ti_sz4, ti_sz22, ti_zr153, evD, evV, h1, Int.reduceEq, Int.reduceLT, Int.reduceLE, hg, hl, hne, hga, hgl, hgxa, h0f, htop, hgx, hss, hri, hrr, hpos, hge, hlt, List.length_set, hnft, htft, hif, in_71] at hF
            subst hF
            repeat' (first
              | with_reducible refine And.intro ?_ ?_
              | with_reducible intro _
              | with_reducible refine AWp_seq ?_
              | with_reducible refine AWp_block ?_
              | (with_reducible refine hKv _ _ (AWp_nop ?_); clear hKv Kv)
              | (with_reducible refine hKv _ _ ?_; clear hKv Kv; simp (dsimp := false) only [go_sem, Nat.reduceAdd, Nat.reduceBEq, Nat.reduceEqDiff, Nat.reduceLT, Nat.reduceLeDiff, Nat.reduceMul, Int.reduceToNat, reduceCtorEq, ↓reduceIte, Tryd.ntmps71, Tryd.results71, ks_71, mu_71, xd_71, vw_71, ti_ag3, ti_ag4, ti_ag9, ti_ag22, ti_fl100_0, ti_fl100_1, ti_fl100_2, ti_fl153_0, ti_fl153_1, ti_fl153_2, ti_hb113, ti_hb114, ti_hb115, ti_pl153, ti_sb22, ti_sb98, ti_sl22, ti_sl98, ti_sz4, ti_sz22, ti_zr153, evD, evV, h1, Int.reduceEq, Int.reduceLT, Int.reduceLE, hg, hl, hne, hga, hgl, hgxa, h0f, htop, hgx, hss, hri, hrr, hpos, hge, hlt, List.length_set, hnft, htft, hif])
              | (with_reducible refine hKA ?_; clear hKA hKB KA KB)
              | (with_reducible refine hKB ?_; clear hKA hKB KA KB)
              | ((first | with_reducible refine AWp_regC mu_71 ks_71 ?_ | with_reducible refine AWp_drawX xd_71 mu_71 ks_71 vw_71 (by decide) ti_mixed (by kernel_rfl) ?_); intro Kv hKv; simp (dsimp := false) only [go_sem, Nat.reduceAdd, Nat.reduceBEq, Nat.reduceEqDiff, Nat.reduceLT, Nat.reduceLeDiff, Nat.reduceMul, Int.reduceToNat, reduceCtorEq, ↓reduceIte, Tryd.ntmps71, Tryd.results71, ks_71, mu_71, xd_71, vw_71, ti_ag3, ti_ag4, ti_ag9, ti_ag22, ti_fl100_0, ti_fl100_1, ti_fl100_2, ti_fl153_0, ti_fl153_1, ti_fl153_2, ti_hb113, ti_hb114, ti_hb115, ti_pl153, ti_sb22, ti_sb98, ti_sl22, ti_sl98, ti_sz4, ti_sz22, ti_zr153, evD, evV, h1, Int.reduceEq, Int.reduceLT, Int.reduceLE, hg, hl, hne, hga, hgl, hgxa, h0f, htop, hgx, hss, hri, hrr, hpos, hge, hlt, List.length_set, hnft, htft, hif])
              | with_reducible refine AWp_skipN ?_
              | with_reducible refine AWp_exitO (by repeat (first | with_reducible exact Out.hit | with_reducible apply Out.thenA | with_reducible apply Out.out rfl)) ?_
              | (with_reducible refine AWp_retR ?_; simp (dsimp := false) only [go_sem, Nat.reduceAdd, Nat.reduceBEq, Nat.reduceEqDiff, Nat.reduceLT, Nat.reduceLeDiff, Nat.reduceMul, Int.reduceToNat, reduceCtorEq, ↓reduceIte, Tryd.ntmps71, Tryd.results71, ks_71, mu_71, xd_71, vw_71, ti_ag3, ti_ag4, ti_ag9, ti_ag22, ti_fl100_0, ti_fl100_1, ti_fl100_2, ti_fl153_0, ti_fl153_1, ti_fl153_2, ti_hb113, ti_hb114, ti_hb115, ti_pl153, ti_sb22, ti_sb98, ti_sl22, ti_sl98, ti_sz4, ti_sz22, ti_zr153, evD, evV, h1, Int.reduceEq, Int.reduceLT, Int.reduceLE, hg, hl, hne, hga, hgl, hgxa, h0f, htop, hgx, hss, hri, hrr, hpos, hge, hlt, List.length_set, hnft, htft, hif])
              | (with_reducible refine AWp_regE mu_71 ks_71 ?_; intro Kv hKv; simp (dsimp := false) only [go_sem, Nat.reduceAdd, Nat.reduceBEq, Nat.reduceEqDiff, Nat.reduceLT, Nat.reduceLeDiff, Nat.reduceMul, Int.reduceToNat, reduceCtorEq, ↓reduceIte, Tryd.ntmps71, Tryd.results71, ks_71, mu_71, xd_71, vw_71, ti_ag3, ti_ag4, ti_ag9, ti_ag22, ti_fl100_0, ti_fl100_1, ti_fl100_2, ti_fl153_0, ti_fl153_1, ti_fl153_2, ti_hb113, ti_hb114, ti_hb115, ti_pl153, ti_sb22, ti_sb98, ti_sl22, ti_sl98, ti_sz4, ti_sz22, ti_zr153, evD, evV, h1, Int.reduceEq, Int.reduceLT, Int.reduceLE, hg, hl, hne, hga, hgl, hgxa, h0f, htop, hgx, hss, hri, hrr, hpos, hge, hlt, List.length_set, hnft, htft, hif])
              | (refine AWp_condC rfl ?_; intro KA KB hKA hKB; try simp only [onB_true, onB_false, onB_dec, onB_ndec, onB_not, onB_and, onB_or])
              | (with_reducible refine AWp_drawXE xd_71 mu_71 ks_71 vw_71 (by decide) ti_mixed (by kernel_rfl) ?_; intro Kv hKv; simp (dsimp := false) only [go_sem, Nat.reduceAdd, Nat.reduceBEq, Nat.reduceEqDiff, Nat.reduceLT, Nat.reduceLeDiff, Nat.reduceMul, Int.reduceToNat, reduceCtorEq, ↓reduceIte, Tryd.ntmps71, Tryd.results71, ks_71, mu_71, xd_71, vw_71, ti_ag3, ti_ag4, ti_ag9, ti_ag22, ti_fl100_0, ti_fl100_1, ti_fl100_2, ti_fl153_0, ti_fl153_1, ti_fl153_2, ti_hb113, ti_hb114, ti_hb115, ti_pl153, ti_sb22, ti_sb98, ti_sl22, ti_sl98, ti_sz4, ti_sz22, ti_zr153, evD, evV, h1, Int.reduceEq, Int.reduceLT, Int.reduceLE, hg, hl, hne, hga, hgl, hgxa, h0f, htop, hgx, hss, hri, hrr, hpos, hge, hlt, List.length_set, hnft, htft, hif])
              | (refine AWp_condA rfl ?_ ?_)
              | ((first | refine checkName_A x.nm (by omega) _ _ ?_ | refine QCall_of (checkName_A x.nm (by omega) _ _ (Two_intro _ _)) ?_ | refine checkText_A x.vl (by omega) _ _ ?_ | refine QCall_of (checkText_A x.vl (by omega) _ _ (Two_intro _ _)) ?_); try simp (dsimp := false) only [go_sem, Nat.reduceAdd, Nat.reduceBEq, Nat.reduceEqDiff, Nat.reduceLT, Nat.reduceLeDiff, Nat.reduceMul, Int.reduceToNat, reduceCtorEq, ↓reduceIte, Tryd.ntmps71, Tryd.results71, ks_71, mu_71, xd_71, vw_71, ti_ag3, ti_ag4, ti_ag9, ti_ag22, ti_fl100_0, ti_fl100_1, ti_fl100_2, ti_fl153_0, ti_fl153_1, ti_fl153_2, ti_hb113, ti_hb114, ti_hb115, ti_pl153, ti_sb22, ti_sb98, ti_sl22, ti_sl98, ti_sz4, ti_sz22, ti_zr153, evD, evV, h1, Int.reduceEq, Int.reduceLT, Int.reduceLE, hg, hl, hne, hga, hgl, hgxa, h0f, htop, hgx, hss, hri, hrr, hpos, hge, hlt, List.length_set, hnft, htft, hif])
              | with_reducible refine onB_of ?_ ?_
              | with_reducible rfl
              | omega)
            refine AWp_while0 (fun i : Nat => i ≤ s.at_.length ∧ (x.nm ∈ s.at_) = (x.nm ∈ s.at_.drop i)) (fun i => [(0, .os id ver), (4, .rp (evD x)), (8, .d (.i .i64 s.n)), (97, .os ia va), (98, .d (.i .i64 s.at_.length)), (99, .d (.i .i64 i))]) (fun i => s.at_.length - i) 0 ⟨Nat.zero_le _, by rw [List.drop_zero]⟩ ?_ ?_
            · simp (dsimp := false) only [go_sem, Nat.reduceAdd, Nat.reduceBEq, Nat.reduceEqDiff, Nat.reduceLT, Nat.reduceLeDiff, Nat.reduceMul, Int.reduceToNat, reduceCtorEq, ↓reduceIte, Tryd.ntmps71, Tryd.results71, ks_71, mu_71, xd_71, vw_71, ti_ag3, ti_ag4, ti_ag9, ti_ag22, ti_fl100_0, ti_fl100_1, ti_fl100_2, ti_fl153_0, ti_fl153_1, ti_fl153_2, ti_hb113, ti_hb114, ti_hb115, ti_pl153, ti_sb22, ti_sb98, ti_sl22, ti_sl98, ti_sz4, ti_sz22, ti_zr153, evD, evV, h1, Int.reduceEq, Int.reduceLT, Int.reduceLE, hg, hl, hne, hga, hgl, hgxa, h0f, htop, hgx, hss, hri, hrr, hpos, hge, hlt, List.length_set, hnft, htft, hif]
              first | done | exact ⟨hid, hila⟩ | (simp; done) | (simp; omega)
            rintro i ⟨hi1, hi2⟩
            by_cases hil2 : i < s.at_.length
            · obtain ⟨a, hga2⟩ : ∃ a, s.at_[i]? = some a := ⟨s.at_[i], List.getElem?_eq_getElem hil2⟩
              rw [mem_step hga2] at hi2
              
              repeat' (first
                | with_reducible refine And.intro ?_ ?_
                | with_reducible intro _
                | with_reducible refine AWp_seq ?_
                | with_reducible refine AWp_block ?_
                | (with_reducible refine hKv _ _ (AWp_nop ?_); clear hKv Kv)
                | (with_reducible refine hKv _ _ ?_; clear hKv Kv; simp (dsimp := false) only [go_sem, Nat.reduceAdd, Nat.reduceBEq, Nat.reduceEqDiff, Nat.reduceLT, Nat.reduceLeDiff, Nat.reduceMul, Int.reduceToNat, reduceCtorEq, ↓reduceIte, Tryd.ntmps71, Tryd.results71, ks_71, mu_71, xd_71, vw_71, ti_ag3, ti_ag4, ti_ag9, ti_ag22, ti_fl100_0, ti_fl100_1, ti_fl100_2, ti_fl153_0, ti_fl153_1, ti_fl153_2, ti_hb113, ti_hb114, ti_hb115, ti_pl153, ti_sb22, ti_sb98, ti_sl22, ti_sl98, ti_sz4, ti_sz22, ti_zr153, evD, evV, h1, Int.reduceEq, Int.reduceLT, Int.reduceLE, hg, hl, hga, hgl, hga2, strC, List.getElem?_map, Option.map_some, h0f, htop, hgx, hss, hri, hrr, hpos, hge, hlt, List.length_set, hnft, htft, hif])
                | (with_reducible refine hKA ?_; clear hKA hKB KA KB)
                | (with_reducible refine hKB ?_; clear hKA hKB KA KB)
                | ((first | with_reducible refine AWp_regC mu_71 ks_71 ?_ | with_reducible refine AWp_drawX xd_71 mu_71 ks_71 vw_71 (by decide) ti_mixed (by kernel_rfl) ?_); intro Kv hKv; simp (dsimp := false) only [go_sem, Nat.reduceAdd, Nat.reduceBEq, Nat.reduceEqDiff, Nat.reduceLT, Nat.reduceLeDiff, Nat.reduceMul, Int.reduceToNat, reduceCtorEq, ↓reduceIte, Tryd.ntmps71, Tryd.results71, ks_71, mu_71, xd_71, vw_71, ti_ag3, ti_ag4, ti_ag9, ti_ag22, ti_fl100_0, ti_fl100_1, ti_fl100_2, ti_fl153_0, ti_fl153_1, ti_fl153_2, ti_hb113, ti_hb114, ti_hb115, ti_pl153, ti_sb22, ti_sb98, ti_sl22, ti_sl98, ti_sz4, ti_sz22, ti_zr153, evD, evV, h1, Int.reduceEq, Int.reduceLT, Int.reduceLE, hg, hl, hga, hgl, hga2, strC, List.getElem?_map, Option.map_some, h0f, htop, hgx, hss, hri, hrr, hpos, hge, hlt, List.length_set, hnft, htft, hif])
                | with_reducible refine AWp_skipN ?_
                | with_reducible refine AWp_exitO (by repeat (first | with_reducible exact Out.hit | with_reducible apply Out.thenA | with_reducible apply Out.out rfl)) ?_
                | (with_reducible refine AWp_retR ?_; simp (dsimp := false) only [go_sem, Nat.reduceAdd, Nat.reduceBEq, Nat.reduceEqDiff, Nat.reduceLT, Nat.reduceLeDiff, Nat.reduceMul, Int.reduceToNat, reduceCtorEq, ↓reduceIte, Tryd.ntmps71, Tryd.results71, ks_71, mu_71, xd_71, vw_71, ti_ag3, ti_ag4, ti_ag9, ti_ag22, ti_fl100_0, ti_fl100_1, ti_fl100_2, ti_fl153_0, ti_fl153_1, ti_fl153_2, ti_hb113, ti_hb114, ti_hb115, ti_pl153, ti_sb22, ti_sb98, ti_sl22, ti_sl98, ti_sz4, ti_sz22, ti_zr153, evD, evV, h1, Int.reduceEq, Int.reduceLT, Int.reduceLE, hg, hl, hga, hgl, hga2, strC, List.getElem?_map, Option.map_some, h0f, htop, hgx, hss, hri, hrr, hpos, hge, hlt, List.length_set, hnft, htft, hif])
                | (with_reducible refine AWp_regE mu_71 ks_71 ?_; intro Kv hKv; simp (dsimp := false) only [go_sem, Nat.reduceAdd, Nat.reduceBEq, Nat.reduceEqDiff, Nat.reduceLT, Nat.reduceLeDiff, Nat.reduceMul, Int.reduceToNat, reduceCtorEq, ↓reduceIte, Tryd.ntmps71, Tryd.results71, ks_71, mu_71, xd_71, vw_71, ti_ag3, ti_ag4, ti_ag9, ti_ag22, ti_fl100_0, ti_fl100_1, ti_fl100_2, ti_fl153_0, ti_fl153_1, ti_fl153_2, ti_hb113, ti_hb114, ti_hb115, ti_pl153, ti_sb22, ti_sb98, ti_sl22, ti_sl98, ti_sz4, ti_sz22, ti_zr153, evD, evV, h1, Int.reduceEq, Int.reduceLT, Int.reduceLE, hg, hl, hga, hgl, hga2, strC, List.getElem?_map, Option.map_some, h0f, htop, hgx, hss, hri, hrr, hpos, hge, hlt, List.length_set, hnft, htft, hif])
                | (refine AWp_condC rfl ?_; intro KA KB hKA hKB; try simp only [onB_true, onB_false, onB_dec, onB_ndec, onB_not, onB_and, onB_or])
                | (with_reducible refine AWp_drawXE xd_71 mu_71 ks_71 vw_71 (by decide) ti_mixed (by kernel_rfl) ?_; intro Kv hKv; simp (dsimp := false) only [go_sem, Nat.reduceAdd, Nat.reduceBEq, Nat.reduceEqDiff, Nat.reduceLT, Nat.reduceLeDiff, Nat.reduceMul, Int.reduceToNat, reduceCtorEq, ↓reduceIte, Tryd.ntmps71, Tryd.results71, ks_71, mu_71, xd_71, vw_71, ti_ag3, ti_ag4, ti_ag9, ti_ag22, ti_fl100_0, ti_fl100_1, ti_fl100_2, ti_fl153_0, ti_fl153_1, ti_fl153_2, ti_hb113, ti_hb114, ti_hb115, ti_pl153, ti_sb22, ti_sb98, ti_sl22, ti_sl98, ti_sz4, ti_sz22, ti_zr153, evD, evV, h1, Int.reduceEq, Int.reduceLT, Int.reduceLE, hg, hl, hga, hgl, hga2, strC, List.getElem?_map, Option.map_some, h0f, htop, hgx, hss, hri, hrr, hpos, hge, hlt, List.length_set, hnft, htft, hif])
                | (refine AWp_condA rfl ?_ ?_)
                | with_reducible refine onB_of ?_ ?_
                | with_reducible rfl
                | omega)
              all_goals first
                | omega
                | (rename_i hna; rw [if_pos (by rw [hi2]; exact .inl hna)] at hk; exact bad_ret hk rfl (by decide))
                | (rename_i hna; exact ⟨i + 1, ⟨by omega, by rw [hi2]; simp [hna]⟩, by omega, by omega⟩)
            · have e : i = s.at_.length := by omega
              subst e
              rw [List.drop_length] at hi2
              have hnm : x.nm ∉ s.at_ := by rw [hi2]; simp
              rw [if_neg hnm] at hk
              
              repeat' (first
                | with_reducible refine And.intro ?_ ?_
                | with_reducible intro _
                | with_reducible refine AWp_seq ?_
                | with_reducible refine AWp_block ?_
                | (with_reducible refine hKv _ _ (AWp_nop ?_); clear hKv Kv)
                | (with_reducible refine hKv _ _ ?_; clear hKv Kv; simp (dsimp := false) only [go_sem, Nat.reduceAdd, Nat.reduceBEq, Nat.reduceEqDiff, Nat.reduceLT, Nat.reduceLeDiff, Nat.reduceMul, Int.reduceToNat, reduceCtorEq, ↓reduceIte, Tryd.ntmps71, Tryd.results71, ks_71, mu_71, xd_71, vw_71, ti_ag3, ti_ag4, ti_ag9, ti_ag22, ti_fl100_0, ti_fl100_1, ti_fl100_2, ti_fl153_0, ti_fl153_1, ti_fl153_2, ti_hb113, ti_hb114, ti_hb115, ti_pl153, ti_sb22, ti_sb98, ti_sl22, ti_sl98, ti_sz4, ti_sz22, ti_zr153, evD, evV, h1, Int.reduceEq, Int.reduceLT, Int.reduceLE, hg, hl, hne, hga, hgl, hgxa, h0f, htop, hgx, hss, hri, hrr, hpos, hge, hlt, List.length_set, hnft, htft, hif])
                | (with_reducible refine hKA ?_; clear hKA hKB KA KB)
                | (with_reducible refine hKB ?_; clear hKA hKB KA KB)
                | ((first | with_reducible refine AWp_regC mu_71 ks_71 ?_ | with_reducible refine AWp_drawX xd_71 mu_71 ks_71 vw_71 (by decide) ti_mixed (by kernel_rfl) ?_); intro Kv hKv; simp (dsimp := false) only [go_sem, Nat.reduceAdd, Nat.reduceBEq, Nat.reduceEqDiff, Nat.reduceLT, Nat.reduceLeDiff, Nat.reduceMul, Int.reduceToNat, reduceCtorEq, ↓reduceIte, Tryd.ntmps71, Tryd.results71, ks_71, mu_71, xd_71, vw_71, ti_ag3, ti_ag4, ti_ag9, ti_ag22, ti_fl100_0, ti_fl100_1, ti_fl100_2, ti_fl153_0, ti_fl153_1, ti_fl153_2, ti_hb113, ti_hb114, ti_hb115, ti_pl153, ti_sb22, ti_sb98, ti_sl22, ti_sl98, ti_sz4, ti_sz22, ti_zr153, evD, evV, h1, Int.reduceEq, Int.reduceLT, Int.reduceLE, hg, hl, hne, hga, hgl, hgxa, h0f, htop, hgx, hss, hri, hrr, hpos, hge, hlt, List.length_set, hnft, htft, hif])
                | with_reducible refine AWp_skipN ?_
                | with_reducible refine AWp_exitO (by repeat (first | with_reducible exact Out.hit | with_reducible apply Out.thenA | with_reducible apply Out.out rfl)) ?_
                | (with_reducible refine AWp_retR ?_; simp (dsimp := false) only [go_sem, Nat.reduceAdd, Nat.reduceBEq, Nat.reduceEqDiff, Nat.reduceLT, Nat.reduceLeDiff, Nat.reduceMul, Int.reduceToNat, reduceCtorEq, ↓reduceIte, Tryd.ntmps71, Tryd.results71, ks_71, mu_71, xd_71, vw_71, ti_ag3, ti_ag4, ti_ag9, ti_ag22, ti_fl100_0, ti_fl100_1, ti_fl100_2, ti_fl153_0, ti_fl153_1, ti_fl153_2, ti_hb113, ti_hb114, ti_hb115, ti_pl153, ti_sb22, ti_sb98, ti_sl22, ti_sl98, ti_sz4, ti_sz22, ti_zr153, evD, evV, h1, Int.reduceEq, Int.reduceLT, Int.reduceLE, hg, hl, hne, hga, hgl, hgxa, h0f, htop, hgx, hss, hri, hrr, hpos, hge, hlt, List.length_set, hnft, htft, hif])
                | (with_reducible refine AWp_regE mu_71 ks_71 ?_; intro Kv hKv; simp (dsimp := false) only [go_sem, Nat.reduceAdd, Nat.reduceBEq, Nat.reduceEqDiff, Nat.reduceLT, Nat.reduceLeDiff, Nat.reduceMul, Int.reduceToNat, reduceCtorEq, ↓reduceIte, Tryd.ntmps71, Tryd.results71, ks_71, mu_71, xd_71, vw_71, ti_ag3, ti_ag4, ti_ag9, ti_ag22, ti_fl100_0, ti_fl100_1, ti_fl100_2, ti_fl153_0, ti_fl153_1, ti_fl153_2, ti_hb113, ti_hb114, ti_hb115, ti_pl153, ti_sb22, ti_sb98, ti_sl22, ti_sl98, ti_sz4, ti_sz22, ti_zr153, evD, evV, h1, Int.reduceEq, Int.reduceLT, Int.reduceLE, hg, hl, hne, hga, hgl, hgxa, h0f, htop, hgx, hss, hri, hrr, hpos, hge, hlt, List.length_set, hnft, htft, hif])
                | (refine AWp_condC rfl ?_; intro KA KB hKA hKB; try simp only [onB_true, onB_false, onB_dec, onB_ndec, onB_not, onB_and, onB_or])
                | (with_reducible refine AWp_drawXE xd_71 mu_71 ks_71 vw_71 (by decide) ti_mixed (by kernel_rfl) ?_; intro Kv hKv; simp (dsimp := false) only [go_sem, Nat.reduceAdd, Nat.reduceBEq, Nat.reduceEqDiff, Nat.reduceLT, Nat.reduceLeDiff, Nat.reduceMul, Int.reduceToNat, reduceCtorEq, ↓reduceIte, Tryd.ntmps71, Tryd.results71, ks_71, mu_71, xd_71, vw_71, ti_ag3, ti_ag4, ti_ag9, ti_ag22, ti_fl100_0, ti_fl100_1, ti_fl100_2, ti_fl153_0, ti_fl153_1, ti_fl153_2, ti_hb113, ti_hb114, ti_hb115, ti_pl153, ti_sb22, ti_sb98, ti_sl22, ti_sl98, ti_sz4, ti_sz22, ti_zr153, evD, evV, h1, Int.reduceEq, Int.reduceLT, Int.reduceLE, hg, hl, hne, hga, hgl, hgxa, h0f, htop, hgx, hss, hri, hrr, hpos, hge, hlt, List.length_set, hnft, htft, hif])
                | (refine AWp_condA rfl ?_ ?_)
                | with_reducible refine onB_of ?_ ?_
                | with_reducible rfl
                | omega)
              all_goals first
                | omega
                | exact attr_ret (by have := hk.2.2 rfl ia va ha hltia hga; simpa [strC] using this) (by simp) (closed_set (closed_self _) (by have := obBel_str H.length (va + 1) 9 (s.at_ ++ [x.nm]); simpa [strC] using this)) hid (ob_set (ObBel.mono' (by simp) hB) (bel_cell (.os _ _ (by simp; omega))))
      · rw [if_neg htf] at hk
        have htff : (textFault x.vl = 0) = False := eq_false (by first | exact htf | omega)
        
        refine ACalls_of Tryd.func71 rfl in_71 (Nat.le_of_ble_eq_true rfl) ?_
        intro F hF
        simp (dsimp := false) only [go_sem, Nat.reduceAdd, Nat.reduceBEq, Nat.reduceEqDiff, Nat.reduceLT, Nat.reduceLeDiff, Nat.reduceMul, Int.reduceToNat, reduceCtorEq, ↓reduceIte, Tryd.ntmps71, Tryd.results71, ks_71, mu_71, xd_71, vw_71, ti_ag3, ti_ag4, ti_ag9, ti_ag22, ti_fl100_0, ti_fl100_1, ti_fl100_2, ti_fl153_0, ti_fl153_1, ti_fl153_2, ti_hb113, ti_hb114, ti_hb115, ti_pl153, ti_sb22, ti_sb98, ti_sl22, ti_sl98, ti_sz4, ti_sz22, ti_zr153, evD, evV, h1, Int.reduceEq, Int.reduceLT, Int.reduceLE, hg, hl, h0f, htop, hgx, hss, hri, hrr, hpos, hge, hlt, List.length_set, hnft, htff, in_71] at hF
        subst hF
        repeat' (first
          | with_reducible refine And.intro ?_ ?_
          | with_reducible intro _
          | with_reducible refine AWp_seq ?_
          | with_reducible refine AWp_block ?_
          | (with_reducible refine hKv _ _ (AWp_nop ?_); clear hKv Kv)
          | (with_reducible refine hKv _ _ ?_; clear hKv Kv; simp (dsimp := false) only [go_sem, Nat.reduceAdd, Nat.reduceBEq, Nat.reduceEqDiff, Nat.reduceLT, Nat.reduceLeDiff, Nat.reduceMul, Int.reduceToNat, reduceCtorEq, ↓reduceIte, Tryd.ntmps71, Tryd.results71, ks_71, mu_71, xd_71, vw_71, ti_ag3, ti_ag4, ti_ag9, ti_ag22, ti_fl100_0, ti_fl100_1, ti_fl100_2, ti_fl153_0, ti_fl153_1, ti_fl153_2, ti_hb113, ti_hb114, ti_hb115, ti_pl153, ti_sb22, ti_sb98, ti_sl22, ti_sl98, ti_sz4, ti_sz22, ti_zr153, evD, evV, h1, Int.reduceEq, Int.reduceLT, Int.reduceLE, hg, hl, h0f, htop, hgx, hss, hri, hrr, hpos, hge, hlt, List.length_set, hnft, htff])
          | (with_reducible refine hKA ?_; clear hKA hKB KA KB)
          | (with_reducible refine hKB ?_; clear hKA hKB KA KB)
          | ((first | with_reducible refine AWp_regC mu_71 ks_71 ?_ | with_reducible refine AWp_drawX xd_71 mu_71 ks_71 vw_71 (by decide) ti_mixed (by kernel_rfl) ?_); intro Kv hKv; simp (dsimp := false) only [go_sem, Nat.reduceAdd, Nat.reduceBEq, Nat.reduceEqDiff, Nat.reduceLT, Nat.reduceLeDiff, Nat.reduceMul, Int.reduceToNat, reduceCtorEq, ↓reduceIte, Tryd.ntmps71, Tryd.results71, ks_71, mu_71, xd_71, vw_71, ti_ag3, ti_ag4, ti_ag9, ti_ag22, ti_fl100_0, ti_fl100_1, ti_fl100_2, ti_fl153_0, ti_fl153_1, ti_fl153_2, ti_hb113, ti_hb114, ti_hb115, ti_pl153, ti_sb22, ti_sb98, ti_sl22, ti_sl98, ti_sz4, ti_sz22, ti_zr153, evD, evV, h1, Int.reduceEq, Int.reduceLT, Int.reduceLE, hg, hl, h0f, htop, hgx, hss, hri, hrr, hpos, hge, hlt, List.length_set, hnft, htff])
          | with_reducible refine AWp_skipN ?_
          | with_reducible refine AWp_exitO (by repeat (first | with_reducible exact Out.hit | with_reducible apply Out.thenA | with_reducible apply Out.out rfl)) ?_
          | (with_reducible refine AWp_retR ?_; simp (dsimp := false) only [go_sem, Nat.reduceAdd, Nat.reduceBEq, Nat.reduceEqDiff, Nat.reduceLT, Nat.reduceLeDiff, Nat.reduceMul, Int.reduceToNat, reduceCtorEq, ↓reduceIte, Tryd.ntmps71, Tryd.results71, ks_71, mu_71, xd_71, vw_71, ti_ag3, ti_ag4, ti_ag9, ti_ag22, ti_fl100_0, ti_fl100_1, ti_fl100_2, ti_fl153_0, ti_fl153_1, ti_fl153_2, ti_hb113, ti_hb114, ti_hb115, ti_pl153, ti_sb22, ti_sb98, ti_sl22, ti_sl98, ti_sz4, ti_sz22, ti_zr153, evD, evV, h1, Int.reduceEq, Int.reduceLT, Int.reduceLE, hg, hl, h0f, htop, hgx, hss, hri, hrr, hpos, hge, hlt, List.length_set, hnft, htff])
          | (with_reducible refine AWp_regE mu_71 ks_71 ?_; intro Kv hKv; simp (dsimp := false) only [go_sem, Nat.reduceAdd, Nat.reduceBEq, Nat.reduceEqDiff, Nat.reduceLT, Nat.reduceLeDiff, Nat.reduceMul, Int.reduceToNat, reduceCtorEq, ↓reduceIte, Tryd.ntmps71, Tryd.results71, ks_71, mu_71, xd_71, vw_71, ti_ag3, ti_ag4, ti_ag9, ti_ag22, ti_fl100_0, ti_fl100_1, ti_fl100_2, ti_fl153_0, ti_fl153_1, ti_fl153_2, ti_hb113, ti_hb114, ti_hb115, ti_pl153, ti_sb22, ti_sb98, ti_sl22, ti_sl98, ti_sz4, ti_sz22, ti_zr153, evD, evV, h1, Int.reduceEq, Int.reduceLT, Int.reduceLE, hg, hl, h0f, htop, hgx, hss, hri, hrr, hpos, hge, hlt, List.length_set, hnft, htff])
          | (refine AWp_condC rfl ?_; intro KA KB hKA hKB; try simp only [onB_true, onB_false, onB_dec, onB_ndec, onB_not, onB_and, onB_or])
          | (with_reducible refine AWp_drawXE xd_71 mu_71 ks_71 vw_71 (by decide) ti_mixed (by kernel_rfl) ?_; intro Kv hKv; simp (dsimp := false) only [go_sem, Nat.reduceAdd, Nat.reduceBEq, Nat.reduceEqDiff, Nat.reduceLT, Nat.reduceLeDiff, Nat.reduceMul, Int.reduceToNat, reduceCtorEq, ↓reduceIte, Tryd.ntmps71, Tryd.results71, ks_71, mu_71, xd_71, vw_71, ti_ag3, ti_ag4, ti_ag9, ti_ag22, ti_fl100_0, ti_fl100_1, ti_fl100_2, ti_fl153_0, ti_fl153_1, ti_fl153_2, ti_hb113, ti_hb114, ti_hb115, ti_pl153, ti_sb22, ti_sb98, ti_sl22, ti_sl98, ti_sz4, ti_sz22, ti_zr153, evD, evV, h1, Int.reduceEq, Int.reduceLT, Int.reduceLE, hg, hl, h0f, htop, hgx, hss, hri, hrr, hpos, hge, hlt, List.length_set, hnft, htff])
          | (refine AWp_condA rfl ?_ ?_)
          | ((first | refine checkName_A x.nm (by omega) _ _ ?_ | refine QCall_of (checkName_A x.nm (by omega) _ _ (Two_intro _ _)) ?_ | refine checkText_A x.vl (by omega) _ _ ?_ | refine QCall_of (checkText_A x.vl (by omega) _ _ (Two_intro _ _)) ?_); try simp (dsimp := false) only [go_sem, Nat.reduceAdd, Nat.reduceBEq, Nat.reduceEqDiff, Nat.reduceLT, Nat.reduceLeDiff, Nat.reduceMul, Int.reduceToNat, reduceCtorEq, ↓reduceIte, Tryd.ntmps71, Tryd.results71, ks_71, mu_71, xd_71, vw_71, ti_ag3, ti_ag4, ti_ag9, ti_ag22, ti_fl100_0, ti_fl100_1, ti_fl100_2, ti_fl153_0, ti_fl153_1, ti_fl153_2, ti_hb113, ti_hb114, ti_hb115, ti_pl153, ti_sb22, ti_sb98, ti_sl22, ti_sl98, ti_sz4, ti_sz22, ti_zr153, evD, evV, h1, Int.reduceEq, Int.reduceLT, Int.reduceLE, hg, hl, h0f, htop, hgx, hss, hri, hrr, hpos, hge, hlt, List.length_set, hnft, htff])
          | with_reducible refine onB_of ?_ ?_
          | with_reducible rfl
          | omega)
        all_goals first
          | omega
          | exact bad_ret hk rfl (by first | decide | assumption)
    · rw [if_neg hnf] at hk
      have hnff : (nameFault x.nm = 0) = False := eq_false (by first | exact hnf | omega)
      
      refine ACalls_of Tryd.func71 rfl in_71 (Nat.le_of_ble_eq_true rfl) ?_
      intro F hF
      simp (dsimp := false) only [go_sem, Nat.reduceAdd, Nat.reduceBEq, Nat.reduceEqDiff, Nat.reduceLT, Nat.reduceLeDiff, Nat.reduceMul, Int.reduceToNat, reduceCtorEq, ↓reduceIte, Tryd.ntmps71, Tryd.results71, ks_71, mu_71, xd_71, vw_71, ti_ag3, ti_ag4, ti_ag9, ti_ag22, ti_fl100_0, ti_fl100_1, ti_fl100_2, ti_fl153_0, ti_fl153_1, ti_fl153_2, ti_hb113, ti_hb114, ti_hb115, ti_pl153, ti_sb22, ti_sb98, ti_sl22, ti_sl98, ti_sz4, ti_sz22, ti_zr153, evD, evV, h1, Int.reduceEq, Int.reduceLT, Int.reduceLE, hg, hl, h0f, htop, hgx, hss, hri, hrr, hpos, hge, hlt, List.length_set, hnff, in_71] at hF
      subst hF
      repeat' (first
        | with_reducible refine And.intro ?_ ?_
        | with_reducible intro _
        | with_reducible refine AWp_seq ?_
        | with_reducible refine AWp_block ?_
        | (with_reducible refine hKv _ _ (AWp_nop ?_); clear hKv Kv)
        | (with_reducible refine hKv _ _ ?_; clear hKv Kv; simp (dsimp := false) only [go_sem, Nat.reduceAdd, Nat.reduceBEq, Nat.reduceEqDiff, Nat.reduceLT, Nat.reduceLeDiff, Nat.reduceMul, Int.reduceToNat, reduceCtorEq, ↓reduceIte, Tryd.ntmps71, Tryd.results71, ks_71, mu_71, xd_71, vw_71, ti_ag3, ti_ag4, ti_ag9, ti_ag22, ti_fl100_0, ti_fl100_1, ti_fl100_2, ti_fl153_0, ti_fl153_1, ti_fl153_2, ti_hb113, ti_hb114, ti_hb115, ti_pl153, ti_sb22, ti_sb98, ti_sl22, ti_sl98, ti_sz4, ti_sz22, ti_zr153, evD, evV, h1, Int.reduceEq, Int.reduceLT, Int.reduceLE, hg, hl, h0f, htop, hgx, hss, hri, hrr, hpos, hge, hlt, List.length_set, hnff])
        | (with_reducible refine hKA ?_; clear hKA hKB KA KB)
        | (with_reducible refine hKB ?_; clear hKA hKB KA KB)
        | ((first | with_reducible refine AWp_regC mu_71 ks_71 ?_ | with_reducible refine AWp_drawX xd_71 mu_71 ks_71 vw_71 (by decide) ti_mixed (by kernel_rfl) ?_); intro Kv hKv; simp (dsimp := false) only [go_sem, Nat.reduceAdd, Nat.reduceBEq, Nat.reduceEqDiff, Nat.reduceLT, Nat.reduceLeDiff, Nat.reduceMul, Int.reduceToNat, reduceCtorEq, ↓reduceIte, Tryd.ntmps71, Tryd.results71, ks_71, mu_71, xd_71, vw_71, ti_ag3, ti_ag4, ti_ag9, ti_ag22, ti_fl100_0, ti_fl100_1, ti_fl100_2, ti_fl153_0, ti_fl153_1, ti_fl153_2, ti_hb113, ti_hb114, ti_hb115, ti_pl153, ti_sb22, ti_sb98, ti_sl22, ti_sl98, ti_sz4, ti_sz22, ti_zr153, evD, evV, h1, Int.reduceEq, Int.reduceLT, Int.reduceLE, hg, hl, h0f, htop, hgx, hss, hri, hrr, hpos, hge, hlt, List.length_set, hnff])
        | with_reducible refine AWp_skipN ?_
        | with_reducible refine AWp_exitO (by repeat (first | with_reducible exact Out.hit | with_reducible apply Out.thenA | with_reducible apply Out.out rfl)) ?_
        | (with_reducible refine AWp_retR ?_; simp (dsimp := false) only [go_sem, Nat.reduceAdd, Nat.reduceBEq, Nat.reduceEqDiff, Nat.reduceLT, Nat.reduceLeDiff, Nat.reduceMul, Int.reduceToNat, reduceCtorEq, ↓reduceIte, Tryd.ntmps71, Tryd.results71, ks_71, mu_71, xd_71, vw_71, ti_ag3, ti_ag4, ti_ag9, ti_ag22, ti_fl100_0, ti_fl100_1, ti_fl100_2, ti_fl153_0, ti_fl153_1, ti_fl153_2, ti_hb113, ti_hb114, ti_hb115, ti_pl153, ti_sb22, ti_sb98, ti_sl22, ti_sl98, ti_sz4, ti_sz22, ti_zr153, evD, evV, h1, Int.reduceEq, Int.reduceLT, Int.reduceLE, hg, hl, h0f, htop, hgx, hss, hri, hrr, hpos, hge, hlt, List.length_set, hnff])
        | (with_reducible refine AWp_regE mu_71 ks_71 ?_; intro Kv hKv; simp (dsimp := false) only [go_sem, Nat.reduceAdd, Nat.reduceBEq, Nat.reduceEqDiff, Nat.reduceLT, Nat.reduceLeDiff, Nat.reduceMul, Int.reduceToNat, reduceCtorEq, ↓reduceIte, Tryd.ntmps71, Tryd.results71, ks_71, mu_71, xd_71, vw_71, ti_ag3, ti_ag4, ti_ag9, ti_ag22, ti_fl100_0, ti_fl100_1, ti_fl100_2, ti_fl153_0, ti_fl153_1, ti_fl153_2, ti_hb113, ti_hb114, ti_hb115, ti_pl153, ti_sb22, ti_sb98, ti_sl22, ti_sl98, ti_sz4, ti_sz22, ti_zr153, evD, evV, h1, Int.reduceEq, Int.reduceLT, Int.reduceLE, hg, hl, h0f, htop, hgx, hss, hri, hrr, hpos, hge, hlt, List.length_set, hnff])
        | (refine AWp_condC rfl ?_; intro KA KB hKA hKB; try simp only [onB_true, onB_false, onB_dec, onB_ndec, onB_not, onB_and, onB_or])
        | (with_reducible refine AWp_drawXE xd_71 mu_71 ks_71 vw_71 (by decide) ti_mixed (by kernel_rfl) ?_; intro Kv hKv; simp (dsimp := false) only [go_sem, Nat.reduceAdd, Nat.reduceBEq, Nat.reduceEqDiff, Nat.reduceLT, Nat.reduceLeDiff, Nat.reduceMul, Int.reduceToNat, reduceCtorEq, ↓reduceIte, Tryd.ntmps71, Tryd.results71, ks_71, mu_71, xd_71, vw_71, ti_ag3, ti_ag4, ti_ag9, ti_ag22, ti_fl100_0, ti_fl100_1, ti_fl100_2, ti_fl153_0, ti_fl153_1, ti_fl153_2, ti_hb113, ti_hb114, ti_hb115, ti_pl153, ti_sb22, ti_sb98, ti_sl22, ti_sl98, ti_sz4, ti_sz22, ti_zr153, evD, evV, h1, Int.reduceEq, Int.reduceLT, Int.reduceLE, hg, hl, h0f, htop, hgx, hss, hri, hrr, hpos, hge, hlt, List.length_set, hnff])
        | (refine AWp_condA rfl ?_ ?_)
        | ((first | refine checkName_A x.nm (by omega) _ _ ?_ | refine QCall_of (checkName_A x.nm (by omega) _ _ (Two_intro _ _)) ?_ | refine checkText_A x.vl (by omega) _ _ ?_ | refine QCall_of (checkText_A x.vl (by omega) _ _ (Two_intro _ _)) ?_); try simp (dsimp := false) only [go_sem, Nat.reduceAdd, Nat.reduceBEq, Nat.reduceEqDiff, Nat.reduceLT, Nat.reduceLeDiff, Nat.reduceMul, Int.reduceToNat, reduceCtorEq, ↓reduceIte, Tryd.ntmps71, Tryd.results71, ks_71, mu_71, xd_71, vw_71, ti_ag3, ti_ag4, ti_ag9, ti_ag22, ti_fl100_0, ti_fl100_1, ti_fl100_2, ti_fl153_0, ti_fl153_1, ti_fl153_2, ti_hb113, ti_hb114, ti_hb115, ti_pl153, ti_sb22, ti_sb98, ti_sl22, ti_sl98, ti_sz4, ti_sz22, ti_zr153, evD, evV, h1, Int.reduceEq, Int.reduceLT, Int.reduceLE, hg, hl, h0f, htop, hgx, hss, hri, hrr, hpos, hge, hlt, List.length_set, hnff])
        | with_reducible refine onB_of ?_ ?_
        | with_reducible rfl
        | omega)
      all_goals first
        | omega
        | exact bad_ret hk rfl (by first | decide | assumption)
end Go.Proofs.YtafbojmnmadlpaaDoor
