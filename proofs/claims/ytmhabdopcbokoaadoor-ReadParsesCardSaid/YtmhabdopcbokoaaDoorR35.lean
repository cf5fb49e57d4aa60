/- The grammar of queries: the reference: tests of nodes. No condition but that the tables of package unicode/utf8 are there. -/
import Derived.Test.YtmhabdopcbokoaaDoorR18
import Derived.Test.YtmhabdopcbokoaaDoorR33
set_option linter.all false
set_option linter.unusedSimpArgs false
set_option linter.unusedVariables false
namespace Go.Proofs.YtmhabdopcbokoaaDoor.Gq
open Go Go.Proofs.YtmhabdopcbokoaaDoor.Ab
variable [Glo] [U8] [Mk] [Gx]
set_option maxHeartbeats 4000000
set_option maxRecDepth 20000
namespace FN77
def tks : Nat → List Nat | 0 => [] | 1 => [0] | _ => []
def tmu : List Nat := []
def tin : List Nat := []
abbrev tfn := @Tryd.func77
end FN77
attribute [go_sem] FN77.tks FN77.tmu FN77.tin Tryd.ntmps77 Tryd.results77
open FN77 in
theorem rKinds_A (H : Heap) (K : V → Heap → Prop) (hk : K (.d (.sl 1 [[.s []], [.s [110, 111, 100, 101]], [.s [116, 101, 120, 116]], [.s [99, 111, 109, 109, 101, 110, 116]]])) H) : ACalls Tryd.prog 77 [] H K := by
  refine We ?_
  have us := eq_self (0 : Nat)
  exact W15
theorem idx_kinds (s : Bs) : idx1 kindsL s = if s = [110, 111, 100, 101] then 1 else if s = [116, 101, 120, 116] then 2 else if s = [99, 111, 109, 109, 101, 110, 116] then 3 else 0 := by
  by_cases h1 : s = [110, 111, 100, 101]
  · subst h1; rfl
  · by_cases h2 : s = [116, 101, 120, 116]
    · subst h2; rfl
    · by_cases h3 : s = [99, 111, 109, 109, 101, 110, 116]
      · subst h3; rfl
      · rw [if_neg h1, if_neg h2, if_neg h3]
        have e1 : ([110, 111, 100, 101] : Bs) ≠ s := fun h => h1 h.symm
        have e2 : ([116, 101, 120, 116] : Bs) ≠ s := fun h => h2 h.symm
        have e3 : ([99, 111, 109, 109, 101, 110, 116] : Bs) ≠ s := fun h => h3 h.symm
        simp [idx1, kindsL, txtAt, fidx, fidxGo, sNode, sText, sComment, h1, h2, h3, e1, e2, e3]
namespace FN79
def tks : Nat → List Nat | 0 => [0, 1, 4] | 1 => [0, 4, 5] | 2 => [0, 4, 5, 12] | 3 => [4] | 4 => [0, 4, 5, 6] | 5 => [0, 4, 5, 6] | 6 => [0, 4, 5, 6, 7] | 7 => [0, 4, 5, 6, 7, 20] | 8 => [0, 4, 5, 6, 7] | 9 => [0, 4, 5, 6, 7, 32] | 10 => [4, 5, 7] | 11 => [4, 5] | 12 => [4] | _ => []
def tmu : List Nat := []
def tin : List Nat := [0, 1]
abbrev tfn := @Tryd.func79
end FN79
attribute [go_sem] FN79.tks FN79.tmu FN79.tin Tryd.ntmps79 Tryd.results79
open FN79 in
theorem rTest_A (L : List Tk) (hL : L.length ≤ 200) (ax : Int) (id : Nat) (p : Nat) (e : Int) (H : Heap) (K : V → Heap → Prop) (hp : p ≤ L.length) (hr : H[id]? = some (grO L ⟨p, e⟩)) (hk : K (phV (testF L ax ⟨p, e⟩).1) (H.set id (grO L (testF L ax ⟨p, e⟩).2))) :
    ACalls Tryd.prog 79 [.pt id 0 0 0, .d (.i .i64 ax)] H K := by
  have hid := lt_of_get hr
  obtain ⟨ga, sa, gs, ss, gsa, ssa, gl0, glk, sl0, slk⟩ := atH hr
  rw [testF] at hk
  have hkn := fun G K hk => rKinds_A G K hk
  cases hc : isN L sStar ⟨p, e⟩ with
  | true =>
    rw [hc, if_pos rfl] at hk
    rw [sStar] at hc
    have hh := fun G K hk => rPassT_A L hL id p e [42] (by decide) hc (H ++ G) K (ga G) hk
    simp only [phV, phW, pSeq, pStep, pPath, pBin, pMinus, pRoot, pAll, pNil, ph0, mkh, mka, mkc, aD_nil, cD_nil, aD_cons] at hk
    simp only [nxt] at hk
    simp only [grO] at *
    refine We ?_
    have c21 := hh; have us := eq_self (0 : Nat)
    exact W42
  | false =>
    rw [hc, if_neg (by decide)] at hk
    rw [sStar] at hc
    have hh := fun G K hk => rPassF_A L hL id p hp e [42] (by decide) hc (H ++ G) K (ga G) hk
    have hnm := fun G K hk => rKind_A L hL id p hp e 1 (by decide) (H ++ G) K (ga G) hk
    obtain ⟨p1, e1, hkp, hp1⟩ := kP_N (L := L) (e := e) (k := 1) hp (by decide)
    rw [hkp] at hk hnm
    simp only [] at hk
    generalize kindT L 1 ⟨p, e⟩ = s at hk hnm
    rw [idx_kinds] at hk
    simp only [grO] at hh hnm hr ga gs
    refine We ?_
    have c21 := hh; have c22 := hnm; have us := eq_self (0 : Nat)
    (repeat' (first | with_reducible (first | refine And.intro ?_ ?_ | intro _ | (refine hKv _ _ (AWp_nop ?_); clear hKv Kv) | (refine hKA ?_; clear hKA hKB KA KB) | (refine hKB ?_; clear hKA hKB KA KB) | refine Wp ?_ | fail) | ((first | with_reducible (first | (refine hKv _ _ ?_; clear hKv Kv) | (refine Wr ?_; intro Kv hKv) | refine AWp_retR ?_ | fail) | refine Wc ?_ | fail); try simp (dsimp := false) only [go_sem, Nat.reduceAdd, Nat.reduceBEq, Nat.reduceEqDiff, Nat.reduceLT, Nat.reduceLeDiff, Nat.reduceMul, Int.reduceToNat, reduceCtorEq, ↓reduceIte, us, Bool.false_and, Bool.true_and, Int.reduceEq, Int.reduceLE, Int.reduceLT, Int.reduceNeg, List.length_set, List.map_cons, List.map_nil, ga, gl0, glk, grO, gs, gsa, hid, not_false_eq_true, not_true_eq_false, pC1, phD_1, phV, phW, sa, sl0, slk, ss, ssa, tkV]) | (refine AWp_condC rfl ?_; intro KA KB hKA hKB; try simp only [onB_true, onB_false, onB_dec, onB_ndec, onB_not, onB_and, onB_or]) | (refine AWp_condA rfl ?_ ?_) | with_reducible (first | refine onB_of ?_ ?_ | rfl) | omega))
    all_goals first
      | omega
      | skip
    have hsp := hk
    cases hc1 : isN L sOpen ⟨p1, e1⟩ with
    | true =>
      rw [hc1] at hk
      rw [sOpen] at hc1
      have hh1 := fun G K hk => rPassT_A L hL id p1 e1 [40] (by decide) hc1 (H.set id (grO L ⟨p1, e1⟩) ++ G) K (gsa _ _) hk
      have hlt := isN_lt hc1
      simp only [] at hlt
      have hmu := fun G K hk => rNeed_A L hL id (p1 + 1) hlt e1 [41] (by decide) (H.set id (grO L ⟨(p1 + 1), e1⟩) ++ G) K (gsa _ _) hk
      simp only [nxt, sClose] at hk
      generalize mustP L [41] ⟨p1 + 1, e1⟩ = s2 at hk hmu
      by_cases h0 : s = [110, 111, 100, 101]
      · subst h0
        have w0 : (([110, 111, 100, 101] : Bs) = [110, 111, 100, 101]) = True := eq_true rfl
        have w1 : (([116, 101, 120, 116] : Bs) = [110, 111, 100, 101]) = False := eq_false (by decide)
        have w2 : (([99, 111, 109, 109, 101, 110, 116] : Bs) = [110, 111, 100, 101]) = False := eq_false (by decide)
        simp [grO, phC_1, pStep, ph0, mkh, mka, mkc, aD_nil, cD_nil, aD_cons, phD_1, List.map_nil, phV, phW] at hk
        refine AWp_whileG (fun k : Nat => 1 ≤ k ∧ k ≤ 1) (fun k => [(0, .pt id 0 0 0), (4, .pt H.length 0 0 0), (5, .pt (H.length + 1) 0 0 0), (6, .d (.s [110, 111, 100, 101])), (7, .d (.i .i64 (k : Int)))])
          (fun _ => H.set id (grO L ⟨p1, e1⟩) ++ [.row 0 30 11 [[.d (.i .i64 0), .d (.i .i64 0), .d (.i .i64 0), .d (.s []), .d (.s []), .d (.i .i64 0), .d (.i .i64 0), .d (.i .i64 0), .d (.s []), .d (.c (.slice none 0 0)), .d (.c (.slice none 0 0))]], .row 0 30 11 [phC (pStep ax 4 [110, 111, 100, 101])]])
          (fun k => 4 - k) 1 (by omega) ⟨[], ?_⟩ ?_ ?_ ?_ ?_
        · simp [grO, phC_1, pStep, ph0, mkh, mka, mkc, aD_nil, cD_nil, aD_cons, phD_1, List.map_nil]
        · simp (dsimp := false) only [go_sem, Nat.reduceAdd, Nat.reduceBEq, Nat.reduceEqDiff, Nat.reduceLT, Nat.reduceLeDiff, Nat.reduceMul, Int.reduceToNat, reduceCtorEq, ↓reduceIte, not_true_eq_false, not_false_eq_true, Bool.true_and, Bool.false_and, Int.reduceEq, Int.reduceLT, Int.reduceLE, Int.reduceNeg, List.map_cons, List.map_nil, List.length_set, hid, ga, sa, gs, ss, gsa, ssa, gl0, glk, sl0, slk, phV, phW, phD_1, tkV, grO, pC1]
          simp
          try omega
        · intro y hy; simp
        · intro y hy
          refine closed_sa hid (gr_bel _ _ _ _) ?_
          simp only [List.forall_mem_cons, List.length_cons, List.length_nil]
          refine ⟨oB1 (by simp [Bel_d]), oB1 (by simp [phC_1, Bel_d]), by simp⟩
        rintro k ⟨hk1, hk4⟩
        obtain rfl : k = 1 := by omega
        · have zk : ((1 : Nat) : Int) = 1 := rfl
          simp only [zk, grO, phC_1, pStep, ph0, mkh, mka, mkc, aD_nil, cD_nil, aD_cons, phD_1, List.map_nil] at *
          have c21 := hkn; have c22 := hh1; have c23 := hmu; have us := an w0 (an w1 w2)
          exact W42
      · skip
        by_cases h1 : s = [116, 101, 120, 116]
        · subst h1
          have w0 : (([110, 111, 100, 101] : Bs) = [116, 101, 120, 116]) = False := eq_false (by decide)
          have w1 : (([116, 101, 120, 116] : Bs) = [116, 101, 120, 116]) = True := eq_true rfl
          have w2 : (([99, 111, 109, 109, 101, 110, 116] : Bs) = [116, 101, 120, 116]) = False := eq_false (by decide)
          simp [grO, phC_1, pStep, ph0, mkh, mka, mkc, aD_nil, cD_nil, aD_cons, phD_1, List.map_nil, phV, phW] at hk
          refine AWp_whileG (fun k : Nat => 1 ≤ k ∧ k ≤ 2) (fun k => [(0, .pt id 0 0 0), (4, .pt H.length 0 0 0), (5, .pt (H.length + 1) 0 0 0), (6, .d (.s [116, 101, 120, 116])), (7, .d (.i .i64 (k : Int)))])
            (fun _ => H.set id (grO L ⟨p1, e1⟩) ++ [.row 0 30 11 [[.d (.i .i64 0), .d (.i .i64 0), .d (.i .i64 0), .d (.s []), .d (.s []), .d (.i .i64 0), .d (.i .i64 0), .d (.i .i64 0), .d (.s []), .d (.c (.slice none 0 0)), .d (.c (.slice none 0 0))]], .row 0 30 11 [phC (pStep ax 4 [116, 101, 120, 116])]])
            (fun k => 4 - k) 1 (by omega) ⟨[], ?_⟩ ?_ ?_ ?_ ?_
          · simp [grO, phC_1, pStep, ph0, mkh, mka, mkc, aD_nil, cD_nil, aD_cons, phD_1, List.map_nil]
          · simp (dsimp := false) only [go_sem, Nat.reduceAdd, Nat.reduceBEq, Nat.reduceEqDiff, Nat.reduceLT, Nat.reduceLeDiff, Nat.reduceMul, Int.reduceToNat, reduceCtorEq, ↓reduceIte, not_true_eq_false, not_false_eq_true, Bool.true_and, Bool.false_and, Int.reduceEq, Int.reduceLT, Int.reduceLE, Int.reduceNeg, List.map_cons, List.map_nil, List.length_set, hid, ga, sa, gs, ss, gsa, ssa, gl0, glk, sl0, slk, phV, phW, phD_1, tkV, grO, pC1, w0, w1, w2]
            simp
            try omega
          · intro y hy; simp
          · intro y hy
            refine closed_sa hid (gr_bel _ _ _ _) ?_
            simp only [List.forall_mem_cons, List.length_cons, List.length_nil]
            refine ⟨oB1 (by simp [Bel_d]), oB1 (by simp [phC_1, Bel_d]), by simp⟩
          rintro k ⟨hk1, hk4⟩
          obtain rfl | rfl : k = 1 ∨ k = 2 := by omega
          · have zk : ((1 : Nat) : Int) = 1 := rfl
            simp only [zk, grO, phC_1, pStep, ph0, mkh, mka, mkc, aD_nil, cD_nil, aD_cons, phD_1, List.map_nil] at *
            have c21 := hkn; have c22 := hh1; have c23 := hmu; have us := an w0 (an w1 w2)
            (repeat' (first | with_reducible (first | refine And.intro ?_ ?_ | intro _ | (refine hKv _ _ (AWp_nop ?_); clear hKv Kv) | (refine hKA ?_; clear hKA hKB KA KB) | (refine hKB ?_; clear hKA hKB KA KB) | refine Wp ?_ | fail) | ((first | with_reducible (first | (refine hKv _ _ ?_; clear hKv Kv) | (refine Wr ?_; intro Kv hKv) | refine AWp_retR ?_ | fail) | refine Wc ?_ | fail); try simp (dsimp := false) only [go_sem, Nat.reduceAdd, Nat.reduceBEq, Nat.reduceEqDiff, Nat.reduceLT, Nat.reduceLeDiff, Nat.reduceMul, Int.reduceToNat, reduceCtorEq, ↓reduceIte, us, Bool.false_and, Bool.true_and, Int.reduceEq, Int.reduceLE, Int.reduceLT, Int.reduceNeg, List.length_set, List.map_cons, List.map_nil, ga, gl0, glk, grO, gs, gsa, hid, not_false_eq_true, not_true_eq_false, pC1, phD_1, phV, phW, sa, sl0, slk, ss, ssa, tkV]) | (refine AWp_condC rfl ?_; intro KA KB hKA hKB; try simp only [onB_true, onB_false, onB_dec, onB_ndec, onB_not, onB_and, onB_or]) | (refine AWp_condA rfl ?_ ?_) | with_reducible (first | refine onB_of ?_ ?_ | rfl) | omega))
            all_goals first
              | omega
              | skip
            refine ⟨2, [], by omega, by omega, by simp [grO, phC_1, pStep, ph0, mkh, mka, mkc, aD_nil, cD_nil, aD_cons, phD_1, List.map_nil], ?_⟩
            try (simp (dsimp := false) only [go_sem, Nat.reduceAdd, Nat.reduceBEq, Nat.reduceEqDiff, Nat.reduceLT, Nat.reduceLeDiff, Nat.reduceMul, Int.reduceToNat, reduceCtorEq, ↓reduceIte, not_true_eq_false, not_false_eq_true, Bool.true_and, Bool.false_and, Int.reduceEq, Int.reduceLT, Int.reduceLE, Int.reduceNeg, List.map_cons, List.map_nil, List.length_set, hid, ga, sa, gs, ss, gsa, ssa, gl0, glk, sl0, slk, phV, phW, phD_1, tkV, grO, pC1, w0, w1, w2])
            all_goals try simp
            all_goals try omega
          · have zk : ((2 : Nat) : Int) = 2 := rfl
            simp only [zk, grO, phC_1, pStep, ph0, mkh, mka, mkc, aD_nil, cD_nil, aD_cons, phD_1, List.map_nil] at *
            have c21 := hkn; have c22 := hh1; have c23 := hmu; have us := an w0 (an w1 w2)
            exact W42
        · skip
          by_cases h2 : s = [99, 111, 109, 109, 101, 110, 116]
          · subst h2
            have w0 : (([110, 111, 100, 101] : Bs) = [99, 111, 109, 109, 101, 110, 116]) = False := eq_false (by decide)
            have w1 : (([116, 101, 120, 116] : Bs) = [99, 111, 109, 109, 101, 110, 116]) = False := eq_false (by decide)
            have w2 : (([99, 111, 109, 109, 101, 110, 116] : Bs) = [99, 111, 109, 109, 101, 110, 116]) = True := eq_true rfl
            simp [grO, phC_1, pStep, ph0, mkh, mka, mkc, aD_nil, cD_nil, aD_cons, phD_1, List.map_nil, phV, phW] at hk
            refine AWp_whileG (fun k : Nat => 1 ≤ k ∧ k ≤ 3) (fun k => [(0, .pt id 0 0 0), (4, .pt H.length 0 0 0), (5, .pt (H.length + 1) 0 0 0), (6, .d (.s [99, 111, 109, 109, 101, 110, 116])), (7, .d (.i .i64 (k : Int)))])
              (fun _ => H.set id (grO L ⟨p1, e1⟩) ++ [.row 0 30 11 [[.d (.i .i64 0), .d (.i .i64 0), .d (.i .i64 0), .d (.s []), .d (.s []), .d (.i .i64 0), .d (.i .i64 0), .d (.i .i64 0), .d (.s []), .d (.c (.slice none 0 0)), .d (.c (.slice none 0 0))]], .row 0 30 11 [phC (pStep ax 4 [99, 111, 109, 109, 101, 110, 116])]])
              (fun k => 4 - k) 1 (by omega) ⟨[], ?_⟩ ?_ ?_ ?_ ?_
            · simp [grO, phC_1, pStep, ph0, mkh, mka, mkc, aD_nil, cD_nil, aD_cons, phD_1, List.map_nil]
            · simp (dsimp := false) only [go_sem, Nat.reduceAdd, Nat.reduceBEq, Nat.reduceEqDiff, Nat.reduceLT, Nat.reduceLeDiff, Nat.reduceMul, Int.reduceToNat, reduceCtorEq, ↓reduceIte, not_true_eq_false, not_false_eq_true, Bool.true_and, Bool.false_and, Int.reduceEq, Int.reduceLT, Int.reduceLE, Int.reduceNeg, List.map_cons, List.map_nil, List.length_set, hid, ga, sa, gs, ss, gsa, ssa, gl0, glk, sl0, slk, phV, phW, phD_1, tkV, grO, pC1, w0, w1, w2]
              simp
              try omega
            · intro y hy; simp
            · intro y hy
              refine closed_sa hid (gr_bel _ _ _ _) ?_
              simp only [List.forall_mem_cons, List.length_cons, List.length_nil]
              refine ⟨oB1 (by simp [Bel_d]), oB1 (by simp [phC_1, Bel_d]), by simp⟩
            rintro k ⟨hk1, hk4⟩
            obtain rfl | rfl | rfl : k = 1 ∨ k = 2 ∨ k = 3 := by omega
            · have zk : ((1 : Nat) : Int) = 1 := rfl
              simp only [zk, grO, phC_1, pStep, ph0, mkh, mka, mkc, aD_nil, cD_nil, aD_cons, phD_1, List.map_nil] at *
              have c21 := hkn; have c22 := hh1; have c23 := hmu; have us := an w0 (an w1 w2)
              (repeat' (first | with_reducible (first | refine And.intro ?_ ?_ | intro _ | (refine hKv _ _ (AWp_nop ?_); clear hKv Kv) | (refine hKA ?_; clear hKA hKB KA KB) | (refine hKB ?_; clear hKA hKB KA KB) | refine Wp ?_ | fail) | ((first | with_reducible (first | (refine hKv _ _ ?_; clear hKv Kv) | (refine Wr ?_; intro Kv hKv) | refine AWp_retR ?_ | fail) | refine Wc ?_ | fail); try simp (dsimp := false) only [go_sem, Nat.reduceAdd, Nat.reduceBEq, Nat.reduceEqDiff, Nat.reduceLT, Nat.reduceLeDiff, Nat.reduceMul, Int.reduceToNat, reduceCtorEq, ↓reduceIte, us, Bool.false_and, Bool.true_and, Int.reduceEq, Int.reduceLE, Int.reduceLT, Int.reduceNeg, List.length_set, List.map_cons, List.map_nil, ga, gl0, glk, grO, gs, gsa, hid, not_false_eq_true, not_true_eq_false, pC1, phD_1, phV, phW, sa, sl0, slk, ss, ssa, tkV]) | (refine AWp_condC rfl ?_; intro KA KB hKA hKB; try simp only [onB_true, onB_false, onB_dec, onB_ndec, onB_not, onB_and, onB_or]) | (refine AWp_condA rfl ?_ ?_) | with_reducible (first | refine onB_of ?_ ?_ | rfl) | omega))
              all_goals first
                | omega
                | skip
              refine ⟨2, [], by omega, by omega, by simp [grO, phC_1, pStep, ph0, mkh, mka, mkc, aD_nil, cD_nil, aD_cons, phD_1, List.map_nil], ?_⟩
              try (simp (dsimp := false) only [go_sem, Nat.reduceAdd, Nat.reduceBEq, Nat.reduceEqDiff, Nat.reduceLT, Nat.reduceLeDiff, Nat.reduceMul, Int.reduceToNat, reduceCtorEq, ↓reduceIte, not_true_eq_false, not_false_eq_true, Bool.true_and, Bool.false_and, Int.reduceEq, Int.reduceLT, Int.reduceLE, Int.reduceNeg, List.map_cons, List.map_nil, List.length_set, hid, ga, sa, gs, ss, gsa, ssa, gl0, glk, sl0, slk, phV, phW, phD_1, tkV, grO, pC1, w0, w1, w2])
              all_goals try simp
              all_goals try omega
            · have zk : ((2 : Nat) : Int) = 2 := rfl
              simp only [zk, grO, phC_1, pStep, ph0, mkh, mka, mkc, aD_nil, cD_nil, aD_cons, phD_1, List.map_nil] at *
              have c21 := hkn; have c22 := hh1; have c23 := hmu; have us := an w0 (an w1 w2)
              (repeat' (first | with_reducible (first | refine And.intro ?_ ?_ | intro _ | (refine hKv _ _ (AWp_nop ?_); clear hKv Kv) | (refine hKA ?_; clear hKA hKB KA KB) | (refine hKB ?_; clear hKA hKB KA KB) | refine Wp ?_ | fail) | ((first | with_reducible (first | (refine hKv _ _ ?_; clear hKv Kv) | (refine Wr ?_; intro Kv hKv) | refine AWp_retR ?_ | fail) | refine Wc ?_ | fail); try simp (dsimp := false) only [go_sem, Nat.reduceAdd, Nat.reduceBEq, Nat.reduceEqDiff, Nat.reduceLT, Nat.reduceLeDiff, Nat.reduceMul, Int.reduceToNat, reduceCtorEq, ↓reduceIte, us, Bool.false_and, Bool.true_and, Int.reduceEq, Int.reduceLE, Int.reduceLT, Int.reduceNeg, List.length_set, List.map_cons, List.map_nil, ga, gl0, glk, grO, gs, gsa, hid, not_false_eq_true, not_true_eq_false, pC1, phD_1, phV, phW, sa, sl0, slk, ss, ssa, tkV]) | (refine AWp_condC rfl ?_; intro KA KB hKA hKB; try simp only [onB_true, onB_false, onB_dec, onB_ndec, onB_not, onB_and, onB_or]) | (refine AWp_condA rfl ?_ ?_) | with_reducible (first | refine onB_of ?_ ?_ | rfl) | omega))
              all_goals first
                | omega
                | skip
              refine ⟨3, [], by omega, by omega, by simp [grO, phC_1, pStep, ph0, mkh, mka, mkc, aD_nil, cD_nil, aD_cons, phD_1, List.map_nil], ?_⟩
              try (simp (dsimp := false) only [go_sem, Nat.reduceAdd, Nat.reduceBEq, Nat.reduceEqDiff, Nat.reduceLT, Nat.reduceLeDiff, Nat.reduceMul, Int.reduceToNat, reduceCtorEq, ↓reduceIte, not_true_eq_false, not_false_eq_true, Bool.true_and, Bool.false_and, Int.reduceEq, Int.reduceLT, Int.reduceLE, Int.reduceNeg, List.map_cons, List.map_nil, List.length_set, hid, ga, sa, gs, ss, gsa, ssa, gl0, glk, sl0, slk, phV, phW, phD_1, tkV, grO, pC1, w0, w1, w2])
              all_goals try simp
              all_goals try omega
            · have zk : ((3 : Nat) : Int) = 3 := rfl
              simp only [zk, grO, phC_1, pStep, ph0, mkh, mka, mkc, aD_nil, cD_nil, aD_cons, phD_1, List.map_nil] at *
              have c21 := hkn; have c22 := hh1; have c23 := hmu; have us := an w0 (an w1 w2)
              exact W42
          · skip
            have w0 : (([110, 111, 100, 101] : Bs) = s) = False := eq_false (fun h => h0 h.symm)
            have w1 : (([116, 101, 120, 116] : Bs) = s) = False := eq_false (fun h => h1 h.symm)
            have w2 : (([99, 111, 109, 109, 101, 110, 116] : Bs) = s) = False := eq_false (fun h => h2 h.symm)
            simp [h0, h1, h2, grO, phC_1, pStep, ph0, mkh, mka, mkc, aD_nil, cD_nil, aD_cons, phD_1, List.map_nil, phV, phW] at hk
            refine AWp_whileG (fun k : Nat => 1 ≤ k ∧ k ≤ 4) (fun k => [(0, .pt id 0 0 0), (4, .pt H.length 0 0 0), (5, .pt (H.length + 1) 0 0 0), (6, .d (.s s)), (7, .d (.i .i64 (k : Int)))])
              (fun _ => H.set id (grO L ⟨p1, e1⟩) ++ [.row 0 30 11 [[.d (.i .i64 0), .d (.i .i64 0), .d (.i .i64 0), .d (.s []), .d (.s []), .d (.i .i64 0), .d (.i .i64 0), .d (.i .i64 0), .d (.s []), .d (.c (.slice none 0 0)), .d (.c (.slice none 0 0))]], .row 0 30 11 [phC (pStep ax 4 s)]])
              (fun k => 4 - k) 1 (by omega) ⟨[], ?_⟩ ?_ ?_ ?_ ?_
            · simp [grO, phC_1, pStep, ph0, mkh, mka, mkc, aD_nil, cD_nil, aD_cons, phD_1, List.map_nil]
            · simp (dsimp := false) only [go_sem, Nat.reduceAdd, Nat.reduceBEq, Nat.reduceEqDiff, Nat.reduceLT, Nat.reduceLeDiff, Nat.reduceMul, Int.reduceToNat, reduceCtorEq, ↓reduceIte, not_true_eq_false, not_false_eq_true, Bool.true_and, Bool.false_and, Int.reduceEq, Int.reduceLT, Int.reduceLE, Int.reduceNeg, List.map_cons, List.map_nil, List.length_set, hid, ga, sa, gs, ss, gsa, ssa, gl0, glk, sl0, slk, phV, phW, phD_1, tkV, grO, pC1, w0, w1, w2]
              simp
              try omega
            · intro y hy; simp
            · intro y hy
              refine closed_sa hid (gr_bel _ _ _ _) ?_
              simp only [List.forall_mem_cons, List.length_cons, List.length_nil]
              refine ⟨oB1 (by simp [Bel_d]), oB1 (by simp [phC_1, Bel_d]), by simp⟩
            rintro k ⟨hk1, hk4⟩
            obtain rfl | rfl | rfl | rfl : k = 1 ∨ k = 2 ∨ k = 3 ∨ k = 4 := by omega
            · have zk : ((1 : Nat) : Int) = 1 := rfl
              simp only [zk, grO, phC_1, pStep, ph0, mkh, mka, mkc, aD_nil, cD_nil, aD_cons, phD_1, List.map_nil] at *
              have c21 := hkn; have us := an w0 (an w1 w2)
              (repeat' (first | with_reducible (first | refine And.intro ?_ ?_ | intro _ | (refine hKv _ _ (AWp_nop ?_); clear hKv Kv) | (refine hKA ?_; clear hKA hKB KA KB) | (refine hKB ?_; clear hKA hKB KA KB) | refine Wp ?_ | fail) | ((first | with_reducible (first | (refine hKv _ _ ?_; clear hKv Kv) | (refine Wr ?_; intro Kv hKv) | refine AWp_retR ?_ | fail) | refine Wc ?_ | fail); try simp (dsimp := false) only [go_sem, Nat.reduceAdd, Nat.reduceBEq, Nat.reduceEqDiff, Nat.reduceLT, Nat.reduceLeDiff, Nat.reduceMul, Int.reduceToNat, reduceCtorEq, ↓reduceIte, us, Bool.false_and, Bool.true_and, Int.reduceEq, Int.reduceLE, Int.reduceLT, Int.reduceNeg, List.length_set, List.map_cons, List.map_nil, ga, gl0, glk, grO, gs, gsa, hid, not_false_eq_true, not_true_eq_false, pC1, phD_1, phV, phW, sa, sl0, slk, ss, ssa, tkV]) | (refine AWp_condC rfl ?_; intro KA KB hKA hKB; try simp only [onB_true, onB_false, onB_dec, onB_ndec, onB_not, onB_and, onB_or]) | (refine AWp_condA rfl ?_ ?_) | with_reducible (first | refine onB_of ?_ ?_ | rfl) | omega))
              all_goals first
                | omega
                | skip
              refine ⟨2, [], by omega, by omega, by simp [grO, phC_1, pStep, ph0, mkh, mka, mkc, aD_nil, cD_nil, aD_cons, phD_1, List.map_nil], ?_⟩
              try (simp (dsimp := false) only [go_sem, Nat.reduceAdd, Nat.reduceBEq, Nat.reduceEqDiff, Nat.reduceLT, Nat.reduceLeDiff, Nat.reduceMul, Int.reduceToNat, reduceCtorEq, ↓reduceIte, not_true_eq_false, not_false_eq_true, Bool.true_and, Bool.false_and, Int.reduceEq, Int.reduceLT, Int.reduceLE, Int.reduceNeg, List.map_cons, List.map_nil, List.length_set, hid, ga, sa, gs, ss, gsa, ssa, gl0, glk, sl0, slk, phV, phW, phD_1, tkV, grO, pC1, w0, w1, w2])
              all_goals try simp
              all_goals try omega
            · have zk : ((2 : Nat) : Int) = 2 := rfl
              simp only [zk, grO, phC_1, pStep, ph0, mkh, mka, mkc, aD_nil, cD_nil, aD_cons, phD_1, List.map_nil] at *
              have c21 := hkn; have us := an w0 (an w1 w2)
              (repeat' (first | with_reducible (first | refine And.intro ?_ ?_ | intro _ | (refine hKv _ _ (AWp_nop ?_); clear hKv Kv) | (refine hKA ?_; clear hKA hKB KA KB) | (refine hKB ?_; clear hKA hKB KA KB) | refine Wp ?_ | fail) | ((first | with_reducible (first | (refine hKv _ _ ?_; clear hKv Kv) | (refine Wr ?_; intro Kv hKv) | refine AWp_retR ?_ | fail) | refine Wc ?_ | fail); try simp (dsimp := false) only [go_sem, Nat.reduceAdd, Nat.reduceBEq, Nat.reduceEqDiff, Nat.reduceLT, Nat.reduceLeDiff, Nat.reduceMul, Int.reduceToNat, reduceCtorEq, ↓reduceIte, us, Bool.false_and, Bool.true_and, Int.reduceEq, Int.reduceLE, Int.reduceLT, Int.reduceNeg, List.length_set, List.map_cons, List.map_nil, ga, gl0, glk, grO, gs, gsa, hid, not_false_eq_true, not_true_eq_false, pC1, phD_1, phV, phW, sa, sl0, slk, ss, ssa, tkV]) | (refine AWp_condC rfl ?_; intro KA KB hKA hKB; try simp only [onB_true, onB_false, onB_dec, onB_ndec, onB_not, onB_and, onB_or]) | (refine AWp_condA rfl ?_ ?_) | with_reducible (first | refine onB_of ?_ ?_ | rfl) | omega))
              all_goals first
                | omega
                | skip
              refine ⟨3, [], by omega, by omega, by simp [grO, phC_1, pStep, ph0, mkh, mka, mkc, aD_nil, cD_nil, aD_cons, phD_1, List.map_nil], ?_⟩
              try (simp (dsimp := false) only [go_sem, Nat.reduceAdd, Nat.reduceBEq, Nat.reduceEqDiff, Nat.reduceLT, Nat.reduceLeDiff, Nat.reduceMul, Int.reduceToNat, reduceCtorEq, ↓reduceIte, not_true_eq_false, not_false_eq_true, Bool.true_and, Bool.false_and, Int.reduceEq, Int.reduceLT, Int.reduceLE, Int.reduceNeg, List.map_cons, List.map_nil, List.length_set, hid, ga, sa, gs, ss, gsa, ssa, gl0, glk, sl0, slk, phV, phW, phD_1, tkV, grO, pC1, w0, w1, w2])
              all_goals try simp
              all_goals try omega
            · have zk : ((3 : Nat) : Int) = 3 := rfl
              simp only [zk, grO, phC_1, pStep, ph0, mkh, mka, mkc, aD_nil, cD_nil, aD_cons, phD_1, List.map_nil] at *
              have c21 := hkn; have us := an w0 (an w1 w2)
              (repeat' (first | with_reducible (first | refine And.intro ?_ ?_ | intro _ | (refine hKv _ _ (AWp_nop ?_); clear hKv Kv) | (refine hKA ?_; clear hKA hKB KA KB) | (refine hKB ?_; clear hKA hKB KA KB) | refine Wp ?_ | fail) | ((first | with_reducible (first | (refine hKv _ _ ?_; clear hKv Kv) | (refine Wr ?_; intro Kv hKv) | refine AWp_retR ?_ | fail) | refine Wc ?_ | fail); try simp (dsimp := false) only [go_sem, Nat.reduceAdd, Nat.reduceBEq, Nat.reduceEqDiff, Nat.reduceLT, Nat.reduceLeDiff, Nat.reduceMul, Int.reduceToNat, reduceCtorEq, ↓reduceIte, us, Bool.false_and, Bool.true_and, Int.reduceEq, Int.reduceLE, Int.reduceLT, Int.reduceNeg, List.length_set, List.map_cons, List.map_nil, ga, gl0, glk, grO, gs, gsa, hid, not_false_eq_true, not_true_eq_false, pC1, phD_1, phV, phW, sa, sl0, slk, ss, ssa, tkV]) | (refine AWp_condC rfl ?_; intro KA KB hKA hKB; try simp only [onB_true, onB_false, onB_dec, onB_ndec, onB_not, onB_and, onB_or]) | (refine AWp_condA rfl ?_ ?_) | with_reducible (first | refine onB_of ?_ ?_ | rfl) | omega))
              all_goals first
                | omega
                | skip
              refine ⟨4, [], by omega, by omega, by simp [grO, phC_1, pStep, ph0, mkh, mka, mkc, aD_nil, cD_nil, aD_cons, phD_1, List.map_nil], ?_⟩
              try (simp (dsimp := false) only [go_sem, Nat.reduceAdd, Nat.reduceBEq, Nat.reduceEqDiff, Nat.reduceLT, Nat.reduceLeDiff, Nat.reduceMul, Int.reduceToNat, reduceCtorEq, ↓reduceIte, not_true_eq_false, not_false_eq_true, Bool.true_and, Bool.false_and, Int.reduceEq, Int.reduceLT, Int.reduceLE, Int.reduceNeg, List.map_cons, List.map_nil, List.length_set, hid, ga, sa, gs, ss, gsa, ssa, gl0, glk, sl0, slk, phV, phW, phD_1, tkV, grO, pC1, w0, w1, w2])
              all_goals try simp
              all_goals try omega
            · have zk : ((4 : Nat) : Int) = 4 := rfl
              simp only [zk, grO, phC_1, pStep, ph0, mkh, mka, mkc, aD_nil, cD_nil, aD_cons, phD_1, List.map_nil] at *
              have c21 := hkn; have us := an w0 (an w1 w2)
              exact W42
    | false =>
      rw [hc1] at hk
      rw [sOpen] at hc1
      have hh1 := fun G K hk => rPassF_A L hL id p1 hp1 e1 [40] (by decide) hc1 (H.set id (grO L ⟨p1, e1⟩) ++ G) K (gsa _ _) hk
      by_cases h0 : s = [110, 111, 100, 101]
      · subst h0
        have w0 : (([110, 111, 100, 101] : Bs) = [110, 111, 100, 101]) = True := eq_true rfl
        have w1 : (([116, 101, 120, 116] : Bs) = [110, 111, 100, 101]) = False := eq_false (by decide)
        have w2 : (([99, 111, 109, 109, 101, 110, 116] : Bs) = [110, 111, 100, 101]) = False := eq_false (by decide)
        simp [grO, phC_1, pStep, ph0, mkh, mka, mkc, aD_nil, cD_nil, aD_cons, phD_1, List.map_nil, phV, phW] at hk
        refine AWp_whileG (fun k : Nat => 1 ≤ k ∧ k ≤ 4) (fun k => [(0, .pt id 0 0 0), (4, .pt H.length 0 0 0), (5, .pt (H.length + 1) 0 0 0), (6, .d (.s [110, 111, 100, 101])), (7, .d (.i .i64 (k : Int)))])
          (fun _ => H.set id (grO L ⟨p1, e1⟩) ++ [.row 0 30 11 [[.d (.i .i64 0), .d (.i .i64 0), .d (.i .i64 0), .d (.s []), .d (.s []), .d (.i .i64 0), .d (.i .i64 0), .d (.i .i64 0), .d (.s []), .d (.c (.slice none 0 0)), .d (.c (.slice none 0 0))]], .row 0 30 11 [phC (pStep ax 4 [110, 111, 100, 101])]])
          (fun k => 4 - k) 1 (by omega) ⟨[], ?_⟩ ?_ ?_ ?_ ?_
        · simp [grO, phC_1, pStep, ph0, mkh, mka, mkc, aD_nil, cD_nil, aD_cons, phD_1, List.map_nil]
        · simp (dsimp := false) only [go_sem, Nat.reduceAdd, Nat.reduceBEq, Nat.reduceEqDiff, Nat.reduceLT, Nat.reduceLeDiff, Nat.reduceMul, Int.reduceToNat, reduceCtorEq, ↓reduceIte, not_true_eq_false, not_false_eq_true, Bool.true_and, Bool.false_and, Int.reduceEq, Int.reduceLT, Int.reduceLE, Int.reduceNeg, List.map_cons, List.map_nil, List.length_set, hid, ga, sa, gs, ss, gsa, ssa, gl0, glk, sl0, slk, phV, phW, phD_1, tkV, grO, pC1, w0, w1, w2]
          simp
          try omega
        · intro y hy; simp
        · intro y hy
          refine closed_sa hid (gr_bel _ _ _ _) ?_
          simp only [List.forall_mem_cons, List.length_cons, List.length_nil]
          refine ⟨oB1 (by simp [Bel_d]), oB1 (by simp [phC_1, Bel_d]), by simp⟩
        rintro k ⟨hk1, hk4⟩
        obtain rfl | rfl | rfl | rfl : k = 1 ∨ k = 2 ∨ k = 3 ∨ k = 4 := by omega
        · have zk : ((1 : Nat) : Int) = 1 := rfl
          simp only [zk, grO, phC_1, pStep, ph0, mkh, mka, mkc, aD_nil, cD_nil, aD_cons, phD_1, List.map_nil] at *
          have c21 := hkn; have c22 := hh1; have us := an w0 (an w1 w2)
          (repeat' (first | with_reducible (first | refine And.intro ?_ ?_ | intro _ | (refine hKv _ _ (AWp_nop ?_); clear hKv Kv) | (refine hKA ?_; clear hKA hKB KA KB) | (refine hKB ?_; clear hKA hKB KA KB) | refine Wp ?_ | fail) | ((first | with_reducible (first | (refine hKv _ _ ?_; clear hKv Kv) | (refine Wr ?_; intro Kv hKv) | refine AWp_retR ?_ | fail) | refine Wc ?_ | fail); try simp (dsimp := false) only [go_sem, Nat.reduceAdd, Nat.reduceBEq, Nat.reduceEqDiff, Nat.reduceLT, Nat.reduceLeDiff, Nat.reduceMul, Int.reduceToNat, reduceCtorEq, ↓reduceIte, us, Bool.false_and, Bool.true_and, Int.reduceEq, Int.reduceLE, Int.reduceLT, Int.reduceNeg, List.length_set, List.map_cons, List.map_nil, ga, gl0, glk, grO, gs, gsa, hid, not_false_eq_true, not_true_eq_false, pC1, phD_1, phV, phW, sa, sl0, slk, ss, ssa, tkV]) | (refine AWp_condC rfl ?_; intro KA KB hKA hKB; try simp only [onB_true, onB_false, onB_dec, onB_ndec, onB_not, onB_and, onB_or]) | (refine AWp_condA rfl ?_ ?_) | with_reducible (first | refine onB_of ?_ ?_ | rfl) | omega))
          all_goals first
            | omega
            | skip
          refine ⟨2, [], by omega, by omega, by simp [grO, phC_1, pStep, ph0, mkh, mka, mkc, aD_nil, cD_nil, aD_cons, phD_1, List.map_nil], ?_⟩
          try (simp (dsimp := false) only [go_sem, Nat.reduceAdd, Nat.reduceBEq, Nat.reduceEqDiff, Nat.reduceLT, Nat.reduceLeDiff, Nat.reduceMul, Int.reduceToNat, reduceCtorEq, ↓reduceIte, not_true_eq_false, not_false_eq_true, Bool.true_and, Bool.false_and, Int.reduceEq, Int.reduceLT, Int.reduceLE, Int.reduceNeg, List.map_cons, List.map_nil, List.length_set, hid, ga, sa, gs, ss, gsa, ssa, gl0, glk, sl0, slk, phV, phW, phD_1, tkV, grO, pC1, w0, w1, w2])
          all_goals try simp
          all_goals try omega
        · have zk : ((2 : Nat) : Int) = 2 := rfl
          simp only [zk, grO, phC_1, pStep, ph0, mkh, mka, mkc, aD_nil, cD_nil, aD_cons, phD_1, List.map_nil] at *
          have c21 := hkn; have c22 := hh1; have us := an w0 (an w1 w2)
          (repeat' (first | with_reducible (first | refine And.intro ?_ ?_ | intro _ | (refine hKv _ _ (AWp_nop ?_); clear hKv Kv) | (refine hKA ?_; clear hKA hKB KA KB) | (refine hKB ?_; clear hKA hKB KA KB) | refine Wp ?_ | fail) | ((first | with_reducible (first | (refine hKv _ _ ?_; clear hKv Kv) | (refine Wr ?_; intro Kv hKv) | refine AWp_retR ?_ | fail) | refine Wc ?_ | fail); try simp (dsimp := false) only [go_sem, Nat.reduceAdd, Nat.reduceBEq, Nat.reduceEqDiff, Nat.reduceLT, Nat.reduceLeDiff, Nat.reduceMul, Int.reduceToNat, reduceCtorEq, ↓reduceIte, us, Bool.false_and, Bool.true_and, Int.reduceEq, Int.reduceLE, Int.reduceLT, Int.reduceNeg, List.length_set, List.map_cons, List.map_nil, ga, gl0, glk, grO, gs, gsa, hid, not_false_eq_true, not_true_eq_false, pC1, phD_1, phV, phW, sa, sl0, slk, ss, ssa, tkV]) | (refine AWp_condC rfl ?_; intro KA KB hKA hKB; try simp only [onB_true, onB_false, onB_dec, onB_ndec, onB_not, onB_and, onB_or]) | (refine AWp_condA rfl ?_ ?_) | with_reducible (first | refine onB_of ?_ ?_ | rfl) | omega))
          all_goals first
            | omega
            | skip
          refine ⟨3, [], by omega, by omega, by simp [grO, phC_1, pStep, ph0, mkh, mka, mkc, aD_nil, cD_nil, aD_cons, phD_1, List.map_nil], ?_⟩
          try (simp (dsimp := false) only [go_sem, Nat.reduceAdd, Nat.reduceBEq, Nat.reduceEqDiff, Nat.reduceLT, Nat.reduceLeDiff, Nat.reduceMul, Int.reduceToNat, reduceCtorEq, ↓reduceIte, not_true_eq_false, not_false_eq_true, Bool.true_and, Bool.false_and, Int.reduceEq, Int.reduceLT, Int.reduceLE, Int.reduceNeg, List.map_cons, List.map_nil, List.length_set, hid, ga, sa, gs, ss, gsa, ssa, gl0, glk, sl0, slk, phV, phW, phD_1, tkV, grO, pC1, w0, w1, w2])
          all_goals try simp
          all_goals try omega
        · have zk : ((3 : Nat) : Int) = 3 := rfl
          simp only [zk, grO, phC_1, pStep, ph0, mkh, mka, mkc, aD_nil, cD_nil, aD_cons, phD_1, List.map_nil] at *
          have c21 := hkn; have c22 := hh1; have us := an w0 (an w1 w2)
          (repeat' (first | with_reducible (first | refine And.intro ?_ ?_ | intro _ | (refine hKv _ _ (AWp_nop ?_); clear hKv Kv) | (refine hKA ?_; clear hKA hKB KA KB) | (refine hKB ?_; clear hKA hKB KA KB) | refine Wp ?_ | fail) | ((first | with_reducible (first | (refine hKv _ _ ?_; clear hKv Kv) | (refine Wr ?_; intro Kv hKv) | refine AWp_retR ?_ | fail) | refine Wc ?_ | fail); try simp (dsimp := false) only [go_sem, Nat.reduceAdd, Nat.reduceBEq, Nat.reduceEqDiff, Nat.reduceLT, Nat.reduceLeDiff, Nat.reduceMul, Int.reduceToNat, reduceCtorEq, ↓reduceIte, us, Bool.false_and, Bool.true_and, Int.reduceEq, Int.reduceLE, Int.reduceLT, Int.reduceNeg, List.length_set, List.map_cons, List.map_nil, ga, gl0, glk, grO, gs, gsa, hid, not_false_eq_true, not_true_eq_false, pC1, phD_1, phV, phW, sa, sl0, slk, ss, ssa, tkV]) | (refine AWp_condC rfl ?_; intro KA KB hKA hKB; try simp only [onB_true, onB_false, onB_dec, onB_ndec, onB_not, onB_and, onB_or]) | (refine AWp_condA rfl ?_ ?_) | with_reducible (first | refine onB_of ?_ ?_ | rfl) | omega))
          all_goals first
            | omega
            | skip
          refine ⟨4, [], by omega, by omega, by simp [grO, phC_1, pStep, ph0, mkh, mka, mkc, aD_nil, cD_nil, aD_cons, phD_1, List.map_nil], ?_⟩
          try (simp (dsimp := false) only [go_sem, Nat.reduceAdd, Nat.reduceBEq, Nat.reduceEqDiff, Nat.reduceLT, Nat.reduceLeDiff, Nat.reduceMul, Int.reduceToNat, reduceCtorEq, ↓reduceIte, not_true_eq_false, not_false_eq_true, Bool.true_and, Bool.false_and, Int.reduceEq, Int.reduceLT, Int.reduceLE, Int.reduceNeg, List.map_cons, List.map_nil, List.length_set, hid, ga, sa, gs, ss, gsa, ssa, gl0, glk, sl0, slk, phV, phW, phD_1, tkV, grO, pC1, w0, w1, w2])
          all_goals try simp
          all_goals try omega
        · have zk : ((4 : Nat) : Int) = 4 := rfl
          simp only [zk, grO, phC_1, pStep, ph0, mkh, mka, mkc, aD_nil, cD_nil, aD_cons, phD_1, List.map_nil] at *
          have c21 := hkn; have us := an w0 (an w1 w2)
          exact W42
      · skip
        by_cases h1 : s = [116, 101, 120, 116]
        · subst h1
          have w0 : (([110, 111, 100, 101] : Bs) = [116, 101, 120, 116]) = False := eq_false (by decide)
          have w1 : (([116, 101, 120, 116] : Bs) = [116, 101, 120, 116]) = True := eq_true rfl
          have w2 : (([99, 111, 109, 109, 101, 110, 116] : Bs) = [116, 101, 120, 116]) = False := eq_false (by decide)
          simp [grO, phC_1, pStep, ph0, mkh, mka, mkc, aD_nil, cD_nil, aD_cons, phD_1, List.map_nil, phV, phW] at hk
          refine AWp_whileG (fun k : Nat => 1 ≤ k ∧ k ≤ 4) (fun k => [(0, .pt id 0 0 0), (4, .pt H.length 0 0 0), (5, .pt (H.length + 1) 0 0 0), (6, .d (.s [116, 101, 120, 116])), (7, .d (.i .i64 (k : Int)))])
            (fun _ => H.set id (grO L ⟨p1, e1⟩) ++ [.row 0 30 11 [[.d (.i .i64 0), .d (.i .i64 0), .d (.i .i64 0), .d (.s []), .d (.s []), .d (.i .i64 0), .d (.i .i64 0), .d (.i .i64 0), .d (.s []), .d (.c (.slice none 0 0)), .d (.c (.slice none 0 0))]], .row 0 30 11 [phC (pStep ax 4 [116, 101, 120, 116])]])
            (fun k => 4 - k) 1 (by omega) ⟨[], ?_⟩ ?_ ?_ ?_ ?_
          · simp [grO, phC_1, pStep, ph0, mkh, mka, mkc, aD_nil, cD_nil, aD_cons, phD_1, List.map_nil]
          · simp (dsimp := false) only [go_sem, Nat.reduceAdd, Nat.reduceBEq, Nat.reduceEqDiff, Nat.reduceLT, Nat.reduceLeDiff, Nat.reduceMul, Int.reduceToNat, reduceCtorEq, ↓reduceIte, not_true_eq_false, not_false_eq_true, Bool.true_and, Bool.false_and, Int.reduceEq, Int.reduceLT, Int.reduceLE, Int.reduceNeg, List.map_cons, List.map_nil, List.length_set, hid, ga, sa, gs, ss, gsa, ssa, gl0, glk, sl0, slk, phV, phW, phD_1, tkV, grO, pC1, w0, w1, w2]
            simp
            try omega
          · intro y hy; simp
          · intro y hy
            refine closed_sa hid (gr_bel _ _ _ _) ?_
            simp only [List.forall_mem_cons, List.length_cons, List.length_nil]
            refine ⟨oB1 (by simp [Bel_d]), oB1 (by simp [phC_1, Bel_d]), by simp⟩
          rintro k ⟨hk1, hk4⟩
          obtain rfl | rfl | rfl | rfl : k = 1 ∨ k = 2 ∨ k = 3 ∨ k = 4 := by omega
          · have zk : ((1 : Nat) : Int) = 1 := rfl
            simp only [zk, grO, phC_1, pStep, ph0, mkh, mka, mkc, aD_nil, cD_nil, aD_cons, phD_1, List.map_nil] at *
            have c21 := hkn; have c22 := hh1; have us := an w0 (an w1 w2)
            (repeat' (first | with_reducible (first | refine And.intro ?_ ?_ | intro _ | (refine hKv _ _ (AWp_nop ?_); clear hKv Kv) | (refine hKA ?_; clear hKA hKB KA KB) | (refine hKB ?_; clear hKA hKB KA KB) | refine Wp ?_ | fail) | ((first | with_reducible (first | (refine hKv _ _ ?_; clear hKv Kv) | (refine Wr ?_; intro Kv hKv) | refine AWp_retR ?_ | fail) | refine Wc ?_ | fail); try simp (dsimp := false) only [go_sem, Nat.reduceAdd, Nat.reduceBEq, Nat.reduceEqDiff, Nat.reduceLT, Nat.reduceLeDiff, Nat.reduceMul, Int.reduceToNat, reduceCtorEq, ↓reduceIte, us, Bool.false_and, Bool.true_and, Int.reduceEq, Int.reduceLE, Int.reduceLT, Int.reduceNeg, List.length_set, List.map_cons, List.map_nil, ga, gl0, glk, grO, gs, gsa, hid, not_false_eq_true, not_true_eq_false, pC1, phD_1, phV, phW, sa, sl0, slk, ss, ssa, tkV]) | (refine AWp_condC rfl ?_; intro KA KB hKA hKB; try simp only [onB_true, onB_false, onB_dec, onB_ndec, onB_not, onB_and, onB_or]) | (refine AWp_condA rfl ?_ ?_) | with_reducible (first | refine onB_of ?_ ?_ | rfl) | omega))
            all_goals first
              | omega
              | skip
            refine ⟨2, [], by omega, by omega, by simp [grO, phC_1, pStep, ph0, mkh, mka, mkc, aD_nil, cD_nil, aD_cons, phD_1, List.map_nil], ?_⟩
            try (simp (dsimp := false) only [go_sem, Nat.reduceAdd, Nat.reduceBEq, Nat.reduceEqDiff, Nat.reduceLT, Nat.reduceLeDiff, Nat.reduceMul, Int.reduceToNat, reduceCtorEq, ↓reduceIte, not_true_eq_false, not_false_eq_true, Bool.true_and, Bool.false_and, Int.reduceEq, Int.reduceLT, Int.reduceLE, Int.reduceNeg, List.map_cons, List.map_nil, List.length_set, hid, ga, sa, gs, ss, gsa, ssa, gl0, glk, sl0, slk, phV, phW, phD_1, tkV, grO, pC1, w0, w1, w2])
            all_goals try simp
            all_goals try omega
          · have zk : ((2 : Nat) : Int) = 2 := rfl
            simp only [zk, grO, phC_1, pStep, ph0, mkh, mka, mkc, aD_nil, cD_nil, aD_cons, phD_1, List.map_nil] at *
            have c21 := hkn; have c22 := hh1; have us := an w0 (an w1 w2)
            (repeat' (first | with_reducible (first | refine And.intro ?_ ?_ | intro _ | (refine hKv _ _ (AWp_nop ?_); clear hKv Kv) | (refine hKA ?_; clear hKA hKB KA KB) | (refine hKB ?_; clear hKA hKB KA KB) | refine Wp ?_ | fail) | ((first | with_reducible (first | (refine hKv _ _ ?_; clear hKv Kv) | (refine Wr ?_; intro Kv hKv) | refine AWp_retR ?_ | fail) | refine Wc ?_ | fail); try simp (dsimp := false) only [go_sem, Nat.reduceAdd, Nat.reduceBEq, Nat.reduceEqDiff, Nat.reduceLT, Nat.reduceLeDiff, Nat.reduceMul, Int.reduceToNat, reduceCtorEq, ↓reduceIte, us, Bool.false_and, Bool.true_and, Int.reduceEq, Int.reduceLE, Int.reduceLT, Int.reduceNeg, List.length_set, List.map_cons, List.map_nil, ga, gl0, glk, grO, gs, gsa, hid, not_false_eq_true, not_true_eq_false, pC1, phD_1, phV, phW, sa, sl0, slk, ss, ssa, tkV]) | (refine AWp_condC rfl ?_; intro KA KB hKA hKB; try simp only [onB_true, onB_false, onB_dec, onB_ndec, onB_not, onB_and, onB_or]) | (refine AWp_condA rfl ?_ ?_) | with_reducible (first | refine onB_of ?_ ?_ | rfl) | omega))
            all_goals first
              | omega
              | skip
            refine ⟨3, [], by omega, by omega, by simp [grO, phC_1, pStep, ph0, mkh, mka, mkc, aD_nil, cD_nil, aD_cons, phD_1, List.map_nil], ?_⟩
            try (simp (dsimp := false) only [go_sem, Nat.reduceAdd, Nat.reduceBEq, Nat.reduceEqDiff, Nat.reduceLT, Nat.reduceLeDiff, Nat.reduceMul, Int.reduceToNat, reduceCtorEq, ↓reduceIte, not_true_eq_false, not_false_eq_true, Bool.true_and, Bool.false_and, Int.reduceEq, Int.reduceLT, Int.reduceLE, Int.reduceNeg, List.map_cons, List.map_nil, List.length_set, hid, ga, sa, gs, ss, gsa, ssa, gl0, glk, sl0, slk, phV, phW, phD_1, tkV, grO, pC1, w0, w1, w2])
            all_goals try simp
            all_goals try omega
          · have zk : ((3 : Nat) : Int) = 3 := rfl
            simp only [zk, grO, phC_1, pStep, ph0, mkh, mka, mkc, aD_nil, cD_nil, aD_cons, phD_1, List.map_nil] at *
            have c21 := hkn; have c22 := hh1; have us := an w0 (an w1 w2)
            (repeat' (first | with_reducible (first | refine And.intro ?_ ?_ | intro _ | (refine hKv _ _ (AWp_nop ?_); clear hKv Kv) | (refine hKA ?_; clear hKA hKB KA KB) | (refine hKB ?_; clear hKA hKB KA KB) | refine Wp ?_ | fail) | ((first | with_reducible (first | (refine hKv _ _ ?_; clear hKv Kv) | (refine Wr ?_; intro Kv hKv) | refine AWp_retR ?_ | fail) | refine Wc ?_ | fail); try simp (dsimp := false) only [go_sem, Nat.reduceAdd, Nat.reduceBEq, Nat.reduceEqDiff, Nat.reduceLT, Nat.reduceLeDiff, Nat.reduceMul, Int.reduceToNat, reduceCtorEq, ↓reduceIte, us, Bool.false_and, Bool.true_and, Int.reduceEq, Int.reduceLE, Int.reduceLT, Int.reduceNeg, List.length_set, List.map_cons, List.map_nil, ga, gl0, glk, grO, gs, gsa, hid, not_false_eq_true, not_true_eq_false, pC1, phD_1, phV, phW, sa, sl0, slk, ss, ssa, tkV]) | (refine AWp_condC rfl ?_; intro KA KB hKA hKB; try simp only [onB_true, onB_false, onB_dec, onB_ndec, onB_not, onB_and, onB_or]) | (refine AWp_condA rfl ?_ ?_) | with_reducible (first | refine onB_of ?_ ?_ | rfl) | omega))
            all_goals first
              | omega
              | skip
            refine ⟨4, [], by omega, by omega, by simp [grO, phC_1, pStep, ph0, mkh, mka, mkc, aD_nil, cD_nil, aD_cons, phD_1, List.map_nil], ?_⟩
            try (simp (dsimp := false) only [go_sem, Nat.reduceAdd, Nat.reduceBEq, Nat.reduceEqDiff, Nat.reduceLT, Nat.reduceLeDiff, Nat.reduceMul, Int.reduceToNat, reduceCtorEq, ↓reduceIte, not_true_eq_false, not_false_eq_true, Bool.true_and, Bool.false_and, Int.reduceEq, Int.reduceLT, Int.reduceLE, Int.reduceNeg, List.map_cons, List.map_nil, List.length_set, hid, ga, sa, gs, ss, gsa, ssa, gl0, glk, sl0, slk, phV, phW, phD_1, tkV, grO, pC1, w0, w1, w2])
            all_goals try simp
            all_goals try omega
          · have zk : ((4 : Nat) : Int) = 4 := rfl
            simp only [zk, grO, phC_1, pStep, ph0, mkh, mka, mkc, aD_nil, cD_nil, aD_cons, phD_1, List.map_nil] at *
            have c21 := hkn; have us := an w0 (an w1 w2)
            exact W42
        · skip
          by_cases h2 : s = [99, 111, 109, 109, 101, 110, 116]
          · subst h2
            have w0 : (([110, 111, 100, 101] : Bs) = [99, 111, 109, 109, 101, 110, 116]) = False := eq_false (by decide)
            have w1 : (([116, 101, 120, 116] : Bs) = [99, 111, 109, 109, 101, 110, 116]) = False := eq_false (by decide)
            have w2 : (([99, 111, 109, 109, 101, 110, 116] : Bs) = [99, 111, 109, 109, 101, 110, 116]) = True := eq_true rfl
            simp [grO, phC_1, pStep, ph0, mkh, mka, mkc, aD_nil, cD_nil, aD_cons, phD_1, List.map_nil, phV, phW] at hk
            refine AWp_whileG (fun k : Nat => 1 ≤ k ∧ k ≤ 4) (fun k => [(0, .pt id 0 0 0), (4, .pt H.length 0 0 0), (5, .pt (H.length + 1) 0 0 0), (6, .d (.s [99, 111, 109, 109, 101, 110, 116])), (7, .d (.i .i64 (k : Int)))])
              (fun _ => H.set id (grO L ⟨p1, e1⟩) ++ [.row 0 30 11 [[.d (.i .i64 0), .d (.i .i64 0), .d (.i .i64 0), .d (.s []), .d (.s []), .d (.i .i64 0), .d (.i .i64 0), .d (.i .i64 0), .d (.s []), .d (.c (.slice none 0 0)), .d (.c (.slice none 0 0))]], .row 0 30 11 [phC (pStep ax 4 [99, 111, 109, 109, 101, 110, 116])]])
              (fun k => 4 - k) 1 (by omega) ⟨[], ?_⟩ ?_ ?_ ?_ ?_
            · simp [grO, phC_1, pStep, ph0, mkh, mka, mkc, aD_nil, cD_nil, aD_cons, phD_1, List.map_nil]
            · simp (dsimp := false) only [go_sem, Nat.reduceAdd, Nat.reduceBEq, Nat.reduceEqDiff, Nat.reduceLT, Nat.reduceLeDiff, Nat.reduceMul, Int.reduceToNat, reduceCtorEq, ↓reduceIte, not_true_eq_false, not_false_eq_true, Bool.true_and, Bool.false_and, Int.reduceEq, Int.reduceLT, Int.reduceLE, Int.reduceNeg, List.map_cons, List.map_nil, List.length_set, hid, ga, sa, gs, ss, gsa, ssa, gl0, glk, sl0, slk, phV, phW, phD_1, tkV, grO, pC1, w0, w1, w2]
              simp
              try omega
            · intro y hy; simp
            · intro y hy
              refine closed_sa hid (gr_bel _ _ _ _) ?_
              simp only [List.forall_mem_cons, List.length_cons, List.length_nil]
              refine ⟨oB1 (by simp [Bel_d]), oB1 (by simp [phC_1, Bel_d]), by simp⟩
            rintro k ⟨hk1, hk4⟩
            obtain rfl | rfl | rfl | rfl : k = 1 ∨ k = 2 ∨ k = 3 ∨ k = 4 := by omega
            · have zk : ((1 : Nat) : Int) = 1 := rfl
              simp only [zk, grO, phC_1, pStep, ph0, mkh, mka, mkc, aD_nil, cD_nil, aD_cons, phD_1, List.map_nil] at *
              have c21 := hkn; have c22 := hh1; have us := an w0 (an w1 w2)
              (repeat' (first | with_reducible (first | refine And.intro ?_ ?_ | intro _ | (refine hKv _ _ (AWp_nop ?_); clear hKv Kv) | (refine hKA ?_; clear hKA hKB KA KB) | (refine hKB ?_; clear hKA hKB KA KB) | refine Wp ?_ | fail) | ((first | with_reducible (first | (refine hKv _ _ ?_; clear hKv Kv) | (refine Wr ?_; intro Kv hKv) | refine AWp_retR ?_ | fail) | refine Wc ?_ | fail); try simp (dsimp := false) only [go_sem, Nat.reduceAdd, Nat.reduceBEq, Nat.reduceEqDiff, Nat.reduceLT, Nat.reduceLeDiff, Nat.reduceMul, Int.reduceToNat, reduceCtorEq, ↓reduceIte, us, Bool.false_and, Bool.true_and, Int.reduceEq, Int.reduceLE, Int.reduceLT, Int.reduceNeg, List.length_set, List.map_cons, List.map_nil, ga, gl0, glk, grO, gs, gsa, hid, not_false_eq_true, not_true_eq_false, pC1, phD_1, phV, phW, sa, sl0, slk, ss, ssa, tkV]) | (refine AWp_condC rfl ?_; intro KA KB hKA hKB; try simp only [onB_true, onB_false, onB_dec, onB_ndec, onB_not, onB_and, onB_or]) | (refine AWp_condA rfl ?_ ?_) | with_reducible (first | refine onB_of ?_ ?_ | rfl) | omega))
              all_goals first
                | omega
                | skip
              refine ⟨2, [], by omega, by omega, by simp [grO, phC_1, pStep, ph0, mkh, mka, mkc, aD_nil, cD_nil, aD_cons, phD_1, List.map_nil], ?_⟩
              try (simp (dsimp := false) only [go_sem, Nat.reduceAdd, Nat.reduceBEq, Nat.reduceEqDiff, Nat.reduceLT, Nat.reduceLeDiff, Nat.reduceMul, Int.reduceToNat, reduceCtorEq, ↓reduceIte, not_true_eq_false, not_false_eq_true, Bool.true_and, Bool.false_and, Int.reduceEq, Int.reduceLT, Int.reduceLE, Int.reduceNeg, List.map_cons, List.map_nil, List.length_set, hid, ga, sa, gs, ss, gsa, ssa, gl0, glk, sl0, slk, phV, phW, phD_1, tkV, grO, pC1, w0, w1, w2])
              all_goals try simp
              all_goals try omega
            · have zk : ((2 : Nat) : Int) = 2 := rfl
              simp only [zk, grO, phC_1, pStep, ph0, mkh, mka, mkc, aD_nil, cD_nil, aD_cons, phD_1, List.map_nil] at *
              have c21 := hkn; have c22 := hh1; have us := an w0 (an w1 w2)
              (repeat' (first | with_reducible (first | refine And.intro ?_ ?_ | intro _ | (refine hKv _ _ (AWp_nop ?_); clear hKv Kv) | (refine hKA ?_; clear hKA hKB KA KB) | (refine hKB ?_; clear hKA hKB KA KB) | refine Wp ?_ | fail) | ((first | with_reducible (first | (refine hKv _ _ ?_; clear hKv Kv) | (refine Wr ?_; intro Kv hKv) | refine AWp_retR ?_ | fail) | refine Wc ?_ | fail); try simp (dsimp := false) only [go_sem, Nat.reduceAdd, Nat.reduceBEq, Nat.reduceEqDiff, Nat.reduceLT, Nat.reduceLeDiff, Nat.reduceMul, Int.reduceToNat, reduceCtorEq, ↓reduceIte, us, Bool.false_and, Bool.true_and, Int.reduceEq, Int.reduceLE, Int.reduceLT, Int.reduceNeg, List.length_set, List.map_cons, List.map_nil, ga, gl0, glk, grO, gs, gsa, hid, not_false_eq_true, not_true_eq_false, pC1, phD_1, phV, phW, sa, sl0, slk, ss, ssa, tkV]) | (refine AWp_condC rfl ?_; intro KA KB hKA hKB; try simp only [onB_true, onB_false, onB_dec, onB_ndec, onB_not, onB_and, onB_or]) | (refine AWp_condA rfl ?_ ?_) | with_reducible (first | refine onB_of ?_ ?_ | rfl) | omega))
              all_goals first
                | omega
                | skip
              refine ⟨3, [], by omega, by omega, by simp [grO, phC_1, pStep, ph0, mkh, mka, mkc, aD_nil, cD_nil, aD_cons, phD_1, List.map_nil], ?_⟩
              try (simp (dsimp := false) only [go_sem, Nat.reduceAdd, Nat.reduceBEq, Nat.reduceEqDiff, Nat.reduceLT, Nat.reduceLeDiff, Nat.reduceMul, Int.reduceToNat, reduceCtorEq, ↓reduceIte, not_true_eq_false, not_false_eq_true, Bool.true_and, Bool.false_and, Int.reduceEq, Int.reduceLT, Int.reduceLE, Int.reduceNeg, List.map_cons, List.map_nil, List.length_set, hid, ga, sa, gs, ss, gsa, ssa, gl0, glk, sl0, slk, phV, phW, phD_1, tkV, grO, pC1, w0, w1, w2])
              all_goals try simp
              all_goals try omega
            · have zk : ((3 : Nat) : Int) = 3 := rfl
              simp only [zk, grO, phC_1, pStep, ph0, mkh, mka, mkc, aD_nil, cD_nil, aD_cons, phD_1, List.map_nil] at *
              have c21 := hkn; have c22 := hh1; have us := an w0 (an w1 w2)
              (repeat' (first | with_reducible (first | refine And.intro ?_ ?_ | intro _ | (refine hKv _ _ (AWp_nop ?_); clear hKv Kv) | (refine hKA ?_; clear hKA hKB KA KB) | (refine hKB ?_; clear hKA hKB KA KB) | refine Wp ?_ | fail) | ((first | with_reducible (first | (refine hKv _ _ ?_; clear hKv Kv) | (refine Wr ?_; intro Kv hKv) | refine AWp_retR ?_ | fail) | refine Wc ?_ | fail); try simp (dsimp := false) only [go_sem, Nat.reduceAdd, Nat.reduceBEq, Nat.reduceEqDiff, Nat.reduceLT, Nat.reduceLeDiff, Nat.reduceMul, Int.reduceToNat, reduceCtorEq, ↓reduceIte, us, Bool.false_and, Bool.true_and, Int.reduceEq, Int.reduceLE, Int.reduceLT, Int.reduceNeg, List.length_set, List.map_cons, List.map_nil, ga, gl0, glk, grO, gs, gsa, hid, not_false_eq_true, not_true_eq_false, pC1, phD_1, phV, phW, sa, sl0, slk, ss, ssa, tkV]) | (refine AWp_condC rfl ?_; intro KA KB hKA hKB; try simp only [onB_true, onB_false, onB_dec, onB_ndec, onB_not, onB_and, onB_or]) | (refine AWp_condA rfl ?_ ?_) | with_reducible (first | refine onB_of ?_ ?_ | rfl) | omega))
              all_goals first
                | omega
                | skip
              refine ⟨4, [], by omega, by omega, by simp [grO, phC_1, pStep, ph0, mkh, mka, mkc, aD_nil, cD_nil, aD_cons, phD_1, List.map_nil], ?_⟩
              try (simp (dsimp := false) only [go_sem, Nat.reduceAdd, Nat.reduceBEq, Nat.reduceEqDiff, Nat.reduceLT, Nat.reduceLeDiff, Nat.reduceMul, Int.reduceToNat, reduceCtorEq, ↓reduceIte, not_true_eq_false, not_false_eq_true, Bool.true_and, Bool.false_and, Int.reduceEq, Int.reduceLT, Int.reduceLE, Int.reduceNeg, List.map_cons, List.map_nil, List.length_set, hid, ga, sa, gs, ss, gsa, ssa, gl0, glk, sl0, slk, phV, phW, phD_1, tkV, grO, pC1, w0, w1, w2])
              all_goals try simp
              all_goals try omega
            · have zk : ((4 : Nat) : Int) = 4 := rfl
              simp only [zk, grO, phC_1, pStep, ph0, mkh, mka, mkc, aD_nil, cD_nil, aD_cons, phD_1, List.map_nil] at *
              have c21 := hkn; have us := an w0 (an w1 w2)
              exact W42
          · skip
            have w0 : (([110, 111, 100, 101] : Bs) = s) = False := eq_false (fun h => h0 h.symm)
            have w1 : (([116, 101, 120, 116] : Bs) = s) = False := eq_false (fun h => h1 h.symm)
            have w2 : (([99, 111, 109, 109, 101, 110, 116] : Bs) = s) = False := eq_false (fun h => h2 h.symm)
            simp [h0, h1, h2, grO, phC_1, pStep, ph0, mkh, mka, mkc, aD_nil, cD_nil, aD_cons, phD_1, List.map_nil, phV, phW] at hk
            refine AWp_whileG (fun k : Nat => 1 ≤ k ∧ k ≤ 4) (fun k => [(0, .pt id 0 0 0), (4, .pt H.length 0 0 0), (5, .pt (H.length + 1) 0 0 0), (6, .d (.s s)), (7, .d (.i .i64 (k : Int)))])
              (fun _ => H.set id (grO L ⟨p1, e1⟩) ++ [.row 0 30 11 [[.d (.i .i64 0), .d (.i .i64 0), .d (.i .i64 0), .d (.s []), .d (.s []), .d (.i .i64 0), .d (.i .i64 0), .d (.i .i64 0), .d (.s []), .d (.c (.slice none 0 0)), .d (.c (.slice none 0 0))]], .row 0 30 11 [phC (pStep ax 4 s)]])
              (fun k => 4 - k) 1 (by omega) ⟨[], ?_⟩ ?_ ?_ ?_ ?_
            · simp [grO, phC_1, pStep, ph0, mkh, mka, mkc, aD_nil, cD_nil, aD_cons, phD_1, List.map_nil]
            · simp (dsimp := false) only [go_sem, Nat.reduceAdd, Nat.reduceBEq, Nat.reduceEqDiff, Nat.reduceLT, Nat.reduceLeDiff, Nat.reduceMul, Int.reduceToNat, reduceCtorEq, ↓reduceIte, not_true_eq_false, not_false_eq_true, Bool.true_and, Bool.false_and, Int.reduceEq, Int.reduceLT, Int.reduceLE, Int.reduceNeg, List.map_cons, List.map_nil, List.length_set, hid, ga, sa, gs, ss, gsa, ssa, gl0, glk, sl0, slk, phV, phW, phD_1, tkV, grO, pC1, w0, w1, w2]
              simp
              try omega
            · intro y hy; simp
            · intro y hy
              refine closed_sa hid (gr_bel _ _ _ _) ?_
              simp only [List.forall_mem_cons, List.length_cons, List.length_nil]
              refine ⟨oB1 (by simp [Bel_d]), oB1 (by simp [phC_1, Bel_d]), by simp⟩
            rintro k ⟨hk1, hk4⟩
            obtain rfl | rfl | rfl | rfl : k = 1 ∨ k = 2 ∨ k = 3 ∨ k = 4 := by omega
            · have zk : ((1 : Nat) : Int) = 1 := rfl
              simp only [zk, grO, phC_1, pStep, ph0, mkh, mka, mkc, aD_nil, cD_nil, aD_cons, phD_1, List.map_nil] at *
              have c21 := hkn; have us := an w0 (an w1 w2)
              (repeat' (first | with_reducible (first | refine And.intro ?_ ?_ | intro _ | (refine hKv _ _ (AWp_nop ?_); clear hKv Kv) | (refine hKA ?_; clear hKA hKB KA KB) | (refine hKB ?_; clear hKA hKB KA KB) | refine Wp ?_ | fail) | ((first | with_reducible (first | (refine hKv _ _ ?_; clear hKv Kv) | (refine Wr ?_; intro Kv hKv) | refine AWp_retR ?_ | fail) | refine Wc ?_ | fail); try simp (dsimp := false) only [go_sem, Nat.reduceAdd, Nat.reduceBEq, Nat.reduceEqDiff, Nat.reduceLT, Nat.reduceLeDiff, Nat.reduceMul, Int.reduceToNat, reduceCtorEq, ↓reduceIte, us, Bool.false_and, Bool.true_and, Int.reduceEq, Int.reduceLE, Int.reduceLT, Int.reduceNeg, List.length_set, List.map_cons, List.map_nil, ga, gl0, glk, grO, gs, gsa, hid, not_false_eq_true, not_true_eq_false, pC1, phD_1, phV, phW, sa, sl0, slk, ss, ssa, tkV]) | (refine AWp_condC rfl ?_; intro KA KB hKA hKB; try simp only [onB_true, onB_false, onB_dec, onB_ndec, onB_not, onB_and, onB_or]) | (refine AWp_condA rfl ?_ ?_) | with_reducible (first | refine onB_of ?_ ?_ | rfl) | omega))
              all_goals first
                | omega
                | skip
              refine ⟨2, [], by omega, by omega, by simp [grO, phC_1, pStep, ph0, mkh, mka, mkc, aD_nil, cD_nil, aD_cons, phD_1, List.map_nil], ?_⟩
              try (simp (dsimp := false) only [go_sem, Nat.reduceAdd, Nat.reduceBEq, Nat.reduceEqDiff, Nat.reduceLT, Nat.reduceLeDiff, Nat.reduceMul, Int.reduceToNat, reduceCtorEq, ↓reduceIte, not_true_eq_false, not_false_eq_true, Bool.true_and, Bool.false_and, Int.reduceEq, Int.reduceLT, Int.reduceLE, Int.reduceNeg, List.map_cons, List.map_nil, List.length_set, hid, ga, sa, gs, ss, gsa, ssa, gl0, glk, sl0, slk, phV, phW, phD_1, tkV, grO, pC1, w0, w1, w2])
              all_goals try simp
              all_goals try omega
            · have zk : ((2 : Nat) : Int) = 2 := rfl
              simp only [zk, grO, phC_1, pStep, ph0, mkh, mka, mkc, aD_nil, cD_nil, aD_cons, phD_1, List.map_nil] at *
              have c21 := hkn; have us := an w0 (an w1 w2)
              (repeat' (first | with_reducible (first | refine And.intro ?_ ?_ | intro _ | (refine hKv _ _ (AWp_nop ?_); clear hKv Kv) | (refine hKA ?_; clear hKA hKB KA KB) | (refine hKB ?_; clear hKA hKB KA KB) | refine Wp ?_ | fail) | ((first | with_reducible (first | (refine hKv _ _ ?_; clear hKv Kv) | (refine Wr ?_; intro Kv hKv) | refine AWp_retR ?_ | fail) | refine Wc ?_ | fail); try simp (dsimp := false) only [go_sem, Nat.reduceAdd, Nat.reduceBEq, Nat.reduceEqDiff, Nat.reduceLT, Nat.reduceLeDiff, Nat.reduceMul, Int.reduceToNat, reduceCtorEq, ↓reduceIte, us, Bool.false_and, Bool.true_and, Int.reduceEq, Int.reduceLE, Int.reduceLT, Int.reduceNeg, List.length_set, List.map_cons, List.map_nil, ga, gl0, glk, grO, gs, gsa, hid, not_false_eq_true, not_true_eq_false, pC1, phD_1, phV, phW, sa, sl0, slk, ss, ssa, tkV]) | (refine AWp_condC rfl ?_; intro KA KB hKA hKB; try simp only [onB_true, onB_false, onB_dec, onB_ndec, onB_not, onB_and, onB_or]) | (refine AWp_condA rfl ?_ ?_) | with_reducible (first | refine onB_of ?_ ?_ | rfl) | omega))
              all_goals first
                | omega
                | skip
              refine ⟨3, [], by omega, by omega, by simp [grO, phC_1, pStep, ph0, mkh, mka, mkc, aD_nil, cD_nil, aD_cons, phD_1, List.map_nil], ?_⟩
              try (simp (dsimp := false) only [go_sem, Nat.reduceAdd, Nat.reduceBEq, Nat.reduceEqDiff, Nat.reduceLT, Nat.reduceLeDiff, Nat.reduceMul, Int.reduceToNat, reduceCtorEq, ↓reduceIte, not_true_eq_false, not_false_eq_true, Bool.true_and, Bool.false_and, Int.reduceEq, Int.reduceLT, Int.reduceLE, Int.reduceNeg, List.map_cons, List.map_nil, List.length_set, hid, ga, sa, gs, ss, gsa, ssa, gl0, glk, sl0, slk, phV, phW, phD_1, tkV, grO, pC1, w0, w1, w2])
              all_goals try simp
              all_goals try omega
            · have zk : ((3 : Nat) : Int) = 3 := rfl
              simp only [zk, grO, phC_1, pStep, ph0, mkh, mka, mkc, aD_nil, cD_nil, aD_cons, phD_1, List.map_nil] at *
              have c21 := hkn; have us := an w0 (an w1 w2)
              (repeat' (first | with_reducible (first | refine And.intro ?_ ?_ | intro _ | (refine hKv _ _ (AWp_nop ?_); clear hKv Kv) | (refine hKA ?_; clear hKA hKB KA KB) | (refine hKB ?_; clear hKA hKB KA KB) | refine Wp ?_ | fail) | ((first | with_reducible (first | (refine hKv _ _ ?_; clear hKv Kv) | (refine Wr ?_; intro Kv hKv) | refine AWp_retR ?_ | fail) | refine Wc ?_ | fail); try simp (dsimp := false) only [go_sem, Nat.reduceAdd, Nat.reduceBEq, Nat.reduceEqDiff, Nat.reduceLT, Nat.reduceLeDiff, Nat.reduceMul, Int.reduceToNat, reduceCtorEq, ↓reduceIte, us, Bool.false_and, Bool.true_and, Int.reduceEq, Int.reduceLE, Int.reduceLT, Int.reduceNeg, List.length_set, List.map_cons, List.map_nil, ga, gl0, glk, grO, gs, gsa, hid, not_false_eq_true, not_true_eq_false, pC1, phD_1, phV, phW, sa, sl0, slk, ss, ssa, tkV]) | (refine AWp_condC rfl ?_; intro KA KB hKA hKB; try simp only [onB_true, onB_false, onB_dec, onB_ndec, onB_not, onB_and, onB_or]) | (refine AWp_condA rfl ?_ ?_) | with_reducible (first | refine onB_of ?_ ?_ | rfl) | omega))
              all_goals first
                | omega
                | skip
              refine ⟨4, [], by omega, by omega, by simp [grO, phC_1, pStep, ph0, mkh, mka, mkc, aD_nil, cD_nil, aD_cons, phD_1, List.map_nil], ?_⟩
              try (simp (dsimp := false) only [go_sem, Nat.reduceAdd, Nat.reduceBEq, Nat.reduceEqDiff, Nat.reduceLT, Nat.reduceLeDiff, Nat.reduceMul, Int.reduceToNat, reduceCtorEq, ↓reduceIte, not_true_eq_false, not_false_eq_true, Bool.true_and, Bool.false_and, Int.reduceEq, Int.reduceLT, Int.reduceLE, Int.reduceNeg, List.map_cons, List.map_nil, List.length_set, hid, ga, sa, gs, ss, gsa, ssa, gl0, glk, sl0, slk, phV, phW, phD_1, tkV, grO, pC1, w0, w1, w2])
              all_goals try simp
              all_goals try omega
            · have zk : ((4 : Nat) : Int) = 4 := rfl
              simp only [zk, grO, phC_1, pStep, ph0, mkh, mka, mkc, aD_nil, cD_nil, aD_cons, phD_1, List.map_nil] at *
              have c21 := hkn; have us := an w0 (an w1 w2)
              exact W42
end Go.Proofs.YtmhabdopcbokoaaDoor.Gq
