/- The parser of queries: single expressions. No condition but that the tables of package unicode/utf8 are there. -/
import Derived.Test.YtmhabdopcbokoaaDoorR18
import Derived.Test.YtmhabdopcbokoaaDoorR36
import Derived.Test.YtmhabdopcbokoaaDoorR33
import Derived.Test.YtmhabdopcbokoaaDoorR39
set_option linter.all false
set_option linter.unusedSimpArgs false
set_option linter.unusedVariables false
namespace Go.Proofs.YtmhabdopcbokoaaDoor.Gq
open Go Go.Proofs.YtmhabdopcbokoaaDoor.Ab
variable [Glo] [Gx]
set_option maxHeartbeats 4000000
set_option maxRecDepth 20000
theorem isN_uni {L : List Tk} {st : Ps} {s s' : Bs} (h : isN L s st = true) (hne : s ≠ s') : isN L s' st = false := by
  unfold isN at h ⊢
  simp only [Bool.and_eq_true, decide_eq_true_eq] at h
  rw [h.2.2, decide_eq_false hne]
  simp
theorem tok_eq5 {L : List Tk} (hT : TksG L) (i : Nat) (s : Bs) : (decide ((tokAt L i).k = 5) && (decide ((tokAt L i).s = s) && (decide ((tokAt L i).n = 0) && true))) = mkAt L i s := by
  rw [Bool.and_true]
  exact tok_eq hT i s
namespace FN17
def tks : Nat → List Nat | 0 => [0, 2] | 1 => [0, 2] | 2 => [0, 2, 10] | 3 => [2] | 4 => [0, 2, 17] | 5 => [0, 2, 17] | 6 => [2] | 7 => [0, 2, 24] | 8 => [0, 2, 24] | 9 => [0, 2, 3] | 10 => [0, 2, 3, 30] | 11 => [0, 2, 3] | 12 => [0, 2, 3] | 13 => [0, 2, 3, 4] | 14 => [0, 2, 3, 4] | 15 => [0, 2, 3, 4, 5] | 16 => [0, 2, 3, 4, 5] | 17 => [2] | 18 => [0, 2, 53] | 19 => [0, 2] | 20 => [0, 2, 6] | 21 => [0, 2, 6] | 22 => [0, 2, 6] | 23 => [0, 2, 6, 7] | 24 => [0, 2, 6, 7] | 25 => [2] | 26 => [2] | _ => []
def tmu : List Nat := []
def tin : List Nat := [0]
def txt : Nat → Nat × List Cd | 17 => (6, [.q 0 0, .q 0 0, .q 0 1, .q 0 0, .t, .q 0 0]) | 25 => (4, [.q 0 1, .q 0 1, .q 0 0, .t]) | _ => (0, [])
abbrev tfn := @Tryd.func17
end FN17
attribute [go_sem] FN17.tks FN17.tmu FN17.tin FN17.txt Tryd.ntmps17 Tryd.results17
open FN17 in
theorem gSingle_A (L : List Tk) (hL : L.length ≤ 200) (hT : TksG L) {ex al mi : Ps → PR} (hm : Mo L ex) (hma : Mo L al) (hmi : Mo L mi) (n id : Nat) (hn : n ≤ 32) (hs : n + 1 ≤ 30 → GAt L 9 ex (n + 1) id) (hsa : n + 1 ≤ 30 → GAt L 17 al (n + 1) id) (hsu : n + 1 ≤ 30 → GAt L 52 mi (n + 1) id) : GAt L 17 (aloneF L ex al (opsF L mi 8) ((n + 1 : Nat) : Int)) n id := by
  intro p e H K hp hg hr hk
  have hid := lt_of_get hr
  obtain ⟨ga, sa, gs, ss, gsa, ssa, gl0, glk, sl0, slk⟩ := atH hr
  have hd := fun G K hk => gDeeper_A L id n (by omega) p e (H ++ G) K (ga G) hk
  have hl := Le_lev (L := L) ((n + 1 : Nat) : Int) (st := ⟨p, e⟩) hp
  have hgl := lev_g (n := ((n + 1 : Nat) : Int)) (st := ⟨p, e⟩)
  rw [aloneF] at hk
  try simp only [] at hk
  generalize levP ((n + 1 : Nat) : Int) ⟨p, e⟩ = s1 at hd hl hk hgl
  obtain ⟨p1, e1⟩ := s1
  have hp1 := hl.hi
  try simp only [] at hp1 hgl
  by_cases he : e1 = 0
  · have q0 : (e1 = 0) = True := eq_true he
    have hn30 : n + 1 ≤ 30 := by have := hgl he; omega
    have hs := hs hn30
    have hsa := hsa hn30
    have hsu := hsu hn30
    rw [if_neg (fun h => h he)] at hk
    have h1 := fun G K hk => gOpens_A L hL id ((n + 1 : Nat) : Int) p1 hp1 e1 [102, 111, 114] (H.set id (gpO L ((n + 1 : Nat) : Int) ⟨p1, e1⟩) ++ G) K (gsa _ _) hk
    have h2 := fun G K hk => gOpens_A L hL id ((n + 1 : Nat) : Int) p1 hp1 e1 [108, 101, 116] (H.set id (gpO L ((n + 1 : Nat) : Int) ⟨p1, e1⟩) ++ G) K (gsa _ _) hk
    have h3 := fun G K hk => gOpens_A L hL id ((n + 1 : Nat) : Int) p1 hp1 e1 [115, 111, 109, 101] (H.set id (gpO L ((n + 1 : Nat) : Int) ⟨p1, e1⟩) ++ G) K (gsa _ _) hk
    have h4 := fun G K hk => gOpens_A L hL id ((n + 1 : Nat) : Int) p1 hp1 e1 [101, 118, 101, 114, 121] (H.set id (gpO L ((n + 1 : Nat) : Int) ⟨p1, e1⟩) ++ G) K (gsa _ _) hk
    by_cases hfl : opensP L sFor ⟨p1, e1⟩ = true ∨ opensP L sLet ⟨p1, e1⟩ = true
    · rw [if_pos hfl] at hk
      have hf := fun G K hk => gFlwor_A L hL hma (n + 1) id p1 e1 (H.set id (gpO L ((n + 1 : Nat) : Int) ⟨p1, e1⟩) ++ G) K hp1 (gsa _ _) hn30 hsa hfl hk
      obtain ⟨x, p2, e2, hx, hp2⟩ := fR_N (Mo_flwor hma) hp1 (e := e1)
      rw [hx] at hk hf
      have hv := fun a G K hk => gLv (L := L) id (n := n) (by omega) gsa glk ssa p2 e2 a G K hk
      cases hb1 : opensP L sFor ⟨p1, e1⟩ with
      | true =>
        rw [sFor] at hb1
        simp only [gpO] at *
        refine Wd ?_
        refine AWpF_seq ?_
        have us := an q0 hb1
        (repeat' (first | with_reducible (first | refine And.intro ?_ ?_ | intro _ | (refine hKv _ _ (AWp_nop ?_); clear hKv Kv) | (refine hKA ?_; clear hKA hKB KA KB) | (refine hKB ?_; clear hKA hKB KA KB) | refine Wp ?_ | fail) | ((first | with_reducible (first | (refine hKv _ _ ?_; clear hKv Kv) | (refine Wr ?_; intro Kv hKv) | refine AWp_retR ?_ | fail) | refine Wc ?_ | fail); try simp (dsimp := false) only [go_sem, Nat.reduceAdd, Nat.reduceBEq, Nat.reduceEqDiff, Nat.reduceLT, Nat.reduceLeDiff, Nat.reduceMul, Int.reduceToNat, reduceCtorEq, ↓reduceIte, us, Bool.false_and, Bool.true_and, Int.reduceEq, Int.reduceLE, Int.reduceLT, Int.reduceNeg, List.length_set, List.map_cons, List.map_nil, cellP, ga, gl0, glk, gpO, gs, gsa, hid, not_false_eq_true, not_true_eq_false, phD_1, phV, phW, sa, sl0, slk, ss, ssa, ti_hb34, tkV]) | (refine AWp_condC rfl ?_; intro KA KB hKA hKB; try simp only [onB_true, onB_false, onB_dec, onB_ndec, onB_not, onB_and, onB_or]) | (refine AWp_condA rfl ?_ ?_) | with_reducible (first | refine onB_of ?_ ?_ | rfl) | omega))
        refine AWpF_deferC tmu (tks 1) (dfs3 _ _ _) ?_
        intro KD hKD
        simp (dsimp := false) only [go_sem, Nat.reduceAdd, Nat.reduceBEq, Nat.reduceEqDiff, Nat.reduceLT, Nat.reduceLeDiff, Nat.reduceMul, Int.reduceToNat, reduceCtorEq, ↓reduceIte, not_true_eq_false, not_false_eq_true, Bool.true_and, Bool.false_and, Int.reduceEq, Int.reduceLT, Int.reduceLE, Int.reduceNeg, List.map_cons, List.map_nil, List.length_set, hid, ga, sa, gs, ss, gsa, ssa, gl0, glk, sl0, slk, phV, phW, phD_1, tkV, gpO, ti_hb34, cellP, q0, hb1]
        have c21 := hd; have us := an q0 hb1
        (repeat' (first | with_reducible (first | refine And.intro ?_ ?_ | intro _ | (refine hKv _ _ (AWp_nop ?_); clear hKv Kv) | (refine hKA ?_; clear hKA hKB KA KB) | (refine hKB ?_; clear hKA hKB KA KB) | refine Wp ?_ | fail) | ((first | with_reducible (first | (refine hKv _ _ ?_; clear hKv Kv) | (refine Wr ?_; intro Kv hKv) | refine AWp_retR ?_ | fail) | refine Wc ?_ | fail); try simp (dsimp := false) only [go_sem, Nat.reduceAdd, Nat.reduceBEq, Nat.reduceEqDiff, Nat.reduceLT, Nat.reduceLeDiff, Nat.reduceMul, Int.reduceToNat, reduceCtorEq, ↓reduceIte, us, Bool.false_and, Bool.true_and, Int.reduceEq, Int.reduceLE, Int.reduceLT, Int.reduceNeg, List.length_set, List.map_cons, List.map_nil, cellP, ga, gl0, glk, gpO, gs, gsa, hid, not_false_eq_true, not_true_eq_false, phD_1, phV, phW, sa, sl0, slk, ss, ssa, ti_hb34, tkV]) | (refine AWp_condC rfl ?_; intro KA KB hKA hKB; try simp only [onB_true, onB_false, onB_dec, onB_ndec, onB_not, onB_and, onB_or]) | (refine AWp_condA rfl ?_ ?_) | with_reducible (first | refine onB_of ?_ ?_ | rfl) | omega))
        refine hKD _ _ _ _ ?_
        clear hKD KD
        intro dd
        simp (dsimp := false) only [go_sem, Nat.reduceAdd, Nat.reduceBEq, Nat.reduceEqDiff, Nat.reduceLT, Nat.reduceLeDiff, Nat.reduceMul, Int.reduceToNat, reduceCtorEq, ↓reduceIte, not_true_eq_false, not_false_eq_true, Bool.true_and, Bool.false_and, Int.reduceEq, Int.reduceLT, Int.reduceLE, Int.reduceNeg, List.map_cons, List.map_nil, List.length_set, hid, ga, sa, gs, ss, gsa, ssa, gl0, glk, sl0, slk, phV, phW, phD_1, tkV, gpO, ti_hb34, cellP, q0, hb1]
        have c21 := h1; have c22 := hf; have c31 := hv; have us := an q0 hb1
        exact W51
      | false =>
        have hb2 := hfl.resolve_left (by rw [hb1]; decide)
        rw [sFor] at hb1
        rw [sLet] at hb2
        simp only [gpO] at *
        refine Wd ?_
        refine AWpF_seq ?_
        have us := an q0 (an hb1 hb2)
        (repeat' (first | with_reducible (first | refine And.intro ?_ ?_ | intro _ | (refine hKv _ _ (AWp_nop ?_); clear hKv Kv) | (refine hKA ?_; clear hKA hKB KA KB) | (refine hKB ?_; clear hKA hKB KA KB) | refine Wp ?_ | fail) | ((first | with_reducible (first | (refine hKv _ _ ?_; clear hKv Kv) | (refine Wr ?_; intro Kv hKv) | refine AWp_retR ?_ | fail) | refine Wc ?_ | fail); try simp (dsimp := false) only [go_sem, Nat.reduceAdd, Nat.reduceBEq, Nat.reduceEqDiff, Nat.reduceLT, Nat.reduceLeDiff, Nat.reduceMul, Int.reduceToNat, reduceCtorEq, ↓reduceIte, us, Bool.false_and, Bool.true_and, Int.reduceEq, Int.reduceLE, Int.reduceLT, Int.reduceNeg, List.length_set, List.map_cons, List.map_nil, cellP, ga, gl0, glk, gpO, gs, gsa, hid, not_false_eq_true, not_true_eq_false, phD_1, phV, phW, sa, sl0, slk, ss, ssa, ti_hb34, tkV]) | (refine AWp_condC rfl ?_; intro KA KB hKA hKB; try simp only [onB_true, onB_false, onB_dec, onB_ndec, onB_not, onB_and, onB_or]) | (refine AWp_condA rfl ?_ ?_) | with_reducible (first | refine onB_of ?_ ?_ | rfl) | omega))
        refine AWpF_deferC tmu (tks 1) (dfs3 _ _ _) ?_
        intro KD hKD
        simp (dsimp := false) only [go_sem, Nat.reduceAdd, Nat.reduceBEq, Nat.reduceEqDiff, Nat.reduceLT, Nat.reduceLeDiff, Nat.reduceMul, Int.reduceToNat, reduceCtorEq, ↓reduceIte, not_true_eq_false, not_false_eq_true, Bool.true_and, Bool.false_and, Int.reduceEq, Int.reduceLT, Int.reduceLE, Int.reduceNeg, List.map_cons, List.map_nil, List.length_set, hid, ga, sa, gs, ss, gsa, ssa, gl0, glk, sl0, slk, phV, phW, phD_1, tkV, gpO, ti_hb34, cellP, q0, hb1, hb2]
        have c21 := hd; have us := an q0 (an hb1 hb2)
        (repeat' (first | with_reducible (first | refine And.intro ?_ ?_ | intro _ | (refine hKv _ _ (AWp_nop ?_); clear hKv Kv) | (refine hKA ?_; clear hKA hKB KA KB) | (refine hKB ?_; clear hKA hKB KA KB) | refine Wp ?_ | fail) | ((first | with_reducible (first | (refine hKv _ _ ?_; clear hKv Kv) | (refine Wr ?_; intro Kv hKv) | refine AWp_retR ?_ | fail) | refine Wc ?_ | fail); try simp (dsimp := false) only [go_sem, Nat.reduceAdd, Nat.reduceBEq, Nat.reduceEqDiff, Nat.reduceLT, Nat.reduceLeDiff, Nat.reduceMul, Int.reduceToNat, reduceCtorEq, ↓reduceIte, us, Bool.false_and, Bool.true_and, Int.reduceEq, Int.reduceLE, Int.reduceLT, Int.reduceNeg, List.length_set, List.map_cons, List.map_nil, cellP, ga, gl0, glk, gpO, gs, gsa, hid, not_false_eq_true, not_true_eq_false, phD_1, phV, phW, sa, sl0, slk, ss, ssa, ti_hb34, tkV]) | (refine AWp_condC rfl ?_; intro KA KB hKA hKB; try simp only [onB_true, onB_false, onB_dec, onB_ndec, onB_not, onB_and, onB_or]) | (refine AWp_condA rfl ?_ ?_) | with_reducible (first | refine onB_of ?_ ?_ | rfl) | omega))
        refine hKD _ _ _ _ ?_
        clear hKD KD
        intro dd
        simp (dsimp := false) only [go_sem, Nat.reduceAdd, Nat.reduceBEq, Nat.reduceEqDiff, Nat.reduceLT, Nat.reduceLeDiff, Nat.reduceMul, Int.reduceToNat, reduceCtorEq, ↓reduceIte, not_true_eq_false, not_false_eq_true, Bool.true_and, Bool.false_and, Int.reduceEq, Int.reduceLT, Int.reduceLE, Int.reduceNeg, List.map_cons, List.map_nil, List.length_set, hid, ga, sa, gs, ss, gsa, ssa, gl0, glk, sl0, slk, phV, phW, phD_1, tkV, gpO, ti_hb34, cellP, q0, hb1, hb2]
        have c21 := h1; have c22 := h2; have c23 := hf; have c31 := hv; have us := an q0 (an hb1 hb2)
        exact W51
    · rw [if_neg hfl] at hk
      have hb1 : opensP L sFor ⟨p1, e1⟩ = false := Bool.eq_false_iff.2 fun h => hfl (.inl h)
      have hb2 : opensP L sLet ⟨p1, e1⟩ = false := Bool.eq_false_iff.2 fun h => hfl (.inr h)
      rw [sFor] at hb1
      rw [sLet] at hb2
      by_cases hse : opensP L sSome ⟨p1, e1⟩ = true ∨ opensP L sEvery ⟨p1, e1⟩ = true
      · rw [if_pos hse] at hk
        have hlt : p1 + 1 ≤ L.length := by
          rcases hse with h | h
          · exact isN_lt (opens_N h)
          · exact isN_lt (opens_N h)
        rw [quantF] at hk
        simp only [nxt] at hk
        have h5 := fun G K hk => gIs_A L hL id ((n + 1 : Nat) : Int) ⟨p1, e1⟩ hp1 [115, 111, 109, 101] (H.set id (gpO L ((n + 1 : Nat) : Int) ⟨p1, e1⟩) ++ G) K (gsa _ _) hk
        have h6 := fun G K hk => gVar_A L hL id ((n + 1 : Nat) : Int) (p1 + 1) hlt e1 (H.set id (gpO L ((n + 1 : Nat) : Int) ⟨(p1 + 1), e1⟩) ++ G) K (gsa _ _) hk
        obtain ⟨p2, e2, hk2, hp2⟩ := kP_N (L := L) (p := p1 + 1) (e := e1) (k := 4) hlt (by decide)
        rw [hk2] at hk h6
        generalize kindT L 4 ⟨p1 + 1, e1⟩ = nm at hk h6
        have h7 := fun G K hk => gMust_A L hL id ((n + 1 : Nat) : Int) p2 hp2 e2 [105, 110] (H.set id (gpO L ((n + 1 : Nat) : Int) ⟨p2, e2⟩) ++ G) K (gsa _ _) hk
        obtain ⟨p3, e3, hk3, hp3⟩ := mP_N (L := L) (p := p2) (e := e2) (s := sIn) hp2
        rw [hk3] at hk
        rw [sIn] at hk3
        rw [hk3] at h7
        have h8 := fun G K hk => hsa p3 e3 (H.set id (gpO L ((n + 1 : Nat) : Int) ⟨p3, e3⟩) ++ G) K hp3 (fun _ => by omega) (gsa _ _) hk
        obtain ⟨x4, p4, e4, hk4, hp4⟩ := fR_N hma hp3 (e := e3)
        rw [hk4] at hk h8
        have h9 := fun G K hk => gMust_A L hL id ((n + 1 : Nat) : Int) p4 hp4 e4 [115, 97, 116, 105, 115, 102, 105, 101, 115] (H.set id (gpO L ((n + 1 : Nat) : Int) ⟨p4, e4⟩) ++ G) K (gsa _ _) hk
        obtain ⟨p5, e5, hk5, hp5⟩ := mP_N (L := L) (p := p4) (e := e4) (s := sSatisfies) hp4
        rw [hk5] at hk
        rw [sSatisfies] at hk5
        rw [hk5] at h9
        have h10 := fun G K hk => hsa p5 e5 (H.set id (gpO L ((n + 1 : Nat) : Int) ⟨p5, e5⟩) ++ G) K hp5 (fun _ => by omega) (gsa _ _) hk
        obtain ⟨x6, p6, e6, hk6, hp6⟩ := fR_N hma hp5 (e := e5)
        rw [hk6] at hk h10
        have hv := fun a G K hk => gLv (L := L) id (n := n) (by omega) gsa glk ssa p6 e6 a G K hk
        cases hb3 : opensP L sSome ⟨p1, e1⟩ with
        | true =>
          have hi := opens_N hb3
          rw [if_pos hi] at hk
          rw [sSome] at hb3 hi
          simp only [phV, phW, pSeq, pStep, pPath, pBin, pMinus, pRoot, pAll, pNil, ph0, mkh, mka, mkc, aD_nil, cD_nil, aD_cons, phD_1, List.map_cons, List.map_nil] at hk
          simp only [gpO] at *
          refine Wd ?_
          refine AWpF_seq ?_
          have us := an q0 (an hb1 (an hb2 (an hb3 hi)))
          (repeat' (first | with_reducible (first | refine And.intro ?_ ?_ | intro _ | (refine hKv _ _ (AWp_nop ?_); clear hKv Kv) | (refine hKA ?_; clear hKA hKB KA KB) | (refine hKB ?_; clear hKA hKB KA KB) | refine Wp ?_ | fail) | ((first | with_reducible (first | (refine hKv _ _ ?_; clear hKv Kv) | (refine Wr ?_; intro Kv hKv) | refine AWp_retR ?_ | fail) | refine Wc ?_ | fail); try simp (dsimp := false) only [go_sem, Nat.reduceAdd, Nat.reduceBEq, Nat.reduceEqDiff, Nat.reduceLT, Nat.reduceLeDiff, Nat.reduceMul, Int.reduceToNat, reduceCtorEq, ↓reduceIte, us, Bool.false_and, Bool.true_and, Int.reduceEq, Int.reduceLE, Int.reduceLT, Int.reduceNeg, List.length_set, List.map_cons, List.map_nil, cellP, ga, gl0, glk, gpO, gs, gsa, hid, not_false_eq_true, not_true_eq_false, pC1, phD_1, phV, phW, sa, sl0, slk, ss, ssa, ti_hb34, tkV]) | (refine AWp_condC rfl ?_; intro KA KB hKA hKB; try simp only [onB_true, onB_false, onB_dec, onB_ndec, onB_not, onB_and, onB_or]) | (refine AWp_condA rfl ?_ ?_) | with_reducible (first | refine onB_of ?_ ?_ | rfl) | omega))
          refine AWpF_deferC tmu (tks 1) (dfs3 _ _ _) ?_
          intro KD hKD
          simp (dsimp := false) only [go_sem, Nat.reduceAdd, Nat.reduceBEq, Nat.reduceEqDiff, Nat.reduceLT, Nat.reduceLeDiff, Nat.reduceMul, Int.reduceToNat, reduceCtorEq, ↓reduceIte, not_true_eq_false, not_false_eq_true, Bool.true_and, Bool.false_and, Int.reduceEq, Int.reduceLT, Int.reduceLE, Int.reduceNeg, List.map_cons, List.map_nil, List.length_set, hid, ga, sa, gs, ss, gsa, ssa, gl0, glk, sl0, slk, phV, phW, phD_1, tkV, gpO, ti_hb34, cellP, q0, hb1, hb2, hb3, hi, pC1]
          have c21 := hd; have us := an q0 (an hb1 (an hb2 (an hb3 hi)))
          (repeat' (first | with_reducible (first | refine And.intro ?_ ?_ | intro _ | (refine hKv _ _ (AWp_nop ?_); clear hKv Kv) | (refine hKA ?_; clear hKA hKB KA KB) | (refine hKB ?_; clear hKA hKB KA KB) | refine Wp ?_ | fail) | ((first | with_reducible (first | (refine hKv _ _ ?_; clear hKv Kv) | (refine Wr ?_; intro Kv hKv) | refine AWp_retR ?_ | fail) | refine Wc ?_ | fail); try simp (dsimp := false) only [go_sem, Nat.reduceAdd, Nat.reduceBEq, Nat.reduceEqDiff, Nat.reduceLT, Nat.reduceLeDiff, Nat.reduceMul, Int.reduceToNat, reduceCtorEq, ↓reduceIte, us, Bool.false_and, Bool.true_and, Int.reduceEq, Int.reduceLE, Int.reduceLT, Int.reduceNeg, List.length_set, List.map_cons, List.map_nil, cellP, ga, gl0, glk, gpO, gs, gsa, hid, not_false_eq_true, not_true_eq_false, pC1, phD_1, phV, phW, sa, sl0, slk, ss, ssa, ti_hb34, tkV]) | (refine AWp_condC rfl ?_; intro KA KB hKA hKB; try simp only [onB_true, onB_false, onB_dec, onB_ndec, onB_not, onB_and, onB_or]) | (refine AWp_condA rfl ?_ ?_) | with_reducible (first | refine onB_of ?_ ?_ | rfl) | omega))
          refine hKD _ _ _ _ ?_
          clear hKD KD
          intro dd
          simp (dsimp := false) only [go_sem, Nat.reduceAdd, Nat.reduceBEq, Nat.reduceEqDiff, Nat.reduceLT, Nat.reduceLeDiff, Nat.reduceMul, Int.reduceToNat, reduceCtorEq, ↓reduceIte, not_true_eq_false, not_false_eq_true, Bool.true_and, Bool.false_and, Int.reduceEq, Int.reduceLT, Int.reduceLE, Int.reduceNeg, List.map_cons, List.map_nil, List.length_set, hid, ga, sa, gs, ss, gsa, ssa, gl0, glk, sl0, slk, phV, phW, phD_1, tkV, gpO, ti_hb34, cellP, q0, hb1, hb2, hb3, hi, pC1]
          have c21 := h1; have c22 := h2; have c23 := h3; have c24 := h5; have c25 := h6; have c26 := h7; have c27 := h8; have c28 := h9; have c29 := h10; have c31 := hv; have us := an q0 (an hb1 (an hb2 (an hb3 hi)))
          exact W56
        | false =>
          have hb4 := hse.resolve_left (by rw [hb3]; decide)
          have hi := isN_uni (opens_N hb4) (s' := sSome) (by decide)
          rw [if_neg (by rw [hi]; decide)] at hk
          rw [sSome] at hb3 hi
          rw [sEvery] at hb4
          simp only [phV, phW, pSeq, pStep, pPath, pBin, pMinus, pRoot, pAll, pNil, ph0, mkh, mka, mkc, aD_nil, cD_nil, aD_cons, phD_1, List.map_cons, List.map_nil] at hk
          simp only [gpO] at *
          refine Wd ?_
          refine AWpF_seq ?_
          have us := an q0 (an hb1 (an hb2 (an hb3 (an hb4 hi))))
          (repeat' (first | with_reducible (first | refine And.intro ?_ ?_ | intro _ | (refine hKv _ _ (AWp_nop ?_); clear hKv Kv) | (refine hKA ?_; clear hKA hKB KA KB) | (refine hKB ?_; clear hKA hKB KA KB) | refine Wp ?_ | fail) | ((first | with_reducible (first | (refine hKv _ _ ?_; clear hKv Kv) | (refine Wr ?_; intro Kv hKv) | refine AWp_retR ?_ | fail) | refine Wc ?_ | fail); try simp (dsimp := false) only [go_sem, Nat.reduceAdd, Nat.reduceBEq, Nat.reduceEqDiff, Nat.reduceLT, Nat.reduceLeDiff, Nat.reduceMul, Int.reduceToNat, reduceCtorEq, ↓reduceIte, us, Bool.false_and, Bool.true_and, Int.reduceEq, Int.reduceLE, Int.reduceLT, Int.reduceNeg, List.length_set, List.map_cons, List.map_nil, cellP, ga, gl0, glk, gpO, gs, gsa, hid, not_false_eq_true, not_true_eq_false, pC1, phD_1, phV, phW, sa, sl0, slk, ss, ssa, ti_hb34, tkV]) | (refine AWp_condC rfl ?_; intro KA KB hKA hKB; try simp only [onB_true, onB_false, onB_dec, onB_ndec, onB_not, onB_and, onB_or]) | (refine AWp_condA rfl ?_ ?_) | with_reducible (first | refine onB_of ?_ ?_ | rfl) | omega))
          refine AWpF_deferC tmu (tks 1) (dfs3 _ _ _) ?_
          intro KD hKD
          simp (dsimp := false) only [go_sem, Nat.reduceAdd, Nat.reduceBEq, Nat.reduceEqDiff, Nat.reduceLT, Nat.reduceLeDiff, Nat.reduceMul, Int.reduceToNat, reduceCtorEq, ↓reduceIte, not_true_eq_false, not_false_eq_true, Bool.true_and, Bool.false_and, Int.reduceEq, Int.reduceLT, Int.reduceLE, Int.reduceNeg, List.map_cons, List.map_nil, List.length_set, hid, ga, sa, gs, ss, gsa, ssa, gl0, glk, sl0, slk, phV, phW, phD_1, tkV, gpO, ti_hb34, cellP, q0, hb1, hb2, hb3, hb4, hi, pC1]
          have c21 := hd; have us := an q0 (an hb1 (an hb2 (an hb3 (an hb4 hi))))
          (repeat' (first | with_reducible (first | refine And.intro ?_ ?_ | intro _ | (refine hKv _ _ (AWp_nop ?_); clear hKv Kv) | (refine hKA ?_; clear hKA hKB KA KB) | (refine hKB ?_; clear hKA hKB KA KB) | refine Wp ?_ | fail) | ((first | with_reducible (first | (refine hKv _ _ ?_; clear hKv Kv) | (refine Wr ?_; intro Kv hKv) | refine AWp_retR ?_ | fail) | refine Wc ?_ | fail); try simp (dsimp := false) only [go_sem, Nat.reduceAdd, Nat.reduceBEq, Nat.reduceEqDiff, Nat.reduceLT, Nat.reduceLeDiff, Nat.reduceMul, Int.reduceToNat, reduceCtorEq, ↓reduceIte, us, Bool.false_and, Bool.true_and, Int.reduceEq, Int.reduceLE, Int.reduceLT, Int.reduceNeg, List.length_set, List.map_cons, List.map_nil, cellP, ga, gl0, glk, gpO, gs, gsa, hid, not_false_eq_true, not_true_eq_false, pC1, phD_1, phV, phW, sa, sl0, slk, ss, ssa, ti_hb34, tkV]) | (refine AWp_condC rfl ?_; intro KA KB hKA hKB; try simp only [onB_true, onB_false, onB_dec, onB_ndec, onB_not, onB_and, onB_or]) | (refine AWp_condA rfl ?_ ?_) | with_reducible (first | refine onB_of ?_ ?_ | rfl) | omega))
          refine hKD _ _ _ _ ?_
          clear hKD KD
          intro dd
          simp (dsimp := false) only [go_sem, Nat.reduceAdd, Nat.reduceBEq, Nat.reduceEqDiff, Nat.reduceLT, Nat.reduceLeDiff, Nat.reduceMul, Int.reduceToNat, reduceCtorEq, ↓reduceIte, not_true_eq_false, not_false_eq_true, Bool.true_and, Bool.false_and, Int.reduceEq, Int.reduceLT, Int.reduceLE, Int.reduceNeg, List.map_cons, List.map_nil, List.length_set, hid, ga, sa, gs, ss, gsa, ssa, gl0, glk, sl0, slk, phV, phW, phD_1, tkV, gpO, ti_hb34, cellP, q0, hb1, hb2, hb3, hb4, hi, pC1]
          have c21 := h1; have c22 := h2; have c23 := h3; have c24 := h4; have c25 := h5; have c26 := h6; have c27 := h7; have c28 := h8; have c29 := h9; have c210 := h10; have c31 := hv; have us := an q0 (an hb1 (an hb2 (an hb3 (an hb4 hi))))
          exact W56
      · rw [if_neg hse] at hk
        have hb3 : opensP L sSome ⟨p1, e1⟩ = false := Bool.eq_false_iff.2 fun h => hse (.inl h)
        have hb4 : opensP L sEvery ⟨p1, e1⟩ = false := Bool.eq_false_iff.2 fun h => hse (.inr h)
        rw [sSome] at hb3
        rw [sEvery] at hb4
        have h5 := fun G K hk => gIs_A L hL id ((n + 1 : Nat) : Int) ⟨p1, e1⟩ hp1 [105, 102] (H.set id (gpO L ((n + 1 : Nat) : Int) ⟨p1, e1⟩) ++ G) K (gsa _ _) hk
        have h6 := fun G K hk => gToken_A L hL id ((n + 1 : Nat) : Int) ⟨p1, e1⟩ hp1 1 (by omega) (H.set id (gpO L ((n + 1 : Nat) : Int) ⟨p1, e1⟩) ++ G) K (gsa _ _) hk
        simp only [tkV] at h6
        have hA := tok_eq5 hT (p1 + 1) [40]
        by_cases hif : isN L sIf ⟨p1, e1⟩ = true ∧ mkAt L (p1 + 1) sOpen = true
        · rw [if_pos hif] at hk
          have hlt2 : p1 + 2 ≤ L.length := tokAt_lt (mkAt_k hif.2)
          rw [ifF] at hk
          simp only [nxt] at hk
          have h7 := fun G K hk => hs (p1 + 2) e1 (H.set id (gpO L ((n + 1 : Nat) : Int) ⟨(p1 + 2), e1⟩) ++ G) K hlt2 (fun _ => by omega) (gsa _ _) hk
          obtain ⟨x2, p2, e2, hk2, hp2⟩ := fR_N hm hlt2 (e := e1)
          rw [show p1 + 1 + 1 = p1 + 2 from rfl, hk2] at hk
          rw [hk2] at h7
          have h8 := fun G K hk => gMust_A L hL id ((n + 1 : Nat) : Int) p2 hp2 e2 [41] (H.set id (gpO L ((n + 1 : Nat) : Int) ⟨p2, e2⟩) ++ G) K (gsa _ _) hk
          obtain ⟨p3, e3, hk3, hp3⟩ := mP_N (L := L) (p := p2) (e := e2) (s := sClose) hp2
          rw [hk3] at hk
          rw [sClose] at hk3
          rw [hk3] at h8
          have h9 := fun G K hk => gMust_A L hL id ((n + 1 : Nat) : Int) p3 hp3 e3 [116, 104, 101, 110] (H.set id (gpO L ((n + 1 : Nat) : Int) ⟨p3, e3⟩) ++ G) K (gsa _ _) hk
          obtain ⟨p4, e4, hk4, hp4⟩ := mP_N (L := L) (p := p3) (e := e3) (s := sThen) hp3
          rw [hk4] at hk
          rw [sThen] at hk4
          rw [hk4] at h9
          have h10 := fun G K hk => hsa p4 e4 (H.set id (gpO L ((n + 1 : Nat) : Int) ⟨p4, e4⟩) ++ G) K hp4 (fun _ => by omega) (gsa _ _) hk
          obtain ⟨x5, p5, e5, hk5, hp5⟩ := fR_N hma hp4 (e := e4)
          rw [hk5] at hk h10
          have h11 := fun G K hk => gMust_A L hL id ((n + 1 : Nat) : Int) p5 hp5 e5 [101, 108, 115, 101] (H.set id (gpO L ((n + 1 : Nat) : Int) ⟨p5, e5⟩) ++ G) K (gsa _ _) hk
          obtain ⟨p6, e6, hk6, hp6⟩ := mP_N (L := L) (p := p5) (e := e5) (s := sElse) hp5
          rw [hk6] at hk
          rw [sElse] at hk6
          rw [hk6] at h11
          have h12 := fun G K hk => hsa p6 e6 (H.set id (gpO L ((n + 1 : Nat) : Int) ⟨p6, e6⟩) ++ G) K hp6 (fun _ => by omega) (gsa _ _) hk
          obtain ⟨x7, p7, e7, hk7, hp7⟩ := fR_N hma hp6 (e := e6)
          rw [hk7] at hk h12
          have hv := fun a G K hk => gLv (L := L) id (n := n) (by omega) gsa glk ssa p7 e7 a G K hk
          have hi := hif.1
          rw [sIf] at hi
          have hj := hif.2
          rw [sOpen] at hj
          rw [hj] at hA
          simp only [phV, phW, pSeq, pStep, pPath, pBin, pMinus, pRoot, pAll, pNil, ph0, mkh, mka, mkc, aD_nil, cD_nil, aD_cons, phD_1, List.map_cons, List.map_nil] at hk
          simp only [gpO] at *
          refine Wd ?_
          refine AWpF_seq ?_
          have us := an q0 (an hb1 (an hb2 (an hb3 (an hb4 (an hi hA)))))
          (repeat' (first | with_reducible (first | refine And.intro ?_ ?_ | intro _ | (refine hKv _ _ (AWp_nop ?_); clear hKv Kv) | (refine hKA ?_; clear hKA hKB KA KB) | (refine hKB ?_; clear hKA hKB KA KB) | refine Wp ?_ | fail) | ((first | with_reducible (first | (refine hKv _ _ ?_; clear hKv Kv) | (refine Wr ?_; intro Kv hKv) | refine AWp_retR ?_ | fail) | refine Wc ?_ | fail); try simp (dsimp := false) only [go_sem, Nat.reduceAdd, Nat.reduceBEq, Nat.reduceEqDiff, Nat.reduceLT, Nat.reduceLeDiff, Nat.reduceMul, Int.reduceToNat, reduceCtorEq, ↓reduceIte, us, Bool.false_and, Bool.true_and, Int.reduceEq, Int.reduceLE, Int.reduceLT, Int.reduceNeg, List.length_set, List.map_cons, List.map_nil, cellP, ga, gl0, glk, gpO, gs, gsa, hid, not_false_eq_true, not_true_eq_false, pC2, phD_1, phV, phW, sa, sl0, slk, ss, ssa, ti_hb34, tkV]) | (refine AWp_condC rfl ?_; intro KA KB hKA hKB; try simp only [onB_true, onB_false, onB_dec, onB_ndec, onB_not, onB_and, onB_or]) | (refine AWp_condA rfl ?_ ?_) | with_reducible (first | refine onB_of ?_ ?_ | rfl) | omega))
          refine AWpF_deferC tmu (tks 1) (dfs3 _ _ _) ?_
          intro KD hKD
          simp (dsimp := false) only [go_sem, Nat.reduceAdd, Nat.reduceBEq, Nat.reduceEqDiff, Nat.reduceLT, Nat.reduceLeDiff, Nat.reduceMul, Int.reduceToNat, reduceCtorEq, ↓reduceIte, not_true_eq_false, not_false_eq_true, Bool.true_and, Bool.false_and, Int.reduceEq, Int.reduceLT, Int.reduceLE, Int.reduceNeg, List.map_cons, List.map_nil, List.length_set, hid, ga, sa, gs, ss, gsa, ssa, gl0, glk, sl0, slk, phV, phW, phD_1, tkV, gpO, ti_hb34, cellP, q0, hb1, hb2, hb3, hb4, hi, hA, pC2]
          have c21 := hd; have us := an q0 (an hb1 (an hb2 (an hb3 (an hb4 (an hi hA)))))
          (repeat' (first | with_reducible (first | refine And.intro ?_ ?_ | intro _ | (refine hKv _ _ (AWp_nop ?_); clear hKv Kv) | (refine hKA ?_; clear hKA hKB KA KB) | (refine hKB ?_; clear hKA hKB KA KB) | refine Wp ?_ | fail) | ((first | with_reducible (first | (refine hKv _ _ ?_; clear hKv Kv) | (refine Wr ?_; intro Kv hKv) | refine AWp_retR ?_ | fail) | refine Wc ?_ | fail); try simp (dsimp := false) only [go_sem, Nat.reduceAdd, Nat.reduceBEq, Nat.reduceEqDiff, Nat.reduceLT, Nat.reduceLeDiff, Nat.reduceMul, Int.reduceToNat, reduceCtorEq, ↓reduceIte, us, Bool.false_and, Bool.true_and, Int.reduceEq, Int.reduceLE, Int.reduceLT, Int.reduceNeg, List.length_set, List.map_cons, List.map_nil, cellP, ga, gl0, glk, gpO, gs, gsa, hid, not_false_eq_true, not_true_eq_false, pC2, phD_1, phV, phW, sa, sl0, slk, ss, ssa, ti_hb34, tkV]) | (refine AWp_condC rfl ?_; intro KA KB hKA hKB; try simp only [onB_true, onB_false, onB_dec, onB_ndec, onB_not, onB_and, onB_or]) | (refine AWp_condA rfl ?_ ?_) | with_reducible (first | refine onB_of ?_ ?_ | rfl) | omega))
          refine hKD _ _ _ _ ?_
          clear hKD KD
          intro dd
          simp (dsimp := false) only [go_sem, Nat.reduceAdd, Nat.reduceBEq, Nat.reduceEqDiff, Nat.reduceLT, Nat.reduceLeDiff, Nat.reduceMul, Int.reduceToNat, reduceCtorEq, ↓reduceIte, not_true_eq_false, not_false_eq_true, Bool.true_and, Bool.false_and, Int.reduceEq, Int.reduceLT, Int.reduceLE, Int.reduceNeg, List.map_cons, List.map_nil, List.length_set, hid, ga, sa, gs, ss, gsa, ssa, gl0, glk, sl0, slk, phV, phW, phD_1, tkV, gpO, ti_hb34, cellP, q0, hb1, hb2, hb3, hb4, hi, hA, pC2]
          have c21 := h1; have c22 := h2; have c23 := h3; have c24 := h4; have c25 := h5; have c26 := h6; have c27 := h7; have c28 := h8; have c29 := h9; have c210 := h10; have c211 := h11; have c212 := h12; have c31 := hv; have us := an q0 (an hb1 (an hb2 (an hb3 (an hb4 (an hi hA)))))
          exact W57
        · rw [if_neg hif] at hk
          have hbi := fun G K hk => gBin_A L hL hT hmi (n + 1) id hn30 hsu 8 0 rfl p1 e1 (H.set id (gpO L ((n + 1 : Nat) : Int) ⟨p1, e1⟩) ++ G) K hp1 (gsa _ _) hk
          rw [show ((0 : Nat) : Int) = 0 from rfl] at hbi
          obtain ⟨x2, p2, e2, hx, hp2⟩ := fR_N (Mo_ops hmi 8) hp1 (e := e1)
          rw [hx] at hk hbi
          have hv := fun a G K hk => gLv (L := L) id (n := n) (by omega) gsa glk ssa p2 e2 a G K hk
          cases hi : isN L sIf ⟨p1, e1⟩ with
          | true =>
            have hj : mkAt L (p1 + 1) [40] = false := Bool.eq_false_iff.2 fun h => hif ⟨hi, h⟩
            rw [hj] at hA
            rw [sIf] at hi
            simp only [gpO] at *
            refine Wd ?_
            refine AWpF_seq ?_
            have us := an q0 (an hb1 (an hb2 (an hb3 (an hb4 (an hi hA)))))
            (repeat' (first | with_reducible (first | refine And.intro ?_ ?_ | intro _ | (refine hKv _ _ (AWp_nop ?_); clear hKv Kv) | (refine hKA ?_; clear hKA hKB KA KB) | (refine hKB ?_; clear hKA hKB KA KB) | refine Wp ?_ | fail) | ((first | with_reducible (first | (refine hKv _ _ ?_; clear hKv Kv) | (refine Wr ?_; intro Kv hKv) | refine AWp_retR ?_ | fail) | refine Wc ?_ | fail); try simp (dsimp := false) only [go_sem, Nat.reduceAdd, Nat.reduceBEq, Nat.reduceEqDiff, Nat.reduceLT, Nat.reduceLeDiff, Nat.reduceMul, Int.reduceToNat, reduceCtorEq, ↓reduceIte, us, Bool.false_and, Bool.true_and, Int.reduceEq, Int.reduceLE, Int.reduceLT, Int.reduceNeg, List.length_set, List.map_cons, List.map_nil, cellP, ga, gl0, glk, gpO, gs, gsa, hid, not_false_eq_true, not_true_eq_false, phD_1, phV, phW, sa, sl0, slk, ss, ssa, ti_hb34, tkV]) | (refine AWp_condC rfl ?_; intro KA KB hKA hKB; try simp only [onB_true, onB_false, onB_dec, onB_ndec, onB_not, onB_and, onB_or]) | (refine AWp_condA rfl ?_ ?_) | with_reducible (first | refine onB_of ?_ ?_ | rfl) | omega))
            refine AWpF_deferC tmu (tks 1) (dfs3 _ _ _) ?_
            intro KD hKD
            simp (dsimp := false) only [go_sem, Nat.reduceAdd, Nat.reduceBEq, Nat.reduceEqDiff, Nat.reduceLT, Nat.reduceLeDiff, Nat.reduceMul, Int.reduceToNat, reduceCtorEq, ↓reduceIte, not_true_eq_false, not_false_eq_true, Bool.true_and, Bool.false_and, Int.reduceEq, Int.reduceLT, Int.reduceLE, Int.reduceNeg, List.map_cons, List.map_nil, List.length_set, hid, ga, sa, gs, ss, gsa, ssa, gl0, glk, sl0, slk, phV, phW, phD_1, tkV, gpO, ti_hb34, cellP, q0, hb1, hb2, hb3, hb4, hi, hA]
            have c21 := hd; have us := an q0 (an hb1 (an hb2 (an hb3 (an hb4 (an hi hA)))))
            (repeat' (first | with_reducible (first | refine And.intro ?_ ?_ | intro _ | (refine hKv _ _ (AWp_nop ?_); clear hKv Kv) | (refine hKA ?_; clear hKA hKB KA KB) | (refine hKB ?_; clear hKA hKB KA KB) | refine Wp ?_ | fail) | ((first | with_reducible (first | (refine hKv _ _ ?_; clear hKv Kv) | (refine Wr ?_; intro Kv hKv) | refine AWp_retR ?_ | fail) | refine Wc ?_ | fail); try simp (dsimp := false) only [go_sem, Nat.reduceAdd, Nat.reduceBEq, Nat.reduceEqDiff, Nat.reduceLT, Nat.reduceLeDiff, Nat.reduceMul, Int.reduceToNat, reduceCtorEq, ↓reduceIte, us, Bool.false_and, Bool.true_and, Int.reduceEq, Int.reduceLE, Int.reduceLT, Int.reduceNeg, List.length_set, List.map_cons, List.map_nil, cellP, ga, gl0, glk, gpO, gs, gsa, hid, not_false_eq_true, not_true_eq_false, phD_1, phV, phW, sa, sl0, slk, ss, ssa, ti_hb34, tkV]) | (refine AWp_condC rfl ?_; intro KA KB hKA hKB; try simp only [onB_true, onB_false, onB_dec, onB_ndec, onB_not, onB_and, onB_or]) | (refine AWp_condA rfl ?_ ?_) | with_reducible (first | refine onB_of ?_ ?_ | rfl) | omega))
            refine hKD _ _ _ _ ?_
            clear hKD KD
            intro dd
            simp (dsimp := false) only [go_sem, Nat.reduceAdd, Nat.reduceBEq, Nat.reduceEqDiff, Nat.reduceLT, Nat.reduceLeDiff, Nat.reduceMul, Int.reduceToNat, reduceCtorEq, ↓reduceIte, not_true_eq_false, not_false_eq_true, Bool.true_and, Bool.false_and, Int.reduceEq, Int.reduceLT, Int.reduceLE, Int.reduceNeg, List.map_cons, List.map_nil, List.length_set, hid, ga, sa, gs, ss, gsa, ssa, gl0, glk, sl0, slk, phV, phW, phD_1, tkV, gpO, ti_hb34, cellP, q0, hb1, hb2, hb3, hb4, hi, hA]
            have c21 := h1; have c22 := h2; have c23 := h3; have c24 := h4; have c25 := h5; have c26 := h6; have c27 := hbi; have c31 := hv; have us := an q0 (an hb1 (an hb2 (an hb3 (an hb4 (an hi hA)))))
            exact W51
          | false =>
            rw [sIf] at hi
            simp only [gpO] at *
            refine Wd ?_
            refine AWpF_seq ?_
            have us := an q0 (an hb1 (an hb2 (an hb3 (an hb4 hi))))
            (repeat' (first | with_reducible (first | refine And.intro ?_ ?_ | intro _ | (refine hKv _ _ (AWp_nop ?_); clear hKv Kv) | (refine hKA ?_; clear hKA hKB KA KB) | (refine hKB ?_; clear hKA hKB KA KB) | refine Wp ?_ | fail) | ((first | with_reducible (first | (refine hKv _ _ ?_; clear hKv Kv) | (refine Wr ?_; intro Kv hKv) | refine AWp_retR ?_ | fail) | refine Wc ?_ | fail); try simp (dsimp := false) only [go_sem, Nat.reduceAdd, Nat.reduceBEq, Nat.reduceEqDiff, Nat.reduceLT, Nat.reduceLeDiff, Nat.reduceMul, Int.reduceToNat, reduceCtorEq, ↓reduceIte, us, Bool.false_and, Bool.true_and, Int.reduceEq, Int.reduceLE, Int.reduceLT, Int.reduceNeg, List.length_set, List.map_cons, List.map_nil, cellP, ga, gl0, glk, gpO, gs, gsa, hid, not_false_eq_true, not_true_eq_false, phD_1, phV, phW, sa, sl0, slk, ss, ssa, ti_hb34, tkV]) | (refine AWp_condC rfl ?_; intro KA KB hKA hKB; try simp only [onB_true, onB_false, onB_dec, onB_ndec, onB_not, onB_and, onB_or]) | (refine AWp_condA rfl ?_ ?_) | with_reducible (first | refine onB_of ?_ ?_ | rfl) | omega))
            refine AWpF_deferC tmu (tks 1) (dfs3 _ _ _) ?_
            intro KD hKD
            simp (dsimp := false) only [go_sem, Nat.reduceAdd, Nat.reduceBEq, Nat.reduceEqDiff, Nat.reduceLT, Nat.reduceLeDiff, Nat.reduceMul, Int.reduceToNat, reduceCtorEq, ↓reduceIte, not_true_eq_false, not_false_eq_true, Bool.true_and, Bool.false_and, Int.reduceEq, Int.reduceLT, Int.reduceLE, Int.reduceNeg, List.map_cons, List.map_nil, List.length_set, hid, ga, sa, gs, ss, gsa, ssa, gl0, glk, sl0, slk, phV, phW, phD_1, tkV, gpO, ti_hb34, cellP, q0, hb1, hb2, hb3, hb4, hi]
            have c21 := hd; have us := an q0 (an hb1 (an hb2 (an hb3 (an hb4 hi))))
            (repeat' (first | with_reducible (first | refine And.intro ?_ ?_ | intro _ | (refine hKv _ _ (AWp_nop ?_); clear hKv Kv) | (refine hKA ?_; clear hKA hKB KA KB) | (refine hKB ?_; clear hKA hKB KA KB) | refine Wp ?_ | fail) | ((first | with_reducible (first | (refine hKv _ _ ?_; clear hKv Kv) | (refine Wr ?_; intro Kv hKv) | refine AWp_retR ?_ | fail) | refine Wc ?_ | fail); try simp (dsimp := false) only [go_sem, Nat.reduceAdd, Nat.reduceBEq, Nat.reduceEqDiff, Nat.reduceLT, Nat.reduceLeDiff, Nat.reduceMul, Int.reduceToNat, reduceCtorEq, ↓reduceIte, us, Bool.false_and, Bool.true_and, Int.reduceEq, Int.reduceLE, Int.reduceLT, Int.reduceNeg, List.length_set, List.map_cons, List.map_nil, cellP, ga, gl0, glk, gpO, gs, gsa, hid, not_false_eq_true, not_true_eq_false, phD_1, phV, phW, sa, sl0, slk, ss, ssa, ti_hb34, tkV]) | (refine AWp_condC rfl ?_; intro KA KB hKA hKB; try simp only [onB_true, onB_false, onB_dec, onB_ndec, onB_not, onB_and, onB_or]) | (refine AWp_condA rfl ?_ ?_) | with_reducible (first | refine onB_of ?_ ?_ | rfl) | omega))
            refine hKD _ _ _ _ ?_
            clear hKD KD
            intro dd
            simp (dsimp := false) only [go_sem, Nat.reduceAdd, Nat.reduceBEq, Nat.reduceEqDiff, Nat.reduceLT, Nat.reduceLeDiff, Nat.reduceMul, Int.reduceToNat, reduceCtorEq, ↓reduceIte, not_true_eq_false, not_false_eq_true, Bool.true_and, Bool.false_and, Int.reduceEq, Int.reduceLT, Int.reduceLE, Int.reduceNeg, List.map_cons, List.map_nil, List.length_set, hid, ga, sa, gs, ss, gsa, ssa, gl0, glk, sl0, slk, phV, phW, phD_1, tkV, gpO, ti_hb34, cellP, q0, hb1, hb2, hb3, hb4, hi]
            have c21 := h1; have c22 := h2; have c23 := h3; have c24 := h4; have c25 := h5; have c26 := hbi; have c31 := hv; have us := an q0 (an hb1 (an hb2 (an hb3 (an hb4 hi))))
            exact W51
  · have q0 : (e1 = 0) = False := eq_false he
    rw [if_pos he] at hk
    have hv := fun a G K hk => gLv (L := L) id (n := n) (by omega) gsa glk ssa p1 e1 a G K hk
    simp only [phV, phW, pSeq, pStep, pPath, pBin, pMinus, pRoot, pAll, pNil, ph0, mkh, mka, mkc, aD_nil, cD_nil, aD_cons, phD_1, List.map_cons, List.map_nil] at hk
    simp only [gpO] at *
    refine Wd ?_
    refine AWpF_seq ?_
    have us := q0
    (repeat' (first | with_reducible (first | refine And.intro ?_ ?_ | intro _ | (refine hKv _ _ (AWp_nop ?_); clear hKv Kv) | (refine hKA ?_; clear hKA hKB KA KB) | (refine hKB ?_; clear hKA hKB KA KB) | refine Wp ?_ | fail) | ((first | with_reducible (first | (refine hKv _ _ ?_; clear hKv Kv) | (refine Wr ?_; intro Kv hKv) | refine AWp_retR ?_ | fail) | refine Wc ?_ | fail); try simp (dsimp := false) only [go_sem, Nat.reduceAdd, Nat.reduceBEq, Nat.reduceEqDiff, Nat.reduceLT, Nat.reduceLeDiff, Nat.reduceMul, Int.reduceToNat, reduceCtorEq, ↓reduceIte, us, Bool.false_and, Bool.true_and, Int.reduceEq, Int.reduceLE, Int.reduceLT, Int.reduceNeg, List.length_set, List.map_cons, List.map_nil, cellP, ga, gl0, glk, gpO, gs, gsa, hid, not_false_eq_true, not_true_eq_false, phD_1, phV, phW, sa, sl0, slk, ss, ssa, ti_hb34, tkV]) | (refine AWp_condC rfl ?_; intro KA KB hKA hKB; try simp only [onB_true, onB_false, onB_dec, onB_ndec, onB_not, onB_and, onB_or]) | (refine AWp_condA rfl ?_ ?_) | with_reducible (first | refine onB_of ?_ ?_ | rfl) | omega))
    refine AWpF_deferC tmu (tks 1) (dfs3 _ _ _) ?_
    intro KD hKD
    simp (dsimp := false) only [go_sem, Nat.reduceAdd, Nat.reduceBEq, Nat.reduceEqDiff, Nat.reduceLT, Nat.reduceLeDiff, Nat.reduceMul, Int.reduceToNat, reduceCtorEq, ↓reduceIte, not_true_eq_false, not_false_eq_true, Bool.true_and, Bool.false_and, Int.reduceEq, Int.reduceLT, Int.reduceLE, Int.reduceNeg, List.map_cons, List.map_nil, List.length_set, hid, ga, sa, gs, ss, gsa, ssa, gl0, glk, sl0, slk, phV, phW, phD_1, tkV, gpO, ti_hb34, cellP, q0]
    have c21 := hd; have us := q0
    (repeat' (first | with_reducible (first | refine And.intro ?_ ?_ | intro _ | (refine hKv _ _ (AWp_nop ?_); clear hKv Kv) | (refine hKA ?_; clear hKA hKB KA KB) | (refine hKB ?_; clear hKA hKB KA KB) | refine Wp ?_ | fail) | ((first | with_reducible (first | (refine hKv _ _ ?_; clear hKv Kv) | (refine Wr ?_; intro Kv hKv) | refine AWp_retR ?_ | fail) | refine Wc ?_ | fail); try simp (dsimp := false) only [go_sem, Nat.reduceAdd, Nat.reduceBEq, Nat.reduceEqDiff, Nat.reduceLT, Nat.reduceLeDiff, Nat.reduceMul, Int.reduceToNat, reduceCtorEq, ↓reduceIte, us, Bool.false_and, Bool.true_and, Int.reduceEq, Int.reduceLE, Int.reduceLT, Int.reduceNeg, List.length_set, List.map_cons, List.map_nil, cellP, ga, gl0, glk, gpO, gs, gsa, hid, not_false_eq_true, not_true_eq_false, phD_1, phV, phW, sa, sl0, slk, ss, ssa, ti_hb34, tkV]) | (refine AWp_condC rfl ?_; intro KA KB hKA hKB; try simp only [onB_true, onB_false, onB_dec, onB_ndec, onB_not, onB_and, onB_or]) | (refine AWp_condA rfl ?_ ?_) | with_reducible (first | refine onB_of ?_ ?_ | rfl) | omega))
    refine hKD _ _ _ _ ?_
    clear hKD KD
    intro dd
    simp (dsimp := false) only [go_sem, Nat.reduceAdd, Nat.reduceBEq, Nat.reduceEqDiff, Nat.reduceLT, Nat.reduceLeDiff, Nat.reduceMul, Int.reduceToNat, reduceCtorEq, ↓reduceIte, not_true_eq_false, not_false_eq_true, Bool.true_and, Bool.false_and, Int.reduceEq, Int.reduceLT, Int.reduceLE, Int.reduceNeg, List.map_cons, List.map_nil, List.length_set, hid, ga, sa, gs, ss, gsa, ssa, gl0, glk, sl0, slk, phV, phW, phD_1, tkV, gpO, ti_hb34, cellP, q0]
    have c31 := hv; have us := q0
    exact W50
end Go.Proofs.YtmhabdopcbokoaaDoor.Gq
