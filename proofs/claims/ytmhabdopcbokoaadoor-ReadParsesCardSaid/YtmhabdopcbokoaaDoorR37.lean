/- The parser of queries: steps. No condition but that the tables of package unicode/utf8 are there. -/
import Derived.Test.YtmhabdopcbokoaaDoorR18
import Derived.Test.YtmhabdopcbokoaaDoorR36
set_option linter.all false
set_option linter.unusedSimpArgs false
set_option linter.unusedVariables false
namespace Go.Proofs.YtmhabdopcbokoaaDoor.Gq
open Go Go.Proofs.YtmhabdopcbokoaaDoor.Ab
variable [Glo] [Gx]
set_option maxHeartbeats 4000000
set_option maxRecDepth 20000
theorem makes_col {L : List Tk} {p : Nat} {e : Int} (h : mkAt L (p + 1) sColon2 = true) : makesB L ⟨p, e⟩ = false := by
  obtain ⟨h1, h2⟩ := mkAt_T h
  unfold makesB mkAt
  rw [h1, h2]
  simp [sColon2, sOpenC]
theorem test_err {L : List Tk} {p : Nat} : testF L 1 ⟨p, 6⟩ = (pStep 1 4 [], ⟨p, 6⟩) := by
  have h6 : ∀ s, isN L s ⟨p, 6⟩ = false := fun s => isN_F (show (6 : Int) ≠ 0 by decide)
  unfold testF
  rw [h6]
  have h1 : kindT L 1 ⟨p, 6⟩ = [] := by rw [kindT, if_neg (by simp)]
  have h2 : kindP L 1 ⟨p, 6⟩ = ⟨p, 6⟩ := by rw [kindP, if_neg (show ¬ (6 : Int) = 0 by decide)]
  simp only [Bool.false_eq_true, if_false]
  rw [h1, h2, h6]
  simp
theorem tok_eq4 {L : List Tk} (hT : TksG L) (i : Nat) (s : Bs) : (decide ((tokAt L i).k = 5) && (decide ((tokAt L i).s = s) && (decide ((tokAt L i).n = 0) && true))) = mkAt L i s := by
  rw [Bool.and_true]
  exact tok_eq hT i s
theorem child_1 {L : List Tk} {p : Nat} {e : Int} (h : (tokAt L p).k ≠ 1) (hs : isN L sStar ⟨p, e⟩ = false) : childB L ⟨p, e⟩ = false := by
  unfold childB
  rw [hs, decide_eq_false h]
  rfl
theorem child_2 {L : List Tk} {p : Nat} {e : Int} {a b c d : Bool} (h : (tokAt L p).k = 1) (hs : isN L sStar ⟨p, e⟩ = false) (h1 : mkAt L (p + 1) sOpen = a) (h2 : decide ((tokAt L p).s ∈ kindsL) = b) (h3 : mkAt L (p + 2) sClose = c) (h4 : makesB L ⟨p, e⟩ = d) : childB L ⟨p, e⟩ = ((!a || (b && c)) && !d) := by
  unfold childB
  rw [hs, decide_eq_true h]
  simp only [] at h1 h2 h3 h4 ⊢
  rw [h1, h2, h3, h4]
  simp
namespace FN68
def tks : Nat → List Nat | 0 => [0, 2] | 1 => [0, 2] | 2 => [0, 2, 3] | 3 => [0, 2, 3, 4] | 4 => [0, 2, 3, 4, 5] | 5 => [0, 2, 3, 4, 6] | 6 => [0, 2, 3, 4, 6, 7] | 7 => [0, 2, 3] | 8 => [0, 2, 3, 4, 6, 7, 25] | 9 => [2] | 10 => [0, 2, 3, 4, 6, 7, 32] | 11 => [0, 2, 3, 8] | 12 => [0, 2, 3, 8] | 13 => [0, 2, 3] | 14 => [0, 2, 3, 4, 6, 7, 48] | 15 => [0, 2, 3] | 16 => [0, 2, 3, 4, 6, 7, 53] | 17 => [0, 2, 3] | 18 => [0, 2, 3, 4, 6, 7, 58] | 19 => [0, 2, 3, 58] | 20 => [0, 2, 3] | 21 => [0, 2, 3, 86] | 22 => [2] | 23 => [0, 2, 9] | 24 => [0, 2, 9, 92] | 25 => [0, 2, 9] | 26 => [0, 2, 9] | 27 => [2] | _ => []
def tmu : List Nat := [89]
def tin : List Nat := [0]
def txt : Nat → Nat × List Cd | 25 => (5, [.q 0 1, .q 0 1, .q 0 0, .t, .q 0 0]) | _ => (0, [])
abbrev tfn := @Tryd.func68
end FN68
attribute [go_sem] FN68.tks FN68.tmu FN68.tin FN68.txt Tryd.ntmps68 Tryd.results68
open FN68 in
theorem gStep_A (L : List Tk) (hL : L.length ≤ 200) (hT : TksG L) {ex al : Ps → PR} (hm : Mo L ex) (hma : Mo L al) (n id : Nat) (hn : n ≤ 33) (hs : n + 1 ≤ 30 → GAt L 9 ex (n + 1) id) (hsa : n + 1 ≤ 30 → GAt L 17 al (n + 1) id) : GAt L 68 (paceF L (pStep 1 4 []) ex (firstF L ex al) ((n + 1 : Nat) : Int)) n id := by
  intro p e H K hp hg hr hk
  have hid := lt_of_get hr
  obtain ⟨ga, sa, gs, ss, gsa, ssa, gl0, glk, sl0, slk⟩ := atH hr
  have hd := fun G K hk => gDeeper_A L id n (by omega) p e (H ++ G) K (ga G) hk
  have hl := Le_lev (L := L) ((n + 1 : Nat) : Int) (st := ⟨p, e⟩) hp
  have hgl := lev_g (n := ((n + 1 : Nat) : Int)) (st := ⟨p, e⟩)
  rw [paceF] at hk
  try simp only [] at hk
  generalize levP ((n + 1 : Nat) : Int) ⟨p, e⟩ = s1 at hd hl hk hgl
  obtain ⟨p1, e1⟩ := s1
  have hp1 := hl.hi
  try simp only [] at hp1 hgl
  have ht0 := fun G K hk => gToken_A L hL id ((n + 1 : Nat) : Int) ⟨p1, e1⟩ hp1 0 (by omega) (H.set id (gpO L ((n + 1 : Nat) : Int) ⟨p1, e1⟩) ++ G) K (gsa _ _) hk
  have ht1 := fun G K hk => gToken_A L hL id ((n + 1 : Nat) : Int) ⟨p1, e1⟩ hp1 1 (by omega) (H.set id (gpO L ((n + 1 : Nat) : Int) ⟨p1, e1⟩) ++ G) K (gsa _ _) hk
  have ht2 := fun G K hk => gToken_A L hL id ((n + 1 : Nat) : Int) ⟨p1, e1⟩ hp1 2 (by omega) (H.set id (gpO L ((n + 1 : Nat) : Int) ⟨p1, e1⟩) ++ G) K (gsa _ _) hk
  rw [Nat.add_zero] at ht0
  have hcn := contains_A kindsL (tokAt L p1).s (by decide)
  simp only [kindsL, List.map_cons, List.map_nil, strRow, sNode, sText, sComment, tkV] at hcn ht0 ht1 ht2
  by_cases he : e1 = 0
  · have q0 : (e1 = 0) = True := eq_true he
    have hn30 : n + 1 ≤ 30 := by have := hgl he; omega
    have hs := hs hn30
    have hsa := hsa hn30
    rw [if_neg (fun h => h he)] at hk
    have hlst := Le_step (L := L) (st := ⟨p1, e1⟩) (J := pStep 1 4 []) (Mo_first hm hma) hp1 he
    obtain ⟨x, p3, e3, hx⟩ : ∃ x p' e', stepF L (pStep 1 4 []) (firstF L ex al) ⟨p1, e1⟩ = (x, ⟨p', e'⟩) := ⟨_, _, _, rfl⟩
    rw [hx] at hk hlst
    have hp3 := hlst.hi
    simp only [] at hp3
    have hA := tok_eq4 hT (p1 + 1) [40]
    have hA2 := tok_eq4 hT (p1 + 2) [41]
    have hB : decide ((tokAt L p1).s = [110, 111, 100, 101] ∨ (tokAt L p1).s = [116, 101, 120, 116] ∨ (tokAt L p1).s = [99, 111, 109, 109, 101, 110, 116]) = decide ((tokAt L p1).s ∈ kindsL) := by
      simp only [kindsL, sNode, sText, sComment, List.mem_cons, List.not_mem_nil, or_false]
    have hmk := fun G K hk => gMakes_A L hL hT (n + 1) id p1 e1 (H.set id (gpO L ((n + 1 : Nat) : Int) ⟨p1, e1⟩) ++ G) K hp1 (gsa _ _) hk
    simp only [gpO] at hd ht0 ht1 ht2
    refine Wd ?_
    refine AWpF_seq ?_
    have us := eq_self (0 : Nat)
    (repeat' (first | with_reducible (first | refine And.intro ?_ ?_ | intro _ | (refine hKv _ _ (AWp_nop ?_); clear hKv Kv) | (refine hKA ?_; clear hKA hKB KA KB) | (refine hKB ?_; clear hKA hKB KA KB) | refine Wp ?_ | fail) | ((first | with_reducible (first | (refine hKv _ _ ?_; clear hKv Kv) | (refine Wr ?_; intro Kv hKv) | refine AWp_retR ?_ | fail) | refine Wc ?_ | fail); try simp (dsimp := false) only [go_sem, Nat.reduceAdd, Nat.reduceBEq, Nat.reduceEqDiff, Nat.reduceLT, Nat.reduceLeDiff, Nat.reduceMul, Int.reduceToNat, reduceCtorEq, ↓reduceIte, us, Bool.false_and, Bool.true_and, Int.reduceEq, Int.reduceLE, Int.reduceLT, Int.reduceNeg, List.length_set, List.map_cons, List.map_nil, cellP, ga, gl0, glk, gpO, gs, gsa, hid, not_false_eq_true, not_true_eq_false, phD_1, phV, phW, sa, sl0, slk, ss, ssa, ti_hb34, tkV]) | (refine AWp_condC rfl ?_; intro KA KB hKA hKB; try simp only [onB_true, onB_false, onB_dec, onB_ndec, onB_not, onB_and, onB_or]) | (refine AWp_condA rfl ?_ ?_) | with_reducible (first | refine onB_of ?_ ?_ | rfl) | omega))
    refine AWpF_deferC tmu (tks 1) (dfs3 _ _ _) ?_
    intro KD hKD
    simp (dsimp := false) only [go_sem, Nat.reduceAdd, Nat.reduceBEq, Nat.reduceEqDiff, Nat.reduceLT, Nat.reduceLeDiff, Nat.reduceMul, Int.reduceToNat, reduceCtorEq, ↓reduceIte, not_true_eq_false, not_false_eq_true, Bool.true_and, Bool.false_and, Int.reduceEq, Int.reduceLT, Int.reduceLE, Int.reduceNeg, List.map_cons, List.map_nil, List.length_set, hid, ga, sa, gs, ss, gsa, ssa, gl0, glk, sl0, slk, phV, phW, phD_1, tkV, gpO, ti_hb34, cellP]
    have c21 := hd; have us := eq_self (0 : Nat)
    (repeat' (first | with_reducible (first | refine And.intro ?_ ?_ | intro _ | (refine hKv _ _ (AWp_nop ?_); clear hKv Kv) | (refine hKA ?_; clear hKA hKB KA KB) | (refine hKB ?_; clear hKA hKB KA KB) | refine Wp ?_ | fail) | ((first | with_reducible (first | (refine hKv _ _ ?_; clear hKv Kv) | (refine Wr ?_; intro Kv hKv) | refine AWp_retR ?_ | fail) | refine Wc ?_ | fail); try simp (dsimp := false) only [go_sem, Nat.reduceAdd, Nat.reduceBEq, Nat.reduceEqDiff, Nat.reduceLT, Nat.reduceLeDiff, Nat.reduceMul, Int.reduceToNat, reduceCtorEq, ↓reduceIte, us, Bool.false_and, Bool.true_and, Int.reduceEq, Int.reduceLE, Int.reduceLT, Int.reduceNeg, List.length_set, List.map_cons, List.map_nil, cellP, ga, gl0, glk, gpO, gs, gsa, hid, not_false_eq_true, not_true_eq_false, phD_1, phV, phW, sa, sl0, slk, ss, ssa, ti_hb34, tkV]) | (refine AWp_condC rfl ?_; intro KA KB hKA hKB; try simp only [onB_true, onB_false, onB_dec, onB_ndec, onB_not, onB_and, onB_or]) | (refine AWp_condA rfl ?_ ?_) | with_reducible (first | refine onB_of ?_ ?_ | rfl) | omega))
    refine hKD _ _ _ _ ?_
    clear hKD KD
    intro dd
    simp (dsimp := false) only [go_sem, Nat.reduceAdd, Nat.reduceBEq, Nat.reduceEqDiff, Nat.reduceLT, Nat.reduceLeDiff, Nat.reduceMul, Int.reduceToNat, reduceCtorEq, ↓reduceIte, not_true_eq_false, not_false_eq_true, Bool.true_and, Bool.false_and, Int.reduceEq, Int.reduceLT, Int.reduceLE, Int.reduceNeg, List.map_cons, List.map_nil, List.length_set, hid, ga, sa, gs, ss, gsa, ssa, gl0, glk, sl0, slk, phV, phW, phD_1, tkV, gpO, ti_hb34, cellP]
    repeat' (first | (refine halt_block 0 ?_) | with_reducible (first | refine And.intro ?_ ?_ | intro _ | refine AWp_seq ?_ | refine AWp_block ?_ | (refine hKv _ _ (AWp_nop ?_); clear hKv Kv) | (refine hKA ?_; clear hKA hKB KA KB) | (refine hKB ?_; clear hKA hKB KA KB) | refine AWp_skipN ?_ | refine AWp_exitO (by repeat (first | exact Out.hit | apply Out.thenA | apply Out.out rfl)) ?_) | ((first | with_reducible (first | (refine hKv _ _ ?_; clear hKv Kv) | ((first | refine AWp_regC tmu tks ?_ | refine AWp_drawT txt tmu tks (by decide) ti_mixed (by kernel_rfl) ?_ | refine AWp_regE tmu tks ?_); intro Kv hKv) | refine AWp_retR ?_) | refine ht0 _ _ ?_ | refine QCall_of (ht0 _ _ (Two_intro _ _)) ?_ | refine ECall_of (ht0 _ _ (Two_intro _ _)) ?_ | refine ht1 _ _ ?_ | refine QCall_of (ht1 _ _ (Two_intro _ _)) ?_ | refine ECall_of (ht1 _ _ (Two_intro _ _)) ?_ | refine hcn _ _ ?_ | refine QCall_of (hcn _ _ (Two_intro _ _)) ?_ | refine ECall_of (hcn _ _ (Two_intro _ _)) ?_); try simp (dsimp := false) only [go_sem, Nat.reduceAdd, Nat.reduceBEq, Nat.reduceEqDiff, Nat.reduceLT, Nat.reduceLeDiff, Nat.reduceMul, Int.reduceToNat, reduceCtorEq, ↓reduceIte, not_true_eq_false, not_false_eq_true, Bool.true_and, Bool.false_and, Int.reduceEq, Int.reduceLT, Int.reduceLE, Int.reduceNeg, List.map_cons, List.map_nil, List.length_set, hid, ga, sa, gs, ss, gsa, ssa, gl0, glk, sl0, slk, phV, phW, phD_1, tkV, gpO, ti_hb34, cellP]) | (refine AWp_condC rfl ?_; intro KA KB hKA hKB; try simp only [onB_true, onB_false, onB_dec, onB_ndec, onB_not, onB_and, onB_or]) | (refine AWp_condA rfl ?_ ?_) | with_reducible (first | refine onB_of ?_ ?_ | rfl) | omega)
    refine AWp_cutG (ι := Unit) (fun _ => True) (fun _ => [(0, .pt id 0 0 0), (2, .pt H.length 0 0 0), (3, .pt (H.length + 2) 0 0 0)]) (fun _ => H.set id (gpO L ((n + 1 : Nat) : Int) ⟨p3, e3⟩) ++ [.row 0 30 11 [[.d (.i .i64 0), .d (.i .i64 0), .d (.i .i64 0), .d (.s []), .d (.s []), .d (.i .i64 0), .d (.i .i64 0), .d (.i .i64 0), .d (.s []), .d (.c (.slice none 0 0)), .d (.c (.slice none 0 0))]], cellP id, .row 0 30 11 [phC x]]) (fun _ _ => by simp) (fun _ _ => closed_sb hid (gp_bel _ _ _ _ _) (by
      simp only [List.forall_mem_cons, List.length_cons, List.length_nil]
      exact ⟨oB1 (by simp [Bel_d]), cellP_bel (by omega), oB1 (by simp [phC_1, Bel_d]), by simp⟩)) ?_ ?_
    · rintro ⟨⟩ _
      rw [filtF] at hk
      simp only [] at hk
      cases hc : isN L sOpenB ⟨p3, e3⟩ with
      | false =>
        rw [hc, if_neg (by decide)] at hk
        rw [sOpenB] at hc
        have hi := fun G K hk => gIs_A L hL id ((n + 1 : Nat) : Int) ⟨p3, e3⟩ hp3 [91] (H.set id (gpO L ((n + 1 : Nat) : Int) ⟨p3, e3⟩) ++ G) K (gsa _ _) hk
        rw [hc] at hi
        have hv := fun a G K hk => gLv (L := L) id (n := n) (by omega) gsa glk ssa p3 e3 a G K hk
        simp only [gpO, phC_1] at *
        have c21 := hi; have c31 := hv; have us := eq_self (0 : Nat)
        exact W51
      | true =>
        rw [hc, if_pos rfl] at hk
        rw [sOpenB] at hc
        have hi := fun G K hk => gIs_A L hL id ((n + 1 : Nat) : Int) ⟨p3, e3⟩ hp3 [91] (H.set id (gpO L ((n + 1 : Nat) : Int) ⟨p3, e3⟩) ++ G) K (gsa _ _) hk
        rw [hc] at hi
        have hm8 : Mo L fun st => ((ex st).1, mustP L sCloseB (ex st).2) := fun st h => (hm st h).trans (Le_must (hm st h).hi)
        rw [sOpenB] at hk
        simp only [gpO] at hi
        simp only [gpO, phC_1]
        have c21 := hi; have us := eq_self (0 : Nat)
        (repeat' (first | with_reducible (first | refine And.intro ?_ ?_ | intro _ | (refine hKv _ _ (AWp_nop ?_); clear hKv Kv) | (refine hKA ?_; clear hKA hKB KA KB) | (refine hKB ?_; clear hKA hKB KA KB) | refine Wp ?_ | fail) | ((first | with_reducible (first | (refine hKv _ _ ?_; clear hKv Kv) | (refine Wr ?_; intro Kv hKv) | refine AWp_retR ?_ | fail) | refine Wc ?_ | fail); try simp (dsimp := false) only [go_sem, Nat.reduceAdd, Nat.reduceBEq, Nat.reduceEqDiff, Nat.reduceLT, Nat.reduceLeDiff, Nat.reduceMul, Int.reduceToNat, reduceCtorEq, ↓reduceIte, us, Bool.false_and, Bool.true_and, Int.reduceEq, Int.reduceLE, Int.reduceLT, Int.reduceNeg, List.length_set, List.map_cons, List.map_nil, cellP, ga, gl0, glk, gpO, gs, gsa, hid, not_false_eq_true, not_true_eq_false, phC_1, phD_1, phV, phW, sa, sl0, slk, ss, ssa, ti_hb34, tkV]) | (refine AWp_condC rfl ?_; intro KA KB hKA hKB; try simp only [onB_true, onB_false, onB_dec, onB_ndec, onB_not, onB_and, onB_or]) | (refine AWp_condA rfl ?_ ?_) | with_reducible (first | refine onB_of ?_ ?_ | rfl) | omega))
        all_goals first
          | omega
          | skip
        have hq0 : GlOk L [91] (fun st => ((ex st).1, mustP L sCloseB (ex st).2)) (moreP L [91] (fun st => ((ex st).1, mustP L sCloseB (ex st).2)) (L.length + 1) [x] ⟨p3, e3⟩) ⟨[x], p3, e3, 0⟩ := ⟨⟨L.length + 1, by simp only []; omega, rfl⟩, hp3, by simp, by simp⟩
        generalize moreP L [91] (fun st => ((ex st).1, mustP L sCloseB (ex st).2)) (L.length + 1) [x] ⟨p3, e3⟩ = q at hq0 hk
        refine AWp_whileG (GlOk L [91] (fun st => ((ex st).1, mustP L sCloseB (ex st).2)) q) (fun y => [(0, .pt id 0 0 0), (2, .pt H.length 0 0 0), (9, .pt (H.length + 4) 0 0 0)])
          (fun y => H.set id (gpO L ((n + 1 : Nat) : Int) ⟨y.p, y.e⟩) ++ [.row 0 30 11 [[.d (.i .i64 0), .d (.i .i64 0), .d (.i .i64 0), .d (.s []), .d (.s []), .d (.i .i64 0), .d (.i .i64 0), .d (.i .i64 0), .d (.s []), .d (.c (.slice none 0 0)), .d (.c (.slice none 0 0))]], cellP id, .row 0 30 11 [phC x], .row y.v 30 11 (y.l.map phC), .row 0 30 11 [[.d (.i .i64 22), .d (.i .i64 0), .d (.i .i64 0), .d (.s []), .d (.s []), .d (.i .i64 0), .d (.i .i64 0), .d (.i .i64 0), .d (.s []), .os (H.length + 3) y.v, .d (.c (.slice none 0 0))]]])
          (fun y => L.length - y.p) ⟨[x], p3, e3, 0⟩ hq0 ⟨[], ?_⟩ ?_ ?_ ?_ ?_
        · simp [gpO, phC_1, cellP]
        · simp (dsimp := false) only [go_sem, Nat.reduceAdd, Nat.reduceBEq, Nat.reduceEqDiff, Nat.reduceLT, Nat.reduceLeDiff, Nat.reduceMul, Int.reduceToNat, reduceCtorEq, ↓reduceIte, not_true_eq_false, not_false_eq_true, Bool.true_and, Bool.false_and, Int.reduceEq, Int.reduceLT, Int.reduceLE, Int.reduceNeg, List.map_cons, List.map_nil, List.length_set, hid, ga, sa, gs, ss, gsa, ssa, gl0, glk, sl0, slk, phV, phW, phD_1, tkV, gpO, ti_hb34, cellP, phC_1]
          simp
          try omega
        · intro y hy; simp
        · intro y hy
          refine closed_sb hid (gp_bel _ _ _ _ _) ?_
          simp only [List.forall_mem_cons, List.length_cons, List.length_nil]
          refine ⟨oB1 (by simp [Bel_d]), cellP_bel (by omega), oB1 (by simp [phC_1, Bel_d]), oBp _, oB1 (by simp [Bel_d, Bel_os]), by simp⟩
        rintro ⟨l, p8, e8, v⟩ hy
        have hp8 := hy.p
        have hl8 := hy.l
        simp only [] at hp8 hl8 ⊢
        cases hc8 : isN L [91] ⟨p8, e8⟩ with
        | false =>
          have hh8 := fun G K hk => gHasF_A L hL id ((n + 1 : Nat) : Int) p8 hp8 e8 [91] hc8 (H.set id (gpO L ((n + 1 : Nat) : Int) ⟨p8, e8⟩) ++ G) K (gsa _ _) hk
          have hv := fun a G K hk => gLv (L := L) id (n := n) (by omega) gsa glk ssa p8 e8 a G K hk
          rw [hy.stop hc8] at hk
          simp only [phV, phW, ph0, mkh, mka, mkc, aD_ne hy.ne, cD_nil] at hk
          simp only [gpO] at *
          have c21 := hh8; have c31 := hv; have us := eq_self (0 : Nat)
          exact W52
        | true =>
          have hh8 := fun G K hk => gHasT_A L hL id ((n + 1 : Nat) : Int) p8 e8 [91] hc8 (H.set id (gpO L ((n + 1 : Nat) : Int) ⟨p8, e8⟩) ++ G) K (gsa _ _) hk
          have hlt := isN_lt hc8
          simp only [] at hlt
          have hst := fun {x p e} hx v => hy.step hm8 hc8 (x := x) (p := p) (e := e) hx v
          simp only [] at hst
          obtain ⟨x9, p9, e9, h9, hp9⟩ := fR_N hm (Nat.succ_le_of_lt hlt) (e := e8)
          have hs9 := fun G K hk => hs (p8 + 1) e8 (H.set id (gpO L ((n + 1 : Nat) : Int) ⟨(p8 + 1), e8⟩) ++ G) K hlt (fun _ => by omega) (gsa _ _) hk
          rw [h9] at hs9
          have hmu := fun G K hk => gMust_A L hL id ((n + 1 : Nat) : Int) p9 hp9 e9 [93] (H.set id (gpO L ((n + 1 : Nat) : Int) ⟨p9, e9⟩) ++ G) K (gsa _ _) hk
          obtain ⟨p7, e7, h7, hp7⟩ := mP_N (L := L) (p := p9) (e := e9) (s := [93]) hp9
          rw [h7] at hmu
          have hst := fun v => hst (x := x9) (p := p7) (e := e7) (by rw [h9]; simp only [sCloseB]; rw [h7]) v
          simp only [gpO] at *
          have c21 := hh8; have c22 := hs9; have c23 := hmu; have us := eq_self (0 : Nat)
          (repeat' (first | with_reducible (first | refine And.intro ?_ ?_ | intro _ | (refine hKv _ _ (AWp_nop ?_); clear hKv Kv) | (refine hKA ?_; clear hKA hKB KA KB) | (refine hKB ?_; clear hKA hKB KA KB) | refine Wp ?_ | fail) | ((first | with_reducible (first | (refine hKv _ _ ?_; clear hKv Kv) | (refine Wr ?_; intro Kv hKv) | refine AWp_retR ?_ | fail) | refine Wc ?_ | fail); try simp (dsimp := false) only [go_sem, Nat.reduceAdd, Nat.reduceBEq, Nat.reduceEqDiff, Nat.reduceLT, Nat.reduceLeDiff, Nat.reduceMul, Int.reduceToNat, reduceCtorEq, ↓reduceIte, us, Bool.false_and, Bool.true_and, Int.reduceEq, Int.reduceLE, Int.reduceLT, Int.reduceNeg, List.length_set, List.map_cons, List.map_nil, cellP, ga, gl0, glk, gpO, gs, gsa, hid, not_false_eq_true, not_true_eq_false, phC_1, phD_1, phV, phW, sa, sl0, slk, ss, ssa, ti_hb34, tkV]) | (refine AWp_condC rfl ?_; intro KA KB hKA hKB; try simp only [onB_true, onB_false, onB_dec, onB_ndec, onB_not, onB_and, onB_or]) | (refine AWp_condA rfl ?_ ?_) | with_reducible (first | refine onB_of ?_ ?_ | rfl) | omega))
          all_goals first
            | omega
            | skip
          have h5 := (hst (v + 1)).2
          try simp only [] at h5 hlt
          refine ⟨⟨l ++ [x9], p7, e7, v + 1⟩, [], (hst (v + 1)).1, by simp only []; omega, by simp [phC_1], ?_⟩
          try (simp (dsimp := false) only [go_sem, Nat.reduceAdd, Nat.reduceBEq, Nat.reduceEqDiff, Nat.reduceLT, Nat.reduceLeDiff, Nat.reduceMul, Int.reduceToNat, reduceCtorEq, ↓reduceIte, not_true_eq_false, not_false_eq_true, Bool.true_and, Bool.false_and, Int.reduceEq, Int.reduceLT, Int.reduceLE, Int.reduceNeg, List.map_cons, List.map_nil, List.length_set, hid, ga, sa, gs, ss, gsa, ssa, gl0, glk, sl0, slk, phV, phW, phD_1, tkV, gpO, ti_hb34, cellP, phC_1])
          all_goals try simp
          all_goals try omega
    · rw [stepF] at hx
      by_cases hk0 : (tokAt L p1).k = 1
      · have qk : ((tokAt L p1).k = 1) = True := eq_true hk0
        cases hm0 : mkAt L (p1 + 1) sColon2 with
        | true =>
          rw [if_pos ⟨hk0, hm0⟩] at hx
          have hlt2 := tokAt_lt (mkAt_k hm0)
          by_cases hix : idx1 axesL (tokAt L p1).s = 0
          · rw [if_pos hix] at hx
            have hax := fun G K hk => gAxisF_A L hL hT (n + 1) id p1 e1 (H.set id (gpO L ((n + 1 : Nat) : Int) ⟨p1, e1⟩) ++ G) K hp1 (gsa _ _) hk0 hm0 hix hk
            rw [wrongP, if_pos he] at hx hax
            simp only [Prod.mk.injEq, Ps.mk.injEq] at hx
            obtain ⟨rfl, rfl, rfl⟩ := hx
            have h6 : ∀ s, isN L s ⟨p1, 6⟩ = false := fun s => isN_F (show (6 : Int) ≠ 0 by decide)
            have h1 := fun G K hk => gHasF_A L hL id ((n + 1 : Nat) : Int) p1 hp1 6 [64] (h6 _) (H.set id (gpO L ((n + 1 : Nat) : Int) ⟨p1, 6⟩) ++ G) K (gsa _ _) hk
            have h2 := fun G K hk => gHasF_A L hL id ((n + 1 : Nat) : Int) p1 hp1 6 [46, 46] (h6 _) (H.set id (gpO L ((n + 1 : Nat) : Int) ⟨p1, 6⟩) ++ G) K (gsa _ _) hk
            have h3 := fun G K hk => gIs_A L hL id ((n + 1 : Nat) : Int) ⟨p1, 6⟩ hp1 [42] (H.set id (gpO L ((n + 1 : Nat) : Int) ⟨p1, 6⟩) ++ G) K (gsa _ _) hk
            rw [h6] at h3
            have hmk6 := fun G K hk => gMakes_A L hL hT (n + 1) id p1 6 (H.set id (gpO L ((n + 1 : Nat) : Int) ⟨p1, 6⟩) ++ G) K hp1 (gsa _ _) hk
            rw [makes_col hm0] at hmk6
            have hts := fun G K hk => gTest_A L hL 1 (n + 1) id p1 6 (H.set id (gpO L ((n + 1 : Nat) : Int) ⟨p1, 6⟩) ++ G) K hp1 (gsa _ _) hk
            rw [test_err] at hts
            have hb : mkAt L (p1 + 1) [40] = false := by
              obtain ⟨_, h2⟩ := mkAt_T hm0
              unfold mkAt
              rw [h2]
              simp [sColon2]
            rw [hb] at hA
            simp only [pStep, phV, phW, ph0, mkh, mka, mkc, aD_nil, cD_nil] at hts
            simp only [gpO] at *
            have c21 := hax; have c22 := h1; have c23 := h2; have c24 := h3; have c25 := hmk6; have c26 := hts; have us := an q0 (an hA (an hB qk))
            exact W53
          · rw [if_neg hix] at hx
            have hax := fun G K hk => gAxisN_A L hL hT (n + 1) id p1 e1 (H.set id (gpO L ((n + 1 : Nat) : Int) ⟨p1, e1⟩) ++ G) K hp1 (gsa _ _) hk0 hm0 hix hk
            have hp2 : p1 + 2 ≤ L.length := hlt2
            have hix2 := txtAt_lt axesL (tokAt L p1).s
            have hal2 : axesL.length = 12 := rfl
            have qi : ((0 : Int) < idx1 axesL (tokAt L p1).s) = True := eq_true (by unfold idx1 at hix ⊢; omega)
            have hx : testF L (idx1 axesL (tokAt L p1).s) ⟨p1 + 2, e1⟩ = (x, ⟨p3, e3⟩) := hx
            have hts := fun G K hk => gTest_A L hL (idx1 axesL (tokAt L p1).s) (n + 1) id (p1 + 2) e1 (H.set id (gpO L ((n + 1 : Nat) : Int) ⟨(p1 + 2), e1⟩) ++ G) K hp2 (gsa _ _) hk
            rw [hx] at hts
            simp only [gpO] at *
            have c21 := hax; have c22 := hts; have us := an q0 (an hA (an hB (an qk qi)))
            exact W53
        | false =>
          rw [if_neg (fun h => by rw [hm0] at h; cases h.2)] at hx
          have hax := fun G K hk => gAxis1_A L hL hT (n + 1) id p1 e1 (H.set id (gpO L ((n + 1 : Nat) : Int) ⟨p1, e1⟩) ++ G) K hp1 (gsa _ _) hk0 hm0 hk
          cases ha : isN L sAtS ⟨p1, e1⟩ with
          | true =>
            have hlt := isN_lt ha
            simp only [] at hlt
            rw [ha, if_pos rfl] at hx
            simp only [nxt] at hx
            rw [sAtS] at ha
            have h1 := fun G K hk => gHasT_A L hL id ((n + 1 : Nat) : Int) p1 e1 [64] ha (H.set id (gpO L ((n + 1 : Nat) : Int) ⟨p1, e1⟩) ++ G) K (gsa _ _) hk
            have hts := fun G K hk => gTest_A L hL 12 (n + 1) id (p1 + 1) e1 (H.set id (gpO L ((n + 1 : Nat) : Int) ⟨(p1 + 1), e1⟩) ++ G) K hlt (gsa _ _) hk
            rw [hx] at hts
            simp only [gpO] at *
            have c21 := hax; have c22 := h1; have c23 := hts; have us := an q0 (an hA (an hB qk))
            exact W53
          | false =>
            rw [ha, if_neg (by decide)] at hx
            rw [sAtS] at ha
            have h1 := fun G K hk => gHasF_A L hL id ((n + 1 : Nat) : Int) p1 hp1 e1 [64] ha (H.set id (gpO L ((n + 1 : Nat) : Int) ⟨p1, e1⟩) ++ G) K (gsa _ _) hk
            cases hd2 : isN L sDot2 ⟨p1, e1⟩ with
            | true =>
              have hlt := isN_lt hd2
              simp only [] at hlt
              rw [hd2, if_pos rfl] at hx
              simp only [nxt, Prod.mk.injEq, Ps.mk.injEq] at hx
              obtain ⟨rfl, rfl, rfl⟩ := hx
              rw [sDot2] at hd2
              have h2 := fun G K hk => gHasT_A L hL id ((n + 1 : Nat) : Int) p1 e1 [46, 46] hd2 (H.set id (gpO L ((n + 1 : Nat) : Int) ⟨p1, e1⟩) ++ G) K (gsa _ _) hk
              simp only [gpO] at *
              have c21 := hax; have c22 := h1; have c23 := h2; have us := an q0 (an hA (an hB qk))
              exact W53
            | false =>
              rw [hd2, if_neg (by decide)] at hx
              rw [sDot2] at hd2
              have h2 := fun G K hk => gHasF_A L hL id ((n + 1 : Nat) : Int) p1 hp1 e1 [46, 46] hd2 (H.set id (gpO L ((n + 1 : Nat) : Int) ⟨p1, e1⟩) ++ G) K (gsa _ _) hk
              cases hst : isN L sStar ⟨p1, e1⟩ with
              | true =>
                rw [if_pos (by unfold childB; rw [hst]; rfl)] at hx
                rw [sStar] at hst
                have h3 := fun G K hk => gIs_A L hL id ((n + 1 : Nat) : Int) ⟨p1, e1⟩ hp1 [42] (H.set id (gpO L ((n + 1 : Nat) : Int) ⟨p1, e1⟩) ++ G) K (gsa _ _) hk
                rw [hst] at h3
                have hts := fun G K hk => gTest_A L hL 1 (n + 1) id p1 e1 (H.set id (gpO L ((n + 1 : Nat) : Int) ⟨p1, e1⟩) ++ G) K hp1 (gsa _ _) hk
                rw [hx] at hts
                simp only [gpO] at *
                have c21 := hax; have c22 := h1; have c23 := h2; have c24 := h3; have c25 := hts; have us := an q0 (an hA (an hB qk))
                exact W53
              | false =>
                have h3 := fun G K hk => gIs_A L hL id ((n + 1 : Nat) : Int) ⟨p1, e1⟩ hp1 [42] (H.set id (gpO L ((n + 1 : Nat) : Int) ⟨p1, e1⟩) ++ G) K (gsa _ _) hk
                have hst' := hst
                rw [sStar] at hst'
                rw [hst'] at h3
                cases hb : mkAt L (p1 + 1) [40] with
                | false =>
                  rw [hb] at hA
                  cases hv : makesB L ⟨p1, e1⟩ with
                  | true =>
                    rw [if_neg (by rw [child_2 hk0 hst hb rfl rfl hv]; simp)] at hx
                    have hpr := fun G K hk => gPrim_A L hL hT hm hma (n + 1) id p1 e1 (H.set id (gpO L ((n + 1 : Nat) : Int) ⟨p1, e1⟩) ++ G) K hp1 (gsa _ _) hn30 hs hsa hk
                    rw [hx] at hpr
                    simp only [gpO] at *
                    have c21 := hax; have c22 := h1; have c23 := h2; have c24 := h3; have c25 := ht2; have c26 := hmk; have c27 := hpr; have us := an q0 (an hA (an hB (an qk hv)))
                    exact W53
                  | false =>
                    rw [if_pos (by rw [child_2 hk0 hst hb rfl rfl hv]; rfl)] at hx
                    have hts := fun G K hk => gTest_A L hL 1 (n + 1) id p1 e1 (H.set id (gpO L ((n + 1 : Nat) : Int) ⟨p1, e1⟩) ++ G) K hp1 (gsa _ _) hk
                    rw [hx] at hts
                    simp only [gpO] at *
                    have c21 := hax; have c22 := h1; have c23 := h2; have c24 := h3; have c25 := ht2; have c26 := hmk; have c27 := hts; have us := an q0 (an hA (an hB (an qk hv)))
                    exact W53
                | true =>
                  rw [hb] at hA
                  cases hkd : decide ((tokAt L p1).s ∈ kindsL) with
                  | false =>
                    rw [hkd] at hB
                    rw [if_neg (by rw [child_2 hk0 hst hb hkd rfl rfl]; simp)] at hx
                    have hpr := fun G K hk => gPrim_A L hL hT hm hma (n + 1) id p1 e1 (H.set id (gpO L ((n + 1 : Nat) : Int) ⟨p1, e1⟩) ++ G) K hp1 (gsa _ _) hn30 hs hsa hk
                    rw [hx] at hpr
                    simp only [gpO] at *
                    have c21 := hax; have c22 := h1; have c23 := h2; have c24 := h3; have c25 := ht2; have c26 := hmk; have c27 := hpr; have us := an q0 (an hA (an hB qk))
                    exact W53
                  | true =>
                    rw [hkd] at hB
                    cases hb2 : mkAt L (p1 + 2) [41] with
                    | false =>
                      rw [hb2] at hA2
                      rw [if_neg (by rw [child_2 hk0 hst hb hkd hb2 rfl]; simp)] at hx
                      have hpr := fun G K hk => gPrim_A L hL hT hm hma (n + 1) id p1 e1 (H.set id (gpO L ((n + 1 : Nat) : Int) ⟨p1, e1⟩) ++ G) K hp1 (gsa _ _) hn30 hs hsa hk
                      rw [hx] at hpr
                      simp only [gpO] at *
                      have c21 := hax; have c22 := h1; have c23 := h2; have c24 := h3; have c25 := ht2; have c26 := hmk; have c27 := hpr; have us := an q0 (an hA (an hB (an qk hA2)))
                      exact W53
                    | true =>
                      rw [hb2] at hA2
                      cases hv : makesB L ⟨p1, e1⟩ with
                      | true =>
                        rw [if_neg (by rw [child_2 hk0 hst hb hkd hb2 hv]; simp)] at hx
                        have hpr := fun G K hk => gPrim_A L hL hT hm hma (n + 1) id p1 e1 (H.set id (gpO L ((n + 1 : Nat) : Int) ⟨p1, e1⟩) ++ G) K hp1 (gsa _ _) hn30 hs hsa hk
                        rw [hx] at hpr
                        simp only [gpO] at *
                        have c21 := hax; have c22 := h1; have c23 := h2; have c24 := h3; have c25 := ht2; have c26 := hmk; have c27 := hpr; have us := an q0 (an hA (an hB (an qk (an hA2 hv))))
                        exact W53
                      | false =>
                        rw [if_pos (by rw [child_2 hk0 hst hb hkd hb2 hv]; rfl)] at hx
                        have hts := fun G K hk => gTest_A L hL 1 (n + 1) id p1 e1 (H.set id (gpO L ((n + 1 : Nat) : Int) ⟨p1, e1⟩) ++ G) K hp1 (gsa _ _) hk
                        rw [hx] at hts
                        simp only [gpO] at *
                        have c21 := hax; have c22 := h1; have c23 := h2; have c24 := h3; have c25 := ht2; have c26 := hmk; have c27 := hts; have us := an q0 (an hA (an hB (an qk (an hA2 hv))))
                        exact W53
      · have qk : ((tokAt L p1).k = 1) = False := eq_false hk0
        rw [if_neg (fun h => hk0 h.1)] at hx
        have hax := fun G K hk => gAxis0_A L hL hT (n + 1) id p1 e1 (H.set id (gpO L ((n + 1 : Nat) : Int) ⟨p1, e1⟩) ++ G) K hp1 (gsa _ _) hk0 hk
        cases ha : isN L sAtS ⟨p1, e1⟩ with
        | true =>
          have hlt := isN_lt ha
          simp only [] at hlt
          rw [ha, if_pos rfl] at hx
          simp only [nxt] at hx
          rw [sAtS] at ha
          have h1 := fun G K hk => gHasT_A L hL id ((n + 1 : Nat) : Int) p1 e1 [64] ha (H.set id (gpO L ((n + 1 : Nat) : Int) ⟨p1, e1⟩) ++ G) K (gsa _ _) hk
          have hts := fun G K hk => gTest_A L hL 12 (n + 1) id (p1 + 1) e1 (H.set id (gpO L ((n + 1 : Nat) : Int) ⟨(p1 + 1), e1⟩) ++ G) K hlt (gsa _ _) hk
          rw [hx] at hts
          simp only [gpO] at *
          have c21 := hax; have c22 := h1; have c23 := hts; have us := an q0 (an hA (an hB qk))
          exact W53
        | false =>
          rw [ha, if_neg (by decide)] at hx
          rw [sAtS] at ha
          have h1 := fun G K hk => gHasF_A L hL id ((n + 1 : Nat) : Int) p1 hp1 e1 [64] ha (H.set id (gpO L ((n + 1 : Nat) : Int) ⟨p1, e1⟩) ++ G) K (gsa _ _) hk
          cases hd2 : isN L sDot2 ⟨p1, e1⟩ with
          | true =>
            have hlt := isN_lt hd2
            simp only [] at hlt
            rw [hd2, if_pos rfl] at hx
            simp only [nxt, Prod.mk.injEq, Ps.mk.injEq] at hx
            obtain ⟨rfl, rfl, rfl⟩ := hx
            rw [sDot2] at hd2
            have h2 := fun G K hk => gHasT_A L hL id ((n + 1 : Nat) : Int) p1 e1 [46, 46] hd2 (H.set id (gpO L ((n + 1 : Nat) : Int) ⟨p1, e1⟩) ++ G) K (gsa _ _) hk
            simp only [gpO] at *
            have c21 := hax; have c22 := h1; have c23 := h2; have us := an q0 (an hA (an hB qk))
            exact W53
          | false =>
            rw [hd2, if_neg (by decide)] at hx
            rw [sDot2] at hd2
            have h2 := fun G K hk => gHasF_A L hL id ((n + 1 : Nat) : Int) p1 hp1 e1 [46, 46] hd2 (H.set id (gpO L ((n + 1 : Nat) : Int) ⟨p1, e1⟩) ++ G) K (gsa _ _) hk
            cases hst : isN L sStar ⟨p1, e1⟩ with
            | true =>
              rw [if_pos (by unfold childB; rw [hst]; rfl)] at hx
              rw [sStar] at hst
              have h3 := fun G K hk => gIs_A L hL id ((n + 1 : Nat) : Int) ⟨p1, e1⟩ hp1 [42] (H.set id (gpO L ((n + 1 : Nat) : Int) ⟨p1, e1⟩) ++ G) K (gsa _ _) hk
              rw [hst] at h3
              have hts := fun G K hk => gTest_A L hL 1 (n + 1) id p1 e1 (H.set id (gpO L ((n + 1 : Nat) : Int) ⟨p1, e1⟩) ++ G) K hp1 (gsa _ _) hk
              rw [hx] at hts
              simp only [gpO] at *
              have c21 := hax; have c22 := h1; have c23 := h2; have c24 := h3; have c25 := hts; have us := an q0 (an hA (an hB qk))
              exact W53
            | false =>
              have h3 := fun G K hk => gIs_A L hL id ((n + 1 : Nat) : Int) ⟨p1, e1⟩ hp1 [42] (H.set id (gpO L ((n + 1 : Nat) : Int) ⟨p1, e1⟩) ++ G) K (gsa _ _) hk
              have hst' := hst
              rw [sStar] at hst'
              rw [hst'] at h3
              rw [if_neg (by rw [child_1 hk0 hst]; simp)] at hx
              have hpr := fun G K hk => gPrim_A L hL hT hm hma (n + 1) id p1 e1 (H.set id (gpO L ((n + 1 : Nat) : Int) ⟨p1, e1⟩) ++ G) K hp1 (gsa _ _) hn30 hs hsa hk
              rw [hx] at hpr
              simp only [gpO] at *
              have c21 := hax; have c22 := h1; have c23 := h2; have c24 := h3; have c25 := ht2; have c26 := hmk; have c27 := hpr; have us := an q0 (an hA (an hB qk))
              exact W53
  · have q0 : (e1 = 0) = False := eq_false he
    rw [if_pos he] at hk
    simp only [phV, phW, pSeq, pStep, pPath, pBin, pMinus, pRoot, pAll, pNil, ph0, mkh, mka, mkc, aD_nil, cD_nil, aD_cons, phD_1, List.map_cons, List.map_nil] at hk
    have hv := fun a G K hk => gLv (L := L) id (n := n) (by omega) gsa glk ssa p1 e1 a G K hk
    simp only [gpO] at *
    refine Wd ?_
    refine AWpF_seq ?_
    have us := q0
    (repeat' (first | with_reducible (first | refine And.intro ?_ ?_ | intro _ | (refine hKv _ _ (AWp_nop ?_); clear hKv Kv) | (refine hKA ?_; clear hKA hKB KA KB) | (refine hKB ?_; clear hKA hKB KA KB) | refine Wp ?_ | fail) | ((first | with_reducible (first | (refine hKv _ _ ?_; clear hKv Kv) | (refine Wr ?_; intro Kv hKv) | refine AWp_retR ?_ | fail) | refine Wc ?_ | fail); try simp (dsimp := false) only [go_sem, Nat.reduceAdd, Nat.reduceBEq, Nat.reduceEqDiff, Nat.reduceLT, Nat.reduceLeDiff, Nat.reduceMul, Int.reduceToNat, reduceCtorEq, ↓reduceIte, us, Bool.false_and, Bool.true_and, Int.reduceEq, Int.reduceLE, Int.reduceLT, Int.reduceNeg, List.length_set, List.map_cons, List.map_nil, cellP, ga, gl0, glk, gpO, gs, gsa, hid, not_false_eq_true, not_true_eq_false, phD_1, phV, phW, sa, sl0, slk, ss, ssa, ti_hb34, tkV]) | (refine AWp_condC rfl ?_; intro KA KB hKA hKB; try simp only [onB_true, onB_false, onB_dec, onB_ndec, onB_not, onB_and, onB_or]) | (refine AWp_condA rfl ?_ ?_) | with_reducible (first | refine onB_of ?_ ?_ | rfl) | omega))
    refine AWpF_deferC tmu (tks 1) (dfs3 _ _ _) ?_
    intro KD hKD
    simp (dsimp := false) only [go_sem, Nat.reduceAdd, Nat.reduceBEq, Nat.reduceEqDiff, Nat.reduceLT, Nat.reduceLeDiff, Nat.reduceMul, Int.reduceToNat, reduceCtorEq, ↓reduceIte, not_true_eq_false, not_false_eq_true, Bool.true_and, Bool.false_and, Int.reduceEq, Int.reduceLT, Int.reduceLE, Int.reduceNeg, List.map_cons, List.map_nil, List.length_set, hid, ga, sa, gs, ss, gsa, ssa, gl0, glk, sl0, slk, phV, phW, phD_1, tkV, gpO, ti_hb34, cellP, q0]
    have c21 := hd; have us := q0
    (repeat' (first | with_reducible (first | refine And.intro ?_ ?_ | intro _ | (refine hKv _ _ (AWp_nop ?_); clear hKv Kv) | (refine hKA ?_; clear hKA hKB KA KB) | (refine hKB ?_; clear hKA hKB KA KB) | refine Wp ?_ | fail) | ((first | with_reducible (first | (refine hKv _ _ ?_; clear hKv Kv) | (refine Wr ?_; intro Kv hKv) | refine AWp_retR ?_ | fail) | refine Wc ?_ | fail); try simp (dsimp := false) only [go_sem, Nat.reduceAdd, Nat.reduceBEq, Nat.reduceEqDiff, Nat.reduceLT, Nat.reduceLeDiff, Nat.reduceMul, Int.reduceToNat, reduceCtorEq, ↓reduceIte, us, Bool.false_and, Bool.true_and, Int.reduceEq, Int.reduceLE, Int.reduceLT, Int.reduceNeg, List.length_set, List.map_cons, List.map_nil, cellP, ga, gl0, glk, gpO, gs, gsa, hid, not_false_eq_true, not_true_eq_false, phD_1, phV, phW, sa, sl0, slk, ss, ssa, ti_hb34, tkV]) | (refine AWp_condC rfl ?_; intro KA KB hKA hKB; try simp only [onB_true, onB_false, onB_dec, onB_ndec, onB_not, onB_and, onB_or]) | (refine AWp_condA rfl ?_ ?_) | with_reducible (first | refine onB_of ?_ ?_ | rfl) | omega))
    refine hKD _ _ _ _ ?_
    clear hKD KD
    intro dd
    simp (dsimp := false) only [go_sem, Nat.reduceAdd, Nat.reduceBEq, Nat.reduceEqDiff, Nat.reduceLT, Nat.reduceLeDiff, Nat.reduceMul, Int.reduceToNat, reduceCtorEq, ↓reduceIte, not_true_eq_false, not_false_eq_true, Bool.true_and, Bool.false_and, Int.reduceEq, Int.reduceLT, Int.reduceLE, Int.reduceNeg, List.map_cons, List.map_nil, List.length_set, hid, ga, sa, gs, ss, gsa, ssa, gl0, glk, sl0, slk, phV, phW, phD_1, tkV, gpO, ti_hb34, cellP, q0]
    have c21 := ht0; have c22 := ht1; have c23 := hcn; have c31 := hv; have us := q0
    exact W50
end Go.Proofs.YtmhabdopcbokoaaDoor.Gq
