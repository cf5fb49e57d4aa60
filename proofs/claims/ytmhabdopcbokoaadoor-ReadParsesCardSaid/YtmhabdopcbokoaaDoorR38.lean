/- The grammar of queries: the reference: steps. No condition but that the tables of package unicode/utf8 are there. -/
import Derived.Test.YtmhabdopcbokoaaDoorR18
import Derived.Test.YtmhabdopcbokoaaDoorR36
import Derived.Test.YtmhabdopcbokoaaDoorR37
set_option linter.all false
set_option linter.unusedSimpArgs false
set_option linter.unusedVariables false
namespace Go.Proofs.YtmhabdopcbokoaaDoor.Gq
open Go Go.Proofs.YtmhabdopcbokoaaDoor.Ab
variable [Glo] [U8] [Mk] [Gx]
set_option maxHeartbeats 4000000
set_option maxRecDepth 20000
theorem halt_rg {P : Program} {m : Nat} {dfs : List Deferred} {H0 H : Heap} {Q : Exit → Ab.Frame → Heap → Prop} {F : Ab.Frame} {ops : Array Oper} {mx : Bool} {y : Code} (k : Nat) (h : Ab.Halt (AWp P m dfs H0 (.seq (.region k ops mx) y) Q F H)) : AWp P m dfs H0 (.seq (.region k ops mx) y) Q F H := h.go
theorem pk_mark {L : List Tk} (hT : TksG L) {i : Nat} {e : Int} (he : e = 0) {s : Bs} (hs : s ∈ ([[40], [41], [58, 58], [123]] : List Bs)) : decide (pkT L i e = s) = mkAt L i s := by
  have hne : ¬ ([] : Bs) = s := by rintro rfl; simp at hs
  unfold pkT mkAt isK
  by_cases h5 : (tokAt L i).k = 5
  · rw [decide_eq_true h5, if_pos ⟨he, rfl⟩]
    rfl
  · rw [decide_eq_false h5]
    by_cases h1 : (tokAt L i).k = 1
    · rw [decide_eq_true h1, if_pos ⟨he, rfl⟩, Bool.false_and]
      exact decide_eq_false fun h => (hT.at i).w h1 (h ▸ hs)
    · rw [decide_eq_false h1, if_neg (fun h => by cases h.2), Bool.false_and]
      exact decide_eq_false hne
def kfB (a c : Bs) : Bool := !decide (a = []) && (decide (a ∈ ([[], sNode, sText, sComment] : List Bs)) && decide (c = [41]))
theorem kf_eq {L : List Tk} (hT : TksG L) {p : Nat} {e : Int} (he : e = 0) (hk : (tokAt L p).k = 1) : kfB (pkT L p e) (pkT L (p + 2) e) = (decide ((tokAt L p).s ∈ kindsL) && mkAt L (p + 2) [41]) := by
  unfold kfB
  rw [pk_mark hT (i := p + 2) he (s := [41]) (by simp), ← Bool.and_assoc]
  have hp : pkT L p e = (tokAt L p).s := by unfold pkT; rw [if_pos ⟨he, by unfold isK; rw [decide_eq_true hk, Bool.or_true]⟩]
  rw [hp]
  congr 1
  by_cases h : (tokAt L p).s = []
  · rw [h]; rfl
  · rw [decide_eq_false h]
    simp [kindsL, h]
namespace FN70
def tks : Nat → List Nat | 0 => [0, 1, 4] | 1 => [0, 1, 4] | 2 => [0, 1, 4, 5] | 3 => [0, 1, 4, 5, 6, 7] | 4 => [0, 1, 4, 5, 6, 7, 8] | 5 => [0, 1, 4, 5, 6, 7, 8, 10] | 6 => [0, 1, 4, 5, 6, 7, 8, 12] | 7 => [0, 1, 4, 5] | 8 => [0, 1, 4, 5, 6, 7, 8, 12, 50] | 9 => [4] | 10 => [0, 1, 4, 5, 6, 7, 8, 12, 57] | 11 => [0, 1, 4, 5, 6, 13] | 12 => [0, 1, 4, 5, 6, 13, 14] | 13 => [0, 1, 4, 5, 6, 13, 14, 65] | 14 => [0, 1, 4, 5, 6, 13, 14] | 15 => [0, 1, 4, 5, 6, 13, 14, 73] | 16 => [0, 1, 4, 5, 6, 13, 14] | 17 => [0, 1, 4, 5, 13, 76] | 18 => [4, 5] | 19 => [4] | 20 => [0, 1, 4, 5, 13] | 21 => [0, 1, 4, 5] | 22 => [0, 1, 4, 5, 7, 8, 12, 91] | 23 => [0, 1, 4, 5] | 24 => [0, 1, 4, 5, 7, 8, 12, 96] | 25 => [0, 1, 4, 5] | 26 => [0, 1, 4, 5, 101] | 27 => [0, 1, 4, 5] | 28 => [0, 1, 4, 5, 124] | 29 => [4] | 30 => [0, 1, 4, 15] | 31 => [0, 1, 4, 15, 130] | 32 => [0, 1, 4, 15, 16] | 33 => [0, 1, 4, 15, 16] | 34 => [0, 1, 4, 15] | 35 => [4] | _ => []
def tmu : List Nat := [127]
def tin : List Nat := [0, 1]
abbrev tfn := @Tryd.func70
end FN70
attribute [go_sem] FN70.tks FN70.tmu FN70.tin Tryd.ntmps70 Tryd.results70
open FN70 in
theorem rPace_A (L : List Tk) (hL : L.length ≤ 200) (hT : TksG L) {ex al : Ps → PR} (hm : Mo L ex) (hma : Mo L al) (n id : Nat) (hn : n ≤ 100) (hs : n ≤ 30 → GRt L 11 ex (n + 1) id True) (hf : n ≤ 30 → GRt L 81 (firstF L ex al) n id True) : GRt L 70 (paceF L pNil ex (firstF L ex al) (n : Int)) n id True := by
  intro p e H K hp _ hr hk
  have hid := lt_of_get hr
  obtain ⟨ga, sa, gs, ss, gsa, ssa, gl0, glk, sl0, slk⟩ := atH hr
  have hlv := fun G K hk => rLevel_A L id p e (n : Int) (H ++ G) K (ga G) hk
  have hl := Le_lev (L := L) (n : Int) (st := ⟨p, e⟩) hp
  have hgl := lev_g (n := (n : Int)) (st := ⟨p, e⟩)
  rw [paceF] at hk
  try simp only [] at hk
  generalize levP (n : Int) ⟨p, e⟩ = s1 at hlv hl hk hgl
  obtain ⟨p1, e1⟩ := s1
  have hp1 := hl.hi
  try simp only [] at hp1 hgl
  have ht0 := fun G K hk => rPeek_A L hL id p1 e1 hp1 0 (by omega) (H.set id (grO L ⟨p1, e1⟩) ++ G) K (gsa _ _) hk
  have ht1 := fun G K hk => rPeek_A L hL id p1 e1 hp1 1 (by omega) (H.set id (grO L ⟨p1, e1⟩) ++ G) K (gsa _ _) hk
  have ht2 := fun G K hk => rPeek_A L hL id p1 e1 hp1 2 (by omega) (H.set id (grO L ⟨p1, e1⟩) ++ G) K (gsa _ _) hk
  rw [Nat.add_zero] at ht0
  have hkn := fun G K hk => rKinds_A G K hk
  by_cases he : e1 = 0
  · have q0 : (e1 = 0) = True := eq_true he
    have hn30 : n ≤ 30 := by have := hgl he; omega
    have hs := hs hn30
    have hf := hf hn30
    rw [if_neg (fun h => h he)] at hk
    have hlst := Le_step (L := L) (st := ⟨p1, e1⟩) (J := pNil) (Mo_first hm hma) hp1 he
    obtain ⟨x, p3, e3, hx⟩ : ∃ x p' e', stepF L pNil (firstF L ex al) ⟨p1, e1⟩ = (x, ⟨p', e'⟩) := ⟨_, _, _, rfl⟩
    rw [hx] at hk hlst
    have hp3 := hlst.hi
    simp only [] at hp3
    have hkf : (tokAt L p1).k = 1 → kfB (pkT L p1 e1) (pkT L (p1 + 2) e1) = (decide ((tokAt L p1).s ∈ kindsL) && mkAt L (p1 + 2) [41]) := fun h => kf_eq hT he h
    have hb1 := pk_mark hT (i := p1 + 1) he (s := [58, 58]) (by simp)
    have hb2 := pk_mark hT (i := p1 + 1) he (s := [40]) (by simp)
    have hk1 : pkK L p1 e1 = (tokAt L p1).k := by unfold pkK; rw [if_pos he]
    have ha1 : (tokAt L p1).k = 1 → pkT L p1 e1 = (tokAt L p1).s := fun h => by unfold pkT; rw [if_pos ⟨he, by unfold isK; rw [decide_eq_true h, Bool.or_true]⟩]
    rw [hk1] at ht0
    generalize pkT L p1 e1 = a at hkf ht0 ha1
    generalize pkT L (p1 + 1) e1 = bt at hb1 hb2 ht1
    generalize pkT L (p1 + 2) e1 = c at hkf ht2
    have hcn := fun H K hk => contains_T [[], sNode, sText, sComment] a H K (by decide) hk
    obtain ⟨kf, hkq⟩ : ∃ kf, kf = kfB a c := ⟨_, rfl⟩
    rw [← hkq] at hkf
    unfold kfB at hkq
    generalize decide (a ∈ ([[], sNode, sText, sComment] : List Bs)) = md at hkq hcn
    simp only [List.map_cons, List.map_nil, strRow, sNode, sText, sComment] at hcn
    simp only [grO] at hlv ht0 ht1 ht2
    refine We ?_
    repeat' (first | (refine halt_rg 6 ?_) | with_reducible (first | refine And.intro ?_ ?_ | intro _ | refine AWp_seq ?_ | refine AWp_block ?_ | (refine hKv _ _ (AWp_nop ?_); clear hKv Kv) | (refine hKA ?_; clear hKA hKB KA KB) | (refine hKB ?_; clear hKA hKB KA KB) | refine AWp_skipN ?_ | refine AWp_exitO (by repeat (first | exact Out.hit | apply Out.thenA | apply Out.out rfl)) ?_) | ((first | with_reducible (first | (refine hKv _ _ ?_; clear hKv Kv) | ((first | refine AWp_regC tmu tks ?_ | refine AWp_regE tmu tks ?_); intro Kv hKv) | refine AWp_retR ?_) | refine hlv _ _ ?_ | refine ht0 _ _ ?_ | refine ht1 _ _ ?_ | refine ht2 _ _ ?_); try simp (dsimp := false) only [go_sem, Nat.reduceAdd, Nat.reduceBEq, Nat.reduceEqDiff, Nat.reduceLT, Nat.reduceLeDiff, Nat.reduceMul, Int.reduceToNat, reduceCtorEq, ↓reduceIte, not_true_eq_false, not_false_eq_true, Bool.true_and, Bool.false_and, Int.reduceEq, Int.reduceLT, Int.reduceLE, Int.reduceNeg, List.map_cons, List.map_nil, List.length_set, hid, ga, sa, gs, ss, gsa, ssa, gl0, glk, sl0, slk, phV, phW, phD_1, tkV, grO, pC1]) | (refine AWp_condC rfl ?_; intro KA KB hKA hKB; try simp only [onB_true, onB_false, onB_dec, onB_ndec, onB_not, onB_and, onB_or]) | (refine AWp_condA rfl ?_ ?_) | with_reducible (first | refine onB_of ?_ ?_ | rfl) | omega)
    refine AWp_cutG (ι := Unit) (fun _ => True) (fun _ => [(0, .pt id 0 0 0), (1, .d (.i .i64 (n : Int))), (4, .pt H.length 0 0 0), (5, .pt (H.length + 1) 0 0 0), (6, .d (.s a)), (7, .d (.i .i64 (tokAt L p1).k)), (8, .d (.s bt)), (12, .d (.b kf))]) (fun _ => H.set id (grO L ⟨p1, e1⟩) ++ [.row 0 30 11 [[.d (.i .i64 0), .d (.i .i64 0), .d (.i .i64 0), .d (.s []), .d (.s []), .d (.i .i64 0), .d (.i .i64 0), .d (.i .i64 0), .d (.s []), .d (.c (.slice none 0 0)), .d (.c (.slice none 0 0))]], .row 0 30 11 [[.d (.i .i64 0), .d (.i .i64 0), .d (.i .i64 0), .d (.s []), .d (.s []), .d (.i .i64 0), .d (.i .i64 0), .d (.i .i64 0), .d (.s []), .d (.c (.slice none 0 0)), .d (.c (.slice none 0 0))]]]) (fun _ _ => by simp) (fun _ _ => closed_sa hid (gr_bel _ _ _ _) (by
      simp only [List.forall_mem_cons, List.length_cons, List.length_nil]
      exact ⟨oB1 (by simp [Bel_d]), oB1 (by simp [Bel_d]), by simp⟩)) ?_ ?_
    · rintro ⟨⟩ _
      refine halt_block 0 ?_
      refine AWp_cutG (ι := Unit) (fun _ => True) (fun _ => [(0, .pt id 0 0 0), (1, .d (.i .i64 (n : Int))), (4, .pt H.length 0 0 0), (5, .pt (H.length + 1) 0 0 0)]) (fun _ => H.set id (grO L ⟨p3, e3⟩) ++ [.row 0 30 11 [[.d (.i .i64 0), .d (.i .i64 0), .d (.i .i64 0), .d (.s []), .d (.s []), .d (.i .i64 0), .d (.i .i64 0), .d (.i .i64 0), .d (.s []), .d (.c (.slice none 0 0)), .d (.c (.slice none 0 0))]], .row 0 30 11 [phC x]]) (fun _ _ => by simp) (fun _ _ => closed_sa hid (gr_bel _ _ _ _) (by
        simp only [List.forall_mem_cons, List.length_cons, List.length_nil]
        exact ⟨oB1 (by simp [Bel_d]), oB1 (by simp [phC_1, Bel_d]), by simp⟩)) ?_ ?_
      · rintro ⟨⟩ _
        rw [filtF] at hk
        simp only [] at hk
        have hi := fun G K hk => rNext_A L hL id p3 e3 hp3 [91] (by decide) (H.set id (grO L ⟨p3, e3⟩) ++ G) K (gsa _ _) hk
        cases hc : isN L sOpenB ⟨p3, e3⟩ with
        | false =>
          rw [hc, if_neg (by decide)] at hk
          rw [sOpenB] at hc
          rw [hc] at hi
          simp only [grO, phC_1] at *
          have c21 := hi; have us := eq_self (0 : Nat)
          exact W39
        | true =>
          rw [hc, if_pos rfl] at hk
          rw [sOpenB] at hc
          rw [hc] at hi
          have hm8 : Mo L fun st => ((ex st).1, mustP L sCloseB (ex st).2) := fun st h => (hm st h).trans (Le_must (hm st h).hi)
          rw [sOpenB] at hk
          simp only [grO] at hi
          simp only [grO, phC_1]
          have c21 := hi; have us := eq_self (0 : Nat)
          (repeat' (first | with_reducible (first | refine And.intro ?_ ?_ | intro _ | (refine hKv _ _ (AWp_nop ?_); clear hKv Kv) | (refine hKA ?_; clear hKA hKB KA KB) | (refine hKB ?_; clear hKA hKB KA KB) | refine Wp ?_ | fail) | ((first | with_reducible (first | (refine hKv _ _ ?_; clear hKv Kv) | (refine Wr ?_; intro Kv hKv) | refine AWp_retR ?_ | fail) | refine Wc ?_ | fail); try simp (dsimp := false) only [go_sem, Nat.reduceAdd, Nat.reduceBEq, Nat.reduceEqDiff, Nat.reduceLT, Nat.reduceLeDiff, Nat.reduceMul, Int.reduceToNat, reduceCtorEq, ↓reduceIte, us, Bool.false_and, Bool.true_and, Int.reduceEq, Int.reduceLE, Int.reduceLT, Int.reduceNeg, List.length_set, List.map_cons, List.map_nil, ga, gl0, glk, grO, gs, gsa, hid, not_false_eq_true, not_true_eq_false, pC1, phC_1, phD_1, phV, phW, sa, sl0, slk, ss, ssa, tkV]) | (refine AWp_condC rfl ?_; intro KA KB hKA hKB; try simp only [onB_true, onB_false, onB_dec, onB_ndec, onB_not, onB_and, onB_or]) | (refine AWp_condA rfl ?_ ?_) | with_reducible (first | refine onB_of ?_ ?_ | rfl) | omega))
          all_goals first
            | omega
            | skip
          have hq0 : GlOk L [91] (fun st => ((ex st).1, mustP L sCloseB (ex st).2)) (moreP L [91] (fun st => ((ex st).1, mustP L sCloseB (ex st).2)) (L.length + 1) [x] ⟨p3, e3⟩) ⟨[x], p3, e3, 0⟩ := ⟨⟨L.length + 1, by simp only []; omega, rfl⟩, hp3, by simp, by simp⟩
          generalize moreP L [91] (fun st => ((ex st).1, mustP L sCloseB (ex st).2)) (L.length + 1) [x] ⟨p3, e3⟩ = q at hq0 hk
          refine AWp_whileG (GlOk L [91] (fun st => ((ex st).1, mustP L sCloseB (ex st).2)) q) (fun y => [(0, .pt id 0 0 0), (1, .d (.i .i64 (n : Int))), (4, .pt H.length 0 0 0), (15, .pt (H.length + 3) 0 0 0)])
            (fun y => H.set id (grO L ⟨y.p, y.e⟩) ++ [.row 0 30 11 [[.d (.i .i64 0), .d (.i .i64 0), .d (.i .i64 0), .d (.s []), .d (.s []), .d (.i .i64 0), .d (.i .i64 0), .d (.i .i64 0), .d (.s []), .d (.c (.slice none 0 0)), .d (.c (.slice none 0 0))]], .row 0 30 11 [phC x], .row y.v 30 11 (y.l.map phC), .row 0 30 11 [[.d (.i .i64 22), .d (.i .i64 0), .d (.i .i64 0), .d (.s []), .d (.s []), .d (.i .i64 0), .d (.i .i64 0), .d (.i .i64 0), .d (.s []), .os (H.length + 2) y.v, .d (.c (.slice none 0 0))]]])
            (fun y => L.length - y.p) ⟨[x], p3, e3, 0⟩ hq0 ⟨[], ?_⟩ ?_ ?_ ?_ ?_
          · simp [grO, phC_1]
          · simp (dsimp := false) only [go_sem, Nat.reduceAdd, Nat.reduceBEq, Nat.reduceEqDiff, Nat.reduceLT, Nat.reduceLeDiff, Nat.reduceMul, Int.reduceToNat, reduceCtorEq, ↓reduceIte, not_true_eq_false, not_false_eq_true, Bool.true_and, Bool.false_and, Int.reduceEq, Int.reduceLT, Int.reduceLE, Int.reduceNeg, List.map_cons, List.map_nil, List.length_set, hid, ga, sa, gs, ss, gsa, ssa, gl0, glk, sl0, slk, phV, phW, phD_1, tkV, grO, pC1, phC_1]
            simp
            try omega
          · intro y hy; simp
          · intro y hy
            refine closed_sa hid (gr_bel _ _ _ _) ?_
            simp only [List.forall_mem_cons, List.length_cons, List.length_nil]
            refine ⟨oB1 (by simp [Bel_d]), oB1 (by simp [phC_1, Bel_d]), oBp _, oB1 (by simp [Bel_d, Bel_os]), by simp⟩
          rintro ⟨l, p8, e8, v⟩ hy
          have hp8 := hy.p
          have hl8 := hy.l
          simp only [] at hp8 hl8 ⊢
          cases hc8 : isN L [91] ⟨p8, e8⟩ with
          | false =>
            have hh8 := fun G K hk => rPassF_A L hL id p8 hp8 e8 [91] (by decide) hc8 (H.set id (grO L ⟨p8, e8⟩) ++ G) K (gsa _ _) hk
            rw [hy.stop hc8] at hk
            simp only [phV, phW, ph0, mkh, mka, mkc, aD_ne hy.ne, cD_nil] at hk
            simp only [grO] at *
            have c21 := hh8; have us := eq_self (0 : Nat)
            exact W54
          | true =>
            have hh8 := fun G K hk => rPassT_A L hL id p8 e8 [91] (by decide) hc8 (H.set id (grO L ⟨p8, e8⟩) ++ G) K (gsa _ _) hk
            have hlt := isN_lt hc8
            simp only [] at hlt
            have hst := fun {x p e} hx v => hy.step hm8 hc8 (x := x) (p := p) (e := e) hx v
            simp only [] at hst
            obtain ⟨x9, p9, e9, h9, hp9⟩ := fR_N hm (Nat.succ_le_of_lt hlt) (e := e8)
            have hs9 := fun G K hk => hs (p8 + 1) e8 (H.set id (grO L ⟨(p8 + 1), e8⟩) ++ G) K hlt (fun _ => trivial) (gsa _ _) hk
            rw [h9] at hs9
            have hmu := fun G K hk => rNeed_A L hL id p9 hp9 e9 [93] (by decide) (H.set id (grO L ⟨p9, e9⟩) ++ G) K (gsa _ _) hk
            obtain ⟨p7, e7, h7, hp7⟩ := mP_N (L := L) (p := p9) (e := e9) (s := [93]) hp9
            rw [h7] at hmu
            have hst := fun v => hst (x := x9) (p := p7) (e := e7) (by rw [h9]; simp only [sCloseB]; rw [h7]) v
            simp only [grO] at *
            have c21 := hh8; have c22 := hs9; have c23 := hmu; have us := eq_self (0 : Nat)
            (repeat' (first | with_reducible (first | refine And.intro ?_ ?_ | intro _ | (refine hKv _ _ (AWp_nop ?_); clear hKv Kv) | (refine hKA ?_; clear hKA hKB KA KB) | (refine hKB ?_; clear hKA hKB KA KB) | refine Wp ?_ | fail) | ((first | with_reducible (first | (refine hKv _ _ ?_; clear hKv Kv) | (refine Wr ?_; intro Kv hKv) | refine AWp_retR ?_ | fail) | refine Wc ?_ | fail); try simp (dsimp := false) only [go_sem, Nat.reduceAdd, Nat.reduceBEq, Nat.reduceEqDiff, Nat.reduceLT, Nat.reduceLeDiff, Nat.reduceMul, Int.reduceToNat, reduceCtorEq, ↓reduceIte, us, Bool.false_and, Bool.true_and, Int.reduceEq, Int.reduceLE, Int.reduceLT, Int.reduceNeg, List.length_set, List.map_cons, List.map_nil, ga, gl0, glk, grO, gs, gsa, hid, not_false_eq_true, not_true_eq_false, pC1, phC_1, phD_1, phV, phW, sa, sl0, slk, ss, ssa, tkV]) | (refine AWp_condC rfl ?_; intro KA KB hKA hKB; try simp only [onB_true, onB_false, onB_dec, onB_ndec, onB_not, onB_and, onB_or]) | (refine AWp_condA rfl ?_ ?_) | with_reducible (first | refine onB_of ?_ ?_ | rfl) | omega))
            all_goals first
              | omega
              | skip
            have h5 := (hst (v + 1)).2
            try simp only [] at h5 hlt
            refine ⟨⟨l ++ [x9], p7, e7, v + 1⟩, _, (hst (v + 1)).1, by simp only []; omega, by simp [phC_1]; rfl, ?_⟩
            try (simp (dsimp := false) only [go_sem, Nat.reduceAdd, Nat.reduceBEq, Nat.reduceEqDiff, Nat.reduceLT, Nat.reduceLeDiff, Nat.reduceMul, Int.reduceToNat, reduceCtorEq, ↓reduceIte, not_true_eq_false, not_false_eq_true, Bool.true_and, Bool.false_and, Int.reduceEq, Int.reduceLT, Int.reduceLE, Int.reduceNeg, List.map_cons, List.map_nil, List.length_set, hid, ga, sa, gs, ss, gsa, ssa, gl0, glk, sl0, slk, phV, phW, phD_1, tkV, grO, pC1, phC_1])
            all_goals try simp
            all_goals try omega
      · rw [stepF] at hx
        have hmk := fun G K hk => rBuilds_A L hL id p1 e1 hp1 (H.set id (grO L ⟨p1, e1⟩) ++ G) K (gsa _ _) hk
        rw [decide_eq_true he, Bool.true_and] at hmk
        by_cases hk0 : (tokAt L p1).k = 1
        · have qk : ((tokAt L p1).k = 1) = True := eq_true hk0
          have ha1 := ha1 hk0
          have hkf := hkf hk0
          cases hm0 : mkAt L (p1 + 1) sColon2 with
          | true =>
            rw [if_pos ⟨hk0, hm0⟩] at hx
            have hlt2 := tokAt_lt (mkAt_k hm0)
            have qb : (bt = [58, 58]) = True := eq_true (of_decide_eq_true (hb1.trans hm0))
            have hax := fun G K hk => rAxes_A G K hk
            have hAl : (([] :: axesL).map strRow).length = 13 := rfl
            have hAg : ∀ j, j < 12 → (([] :: axesL).map strRow)[j + 1]? = some [.s (axesL.getD j [])] := fun j hj => by
              rw [List.getElem?_map, List.getElem?_cons_succ, axesL_at hj]; rfl
            generalize ([] :: axesL).map strRow = AX at hax hAl hAg
            rw [← ha1] at hx
            by_cases hix : idx1 axesL a = 0
            · rw [if_pos hix, wrongP, if_pos he] at hx
              simp only [Prod.mk.injEq, Ps.mk.injEq] at hx
              obtain ⟨rfl, rfl, rfl⟩ := hx
              have hha := fun G K hk => rHalt_A L id ⟨p1, e1⟩ 6 (H.set id (grO L ⟨p1, e1⟩) ++ G) K (gsa _ _) hk
              rw [wrongP, if_pos he] at hha
              rw [filtF] at hk
              simp only [] at hk
              rw [isN_F (show (6 : Int) ≠ 0 by decide), if_neg (by decide)] at hk
              simp only [phV, phW, pSeq, pStep, pPath, pBin, pMinus, pRoot, pAll, pNil, ph0, mkh, mka, mkc, aD_nil, cD_nil, aD_cons, phD_1, List.map_cons, List.map_nil] at hk
              simp only [grO] at *
              have us := an q0 (an qk qb)
              refine W46 ?_
              all_goals first
                | omega
                | skip
              refine AWp_whileG (fun j : Nat => j ≤ 12) (fun j => [(0, .pt id 0 0 0), (1, .d (.i .i64 (n : Int))), (4, .pt H.length 0 0 0), (5, .pt (H.length + 1) 0 0 0), (6, .d (.s a)), (13, .d (.i .i64 (lastAt axesL a j))), (14, .d (.i .i64 ((j : Int) + 1)))])
                (fun _ => H.set id (grO L ⟨p1, e1⟩) ++ [.row 0 30 11 [[.d (.i .i64 0), .d (.i .i64 0), .d (.i .i64 0), .d (.s []), .d (.s []), .d (.i .i64 0), .d (.i .i64 0), .d (.i .i64 0), .d (.s []), .d (.c (.slice none 0 0)), .d (.c (.slice none 0 0))]], .row 0 30 11 [[.d (.i .i64 0), .d (.i .i64 0), .d (.i .i64 0), .d (.s []), .d (.s []), .d (.i .i64 0), .d (.i .i64 0), .d (.i .i64 0), .d (.s []), .d (.c (.slice none 0 0)), .d (.c (.slice none 0 0))]]])
                (fun j => 13 - j) 0 (by omega) ⟨[], ?_⟩ ?_ ?_ ?_ ?_
              · simp [grO]
              · simp (dsimp := false) only [go_sem, Nat.reduceAdd, Nat.reduceBEq, Nat.reduceEqDiff, Nat.reduceLT, Nat.reduceLeDiff, Nat.reduceMul, Int.reduceToNat, reduceCtorEq, ↓reduceIte, not_true_eq_false, not_false_eq_true, Bool.true_and, Bool.false_and, Int.reduceEq, Int.reduceLT, Int.reduceLE, Int.reduceNeg, List.map_cons, List.map_nil, List.length_set, hid, ga, sa, gs, ss, gsa, ssa, gl0, glk, sl0, slk, phV, phW, phD_1, tkV, grO, pC1, q0, qk, qb]
                simp [lastAt]
                try omega
              · intro y hy; simp
              · intro y hy
                refine closed_sa hid (gr_bel _ _ _ _) ?_
                simp only [List.forall_mem_cons, List.length_cons, List.length_nil]
                refine ⟨oB1 (by simp [Bel_d]), oB1 (by simp [Bel_d]), by simp⟩
              rintro j hj
              by_cases hj2 : j < 12
              · have g1 : ((j : Int) + 1 ≤ 12) = True := eq_true (by omega)
                have g2 : ((0 : Int) ≤ (j : Int) + 1) = True := eq_true (by omega)
                have g3 : ((j : Int) + 1 < 13) = True := eq_true (by omega)
                have g4 : ((j : Int) + 1).toNat = j + 1 := by omega
                have hw := hAg j hj2
                have hla := lastAt_at (axesL_at hj2) a
                generalize axesL.getD j [] = w at hw hla
                have hla2 : lastAt axesL a (j + 1) = if w = a then ((j + 1 : Nat) : Int) else lastAt axesL a j := hla
                by_cases hwa : w = a
                · have g5 : (w = a) = True := eq_true hwa
                  rw [if_pos hwa] at hla2
                  simp only [grO] at *
                  have c21 := hax; have us := an q0 (an qk (an g1 (an g2 (an g3 (an g4 (an g5 (an hw hAl)))))))
                  (repeat' (first | with_reducible (first | refine And.intro ?_ ?_ | intro _ | (refine hKv _ _ (AWp_nop ?_); clear hKv Kv) | (refine hKA ?_; clear hKA hKB KA KB) | (refine hKB ?_; clear hKA hKB KA KB) | refine Wp ?_ | fail) | ((first | with_reducible (first | (refine hKv _ _ ?_; clear hKv Kv) | (refine Wr ?_; intro Kv hKv) | refine AWp_retR ?_ | fail) | refine Wc ?_ | fail); try simp (dsimp := false) only [go_sem, Nat.reduceAdd, Nat.reduceBEq, Nat.reduceEqDiff, Nat.reduceLT, Nat.reduceLeDiff, Nat.reduceMul, Int.reduceToNat, reduceCtorEq, ↓reduceIte, us, Bool.false_and, Bool.true_and, Int.reduceEq, Int.reduceLE, Int.reduceLT, Int.reduceNeg, List.length_set, List.map_cons, List.map_nil, ga, gl0, glk, grO, gs, gsa, hid, not_false_eq_true, not_true_eq_false, pC1, phD_1, phV, phW, sa, sl0, slk, ss, ssa, tkV]) | (refine AWp_condC rfl ?_; intro KA KB hKA hKB; try simp only [onB_true, onB_false, onB_dec, onB_ndec, onB_not, onB_and, onB_or]) | (refine AWp_condA rfl ?_ ?_) | with_reducible (first | refine onB_of ?_ ?_ | rfl) | omega))
                  all_goals first
                    | omega
                    | skip
                  refine ⟨j + 1, [], by omega, by omega, by simp, ?_⟩
                  rw [hla2]
                  try (simp (dsimp := false) only [go_sem, Nat.reduceAdd, Nat.reduceBEq, Nat.reduceEqDiff, Nat.reduceLT, Nat.reduceLeDiff, Nat.reduceMul, Int.reduceToNat, reduceCtorEq, ↓reduceIte, not_true_eq_false, not_false_eq_true, Bool.true_and, Bool.false_and, Int.reduceEq, Int.reduceLT, Int.reduceLE, Int.reduceNeg, List.map_cons, List.map_nil, List.length_set, hid, ga, sa, gs, ss, gsa, ssa, gl0, glk, sl0, slk, phV, phW, phD_1, tkV, grO, pC1, q0, qk, g1, g2, g3, g4, g5, hw, hAl])
                  all_goals try simp
                  all_goals try omega
                · have g5 : (w = a) = False := eq_false hwa
                  rw [if_neg hwa] at hla2
                  simp only [grO] at *
                  have c21 := hax; have us := an q0 (an qk (an g1 (an g2 (an g3 (an g4 (an g5 (an hw hAl)))))))
                  (repeat' (first | with_reducible (first | refine And.intro ?_ ?_ | intro _ | (refine hKv _ _ (AWp_nop ?_); clear hKv Kv) | (refine hKA ?_; clear hKA hKB KA KB) | (refine hKB ?_; clear hKA hKB KA KB) | refine Wp ?_ | fail) | ((first | with_reducible (first | (refine hKv _ _ ?_; clear hKv Kv) | (refine Wr ?_; intro Kv hKv) | refine AWp_retR ?_ | fail) | refine Wc ?_ | fail); try simp (dsimp := false) only [go_sem, Nat.reduceAdd, Nat.reduceBEq, Nat.reduceEqDiff, Nat.reduceLT, Nat.reduceLeDiff, Nat.reduceMul, Int.reduceToNat, reduceCtorEq, ↓reduceIte, us, Bool.false_and, Bool.true_and, Int.reduceEq, Int.reduceLE, Int.reduceLT, Int.reduceNeg, List.length_set, List.map_cons, List.map_nil, ga, gl0, glk, grO, gs, gsa, hid, not_false_eq_true, not_true_eq_false, pC1, phD_1, phV, phW, sa, sl0, slk, ss, ssa, tkV]) | (refine AWp_condC rfl ?_; intro KA KB hKA hKB; try simp only [onB_true, onB_false, onB_dec, onB_ndec, onB_not, onB_and, onB_or]) | (refine AWp_condA rfl ?_ ?_) | with_reducible (first | refine onB_of ?_ ?_ | rfl) | omega))
                  all_goals first
                    | omega
                    | skip
                  refine ⟨j + 1, [], by omega, by omega, by simp, ?_⟩
                  rw [hla2]
                  try (simp (dsimp := false) only [go_sem, Nat.reduceAdd, Nat.reduceBEq, Nat.reduceEqDiff, Nat.reduceLT, Nat.reduceLeDiff, Nat.reduceMul, Int.reduceToNat, reduceCtorEq, ↓reduceIte, not_true_eq_false, not_false_eq_true, Bool.true_and, Bool.false_and, Int.reduceEq, Int.reduceLT, Int.reduceLE, Int.reduceNeg, List.map_cons, List.map_nil, List.length_set, hid, ga, sa, gs, ss, gsa, ssa, gl0, glk, sl0, slk, phV, phW, phD_1, tkV, grO, pC1, q0, qk, g1, g2, g3, g4, g5, hw, hAl])
                  all_goals try simp
                  all_goals try omega
              · obtain rfl : j = 12 := by omega
                have zk : ((12 : Nat) : Int) = 12 := rfl
                have zl := lastAt_axes a
                rw [hix] at zl
                simp only [grO, zk, zl] at *
                have c21 := hha; have us := an q0 (an qk qb)
                exact W42
            · rw [if_neg hix] at hx
              have hp2 : p1 + 2 ≤ L.length := hlt2
              have qi : (idx1 axesL a = 0) = False := eq_false hix
              have hx : testF L (idx1 axesL a) ⟨p1 + 2, e1⟩ = (x, ⟨p3, e3⟩) := hx
              have hts := fun G K hk => rTest_A L hL (idx1 axesL a) id (p1 + 2) e1 (H.set id (grO L ⟨(p1 + 2), e1⟩) ++ G) K hp2 (gsa _ _) hk
              rw [hx] at hts
              simp only [grO] at *
              have us := an q0 (an qk qb)
              refine W46 ?_
              all_goals first
                | omega
                | skip
              refine AWp_whileG (fun j : Nat => j ≤ 12) (fun j => [(0, .pt id 0 0 0), (1, .d (.i .i64 (n : Int))), (4, .pt H.length 0 0 0), (5, .pt (H.length + 1) 0 0 0), (6, .d (.s a)), (13, .d (.i .i64 (lastAt axesL a j))), (14, .d (.i .i64 ((j : Int) + 1)))])
                (fun _ => H.set id (grO L ⟨p1, e1⟩) ++ [.row 0 30 11 [[.d (.i .i64 0), .d (.i .i64 0), .d (.i .i64 0), .d (.s []), .d (.s []), .d (.i .i64 0), .d (.i .i64 0), .d (.i .i64 0), .d (.s []), .d (.c (.slice none 0 0)), .d (.c (.slice none 0 0))]], .row 0 30 11 [[.d (.i .i64 0), .d (.i .i64 0), .d (.i .i64 0), .d (.s []), .d (.s []), .d (.i .i64 0), .d (.i .i64 0), .d (.i .i64 0), .d (.s []), .d (.c (.slice none 0 0)), .d (.c (.slice none 0 0))]]])
                (fun j => 13 - j) 0 (by omega) ⟨[], ?_⟩ ?_ ?_ ?_ ?_
              · simp [grO]
              · simp (dsimp := false) only [go_sem, Nat.reduceAdd, Nat.reduceBEq, Nat.reduceEqDiff, Nat.reduceLT, Nat.reduceLeDiff, Nat.reduceMul, Int.reduceToNat, reduceCtorEq, ↓reduceIte, not_true_eq_false, not_false_eq_true, Bool.true_and, Bool.false_and, Int.reduceEq, Int.reduceLT, Int.reduceLE, Int.reduceNeg, List.map_cons, List.map_nil, List.length_set, hid, ga, sa, gs, ss, gsa, ssa, gl0, glk, sl0, slk, phV, phW, phD_1, tkV, grO, pC1, q0, qk, qb]
                simp [lastAt]
                try omega
              · intro y hy; simp
              · intro y hy
                refine closed_sa hid (gr_bel _ _ _ _) ?_
                simp only [List.forall_mem_cons, List.length_cons, List.length_nil]
                refine ⟨oB1 (by simp [Bel_d]), oB1 (by simp [Bel_d]), by simp⟩
              rintro j hj
              by_cases hj2 : j < 12
              · have g1 : ((j : Int) + 1 ≤ 12) = True := eq_true (by omega)
                have g2 : ((0 : Int) ≤ (j : Int) + 1) = True := eq_true (by omega)
                have g3 : ((j : Int) + 1 < 13) = True := eq_true (by omega)
                have g4 : ((j : Int) + 1).toNat = j + 1 := by omega
                have hw := hAg j hj2
                have hla := lastAt_at (axesL_at hj2) a
                generalize axesL.getD j [] = w at hw hla
                have hla2 : lastAt axesL a (j + 1) = if w = a then ((j + 1 : Nat) : Int) else lastAt axesL a j := hla
                by_cases hwa : w = a
                · have g5 : (w = a) = True := eq_true hwa
                  rw [if_pos hwa] at hla2
                  simp only [grO] at *
                  have c21 := hax; have us := an q0 (an qk (an g1 (an g2 (an g3 (an g4 (an g5 (an hw hAl)))))))
                  (repeat' (first | with_reducible (first | refine And.intro ?_ ?_ | intro _ | (refine hKv _ _ (AWp_nop ?_); clear hKv Kv) | (refine hKA ?_; clear hKA hKB KA KB) | (refine hKB ?_; clear hKA hKB KA KB) | refine Wp ?_ | fail) | ((first | with_reducible (first | (refine hKv _ _ ?_; clear hKv Kv) | (refine Wr ?_; intro Kv hKv) | refine AWp_retR ?_ | fail) | refine Wc ?_ | fail); try simp (dsimp := false) only [go_sem, Nat.reduceAdd, Nat.reduceBEq, Nat.reduceEqDiff, Nat.reduceLT, Nat.reduceLeDiff, Nat.reduceMul, Int.reduceToNat, reduceCtorEq, ↓reduceIte, us, Bool.false_and, Bool.true_and, Int.reduceEq, Int.reduceLE, Int.reduceLT, Int.reduceNeg, List.length_set, List.map_cons, List.map_nil, ga, gl0, glk, grO, gs, gsa, hid, not_false_eq_true, not_true_eq_false, pC1, phD_1, phV, phW, sa, sl0, slk, ss, ssa, tkV]) | (refine AWp_condC rfl ?_; intro KA KB hKA hKB; try simp only [onB_true, onB_false, onB_dec, onB_ndec, onB_not, onB_and, onB_or]) | (refine AWp_condA rfl ?_ ?_) | with_reducible (first | refine onB_of ?_ ?_ | rfl) | omega))
                  all_goals first
                    | omega
                    | skip
                  refine ⟨j + 1, [], by omega, by omega, by simp, ?_⟩
                  rw [hla2]
                  try (simp (dsimp := false) only [go_sem, Nat.reduceAdd, Nat.reduceBEq, Nat.reduceEqDiff, Nat.reduceLT, Nat.reduceLeDiff, Nat.reduceMul, Int.reduceToNat, reduceCtorEq, ↓reduceIte, not_true_eq_false, not_false_eq_true, Bool.true_and, Bool.false_and, Int.reduceEq, Int.reduceLT, Int.reduceLE, Int.reduceNeg, List.map_cons, List.map_nil, List.length_set, hid, ga, sa, gs, ss, gsa, ssa, gl0, glk, sl0, slk, phV, phW, phD_1, tkV, grO, pC1, q0, qk, g1, g2, g3, g4, g5, hw, hAl])
                  all_goals try simp
                  all_goals try omega
                · have g5 : (w = a) = False := eq_false hwa
                  rw [if_neg hwa] at hla2
                  simp only [grO] at *
                  have c21 := hax; have us := an q0 (an qk (an g1 (an g2 (an g3 (an g4 (an g5 (an hw hAl)))))))
                  (repeat' (first | with_reducible (first | refine And.intro ?_ ?_ | intro _ | (refine hKv _ _ (AWp_nop ?_); clear hKv Kv) | (refine hKA ?_; clear hKA hKB KA KB) | (refine hKB ?_; clear hKA hKB KA KB) | refine Wp ?_ | fail) | ((first | with_reducible (first | (refine hKv _ _ ?_; clear hKv Kv) | (refine Wr ?_; intro Kv hKv) | refine AWp_retR ?_ | fail) | refine Wc ?_ | fail); try simp (dsimp := false) only [go_sem, Nat.reduceAdd, Nat.reduceBEq, Nat.reduceEqDiff, Nat.reduceLT, Nat.reduceLeDiff, Nat.reduceMul, Int.reduceToNat, reduceCtorEq, ↓reduceIte, us, Bool.false_and, Bool.true_and, Int.reduceEq, Int.reduceLE, Int.reduceLT, Int.reduceNeg, List.length_set, List.map_cons, List.map_nil, ga, gl0, glk, grO, gs, gsa, hid, not_false_eq_true, not_true_eq_false, pC1, phD_1, phV, phW, sa, sl0, slk, ss, ssa, tkV]) | (refine AWp_condC rfl ?_; intro KA KB hKA hKB; try simp only [onB_true, onB_false, onB_dec, onB_ndec, onB_not, onB_and, onB_or]) | (refine AWp_condA rfl ?_ ?_) | with_reducible (first | refine onB_of ?_ ?_ | rfl) | omega))
                  all_goals first
                    | omega
                    | skip
                  refine ⟨j + 1, [], by omega, by omega, by simp, ?_⟩
                  rw [hla2]
                  try (simp (dsimp := false) only [go_sem, Nat.reduceAdd, Nat.reduceBEq, Nat.reduceEqDiff, Nat.reduceLT, Nat.reduceLeDiff, Nat.reduceMul, Int.reduceToNat, reduceCtorEq, ↓reduceIte, not_true_eq_false, not_false_eq_true, Bool.true_and, Bool.false_and, Int.reduceEq, Int.reduceLT, Int.reduceLE, Int.reduceNeg, List.map_cons, List.map_nil, List.length_set, hid, ga, sa, gs, ss, gsa, ssa, gl0, glk, sl0, slk, phV, phW, phD_1, tkV, grO, pC1, q0, qk, g1, g2, g3, g4, g5, hw, hAl])
                  all_goals try simp
                  all_goals try omega
              · obtain rfl : j = 12 := by omega
                have zk : ((12 : Nat) : Int) = 12 := rfl
                have zl := lastAt_axes a
                simp only [zk, zl] at *
                simp only [grO] at *
                have c21 := hts; have us := an q0 (an qk (an qb qi))
                refine W41 ?_ ?_ ?_ ?_ <;> try exact trivial
                all_goals first
                  | omega
                  | exact ⟨(), [], by simp [phC_1, pStep, pNil, ph0, mkh, mka, mkc, aD_nil, cD_nil], by omega⟩
                  | (refine ⟨(), [], trivial, by simp [phC_1, pStep, pNil, ph0, mkh, mka, mkc, aD_nil, cD_nil], ?_⟩; (simp (dsimp := false) only [go_sem, Nat.reduceAdd, Nat.reduceBEq, Nat.reduceEqDiff, Nat.reduceLT, Nat.reduceLeDiff, Nat.reduceMul, Int.reduceToNat, reduceCtorEq, ↓reduceIte, not_true_eq_false, not_false_eq_true, Bool.true_and, Bool.false_and, Int.reduceEq, Int.reduceLT, Int.reduceLE, Int.reduceNeg, List.map_cons, List.map_nil, List.length_set, hid, ga, sa, gs, ss, gsa, ssa, gl0, glk, sl0, slk, phV, phW, phD_1, tkV, grO, pC1, q0, qk, qb, qi]); (try simp); (try omega))
          | false =>
            have qb : (bt = [58, 58]) = False := eq_false (of_decide_eq_false (hb1.trans hm0))
            rw [if_neg (fun h => by rw [hm0] at h; cases h.2)] at hx
            cases ha : isN L sAtS ⟨p1, e1⟩ with
            | true =>
              have hlt := isN_lt ha
              simp only [] at hlt
              rw [ha, if_pos rfl] at hx
              simp only [nxt] at hx
              rw [sAtS] at ha
              have h1 := fun G K hk => rPassT_A L hL id p1 e1 [64] (by decide) ha (H.set id (grO L ⟨p1, e1⟩) ++ G) K (gsa _ _) hk
              have hts := fun G K hk => rTest_A L hL 12 id (p1 + 1) e1 (H.set id (grO L ⟨(p1 + 1), e1⟩) ++ G) K hlt (gsa _ _) hk
              rw [hx] at hts
              simp only [grO] at *
              have c21 := h1; have c22 := hts; have us := an q0 (an qk qb)
              refine W41 ?_ ?_ ?_ ?_ <;> try exact trivial
              all_goals first
                | omega
                | exact ⟨(), [], by simp [phC_1, pStep, pNil, ph0, mkh, mka, mkc, aD_nil, cD_nil], by omega⟩
                | (refine ⟨(), [], trivial, by simp [phC_1, pStep, pNil, ph0, mkh, mka, mkc, aD_nil, cD_nil], ?_⟩; (simp (dsimp := false) only [go_sem, Nat.reduceAdd, Nat.reduceBEq, Nat.reduceEqDiff, Nat.reduceLT, Nat.reduceLeDiff, Nat.reduceMul, Int.reduceToNat, reduceCtorEq, ↓reduceIte, not_true_eq_false, not_false_eq_true, Bool.true_and, Bool.false_and, Int.reduceEq, Int.reduceLT, Int.reduceLE, Int.reduceNeg, List.map_cons, List.map_nil, List.length_set, hid, ga, sa, gs, ss, gsa, ssa, gl0, glk, sl0, slk, phV, phW, phD_1, tkV, grO, pC1, q0, qk, qb]); (try simp); (try omega))
            | false =>
              rw [ha, if_neg (by decide)] at hx
              rw [sAtS] at ha
              have h1 := fun G K hk => rPassF_A L hL id p1 hp1 e1 [64] (by decide) ha (H.set id (grO L ⟨p1, e1⟩) ++ G) K (gsa _ _) hk
              cases hd2 : isN L sDot2 ⟨p1, e1⟩ with
              | true =>
                have hlt := isN_lt hd2
                simp only [] at hlt
                rw [hd2, if_pos rfl] at hx
                simp only [nxt, Prod.mk.injEq, Ps.mk.injEq] at hx
                obtain ⟨rfl, rfl, rfl⟩ := hx
                rw [sDot2] at hd2
                have h2 := fun G K hk => rPassT_A L hL id p1 e1 [46, 46] (by decide) hd2 (H.set id (grO L ⟨p1, e1⟩) ++ G) K (gsa _ _) hk
                simp only [grO] at *
                have c21 := h1; have c22 := h2; have us := an q0 (an qk qb)
                refine W41 ?_ ?_ ?_ ?_ <;> try exact trivial
                all_goals first
                  | omega
                  | exact ⟨(), [], by simp [phC_1, pStep, pNil, ph0, mkh, mka, mkc, aD_nil, cD_nil], by omega⟩
                  | (refine ⟨(), [], trivial, by simp [phC_1, pStep, pNil, ph0, mkh, mka, mkc, aD_nil, cD_nil], ?_⟩; (simp (dsimp := false) only [go_sem, Nat.reduceAdd, Nat.reduceBEq, Nat.reduceEqDiff, Nat.reduceLT, Nat.reduceLeDiff, Nat.reduceMul, Int.reduceToNat, reduceCtorEq, ↓reduceIte, not_true_eq_false, not_false_eq_true, Bool.true_and, Bool.false_and, Int.reduceEq, Int.reduceLT, Int.reduceLE, Int.reduceNeg, List.map_cons, List.map_nil, List.length_set, hid, ga, sa, gs, ss, gsa, ssa, gl0, glk, sl0, slk, phV, phW, phD_1, tkV, grO, pC1, q0, qk, qb]); (try simp); (try omega))
              | false =>
                rw [hd2, if_neg (by decide)] at hx
                rw [sDot2] at hd2
                have h2 := fun G K hk => rPassF_A L hL id p1 hp1 e1 [46, 46] (by decide) hd2 (H.set id (grO L ⟨p1, e1⟩) ++ G) K (gsa _ _) hk
                have h3 := fun G K hk => rNext_A L hL id p1 e1 hp1 [42] (by decide) (H.set id (grO L ⟨p1, e1⟩) ++ G) K (gsa _ _) hk
                cases hst : isN L sStar ⟨p1, e1⟩ with
                | true =>
                  rw [if_pos (by unfold childB; rw [hst]; rfl)] at hx
                  rw [sStar] at hst
                  rw [hst] at h3
                  have hts := fun G K hk => rTest_A L hL 1 id p1 e1 (H.set id (grO L ⟨p1, e1⟩) ++ G) K hp1 (gsa _ _) hk
                  rw [hx] at hts
                  simp only [grO] at *
                  have c21 := h1; have c22 := h2; have c23 := h3; have c24 := hts; have us := an q0 (an qk qb)
                  refine W41 ?_ ?_ ?_ ?_ <;> try exact trivial
                  all_goals first
                    | omega
                    | exact ⟨(), [], by simp [phC_1, pStep, pNil, ph0, mkh, mka, mkc, aD_nil, cD_nil], by omega⟩
                    | (refine ⟨(), [], trivial, by simp [phC_1, pStep, pNil, ph0, mkh, mka, mkc, aD_nil, cD_nil], ?_⟩; (simp (dsimp := false) only [go_sem, Nat.reduceAdd, Nat.reduceBEq, Nat.reduceEqDiff, Nat.reduceLT, Nat.reduceLeDiff, Nat.reduceMul, Int.reduceToNat, reduceCtorEq, ↓reduceIte, not_true_eq_false, not_false_eq_true, Bool.true_and, Bool.false_and, Int.reduceEq, Int.reduceLT, Int.reduceLE, Int.reduceNeg, List.map_cons, List.map_nil, List.length_set, hid, ga, sa, gs, ss, gsa, ssa, gl0, glk, sl0, slk, phV, phW, phD_1, tkV, grO, pC1, q0, qk, qb]); (try simp); (try omega))
                | false =>
                  have hst' := hst
                  rw [sStar] at hst'
                  rw [hst'] at h3
                  cases hb : mkAt L (p1 + 1) [40] with
                  | false =>
                    have qo : (bt = [40]) = False := eq_false (of_decide_eq_false (hb2.trans hb))
                    cases hv : makesB L ⟨p1, e1⟩ with
                    | true =>
                      rw [hv] at hmk
                      rw [if_neg (by rw [child_2 hk0 hst hb rfl rfl hv]; simp)] at hx
                      have hpr := fun G K hk => hf p1 e1 (H.set id (grO L ⟨p1, e1⟩) ++ G) K hp1 (fun _ => trivial) (gsa _ _) hk
                      rw [hx] at hpr
                      simp only [grO] at *
                      have c21 := h1; have c22 := h2; have c23 := h3; have c24 := hmk; have c25 := hpr; have us := an q0 (an qk (an qb qo))
                      refine W41 ?_ ?_ ?_ ?_ <;> try exact trivial
                      all_goals first
                        | omega
                        | exact ⟨(), [], by simp [phC_1, pStep, pNil, ph0, mkh, mka, mkc, aD_nil, cD_nil], by omega⟩
                        | (refine ⟨(), [], trivial, by simp [phC_1, pStep, pNil, ph0, mkh, mka, mkc, aD_nil, cD_nil], ?_⟩; (simp (dsimp := false) only [go_sem, Nat.reduceAdd, Nat.reduceBEq, Nat.reduceEqDiff, Nat.reduceLT, Nat.reduceLeDiff, Nat.reduceMul, Int.reduceToNat, reduceCtorEq, ↓reduceIte, not_true_eq_false, not_false_eq_true, Bool.true_and, Bool.false_and, Int.reduceEq, Int.reduceLT, Int.reduceLE, Int.reduceNeg, List.map_cons, List.map_nil, List.length_set, hid, ga, sa, gs, ss, gsa, ssa, gl0, glk, sl0, slk, phV, phW, phD_1, tkV, grO, pC1, q0, qk, qb, qo]); (try simp); (try omega))
                    | false =>
                      rw [hv] at hmk
                      rw [if_pos (by rw [child_2 hk0 hst hb rfl rfl hv]; rfl)] at hx
                      have hts := fun G K hk => rTest_A L hL 1 id p1 e1 (H.set id (grO L ⟨p1, e1⟩) ++ G) K hp1 (gsa _ _) hk
                      rw [hx] at hts
                      simp only [grO] at *
                      have c21 := h1; have c22 := h2; have c23 := h3; have c24 := hmk; have c25 := hts; have us := an q0 (an qk (an qb qo))
                      refine W41 ?_ ?_ ?_ ?_ <;> try exact trivial
                      all_goals first
                        | omega
                        | exact ⟨(), [], by simp [phC_1, pStep, pNil, ph0, mkh, mka, mkc, aD_nil, cD_nil], by omega⟩
                        | (refine ⟨(), [], trivial, by simp [phC_1, pStep, pNil, ph0, mkh, mka, mkc, aD_nil, cD_nil], ?_⟩; (simp (dsimp := false) only [go_sem, Nat.reduceAdd, Nat.reduceBEq, Nat.reduceEqDiff, Nat.reduceLT, Nat.reduceLeDiff, Nat.reduceMul, Int.reduceToNat, reduceCtorEq, ↓reduceIte, not_true_eq_false, not_false_eq_true, Bool.true_and, Bool.false_and, Int.reduceEq, Int.reduceLT, Int.reduceLE, Int.reduceNeg, List.map_cons, List.map_nil, List.length_set, hid, ga, sa, gs, ss, gsa, ssa, gl0, glk, sl0, slk, phV, phW, phD_1, tkV, grO, pC1, q0, qk, qb, qo]); (try simp); (try omega))
                  | true =>
                    have qo : (bt = [40]) = True := eq_true (of_decide_eq_true (hb2.trans hb))
                    cases hkd : decide ((tokAt L p1).s ∈ kindsL) with
                    | false =>
                      rw [hkd, Bool.false_and] at hkf
                      rw [if_neg (by rw [child_2 hk0 hst hb hkd rfl rfl]; simp)] at hx
                      have hpr := fun G K hk => hf p1 e1 (H.set id (grO L ⟨p1, e1⟩) ++ G) K hp1 (fun _ => trivial) (gsa _ _) hk
                      rw [hx] at hpr
                      simp only [grO] at *
                      have c21 := h1; have c22 := h2; have c23 := h3; have c24 := hmk; have c25 := hpr; have us := an q0 (an qk (an qb (an qo hkf)))
                      refine W41 ?_ ?_ ?_ ?_ <;> try exact trivial
                      all_goals first
                        | omega
                        | exact ⟨(), [], by simp [phC_1, pStep, pNil, ph0, mkh, mka, mkc, aD_nil, cD_nil], by omega⟩
                        | (refine ⟨(), [], trivial, by simp [phC_1, pStep, pNil, ph0, mkh, mka, mkc, aD_nil, cD_nil], ?_⟩; (simp (dsimp := false) only [go_sem, Nat.reduceAdd, Nat.reduceBEq, Nat.reduceEqDiff, Nat.reduceLT, Nat.reduceLeDiff, Nat.reduceMul, Int.reduceToNat, reduceCtorEq, ↓reduceIte, not_true_eq_false, not_false_eq_true, Bool.true_and, Bool.false_and, Int.reduceEq, Int.reduceLT, Int.reduceLE, Int.reduceNeg, List.map_cons, List.map_nil, List.length_set, hid, ga, sa, gs, ss, gsa, ssa, gl0, glk, sl0, slk, phV, phW, phD_1, tkV, grO, pC1, q0, qk, qb, qo, hkf]); (try simp); (try omega))
                    | true =>
                      rw [hkd, Bool.true_and] at hkf
                      cases hb3 : mkAt L (p1 + 2) [41] with
                      | false =>
                        rw [hb3] at hkf
                        rw [if_neg (by rw [child_2 hk0 hst hb hkd hb3 rfl]; simp)] at hx
                        have hpr := fun G K hk => hf p1 e1 (H.set id (grO L ⟨p1, e1⟩) ++ G) K hp1 (fun _ => trivial) (gsa _ _) hk
                        rw [hx] at hpr
                        simp only [grO] at *
                        have c21 := h1; have c22 := h2; have c23 := h3; have c24 := hmk; have c25 := hpr; have us := an q0 (an qk (an qb (an qo hkf)))
                        refine W41 ?_ ?_ ?_ ?_ <;> try exact trivial
                        all_goals first
                          | omega
                          | exact ⟨(), [], by simp [phC_1, pStep, pNil, ph0, mkh, mka, mkc, aD_nil, cD_nil], by omega⟩
                          | (refine ⟨(), [], trivial, by simp [phC_1, pStep, pNil, ph0, mkh, mka, mkc, aD_nil, cD_nil], ?_⟩; (simp (dsimp := false) only [go_sem, Nat.reduceAdd, Nat.reduceBEq, Nat.reduceEqDiff, Nat.reduceLT, Nat.reduceLeDiff, Nat.reduceMul, Int.reduceToNat, reduceCtorEq, ↓reduceIte, not_true_eq_false, not_false_eq_true, Bool.true_and, Bool.false_and, Int.reduceEq, Int.reduceLT, Int.reduceLE, Int.reduceNeg, List.map_cons, List.map_nil, List.length_set, hid, ga, sa, gs, ss, gsa, ssa, gl0, glk, sl0, slk, phV, phW, phD_1, tkV, grO, pC1, q0, qk, qb, qo, hkf]); (try simp); (try omega))
                      | true =>
                        rw [hb3] at hkf
                        cases hv : makesB L ⟨p1, e1⟩ with
                        | true =>
                          rw [hv] at hmk
                          rw [if_neg (by rw [child_2 hk0 hst hb hkd hb3 hv]; simp)] at hx
                          have hpr := fun G K hk => hf p1 e1 (H.set id (grO L ⟨p1, e1⟩) ++ G) K hp1 (fun _ => trivial) (gsa _ _) hk
                          rw [hx] at hpr
                          simp only [grO] at *
                          have c21 := h1; have c22 := h2; have c23 := h3; have c24 := hmk; have c25 := hpr; have us := an q0 (an qk (an qb (an qo hkf)))
                          refine W41 ?_ ?_ ?_ ?_ <;> try exact trivial
                          all_goals first
                            | omega
                            | exact ⟨(), [], by simp [phC_1, pStep, pNil, ph0, mkh, mka, mkc, aD_nil, cD_nil], by omega⟩
                            | (refine ⟨(), [], trivial, by simp [phC_1, pStep, pNil, ph0, mkh, mka, mkc, aD_nil, cD_nil], ?_⟩; (simp (dsimp := false) only [go_sem, Nat.reduceAdd, Nat.reduceBEq, Nat.reduceEqDiff, Nat.reduceLT, Nat.reduceLeDiff, Nat.reduceMul, Int.reduceToNat, reduceCtorEq, ↓reduceIte, not_true_eq_false, not_false_eq_true, Bool.true_and, Bool.false_and, Int.reduceEq, Int.reduceLT, Int.reduceLE, Int.reduceNeg, List.map_cons, List.map_nil, List.length_set, hid, ga, sa, gs, ss, gsa, ssa, gl0, glk, sl0, slk, phV, phW, phD_1, tkV, grO, pC1, q0, qk, qb, qo, hkf]); (try simp); (try omega))
                        | false =>
                          rw [hv] at hmk
                          rw [if_pos (by rw [child_2 hk0 hst hb hkd hb3 hv]; rfl)] at hx
                          have hts := fun G K hk => rTest_A L hL 1 id p1 e1 (H.set id (grO L ⟨p1, e1⟩) ++ G) K hp1 (gsa _ _) hk
                          rw [hx] at hts
                          simp only [grO] at *
                          have c21 := h1; have c22 := h2; have c23 := h3; have c24 := hmk; have c25 := hts; have us := an q0 (an qk (an qb (an qo hkf)))
                          refine W41 ?_ ?_ ?_ ?_ <;> try exact trivial
                          all_goals first
                            | omega
                            | exact ⟨(), [], by simp [phC_1, pStep, pNil, ph0, mkh, mka, mkc, aD_nil, cD_nil], by omega⟩
                            | (refine ⟨(), [], trivial, by simp [phC_1, pStep, pNil, ph0, mkh, mka, mkc, aD_nil, cD_nil], ?_⟩; (simp (dsimp := false) only [go_sem, Nat.reduceAdd, Nat.reduceBEq, Nat.reduceEqDiff, Nat.reduceLT, Nat.reduceLeDiff, Nat.reduceMul, Int.reduceToNat, reduceCtorEq, ↓reduceIte, not_true_eq_false, not_false_eq_true, Bool.true_and, Bool.false_and, Int.reduceEq, Int.reduceLT, Int.reduceLE, Int.reduceNeg, List.map_cons, List.map_nil, List.length_set, hid, ga, sa, gs, ss, gsa, ssa, gl0, glk, sl0, slk, phV, phW, phD_1, tkV, grO, pC1, q0, qk, qb, qo, hkf]); (try simp); (try omega))
        · have qk : ((tokAt L p1).k = 1) = False := eq_false hk0
          rw [if_neg (fun h => hk0 h.1)] at hx
          cases ha : isN L sAtS ⟨p1, e1⟩ with
          | true =>
            have hlt := isN_lt ha
            simp only [] at hlt
            rw [ha, if_pos rfl] at hx
            simp only [nxt] at hx
            rw [sAtS] at ha
            have h1 := fun G K hk => rPassT_A L hL id p1 e1 [64] (by decide) ha (H.set id (grO L ⟨p1, e1⟩) ++ G) K (gsa _ _) hk
            have hts := fun G K hk => rTest_A L hL 12 id (p1 + 1) e1 (H.set id (grO L ⟨(p1 + 1), e1⟩) ++ G) K hlt (gsa _ _) hk
            rw [hx] at hts
            simp only [grO] at *
            have c21 := h1; have c22 := hts; have us := an q0 qk
            refine W41 ?_ ?_ ?_ ?_ <;> try exact trivial
            all_goals first
              | omega
              | exact ⟨(), [], by simp [phC_1, pStep, pNil, ph0, mkh, mka, mkc, aD_nil, cD_nil], by omega⟩
              | (refine ⟨(), [], trivial, by simp [phC_1, pStep, pNil, ph0, mkh, mka, mkc, aD_nil, cD_nil], ?_⟩; (simp (dsimp := false) only [go_sem, Nat.reduceAdd, Nat.reduceBEq, Nat.reduceEqDiff, Nat.reduceLT, Nat.reduceLeDiff, Nat.reduceMul, Int.reduceToNat, reduceCtorEq, ↓reduceIte, not_true_eq_false, not_false_eq_true, Bool.true_and, Bool.false_and, Int.reduceEq, Int.reduceLT, Int.reduceLE, Int.reduceNeg, List.map_cons, List.map_nil, List.length_set, hid, ga, sa, gs, ss, gsa, ssa, gl0, glk, sl0, slk, phV, phW, phD_1, tkV, grO, pC1, q0, qk]); (try simp); (try omega))
          | false =>
            rw [ha, if_neg (by decide)] at hx
            rw [sAtS] at ha
            have h1 := fun G K hk => rPassF_A L hL id p1 hp1 e1 [64] (by decide) ha (H.set id (grO L ⟨p1, e1⟩) ++ G) K (gsa _ _) hk
            cases hd2 : isN L sDot2 ⟨p1, e1⟩ with
            | true =>
              have hlt := isN_lt hd2
              simp only [] at hlt
              rw [hd2, if_pos rfl] at hx
              simp only [nxt, Prod.mk.injEq, Ps.mk.injEq] at hx
              obtain ⟨rfl, rfl, rfl⟩ := hx
              rw [sDot2] at hd2
              have h2 := fun G K hk => rPassT_A L hL id p1 e1 [46, 46] (by decide) hd2 (H.set id (grO L ⟨p1, e1⟩) ++ G) K (gsa _ _) hk
              simp only [grO] at *
              have c21 := h1; have c22 := h2; have us := an q0 qk
              refine W41 ?_ ?_ ?_ ?_ <;> try exact trivial
              all_goals first
                | omega
                | exact ⟨(), [], by simp [phC_1, pStep, pNil, ph0, mkh, mka, mkc, aD_nil, cD_nil], by omega⟩
                | (refine ⟨(), [], trivial, by simp [phC_1, pStep, pNil, ph0, mkh, mka, mkc, aD_nil, cD_nil], ?_⟩; (simp (dsimp := false) only [go_sem, Nat.reduceAdd, Nat.reduceBEq, Nat.reduceEqDiff, Nat.reduceLT, Nat.reduceLeDiff, Nat.reduceMul, Int.reduceToNat, reduceCtorEq, ↓reduceIte, not_true_eq_false, not_false_eq_true, Bool.true_and, Bool.false_and, Int.reduceEq, Int.reduceLT, Int.reduceLE, Int.reduceNeg, List.map_cons, List.map_nil, List.length_set, hid, ga, sa, gs, ss, gsa, ssa, gl0, glk, sl0, slk, phV, phW, phD_1, tkV, grO, pC1, q0, qk]); (try simp); (try omega))
            | false =>
              rw [hd2, if_neg (by decide)] at hx
              rw [sDot2] at hd2
              have h2 := fun G K hk => rPassF_A L hL id p1 hp1 e1 [46, 46] (by decide) hd2 (H.set id (grO L ⟨p1, e1⟩) ++ G) K (gsa _ _) hk
              have h3 := fun G K hk => rNext_A L hL id p1 e1 hp1 [42] (by decide) (H.set id (grO L ⟨p1, e1⟩) ++ G) K (gsa _ _) hk
              cases hst : isN L sStar ⟨p1, e1⟩ with
              | true =>
                rw [if_pos (by unfold childB; rw [hst]; rfl)] at hx
                rw [sStar] at hst
                rw [hst] at h3
                have hts := fun G K hk => rTest_A L hL 1 id p1 e1 (H.set id (grO L ⟨p1, e1⟩) ++ G) K hp1 (gsa _ _) hk
                rw [hx] at hts
                simp only [grO] at *
                have c21 := h1; have c22 := h2; have c23 := h3; have c24 := hts; have us := an q0 qk
                refine W41 ?_ ?_ ?_ ?_ <;> try exact trivial
                all_goals first
                  | omega
                  | exact ⟨(), [], by simp [phC_1, pStep, pNil, ph0, mkh, mka, mkc, aD_nil, cD_nil], by omega⟩
                  | (refine ⟨(), [], trivial, by simp [phC_1, pStep, pNil, ph0, mkh, mka, mkc, aD_nil, cD_nil], ?_⟩; (simp (dsimp := false) only [go_sem, Nat.reduceAdd, Nat.reduceBEq, Nat.reduceEqDiff, Nat.reduceLT, Nat.reduceLeDiff, Nat.reduceMul, Int.reduceToNat, reduceCtorEq, ↓reduceIte, not_true_eq_false, not_false_eq_true, Bool.true_and, Bool.false_and, Int.reduceEq, Int.reduceLT, Int.reduceLE, Int.reduceNeg, List.map_cons, List.map_nil, List.length_set, hid, ga, sa, gs, ss, gsa, ssa, gl0, glk, sl0, slk, phV, phW, phD_1, tkV, grO, pC1, q0, qk]); (try simp); (try omega))
              | false =>
                have hst' := hst
                rw [sStar] at hst'
                rw [hst'] at h3
                rw [if_neg (by rw [child_1 hk0 hst]; simp)] at hx
                have hpr := fun G K hk => hf p1 e1 (H.set id (grO L ⟨p1, e1⟩) ++ G) K hp1 (fun _ => trivial) (gsa _ _) hk
                rw [hx] at hpr
                simp only [grO] at *
                have c21 := h1; have c22 := h2; have c23 := h3; have c24 := hmk; have c25 := hpr; have us := an q0 qk
                refine W41 ?_ ?_ ?_ ?_ <;> try exact trivial
                all_goals first
                  | omega
                  | exact ⟨(), [], by simp [phC_1, pStep, pNil, ph0, mkh, mka, mkc, aD_nil, cD_nil], by omega⟩
                  | (refine ⟨(), [], trivial, by simp [phC_1, pStep, pNil, ph0, mkh, mka, mkc, aD_nil, cD_nil], ?_⟩; (simp (dsimp := false) only [go_sem, Nat.reduceAdd, Nat.reduceBEq, Nat.reduceEqDiff, Nat.reduceLT, Nat.reduceLeDiff, Nat.reduceMul, Int.reduceToNat, reduceCtorEq, ↓reduceIte, not_true_eq_false, not_false_eq_true, Bool.true_and, Bool.false_and, Int.reduceEq, Int.reduceLT, Int.reduceLE, Int.reduceNeg, List.map_cons, List.map_nil, List.length_set, hid, ga, sa, gs, ss, gsa, ssa, gl0, glk, sl0, slk, phV, phW, phD_1, tkV, grO, pC1, q0, qk]); (try simp); (try omega))
    · by_cases g1 : a = []
      · have g2 : (a = []) = True := eq_true g1
        rw [decide_eq_true g1, Bool.not_true, Bool.false_and] at hkq
        subst hkq
        simp only [grO] at *
        have us := g2
        refine W41 ?_ ?_ ?_ ?_ <;> try exact trivial
        all_goals first
          | omega
          | exact ⟨(), [], by simp [phC_1], by omega⟩
          | (refine ⟨(), [], trivial, by simp [phC_1, pNil, ph0, mkh, mka, mkc, aD_nil, cD_nil], ?_⟩; (simp (dsimp := false) only [go_sem, Nat.reduceAdd, Nat.reduceBEq, Nat.reduceEqDiff, Nat.reduceLT, Nat.reduceLeDiff, Nat.reduceMul, Int.reduceToNat, reduceCtorEq, ↓reduceIte, not_true_eq_false, not_false_eq_true, Bool.true_and, Bool.false_and, Int.reduceEq, Int.reduceLT, Int.reduceLE, Int.reduceNeg, List.map_cons, List.map_nil, List.length_set, hid, ga, sa, gs, ss, gsa, ssa, gl0, glk, sl0, slk, phV, phW, phD_1, tkV, grO, pC1, g2]); (try simp); (try omega))
      · have g2 : (a = []) = False := eq_false g1
        rw [decide_eq_false g1, Bool.not_false, Bool.true_and] at hkq
        cases md with
        | false =>
          rw [Bool.false_and] at hkq
          subst hkq
          simp only [grO] at *
          have c21 := hkn; have c22 := hcn; have us := g2
          refine W41 ?_ ?_ ?_ ?_ <;> try exact trivial
          all_goals first
            | omega
            | exact ⟨(), [], by simp [phC_1], by omega⟩
            | (refine ⟨(), [], trivial, by simp [phC_1, pNil, ph0, mkh, mka, mkc, aD_nil, cD_nil], ?_⟩; (simp (dsimp := false) only [go_sem, Nat.reduceAdd, Nat.reduceBEq, Nat.reduceEqDiff, Nat.reduceLT, Nat.reduceLeDiff, Nat.reduceMul, Int.reduceToNat, reduceCtorEq, ↓reduceIte, not_true_eq_false, not_false_eq_true, Bool.true_and, Bool.false_and, Int.reduceEq, Int.reduceLT, Int.reduceLE, Int.reduceNeg, List.map_cons, List.map_nil, List.length_set, hid, ga, sa, gs, ss, gsa, ssa, gl0, glk, sl0, slk, phV, phW, phD_1, tkV, grO, pC1, g2]); (try simp); (try omega))
        | true =>
          rw [Bool.true_and] at hkq
          by_cases g4 : c = [41]
          · have g5 : (c = [41]) = True := eq_true g4
            rw [decide_eq_true g4] at hkq
            subst hkq
            simp only [grO] at *
            have c21 := hkn; have c22 := hcn; have us := an g2 g5
            refine W41 ?_ ?_ ?_ ?_ <;> try exact trivial
            all_goals first
              | omega
              | exact ⟨(), [], by simp [phC_1], by omega⟩
              | (refine ⟨(), [], trivial, by simp [phC_1, pNil, ph0, mkh, mka, mkc, aD_nil, cD_nil], ?_⟩; (simp (dsimp := false) only [go_sem, Nat.reduceAdd, Nat.reduceBEq, Nat.reduceEqDiff, Nat.reduceLT, Nat.reduceLeDiff, Nat.reduceMul, Int.reduceToNat, reduceCtorEq, ↓reduceIte, not_true_eq_false, not_false_eq_true, Bool.true_and, Bool.false_and, Int.reduceEq, Int.reduceLT, Int.reduceLE, Int.reduceNeg, List.map_cons, List.map_nil, List.length_set, hid, ga, sa, gs, ss, gsa, ssa, gl0, glk, sl0, slk, phV, phW, phD_1, tkV, grO, pC1, g2, g5]); (try simp); (try omega))
          · have g5 : (c = [41]) = False := eq_false g4
            rw [decide_eq_false g4] at hkq
            subst hkq
            simp only [grO] at *
            have c21 := hkn; have c22 := hcn; have us := an g2 g5
            refine W41 ?_ ?_ ?_ ?_ <;> try exact trivial
            all_goals first
              | omega
              | exact ⟨(), [], by simp [phC_1], by omega⟩
              | (refine ⟨(), [], trivial, by simp [phC_1, pNil, ph0, mkh, mka, mkc, aD_nil, cD_nil], ?_⟩; (simp (dsimp := false) only [go_sem, Nat.reduceAdd, Nat.reduceBEq, Nat.reduceEqDiff, Nat.reduceLT, Nat.reduceLeDiff, Nat.reduceMul, Int.reduceToNat, reduceCtorEq, ↓reduceIte, not_true_eq_false, not_false_eq_true, Bool.true_and, Bool.false_and, Int.reduceEq, Int.reduceLT, Int.reduceLE, Int.reduceNeg, List.map_cons, List.map_nil, List.length_set, hid, ga, sa, gs, ss, gsa, ssa, gl0, glk, sl0, slk, phV, phW, phD_1, tkV, grO, pC1, g2, g5]); (try simp); (try omega))
  · have q0 : (e1 = 0) = False := eq_false he
    rw [if_pos he] at hk
    have r0 : ∀ i, pkT L i e1 = [] := fun i => by unfold pkT; rw [if_neg (fun h => he h.1)]
    have r1 : ∀ i, pkK L i e1 = 0 := fun i => by unfold pkK; rw [if_neg he]
    rw [r0, r1] at ht0 ht1 ht2
    simp only [phV, phW, pSeq, pStep, pPath, pBin, pMinus, pRoot, pAll, pNil, ph0, mkh, mka, mkc, aD_nil, cD_nil, aD_cons, phD_1, List.map_cons, List.map_nil] at hk
    simp only [grO] at *
    refine We ?_
    have c21 := hlv; have c22 := ht0; have c23 := ht1; have c24 := ht2; have us := q0
    exact W42
end Go.Proofs.YtmhabdopcbokoaaDoor.Gq
