/- The grammar of queries: the reference: paths, minus. No condition but that the tables of package unicode/utf8 are there. -/
import Derived.Test.YtmhabdopcbokoaaDoorR18
import Derived.Test.YtmhabdopcbokoaaDoorR31
set_option linter.all false
set_option linter.unusedSimpArgs false
set_option linter.unusedVariables false
namespace Go.Proofs.YtmhabdopcbokoaaDoor.Gq
open Go Go.Proofs.YtmhabdopcbokoaaDoor.Ab
variable [Glo] [U8] [Mk] [Gx]
set_option maxHeartbeats 4000000
set_option maxRecDepth 20000
theorem halt_reg {P : Program} {m : Nat} {dfs : List Deferred} {H0 H : Heap} {Q : Exit → Ab.Frame → Heap → Prop} {F : Ab.Frame} {ops : Array Oper} {mx : Bool} {x y : Code} (k : Nat) (h : Ab.Halt (AWp P m dfs H0 (.seq (.seq (.region k ops mx) x) y) Q F H)) : AWp P m dfs H0 (.seq (.seq (.region k ops mx) x) y) Q F H := h.go
def wayP (L : List Tk) (pc : Ps → PR) (st : Ps) : PR :=
  if isN L sSlash2 st = true then (pPath (pPath pRoot pAll) (pc (nxt st)).1, (pc (nxt st)).2)
  else if isN L sSlash st = true then (if stepsB L (nxt st) = true then (pPath pRoot (pc (nxt st)).1, (pc (nxt st)).2) else (pRoot, nxt st))
  else pc st
theorem wayF_P (L : List Tk) (pc : Ps → PR) (st : Ps) : wayF L pc st = wayL L pc (L.length + 1) (wayP L pc st).1 (wayP L pc st).2 := by
  unfold wayF wayP
  split
  · rfl
  · split
    · split <;> rfl
    · rfl
theorem Mo_wayP {L : List Tk} {pc : Ps → PR} (hf : Mo L pc) : Mo L (wayP L pc) := fun st h => by
  unfold wayP
  split
  · rename_i hn
    have h1 := Le_nx hn
    exact h1.trans (hf _ h1.hi)
  · split
    · rename_i hn
      have h1 := Le_nx hn
      split
      · exact h1.trans (hf _ h1.hi)
      · exact h1
    · exact hf _ h
theorem contains_T (l : List Bs) (s : Bs) (H : Heap) (K : V → Heap → Prop) (h1 : l.length ≤ 9223372036854775807) (h2 : K (.d (.b (decide (s ∈ l)))) H) : ACalls Tryd.prog 22 [.d (.sl 1 (l.map strRow)), .d (.s s)] H K := hasText_A l s h1 H K h2
namespace FN63
def tks : Nat → List Nat | 0 => [0, 1, 4] | 1 => [0, 1, 4, 5] | 2 => [0, 1, 4, 5, 14] | 3 => [0, 1, 4, 5, 6] | 4 => [0, 1, 4, 5] | 5 => [0, 1, 4, 5, 25] | 6 => [0, 1, 4, 5] | 7 => [0, 1, 4, 5, 7, 8] | 8 => [0, 1, 4, 5, 42] | 9 => [0, 1, 4, 5, 9] | 10 => [0, 1, 4, 5] | 11 => [0, 1, 4, 5] | 12 => [0, 1, 4, 5, 55] | 13 => [0, 1, 4, 5, 10] | 14 => [0, 1, 4, 5] | 15 => [0, 1, 4, 5, 66] | 16 => [0, 1, 4, 5, 11] | 17 => [0, 1, 4, 5] | 18 => [4] | _ => []
def tmu : List Nat := []
def tin : List Nat := [0, 1]
def tnd : Nat → Nat | 4 => 5 | 14 => 5 | _ => 0
abbrev tfn := @Tryd.func63
end FN63
attribute [go_sem] FN63.tks FN63.tmu FN63.tin FN63.tnd Tryd.ntmps63 Tryd.results63
open FN63 in
theorem rWay_A (L : List Tk) (hL : L.length ≤ 200) {pc : Ps → PR} (hm : Mo L pc) (n : Nat) (hn : n ≤ 100) (id : Nat) (p : Nat) (e : Int) (H : Heap) (K : V → Heap → Prop) (hp : p ≤ L.length) (hr : H[id]? = some (grO L ⟨p, e⟩)) (hs : GRt L 70 pc (n + 1) id True) (hk : K (phV (wayF L pc ⟨p, e⟩).1) (H.set id (grO L (wayF L pc ⟨p, e⟩).2))) :
    ACalls Tryd.prog 63 [.pt id 0 0 0, .d (.i .i64 (n : Int))] H K := by
  have hid := lt_of_get hr
  obtain ⟨ga, sa, gs, ss, gsa, ssa, gl0, glk, sl0, slk⟩ := atH hr
  rw [wayF_P] at hk
  obtain ⟨x, p2, e2, hx, hp2⟩ := fR_N (Mo_wayP hm) hp (e := e)
  rw [hx] at hk
  simp only [] at hk
  have ja := rAll_A
  simp only [phV, phW, pRoot, pAll, pStep, pPath, ph0, mkh, mka, mkc, aD_nil, cD_nil, aD_cons, List.map_cons, List.map_nil, phD_1] at ja
  refine We ?_
  repeat' (first | (refine halt_reg 2 ?_) | with_reducible (first | refine And.intro ?_ ?_ | intro _ | refine AWp_seq ?_ | refine AWp_block ?_ | (refine hKv _ _ (AWp_nop ?_); clear hKv Kv) | (refine hKA ?_; clear hKA hKB KA KB) | (refine hKB ?_; clear hKA hKB KA KB) | refine AWp_skipN ?_ | refine AWp_exitO (by repeat (first | exact Out.hit | apply Out.thenA | apply Out.out rfl)) ?_) | (with_reducible (first | (refine hKv _ _ ?_; clear hKv Kv) | ((first | refine AWp_regC tmu tks ?_ | refine AWp_draw tnd tmu tks ti_mixed (by kernel_rfl) ?_ | refine AWp_regE tmu tks ?_ | refine AWp_drawE tnd tmu tks ti_mixed (by kernel_rfl) ?_); intro Kv hKv) | refine AWp_retR ?_); try simp (dsimp := false) only [go_sem, Nat.reduceAdd, Nat.reduceBEq, Nat.reduceEqDiff, Nat.reduceLT, Nat.reduceLeDiff, Nat.reduceMul, Int.reduceToNat, reduceCtorEq, ↓reduceIte, not_true_eq_false, not_false_eq_true, Bool.true_and, Bool.false_and, Int.reduceEq, Int.reduceLT, Int.reduceLE, Int.reduceNeg, List.map_cons, List.map_nil, List.length_set, hid, ga, sa, gs, ss, gsa, ssa, gl0, glk, sl0, slk, phV, phW, phD_1, tkV, grO]) | (refine AWp_condC rfl ?_; intro KA KB hKA hKB; try simp only [onB_true, onB_false, onB_dec, onB_ndec, onB_not, onB_and, onB_or]) | (refine AWp_condA rfl ?_ ?_) | with_reducible (first | refine onB_of ?_ ?_ | rfl) | omega)
  refine AWp_cutG (ι := Unit) (fun _ => True) (fun _ => [(0, .pt id 0 0 0), (1, .d (.i .i64 (n : Int))), (4, .pt H.length 0 0 0), (5, .pt (H.length + 1) 0 0 0)]) (fun _ => H.set id (grO L ⟨p2, e2⟩) ++ [.row 0 30 11 [[.d (.i .i64 0), .d (.i .i64 0), .d (.i .i64 0), .d (.s []), .d (.s []), .d (.i .i64 0), .d (.i .i64 0), .d (.i .i64 0), .d (.s []), .d (.c (.slice none 0 0)), .d (.c (.slice none 0 0))]], .row 0 30 11 [phC x]]) (fun _ _ => by simp) (fun _ _ => closed_sa hid (gr_bel _ _ _ _) (by
    simp only [List.forall_mem_cons, List.length_cons, List.length_nil]
    exact ⟨oB1 (by simp [Bel_d]), oB1 (by simp [phC_1, Bel_d]), by simp⟩)) ?_ ?_
  · rintro ⟨⟩ _
    refine AWp_block ?_
    have hq0 : GwOk True L pc (wayL L pc (L.length + 1) (x) ⟨p2, e2⟩) ⟨x, p2, e2⟩ := ⟨⟨L.length + 1, by simp only []; omega, rfl⟩, hp2, fun _ => trivial⟩
    generalize wayL L pc (L.length + 1) (x) ⟨p2, e2⟩ = q at hq0 hk
    refine AWp_whileG (GwOk True L pc q) (fun y => [(0, .pt id 0 0 0), (1, .d (.i .i64 (n : Int))), (4, .pt H.length 0 0 0), (5, .pt (H.length + 1) 0 0 0)])
      (fun y => H.set id (grO L ⟨y.p, y.e⟩) ++ [.row 0 30 11 [[.d (.i .i64 0), .d (.i .i64 0), .d (.i .i64 0), .d (.s []), .d (.s []), .d (.i .i64 0), .d (.i .i64 0), .d (.i .i64 0), .d (.s []), .d (.c (.slice none 0 0)), .d (.c (.slice none 0 0))]], .row 0 30 11 [phC y.x]])
      (fun y => L.length - y.p) ⟨x, p2, e2⟩ hq0 ⟨[], ?_⟩ ?_ ?_ ?_ ?_
    · simp [grO, phC_1, pPath, pRoot, pAll, pStep, ph0, mkh, mka, mkc, aD_nil, cD_nil, aD_cons, phD_1]
    · simp (dsimp := false) only [go_sem, Nat.reduceAdd, Nat.reduceBEq, Nat.reduceEqDiff, Nat.reduceLT, Nat.reduceLeDiff, Nat.reduceMul, Int.reduceToNat, reduceCtorEq, ↓reduceIte, not_true_eq_false, not_false_eq_true, Bool.true_and, Bool.false_and, Int.reduceEq, Int.reduceLT, Int.reduceLE, Int.reduceNeg, List.map_cons, List.map_nil, List.length_set, hid, ga, sa, gs, ss, gsa, ssa, gl0, glk, sl0, slk, phV, phW, phD_1, tkV, grO]
      simp
      try omega
    · intro y hy; simp
    · intro y hy
      refine closed_sa hid (gr_bel _ _ _ _) ?_
      simp only [List.forall_mem_cons, List.length_cons, List.length_nil]
      refine ⟨oB1 (by simp [Bel_d]), oB1 (by simp [phC_1, Bel_d]), by simp⟩
    rintro ⟨x8, p8, e8⟩ hy
    have hp8 := hy.p
    simp only [] at hp8 ⊢
    cases c2 : isN L sSlash2 ⟨p8, e8⟩ with
    | true =>
      have hlt := isN_lt c2
      simp only [] at hlt
      obtain ⟨z, p9, e9, hz, hp9⟩ := fR_N hm (Nat.succ_le_of_lt hlt) (e := e8)
      have hst := hy.step2 hm c2 hz
      rw [sSlash2] at c2
      have h1 := fun G K hk => rPassT_A L hL id p8 e8 [47, 47] (by decide) c2 (H.set id (grO L ⟨p8, e8⟩) ++ G) K (gsa _ _) hk
      have hl := fun G K hk => hs (p8 + 1) e8 (H.set id (grO L ⟨(p8 + 1), e8⟩) ++ G) K hlt (fun _ => trivial) (gsa _ _) hk
      rw [hz] at hl
      have j1 := rJoined_A x8 pAll
      have j2 := rJoined_A (pPath x8 pAll) z
      have ja := rAll_A
      simp only [phV, phW, pRoot, pAll, pStep, pPath, ph0, mkh, mka, mkc, aD_nil, cD_nil, aD_cons, List.map_cons, List.map_nil, phD_1] at j1 j2 ja
      simp only [grO, phC_1] at *
      have c21 := h1; have c22 := hl; have c23 := ja; have c24 := j1; have c25 := j2; have us := eq_self (0 : Nat)
      (repeat' (first | with_reducible (first | refine And.intro ?_ ?_ | intro _ | (refine hKv _ _ (AWp_nop ?_); clear hKv Kv) | (refine hKA ?_; clear hKA hKB KA KB) | (refine hKB ?_; clear hKA hKB KA KB) | refine Wp ?_ | fail) | ((first | with_reducible (first | (refine hKv _ _ ?_; clear hKv Kv) | (refine Wr ?_; intro Kv hKv) | refine AWp_retR ?_ | fail) | refine Wc ?_ | fail); try simp (dsimp := false) only [go_sem, Nat.reduceAdd, Nat.reduceBEq, Nat.reduceEqDiff, Nat.reduceLT, Nat.reduceLeDiff, Nat.reduceMul, Int.reduceToNat, reduceCtorEq, ↓reduceIte, us, Bool.false_and, Bool.true_and, Int.reduceEq, Int.reduceLE, Int.reduceLT, Int.reduceNeg, List.length_set, List.map_cons, List.map_nil, ga, gl0, glk, grO, gs, gsa, hid, not_false_eq_true, not_true_eq_false, pC1, phD_1, phV, phW, sa, sl0, slk, ss, ssa, tkV]) | (refine AWp_condC rfl ?_; intro KA KB hKA hKB; try simp only [onB_true, onB_false, onB_dec, onB_ndec, onB_not, onB_and, onB_or]) | (refine AWp_condA rfl ?_ ?_) | with_reducible (first | refine onB_of ?_ ?_ | rfl) | omega))
      all_goals first
        | omega
        | skip
      refine ⟨⟨pPath (pPath x8 pAll) z, p9, e9⟩, _, hst.1, by have := hst.2; simp only [] at this ⊢; omega, by simp [phC_1, pPath, pAll, pStep, ph0, mkh, mka, mkc, aD_nil, cD_nil, aD_cons, phD_1]; rfl, ?_⟩
      try (simp (dsimp := false) only [go_sem, Nat.reduceAdd, Nat.reduceBEq, Nat.reduceEqDiff, Nat.reduceLT, Nat.reduceLeDiff, Nat.reduceMul, Int.reduceToNat, reduceCtorEq, ↓reduceIte, not_true_eq_false, not_false_eq_true, Bool.true_and, Bool.false_and, Int.reduceEq, Int.reduceLT, Int.reduceLE, Int.reduceNeg, List.map_cons, List.map_nil, List.length_set, hid, ga, sa, gs, ss, gsa, ssa, gl0, glk, sl0, slk, phV, phW, phD_1, tkV, grO, pC1])
      all_goals try simp
      all_goals try omega
    | false =>
      cases c1 : isN L sSlash ⟨p8, e8⟩ with
      | true =>
        have hlt := isN_lt c1
        simp only [] at hlt
        obtain ⟨z, p9, e9, hz, hp9⟩ := fR_N hm (Nat.succ_le_of_lt hlt) (e := e8)
        have hst := hy.step1 hm c2 c1 hz
        rw [sSlash2] at c2
        rw [sSlash] at c1
        have h1 := fun G K hk => rPassF_A L hL id p8 hp8 e8 [47, 47] (by decide) c2 (H.set id (grO L ⟨p8, e8⟩) ++ G) K (gsa _ _) hk
        have h2 := fun G K hk => rPassT_A L hL id p8 e8 [47] (by decide) c1 (H.set id (grO L ⟨p8, e8⟩) ++ G) K (gsa _ _) hk
        have hl := fun G K hk => hs (p8 + 1) e8 (H.set id (grO L ⟨(p8 + 1), e8⟩) ++ G) K hlt (fun _ => trivial) (gsa _ _) hk
        rw [hz] at hl
        have j1 := rJoined_A x8 z
        simp only [phV, phW, pRoot, pAll, pStep, pPath, ph0, mkh, mka, mkc, aD_nil, cD_nil, aD_cons, List.map_cons, List.map_nil, phD_1] at j1
        simp only [grO, phC_1] at *
        have c21 := h1; have c22 := h2; have c23 := hl; have c24 := j1; have us := eq_self (0 : Nat)
        (repeat' (first | with_reducible (first | refine And.intro ?_ ?_ | intro _ | (refine hKv _ _ (AWp_nop ?_); clear hKv Kv) | (refine hKA ?_; clear hKA hKB KA KB) | (refine hKB ?_; clear hKA hKB KA KB) | refine Wp ?_ | fail) | ((first | with_reducible (first | (refine hKv _ _ ?_; clear hKv Kv) | (refine Wr ?_; intro Kv hKv) | refine AWp_retR ?_ | fail) | refine Wc ?_ | fail); try simp (dsimp := false) only [go_sem, Nat.reduceAdd, Nat.reduceBEq, Nat.reduceEqDiff, Nat.reduceLT, Nat.reduceLeDiff, Nat.reduceMul, Int.reduceToNat, reduceCtorEq, ↓reduceIte, us, Bool.false_and, Bool.true_and, Int.reduceEq, Int.reduceLE, Int.reduceLT, Int.reduceNeg, List.length_set, List.map_cons, List.map_nil, ga, gl0, glk, grO, gs, gsa, hid, not_false_eq_true, not_true_eq_false, pC1, phD_1, phV, phW, sa, sl0, slk, ss, ssa, tkV]) | (refine AWp_condC rfl ?_; intro KA KB hKA hKB; try simp only [onB_true, onB_false, onB_dec, onB_ndec, onB_not, onB_and, onB_or]) | (refine AWp_condA rfl ?_ ?_) | with_reducible (first | refine onB_of ?_ ?_ | rfl) | omega))
        all_goals first
          | omega
          | skip
        refine ⟨⟨pPath x8 z, p9, e9⟩, _, hst.1, by have := hst.2; simp only [] at this ⊢; omega, by simp [phC_1, pPath, ph0, mkh, mka, mkc, aD_nil, cD_nil, aD_cons, phD_1]; rfl, ?_⟩
        try (simp (dsimp := false) only [go_sem, Nat.reduceAdd, Nat.reduceBEq, Nat.reduceEqDiff, Nat.reduceLT, Nat.reduceLeDiff, Nat.reduceMul, Int.reduceToNat, reduceCtorEq, ↓reduceIte, not_true_eq_false, not_false_eq_true, Bool.true_and, Bool.false_and, Int.reduceEq, Int.reduceLT, Int.reduceLE, Int.reduceNeg, List.map_cons, List.map_nil, List.length_set, hid, ga, sa, gs, ss, gsa, ssa, gl0, glk, sl0, slk, phV, phW, phD_1, tkV, grO, pC1])
        all_goals try simp
        all_goals try omega
      | false =>
        rw [hy.stop c2 c1] at hk
        rw [sSlash2] at c2
        rw [sSlash] at c1
        have h1 := fun G K hk => rPassF_A L hL id p8 hp8 e8 [47, 47] (by decide) c2 (H.set id (grO L ⟨p8, e8⟩) ++ G) K (gsa _ _) hk
        have h2 := fun G K hk => rPassF_A L hL id p8 hp8 e8 [47] (by decide) c1 (H.set id (grO L ⟨p8, e8⟩) ++ G) K (gsa _ _) hk
        simp only [grO, phC_1] at *
        have c21 := h1; have c22 := h2; have us := eq_self (0 : Nat)
        exact W39
  · rw [wayP] at hx
    cases d2 : isN L sSlash2 ⟨p, e⟩ with
    | true =>
      have hp1 := isN_lt d2
      simp only [] at hp1
      rw [d2, if_pos rfl] at hx
      obtain ⟨y, p3, e3, hy, hp3⟩ := fR_N hm (Nat.succ_le_of_lt hp1) (e := e)
      simp only [nxt, hy, Prod.mk.injEq, Ps.mk.injEq] at hx
      obtain ⟨rfl, rfl, rfl⟩ := hx
      rw [sSlash2] at d2
      have h1 := fun G K hk => rPassT_A L hL id p e [47, 47] (by decide) d2 (H ++ G) K (ga G) hk
      have hl := fun G K hk => hs (p + 1) e (H.set id (grO L ⟨(p + 1), e⟩) ++ G) K hp1 (fun _ => trivial) (gsa _ _) hk
      rw [hy] at hl
      have j1 := rJoined_A pRoot pAll
      have j2 := rJoined_A (pPath pRoot pAll) y
      simp only [phV, phW, pRoot, pAll, pStep, pPath, ph0, mkh, mka, mkc, aD_nil, cD_nil, aD_cons, List.map_cons, List.map_nil, phD_1] at j1 j2
      simp only [grO] at *
      have c21 := h1; have c22 := hl; have c23 := ja; have c24 := j1; have c25 := j2; have us := eq_self (0 : Nat)
      refine W41 ?_ ?_ ?_ ?_ <;> try exact trivial
      all_goals first
        | omega
        | exact ⟨(), [.row 0 30 11 [phC y]], by simp [phC_1, pPath, pRoot, pAll, pStep, ph0, mkh, mka, mkc, aD_nil, cD_nil, aD_cons, phD_1], by omega⟩
        | (refine ⟨(), [.row 0 30 11 [phC y]], trivial, by simp [phC_1, pRoot, ph0, mkh, mka, mkc, aD_nil, cD_nil], ?_⟩; (simp (dsimp := false) only [go_sem, Nat.reduceAdd, Nat.reduceBEq, Nat.reduceEqDiff, Nat.reduceLT, Nat.reduceLeDiff, Nat.reduceMul, Int.reduceToNat, reduceCtorEq, ↓reduceIte, not_true_eq_false, not_false_eq_true, Bool.true_and, Bool.false_and, Int.reduceEq, Int.reduceLT, Int.reduceLE, Int.reduceNeg, List.map_cons, List.map_nil, List.length_set, hid, ga, sa, gs, ss, gsa, ssa, gl0, glk, sl0, slk, phV, phW, phD_1, tkV, grO, pC1]); (try simp); (try omega))
    | false =>
      rw [d2, if_neg (by decide)] at hx
      rw [sSlash2] at d2
      have h1 := fun G K hk => rPassF_A L hL id p hp e [47, 47] (by decide) d2 (H ++ G) K (ga G) hk
      cases d1 : isN L sSlash ⟨p, e⟩ with
      | true =>
        have hp1 := isN_lt d1
        have he := isN_e d1
        simp only [] at hp1 he
        rw [d1, if_pos rfl] at hx
        rw [sSlash] at d1
        have h2 := fun G K hk => rPassT_A L hL id p e [47] (by decide) d1 (H ++ G) K (ga G) hk
        have hpk := fun G K hk => rPeek_A L hL id (p + 1) e hp1 0 (by omega) (H.set id (grO L ⟨(p + 1), e⟩) ++ G) K (gsa _ _) hk
        have hc := fun H K hk => contains_T [sDot2, sDot, sAtS, sStar, sOpen] (tokAt L (p + 1)).s H K (by decide) hk
        rw [Nat.add_zero, pkK, if_pos he, pkT] at hpk
        cases hb : stepsB L (nxt ⟨p, e⟩) with
        | true =>
          rw [hb, if_pos rfl] at hx
          simp only [nxt] at hb hx
          obtain ⟨y, p3, e3, hy, hp3⟩ := fR_N hm (Nat.succ_le_of_lt hp1) (e := e)
          simp only [hy, Prod.mk.injEq, Ps.mk.injEq] at hx
          obtain ⟨rfl, rfl, rfl⟩ := hx
          have hl := fun G K hk => hs (p + 1) e (H.set id (grO L ⟨(p + 1), e⟩) ++ G) K hp1 (fun _ => trivial) (gsa _ _) hk
          rw [hy] at hl
          have j1 := rJoined_A pRoot y
          simp only [phV, phW, pRoot, pAll, pStep, pPath, ph0, mkh, mka, mkc, aD_nil, cD_nil, aD_cons, List.map_cons, List.map_nil, phD_1] at j1
          have hk0 : (tokAt L (p + 1)).k ≠ 0 := by
            intro h0
            unfold stepsB at hb
            simp only [h0, decide_true, Bool.not_true, Bool.false_and] at hb
            cases hb
          have qa : ((tokAt L (p + 1)).k = 0) = False := eq_false hk0
          by_cases h5 : (tokAt L (p + 1)).k = 5
          · have qb : ((tokAt L (p + 1)).k = 5) = True := eq_true h5
            have hin : (tokAt L (p + 1)).s ∈ [sDot2, sDot, sAtS, sStar, sOpen] := by
              unfold stepsB at hb
              simp only [h5, decide_true, Bool.not_true, Bool.false_or, Bool.and_eq_true, decide_eq_true_eq] at hb
              exact hb.2
            rw [if_pos ⟨he, by simp [isK, h5]⟩] at hpk
            rw [decide_eq_true hin] at hc
            simp only [List.map_cons, List.map_nil, strRow, sDot2, sDot, sAtS, sStar, sOpen] at hc
            simp only [grO] at *
            have c21 := h1; have c22 := h2; have c23 := hpk; have c24 := hc; have c25 := hl; have c26 := j1; have us := an qa qb
            refine W41 ?_ ?_ ?_ ?_ <;> try exact trivial
            all_goals first
              | omega
              | exact ⟨(), [.row 0 30 11 [phC y]], by simp [phC_1, pPath, pRoot, pAll, pStep, ph0, mkh, mka, mkc, aD_nil, cD_nil, aD_cons, phD_1], by omega⟩
              | (refine ⟨(), [.row 0 30 11 [phC y]], trivial, by simp [phC_1, pRoot, ph0, mkh, mka, mkc, aD_nil, cD_nil], ?_⟩; (simp (dsimp := false) only [go_sem, Nat.reduceAdd, Nat.reduceBEq, Nat.reduceEqDiff, Nat.reduceLT, Nat.reduceLeDiff, Nat.reduceMul, Int.reduceToNat, reduceCtorEq, ↓reduceIte, not_true_eq_false, not_false_eq_true, Bool.true_and, Bool.false_and, Int.reduceEq, Int.reduceLT, Int.reduceLE, Int.reduceNeg, List.map_cons, List.map_nil, List.length_set, hid, ga, sa, gs, ss, gsa, ssa, gl0, glk, sl0, slk, phV, phW, phD_1, tkV, grO, pC1, qa, qb]); (try simp); (try omega))
          · have qb : ((tokAt L (p + 1)).k = 5) = False := eq_false h5
            generalize (if e = 0 ∧ isK (tokAt L (p + 1)) = true then (tokAt L (p + 1)).s else []) = s7 at hpk
            simp only [grO] at *
            have c21 := h1; have c22 := h2; have c23 := hpk; have c24 := hl; have c25 := j1; have us := an qa qb
            refine W41 ?_ ?_ ?_ ?_ <;> try exact trivial
            all_goals first
              | omega
              | exact ⟨(), [.row 0 30 11 [phC y]], by simp [phC_1, pPath, pRoot, pAll, pStep, ph0, mkh, mka, mkc, aD_nil, cD_nil, aD_cons, phD_1], by omega⟩
              | (refine ⟨(), [.row 0 30 11 [phC y]], trivial, by simp [phC_1, pRoot, ph0, mkh, mka, mkc, aD_nil, cD_nil], ?_⟩; (simp (dsimp := false) only [go_sem, Nat.reduceAdd, Nat.reduceBEq, Nat.reduceEqDiff, Nat.reduceLT, Nat.reduceLeDiff, Nat.reduceMul, Int.reduceToNat, reduceCtorEq, ↓reduceIte, not_true_eq_false, not_false_eq_true, Bool.true_and, Bool.false_and, Int.reduceEq, Int.reduceLT, Int.reduceLE, Int.reduceNeg, List.map_cons, List.map_nil, List.length_set, hid, ga, sa, gs, ss, gsa, ssa, gl0, glk, sl0, slk, phV, phW, phD_1, tkV, grO, pC1, qa, qb]); (try simp); (try omega))
        | false =>
          rw [hb, if_neg (by decide)] at hx
          simp only [nxt, Prod.mk.injEq, Ps.mk.injEq] at hb hx
          obtain ⟨rfl, rfl, rfl⟩ := hx
          by_cases h0 : (tokAt L (p + 1)).k = 0
          · have qa : ((tokAt L (p + 1)).k = 0) = True := eq_true h0
            generalize (if e = 0 ∧ isK (tokAt L (p + 1)) = true then (tokAt L (p + 1)).s else []) = s7 at hpk
            simp only [grO] at *
            have c21 := h1; have c22 := h2; have c23 := hpk; have us := qa
            refine W41 ?_ ?_ ?_ ?_ <;> try exact trivial
            all_goals first
              | omega
              | exact ⟨(), [], by simp [phC_1, pPath, pRoot, pAll, pStep, ph0, mkh, mka, mkc, aD_nil, cD_nil, aD_cons, phD_1], by omega⟩
              | (refine ⟨(), [], trivial, by simp [phC_1, pRoot, ph0, mkh, mka, mkc, aD_nil, cD_nil], ?_⟩; (simp (dsimp := false) only [go_sem, Nat.reduceAdd, Nat.reduceBEq, Nat.reduceEqDiff, Nat.reduceLT, Nat.reduceLeDiff, Nat.reduceMul, Int.reduceToNat, reduceCtorEq, ↓reduceIte, not_true_eq_false, not_false_eq_true, Bool.true_and, Bool.false_and, Int.reduceEq, Int.reduceLT, Int.reduceLE, Int.reduceNeg, List.map_cons, List.map_nil, List.length_set, hid, ga, sa, gs, ss, gsa, ssa, gl0, glk, sl0, slk, phV, phW, phD_1, tkV, grO, pC1, qa]); (try simp); (try omega))
          · have qa : ((tokAt L (p + 1)).k = 0) = False := eq_false h0
            have h5 : (tokAt L (p + 1)).k = 5 := Decidable.by_contra fun h5 => by
              unfold stepsB at hb
              simp only [decide_eq_false h0, decide_eq_false h5, Bool.not_false, Bool.true_or, Bool.and_self] at hb
              cases hb
            have qb : ((tokAt L (p + 1)).k = 5) = True := eq_true h5
            have hin : (tokAt L (p + 1)).s ∉ [sDot2, sDot, sAtS, sStar, sOpen] := by
              intro hin
              unfold stepsB at hb
              rw [decide_eq_false h0, decide_eq_true h5, decide_eq_true hin] at hb
              cases hb
            rw [if_pos ⟨he, by simp [isK, h5]⟩] at hpk
            rw [decide_eq_false hin] at hc
            simp only [List.map_cons, List.map_nil, strRow, sDot2, sDot, sAtS, sStar, sOpen] at hc
            simp only [grO] at *
            have c21 := h1; have c22 := h2; have c23 := hpk; have c24 := hc; have us := an qa qb
            refine W41 ?_ ?_ ?_ ?_ <;> try exact trivial
            all_goals first
              | omega
              | exact ⟨(), [], by simp [phC_1, pPath, pRoot, pAll, pStep, ph0, mkh, mka, mkc, aD_nil, cD_nil, aD_cons, phD_1], by omega⟩
              | (refine ⟨(), [], trivial, by simp [phC_1, pRoot, ph0, mkh, mka, mkc, aD_nil, cD_nil], ?_⟩; (simp (dsimp := false) only [go_sem, Nat.reduceAdd, Nat.reduceBEq, Nat.reduceEqDiff, Nat.reduceLT, Nat.reduceLeDiff, Nat.reduceMul, Int.reduceToNat, reduceCtorEq, ↓reduceIte, not_true_eq_false, not_false_eq_true, Bool.true_and, Bool.false_and, Int.reduceEq, Int.reduceLT, Int.reduceLE, Int.reduceNeg, List.map_cons, List.map_nil, List.length_set, hid, ga, sa, gs, ss, gsa, ssa, gl0, glk, sl0, slk, phV, phW, phD_1, tkV, grO, pC1, qa, qb]); (try simp); (try omega))
      | false =>
        rw [d1, if_neg (by decide)] at hx
        rw [sSlash] at d1
        have h2 := fun G K hk => rPassF_A L hL id p hp e [47] (by decide) d1 (H ++ G) K (ga G) hk
        have hl := fun G K hk => hs p e (H ++ G) K hp (fun _ => trivial) (ga G) hk
        rw [hx] at hl
        simp only [grO] at *
        have c21 := h1; have c22 := h2; have c23 := hl; have us := eq_self (0 : Nat)
        refine W41 ?_ ?_ ?_ ?_ <;> try exact trivial
        all_goals first
          | omega
          | exact ⟨(), [], by simp [phC_1, pPath, pRoot, pAll, pStep, ph0, mkh, mka, mkc, aD_nil, cD_nil, aD_cons, phD_1], by omega⟩
          | (refine ⟨(), [], trivial, by simp [phC_1, pRoot, ph0, mkh, mka, mkc, aD_nil, cD_nil], ?_⟩; (simp (dsimp := false) only [go_sem, Nat.reduceAdd, Nat.reduceBEq, Nat.reduceEqDiff, Nat.reduceLT, Nat.reduceLeDiff, Nat.reduceMul, Int.reduceToNat, reduceCtorEq, ↓reduceIte, not_true_eq_false, not_false_eq_true, Bool.true_and, Bool.false_and, Int.reduceEq, Int.reduceLT, Int.reduceLE, Int.reduceNeg, List.map_cons, List.map_nil, List.length_set, hid, ga, sa, gs, ss, gsa, ssa, gl0, glk, sl0, slk, phV, phW, phD_1, tkV, grO, pC1]); (try simp); (try omega))
namespace FN56
def tks : Nat → List Nat | 0 => [0, 1, 4] | 1 => [0, 1, 4, 8] | 2 => [4] | 3 => [0, 1, 4] | 4 => [4, 5] | 5 => [4] | _ => []
def tmu : List Nat := []
def tin : List Nat := [0, 1]
abbrev tfn := @Tryd.func56
end FN56
attribute [go_sem] FN56.tks FN56.tmu FN56.tin Tryd.ntmps56 Tryd.results56
open FN56 in
theorem rMinus_A (L : List Tk) (hL : L.length ≤ 200) {mi way : Ps → PR} (hm : Mo L mi) (n id : Nat) (hn : n ≤ 100) (hs : n ≤ 30 → GRt L 56 mi (n + 1) id (n + 1 ≤ 30)) (hw : ∀ (p : Nat) (e : Int) (H : Heap) (K : V → Heap → Prop), p ≤ L.length → (e = 0 → n ≤ 30) → H[id]? = some (grO L ⟨p, e⟩) →
    K (phV (way ⟨p, e⟩).1) (H.set id (grO L (way ⟨p, e⟩).2)) → ACalls Tryd.prog 63 [.pt id 0 0 0, .d (.i .i64 (n : Int))] H K) : GRt L 56 (minusF L mi way (n : Int)) n id (n ≤ 30) := by
  intro p e H K hp hg hr hk
  have hid := lt_of_get hr
  obtain ⟨ga, sa, gs, ss, gsa, ssa, gl0, glk, sl0, slk⟩ := atH hr
  rw [minusF] at hk
  cases hc : isN L sMinus ⟨p, e⟩ with
  | true =>
    have hp1 := isN_lt hc
    have he := isN_e hc
    simp only [] at hp1 he
    have hn30 := hg he
    have hs := hs hn30
    rw [hc, if_pos rfl] at hk
    simp only [nxt] at hk
    rw [sMinus] at hc
    have h1 := fun G K hk => rPassT_A L hL id p e [45] (by decide) hc (H ++ G) K (ga G) hk
    have hlv := fun G K hk => rLevel_A L id (p + 1) e ((n + 1 : Nat) : Int) (H.set id (grO L ⟨(p + 1), e⟩) ++ G) K (gsa _ _) hk
    have hl := Le_lev (L := L) ((n + 1 : Nat) : Int) (st := ⟨p + 1, e⟩) hp1
    have hgl := lev_g (n := ((n + 1 : Nat) : Int)) (st := ⟨p + 1, e⟩)
    rw [show ((n : Int) + 1) = ((n + 1 : Nat) : Int) by omega] at hk
    generalize levP ((n + 1 : Nat) : Int) ⟨p + 1, e⟩ = t1 at hlv hl hk hgl
    obtain ⟨p1, e1⟩ := t1
    have hp1' := hl.hi
    simp only [] at hp1' hgl
    obtain ⟨x, p2, e2, hx, hp2⟩ := fR_N hm hp1' (e := e1)
    rw [hx] at hk
    have hu := fun G K hk => hs p1 e1 (H.set id (grO L ⟨p1, e1⟩) ++ G) K hp1' (fun h => by have := hgl h; omega) (gsa _ _) hk
    rw [hx] at hu
    simp only [phV, phW, pSeq, pStep, pPath, pBin, pMinus, pRoot, pAll, pNil, ph0, mkh, mka, mkc, aD_nil, cD_nil, aD_cons, phD_1, List.map_cons, List.map_nil] at hk
    simp only [grO] at *
    refine We ?_
    have c21 := h1; have c22 := hlv; have c23 := hu; have us := eq_self (0 : Nat)
    exact W42
  | false =>
    rw [hc, if_neg (by decide)] at hk
    rw [sMinus] at hc
    have h1 := fun G K hk => rPassF_A L hL id p hp e [45] (by decide) hc (H ++ G) K (ga G) hk
    have hw1 := fun G K hk => hw p e (H ++ G) K hp hg (ga G) hk
    generalize way ⟨p, e⟩ = r at hk hw1
    simp only [grO] at *
    refine We ?_
    have c21 := h1; have c22 := hw1; have us := eq_self (0 : Nat)
    exact W43
end Go.Proofs.YtmhabdopcbokoaaDoor.Gq
