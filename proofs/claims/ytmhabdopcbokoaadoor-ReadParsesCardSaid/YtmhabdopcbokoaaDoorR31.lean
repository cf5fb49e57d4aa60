/- The grammar of queries: the reference: paths of two, lists. No condition but that the tables of package unicode/utf8 are there. -/
import Derived.Test.YtmhabdopcbokoaaDoorR18
import Derived.Test.YtmhabdopcbokoaaDoorR29
import Derived.Test.YtmhabdopcbokoaaDoorR30
set_option linter.all false
set_option linter.unusedSimpArgs false
set_option linter.unusedVariables false
namespace Go.Proofs.YtmhabdopcbokoaaDoor.Gq
open Go Go.Proofs.YtmhabdopcbokoaaDoor.Ab
variable [Glo] [U8] [Mk] [Gx]
set_option maxHeartbeats 4000000
set_option maxRecDepth 20000
def GRt (L : List Tk) (f : Nat) (g : Ps → PR) (n : Nat) (id : Nat) (B : Prop) : Prop := ∀ (p : Nat) (e : Int) (H : Heap) (K : V → Heap → Prop), p ≤ L.length → (e = 0 → B) → H[id]? = some (grO L ⟨p, e⟩) →
  K (phV (g ⟨p, e⟩).1) (H.set id (grO L (g ⟨p, e⟩).2)) → ACalls Tryd.prog f [.pt id 0 0 0, .d (.i .i64 n)] H K
namespace FN72
def tks : Nat → List Nat | 0 => [0] | 1 => [0] | _ => []
def tmu : List Nat := []
def tin : List Nat := []
abbrev tfn := @Tryd.func72
end FN72
attribute [go_sem] FN72.tks FN72.tmu FN72.tin Tryd.ntmps72 Tryd.results72
open FN72 in
theorem rAll_A (H : Heap) (K : V → Heap → Prop) (hk : K (phV pAll) H) : ACalls Tryd.prog 72 [] H K := by
  simp only [phV, phW, pSeq, pStep, pPath, pBin, pMinus, pRoot, pAll, pNil, ph0, mkh, mka, mkc, aD_nil, cD_nil, aD_cons] at hk
  refine We ?_
  have us := eq_self (0 : Nat)
  exact W20
namespace FN71
def tks : Nat → List Nat | 0 => [2, 3, 4] | 1 => [4] | _ => []
def tmu : List Nat := []
def tin : List Nat := [0, 1]
abbrev tfn := @Tryd.func71
end FN71
attribute [go_sem] FN71.tks FN71.tmu FN71.tin Tryd.ntmps71 Tryd.results71
open FN71 in
theorem rJoined_A (a b : Ph) (H : Heap) (K : V → Heap → Prop) (hk : K (phV (pPath a b)) H) : ACalls Tryd.prog 71 [phV a, phV b] H K := by
  simp only [phV, phW]
  simp only [phV, phW, pSeq, pStep, pPath, pBin, pMinus, pRoot, pAll, pNil, ph0, mkh, mka, mkc, aD_nil, cD_nil, aD_cons, phD_1, List.map_cons, List.map_nil] at hk
  refine We ?_
  have us := eq_self (0 : Nat)
  exact W20
namespace FN11
def tks : Nat → List Nat | 0 => [0, 1, 4] | 1 => [0, 1, 4] | 2 => [0, 1, 4, 5] | 3 => [0, 1, 4, 5, 17] | 4 => [4] | 5 => [0, 1, 4, 6] | 6 => [0, 1, 4, 6, 23] | 7 => [0, 1, 4, 6, 7] | 8 => [0, 1, 4, 6] | 9 => [4] | _ => []
def tmu : List Nat := [20]
def tin : List Nat := [0, 1]
abbrev tfn := @Tryd.func11
end FN11
attribute [go_sem] FN11.tks FN11.tmu FN11.tin Tryd.ntmps11 Tryd.results11
open FN11 in
theorem rExpr_A (L : List Tk) (hL : L.length ≤ 200) {al : Ps → PR} (hm : Mo L al) (n id : Nat) (hn : n ≤ 100) (hs : GRt L 26 al (n + 1) id True) : GRt L 11 (exprF L al (n : Int)) n id True := by
  intro p e H K hp _ hr hk
  have hid := lt_of_get hr
  obtain ⟨ga, sa, gs, ss, gsa, ssa, gl0, glk, sl0, slk⟩ := atH hr
  have hlv := fun G K hk => rLevel_A L id p e (n : Int) (H ++ G) K (ga G) hk
  have hl := Le_lev (L := L) (n : Int) (st := ⟨p, e⟩) hp
  rw [exprF] at hk
  try simp only [] at hk
  generalize levP (n : Int) ⟨p, e⟩ = s1 at hlv hl hk
  obtain ⟨p1, e1⟩ := s1
  have hp1 := hl.hi
  try simp only [] at hp1
  obtain ⟨x, p2, e2, hx, hp2⟩ := fR_N hm hp1 (e := e1)
  have hs1 := fun G K hk => hs p1 e1 (H.set id (grO L ⟨p1, e1⟩) ++ G) K hp1 (fun _ => trivial) (gsa _ _) hk
  rw [hx] at hk hs1
  try simp only [] at hk
  rw [sComma] at hk
  have hi := fun G K hk => rNext_A L hL id p2 e2 hp2 [44] (by decide) (H.set id (grO L ⟨p2, e2⟩) ++ G) K (gsa _ _) hk
  cases hc : isN L [44] ⟨p2, e2⟩ with
  | false =>
    rw [hc] at hk hi
    simp only [Bool.false_eq_true, if_false] at hk
    simp only [grO] at *
    refine We ?_
    have c21 := hlv; have c22 := hs1; have c23 := hi; have us := eq_self (0 : Nat)
    exact W39
  | true =>
    rw [hc] at hk hi
    simp only [if_true] at hk
    simp only [grO] at hlv hs1 hi hr ga gs
    refine We ?_
    have c21 := hlv; have c22 := hs1; have c23 := hi; have us := eq_self (0 : Nat)
    (repeat' (first | with_reducible (first | refine And.intro ?_ ?_ | intro _ | (refine hKv _ _ (AWp_nop ?_); clear hKv Kv) | (refine hKA ?_; clear hKA hKB KA KB) | (refine hKB ?_; clear hKA hKB KA KB) | refine Wp ?_ | fail) | ((first | with_reducible (first | (refine hKv _ _ ?_; clear hKv Kv) | (refine Wr ?_; intro Kv hKv) | refine AWp_retR ?_ | fail) | refine Wc ?_ | fail); try simp (dsimp := false) only [go_sem, Nat.reduceAdd, Nat.reduceBEq, Nat.reduceEqDiff, Nat.reduceLT, Nat.reduceLeDiff, Nat.reduceMul, Int.reduceToNat, reduceCtorEq, ↓reduceIte, us, Bool.false_and, Bool.true_and, Int.reduceEq, Int.reduceLE, Int.reduceLT, Int.reduceNeg, List.length_set, List.map_cons, List.map_nil, ga, gl0, glk, grO, gs, gsa, hid, not_false_eq_true, not_true_eq_false, pC1, phD_1, phV, phW, sa, sl0, slk, ss, ssa, tkV]) | (refine AWp_condC rfl ?_; intro KA KB hKA hKB; try simp only [onB_true, onB_false, onB_dec, onB_ndec, onB_not, onB_and, onB_or]) | (refine AWp_condA rfl ?_ ?_) | with_reducible (first | refine onB_of ?_ ?_ | rfl) | omega))
    all_goals first
      | omega
      | skip
    have hq0 : GlOk L [44] al (moreP L [44] al (L.length + 1) [x] ⟨p2, e2⟩) ⟨[x], p2, e2, 0⟩ := ⟨⟨L.length + 1, by simp only []; omega, rfl⟩, hp2, by simp, by simp⟩
    generalize moreP L [44] al (L.length + 1) [x] ⟨p2, e2⟩ = q at hq0 hk
    refine AWp_whileG (GlOk L [44] al q) (fun y => [(0, .pt id 0 0 0), (1, .d (.i .i64 (n : Int))), (4, .pt H.length 0 0 0), (6, .pt (H.length + 3) 0 0 0)])
      (fun y => H.set id (grO L ⟨y.p, y.e⟩) ++ [.row 0 30 11 [[.d (.i .i64 0), .d (.i .i64 0), .d (.i .i64 0), .d (.s []), .d (.s []), .d (.i .i64 0), .d (.i .i64 0), .d (.i .i64 0), .d (.s []), .d (.c (.slice none 0 0)), .d (.c (.slice none 0 0))]], .row 0 30 11 [phC x], .row y.v 30 11 (y.l.map phC), .row 0 30 11 [[.d (.i .i64 3), .d (.i .i64 0), .d (.i .i64 0), .d (.s []), .d (.s []), .d (.i .i64 0), .d (.i .i64 0), .d (.i .i64 0), .d (.s []), .os (H.length + 2) y.v, .d (.c (.slice none 0 0))]]])
      (fun y => L.length - y.p) ⟨[x], p2, e2, 0⟩ hq0 ⟨[], ?_⟩ ?_ ?_ ?_ ?_
    · simp [grO, phC_1]
    · simp (dsimp := false) only [go_sem, Nat.reduceAdd, Nat.reduceBEq, Nat.reduceEqDiff, Nat.reduceLT, Nat.reduceLeDiff, Nat.reduceMul, Int.reduceToNat, reduceCtorEq, ↓reduceIte, not_true_eq_false, not_false_eq_true, Bool.true_and, Bool.false_and, Int.reduceEq, Int.reduceLT, Int.reduceLE, Int.reduceNeg, List.map_cons, List.map_nil, List.length_set, hid, ga, sa, gs, ss, gsa, ssa, gl0, glk, sl0, slk, phV, phW, phD_1, tkV, grO, pC1]
      simp
      try omega
    · intro y hy; simp
    · intro y hy
      refine closed_sa hid (gr_bel _ _ _ _) ?_
      simp only [List.forall_mem_cons, List.length_cons, List.length_nil]
      refine ⟨oB1 (by simp [Bel_d]), oB1 (by simp [phC_1, Bel_d]), oBp _, oB1 (by simp [Bel_d, Bel_os]), by simp⟩
    rintro ⟨l, p8, e8, v⟩ hy
    have hp8 := hy.p
    have hl8 := hy.l
    simp only [] at hp8 hl8 ⊢
    cases hc8 : isN L [44] ⟨p8, e8⟩ with
    | false =>
      have hh8 := fun G K hk => rPassF_A L hL id p8 hp8 e8 [44] (by decide) hc8 (H.set id (grO L ⟨p8, e8⟩) ++ G) K (gsa _ _) hk
      rw [hy.stop hc8] at hk
      simp only [phV, phW, pSeq, ph0, mkh, mka, mkc, aD_ne hy.ne, cD_nil] at hk
      simp only [grO] at *
      have c21 := hh8; have us := eq_self (0 : Nat)
      exact W40
    | true =>
      have hh8 := fun G K hk => rPassT_A L hL id p8 e8 [44] (by decide) hc8 (H.set id (grO L ⟨p8, e8⟩) ++ G) K (gsa _ _) hk
      have hlt := isN_lt hc8
      simp only [] at hlt
      obtain ⟨x9, p9, e9, h9, hp9⟩ := fR_N hm (Nat.succ_le_of_lt hlt) (e := e8)
      have hs8 := fun G K hk => hs (p8 + 1) e8 (H.set id (grO L ⟨(p8 + 1), e8⟩) ++ G) K hlt (fun _ => trivial) (gsa _ _) hk
      rw [h9] at hs8
      have hst := fun v => hy.step hm hc8 h9 v
      simp only [] at hst
      simp only [grO] at *
      have c21 := hh8; have c22 := hs8; have us := eq_self (0 : Nat)
      (repeat' (first | with_reducible (first | refine And.intro ?_ ?_ | intro _ | (refine hKv _ _ (AWp_nop ?_); clear hKv Kv) | (refine hKA ?_; clear hKA hKB KA KB) | (refine hKB ?_; clear hKA hKB KA KB) | refine Wp ?_ | fail) | ((first | with_reducible (first | (refine hKv _ _ ?_; clear hKv Kv) | (refine Wr ?_; intro Kv hKv) | refine AWp_retR ?_ | fail) | refine Wc ?_ | fail); try simp (dsimp := false) only [go_sem, Nat.reduceAdd, Nat.reduceBEq, Nat.reduceEqDiff, Nat.reduceLT, Nat.reduceLeDiff, Nat.reduceMul, Int.reduceToNat, reduceCtorEq, ↓reduceIte, us, Bool.false_and, Bool.true_and, Int.reduceEq, Int.reduceLE, Int.reduceLT, Int.reduceNeg, List.length_set, List.map_cons, List.map_nil, ga, gl0, glk, grO, gs, gsa, hid, not_false_eq_true, not_true_eq_false, pC1, phD_1, phV, phW, sa, sl0, slk, ss, ssa, tkV]) | (refine AWp_condC rfl ?_; intro KA KB hKA hKB; try simp only [onB_true, onB_false, onB_dec, onB_ndec, onB_not, onB_and, onB_or]) | (refine AWp_condA rfl ?_ ?_) | with_reducible (first | refine onB_of ?_ ?_ | rfl) | omega))
      all_goals first
        | omega
        | skip
      have h5 := (hst (v + 1)).2
      try simp only [] at h5 hlt
      refine ⟨⟨l ++ [x9], p9, e9, v + 1⟩, _, (hst (v + 1)).1, by simp only []; omega, by simp [phC_1]; rfl, ?_⟩
      try (simp (dsimp := false) only [go_sem, Nat.reduceAdd, Nat.reduceBEq, Nat.reduceEqDiff, Nat.reduceLT, Nat.reduceLeDiff, Nat.reduceMul, Int.reduceToNat, reduceCtorEq, ↓reduceIte, not_true_eq_false, not_false_eq_true, Bool.true_and, Bool.false_and, Int.reduceEq, Int.reduceLT, Int.reduceLE, Int.reduceNeg, List.map_cons, List.map_nil, List.length_set, hid, ga, sa, gs, ss, gsa, ssa, gl0, glk, sl0, slk, phV, phW, phD_1, tkV, grO, pC1])
      all_goals try simp
      all_goals try omega
end Go.Proofs.YtmhabdopcbokoaaDoor.Gq
