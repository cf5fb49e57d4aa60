/- The grammar of queries: the reference: the names of the axes. No condition but that the tables of package unicode/utf8 are there. -/
import Derived.Test.YtmhabdopcbokoaaDoorR18
import Derived.Test.YtmhabdopcbokoaaDoorR35
import Derived.Test.YtmhabdopcbokoaaDoorR30
set_option linter.all false
set_option linter.unusedSimpArgs false
set_option linter.unusedVariables false
namespace Go.Proofs.YtmhabdopcbokoaaDoor.Gq
open Go Go.Proofs.YtmhabdopcbokoaaDoor.Ab
variable [Glo] [U8] [Mk] [Gx]
set_option maxHeartbeats 4000000
set_option maxRecDepth 20000
namespace FN78
def tks : Nat → List Nat | 0 => [] | 1 => [0] | _ => []
def tmu : List Nat := []
def tin : List Nat := []
abbrev tfn := @Tryd.func78
end FN78
attribute [go_sem] FN78.tks FN78.tmu FN78.tin Tryd.ntmps78 Tryd.results78
open FN78 in
theorem rAxes_A (H : Heap) (K : V → Heap → Prop) (hk : K (.d (.sl 1 (([] :: axesL).map strRow))) H) : ACalls Tryd.prog 78 [] H K := by
  simp only [axesL, List.map_cons, List.map_nil, strRow] at hk
  refine We ?_
  have us := eq_self (0 : Nat)
  exact W15
def lastAt (l : List Bs) (s : Bs) : Nat → Int
  | 0 => 0
  | k + 1 => if l[k]? = some s then ((k + 1 : Nat) : Int) else lastAt l s k
theorem lastAt_at {l : List Bs} {k : Nat} {w : Bs} (h : l[k]? = some w) (s : Bs) : lastAt l s (k + 1) = if w = s then ((k + 1 : Nat) : Int) else lastAt l s k := by
  rw [lastAt, h]
  by_cases hw : w = s
  · rw [if_pos hw, if_pos (by rw [hw])]
  · rw [if_neg hw, if_neg (fun h => hw (Option.some.inj h))]
theorem axesL_at {j : Nat} (h : j < 12) : axesL[j]? = some (axesL.getD j []) := by
  have hl : axesL.length = 12 := rfl
  rw [List.getElem?_eq_getElem (by omega), List.getD_eq_getElem?_getD, List.getElem?_eq_getElem (by omega)]
  rfl
theorem lastAt_axes (s : Bs) : lastAt axesL s 12 = idx1 axesL s := by
  by_cases h : s ∈ axesL
  · simp only [axesL, List.mem_cons, List.not_mem_nil, or_false] at h
    rcases h with rfl | rfl | rfl | rfl | rfl | rfl | rfl | rfl | rfl | rfl | rfl | rfl <;> decide
  · have h1 : lastAt axesL s 12 = 0 := by
      have : ∀ k, lastAt axesL s k = 0 := fun k => by
        induction k with
        | zero => rfl
        | succ k ih => rw [lastAt, if_neg (fun hx => h (List.mem_of_getElem? hx)), ih]
      exact this 12
    rw [h1]
    simp only [axesL, List.mem_cons, List.not_mem_nil, or_false, not_or] at h
    simp [idx1, txtAt, axesL, fidx, fidxGo, h]
end Go.Proofs.YtmhabdopcbokoaaDoor.Gq
namespace Go.Proofs.YtmhabdopcbokoaaDoor.Gq
open Go Go.Proofs.YtmhabdopcbokoaaDoor.Ab
variable [Glo] [Gx]
set_option maxHeartbeats 4000000
set_option maxRecDepth 20000
theorem gLv {L : List Tk} (id : Nat) {n : Nat} (hn : n ≤ 100) {H : Heap} (gsa : ∀ (X : Ob) (G : Heap), (H.set id X ++ G)[id]? = some X) (glk : ∀ (X : Ob) (G : Heap) (k : Nat), (H.set id X ++ G)[H.length + k]? = G[k]?) (ssa : ∀ (X Y : Ob) (G : Heap), (H.set id X ++ G).set id Y = H.set id Y ++ G) (p : Nat) (e : Int) (a : Ob) (G : Heap) (K : V → Heap → Prop)
    (hk : K (.tu []) (H.set id (gpO L (n : Int) ⟨p, e⟩) ++ a :: cellP id :: G)) : ACallsD Tryd.prog 34 [.pt (H.length + 1) 0 0 0] (H.set id (gpO L ((n + 1 : Nat) : Int) ⟨p, e⟩) ++ a :: cellP id :: G) K :=
  gLeave_A L id (H.length + 1) n hn p e _ K (gsa _ _) ((glk _ _ 1).trans rfl) (by rw [ssa]; exact hk)
namespace FN52
def tks : Nat → List Nat | 0 => [0, 2] | 1 => [0, 2, 4] | 2 => [0, 2] | 3 => [2] | 4 => [2] | _ => []
def tmu : List Nat := []
def tin : List Nat := [0]
abbrev tfn := @Tryd.func52
end FN52
attribute [go_sem] FN52.tks FN52.tmu FN52.tin Tryd.ntmps52 Tryd.results52
open FN52 in
theorem gUnary_A (L : List Tk) (hL : L.length ≤ 200) {mi way : Ps → PR} (hm : Mo L mi) (n id : Nat) (hn : n ≤ 32) (hs : n ≤ 30 → GAt L 52 mi (n + 1) id) (hw : ∀ (p : Nat) (e : Int) (H : Heap) (K : V → Heap → Prop), p ≤ L.length → (e = 0 → n ≤ 30) → H[id]? = some (gpO L (n : Int) ⟨p, e⟩) →
    K (phV (way ⟨p, e⟩).1) (H.set id (gpO L (n : Int) (way ⟨p, e⟩).2)) → ACalls Tryd.prog 62 [.pt id 0 0 0] H K) : GAt L 52 (minusF L mi way (n : Int)) n id := by
  intro p e H K hp hg hr hk
  have hid := lt_of_get hr
  obtain ⟨ga, sa, gs, ss, gsa, ssa, gl0, glk, sl0, slk⟩ := atH hr
  rw [minusF] at hk
  cases hc : isN L sMinus ⟨p, e⟩ with
  | true =>
    have hp1 := isN_lt hc
    simp only [] at hp1
    have hn30 := hg (isN_e hc)
    have hs := hs hn30
    have hgl := lev_g (n := ((n + 1 : Nat) : Int)) (st := ⟨p + 1, e⟩)
    rw [hc, if_pos rfl] at hk
    simp only [nxt] at hk
    rw [sMinus] at hc
    have h1 := fun G K hk => gHasT_A L hL id (n : Int) p e [45] hc (H ++ G) K (ga G) hk
    have hd := fun G K hk => gDeeper_A L id n (by omega) (p + 1) e (H.set id (gpO L (n : Int) ⟨p + 1, e⟩) ++ G) K (gsa _ _) hk
    have hl := Le_lev (L := L) ((n + 1 : Nat) : Int) (st := ⟨p + 1, e⟩) hp1
    rw [show ((n : Int) + 1) = ((n + 1 : Nat) : Int) by omega] at hk
    generalize levP ((n + 1 : Nat) : Int) ⟨p + 1, e⟩ = t1 at hd hl hk hgl
    obtain ⟨p1, e1⟩ := t1
    simp only [] at hgl
    have hp1' := hl.hi
    simp only [] at hp1'
    obtain ⟨x, p2, e2, hx, hp2⟩ := fR_N hm hp1' (e := e1)
    rw [hx] at hk
    have hu := fun G K hk => hs p1 e1 (H.set id (gpO L ((n + 1 : Nat) : Int) ⟨p1, e1⟩) ++ G) K hp1' (fun h => by have := hgl h; omega) (gsa _ _) hk
    rw [hx] at hu
    have hv := fun a G K hk => gLv (L := L) id (n := n) (by omega) gsa glk ssa p2 e2 a G K hk
    simp only [phV, phW, pSeq, pStep, pPath, pBin, pMinus, pRoot, pAll, pNil, ph0, mkh, mka, mkc, aD_nil, cD_nil, aD_cons, phD_1, List.map_cons, List.map_nil] at hk
    simp only [gpO] at *
    refine Wd ?_
    refine AWpF_seq ?_
    have us := eq_self (0 : Nat)
    (repeat' (first | with_reducible (first | refine And.intro ?_ ?_ | intro _ | (refine hKv _ _ (AWp_nop ?_); clear hKv Kv) | (refine hKA ?_; clear hKA hKB KA KB) | (refine hKB ?_; clear hKA hKB KA KB) | refine Wp ?_ | fail) | ((first | with_reducible (first | (refine hKv _ _ ?_; clear hKv Kv) | (refine Wr ?_; intro Kv hKv) | refine AWp_retR ?_ | fail) | refine Wc ?_ | fail); try simp (dsimp := false) only [go_sem, Nat.reduceAdd, Nat.reduceBEq, Nat.reduceEqDiff, Nat.reduceLT, Nat.reduceLeDiff, Nat.reduceMul, Int.reduceToNat, reduceCtorEq, ↓reduceIte, us, Bool.false_and, Bool.true_and, Int.reduceEq, Int.reduceLE, Int.reduceLT, Int.reduceNeg, List.length_set, List.map_cons, List.map_nil, cellP, ga, gl0, glk, gpO, gs, gsa, hid, not_false_eq_true, not_true_eq_false, phD_1, phV, phW, sa, sl0, slk, ss, ssa, ti_hb34, tkV]) | (refine AWp_condC rfl ?_; intro KA KB hKA hKB; try simp only [onB_true, onB_false, onB_dec, onB_ndec, onB_not, onB_and, onB_or]) | (refine AWp_condA rfl ?_ ?_) | with_reducible (first | refine onB_of ?_ ?_ | rfl) | omega))
    refine AWpF_S ?_
    refine AWpS_seq ?_
    have c21 := h1; have us := eq_self (0 : Nat)
    (repeat' (first | with_reducible (first | refine And.intro ?_ ?_ | intro _ | (refine hKv _ _ (AWp_nop ?_); clear hKv Kv) | (refine hKA ?_; clear hKA hKB KA KB) | (refine hKB ?_; clear hKA hKB KA KB) | refine Wp ?_ | fail) | ((first | with_reducible (first | (refine hKv _ _ ?_; clear hKv Kv) | (refine Wr ?_; intro Kv hKv) | refine AWp_retR ?_ | fail) | refine Wc ?_ | fail); try simp (dsimp := false) only [go_sem, Nat.reduceAdd, Nat.reduceBEq, Nat.reduceEqDiff, Nat.reduceLT, Nat.reduceLeDiff, Nat.reduceMul, Int.reduceToNat, reduceCtorEq, ↓reduceIte, us, Bool.false_and, Bool.true_and, Int.reduceEq, Int.reduceLE, Int.reduceLT, Int.reduceNeg, List.length_set, List.map_cons, List.map_nil, cellP, ga, gl0, glk, gpO, gs, gsa, hid, not_false_eq_true, not_true_eq_false, phD_1, phV, phW, sa, sl0, slk, ss, ssa, ti_hb34, tkV]) | (refine AWp_condC rfl ?_; intro KA KB hKA hKB; try simp only [onB_true, onB_false, onB_dec, onB_ndec, onB_not, onB_and, onB_or]) | (refine AWp_condA rfl ?_ ?_) | with_reducible (first | refine onB_of ?_ ?_ | rfl) | omega))
    refine AWpS_cond rfl ?_
    simp only [onB_true]
    refine AWpS_deferC tmu (tks 2) (dfs3 _ _ _) ?_
    intro KD hKD
    simp (dsimp := false) only [go_sem, Nat.reduceAdd, Nat.reduceBEq, Nat.reduceEqDiff, Nat.reduceLT, Nat.reduceLeDiff, Nat.reduceMul, Int.reduceToNat, reduceCtorEq, ↓reduceIte, not_true_eq_false, not_false_eq_true, Bool.true_and, Bool.false_and, Int.reduceEq, Int.reduceLT, Int.reduceLE, Int.reduceNeg, List.map_cons, List.map_nil, List.length_set, hid, ga, sa, gs, ss, gsa, ssa, gl0, glk, sl0, slk, phV, phW, phD_1, tkV, gpO, ti_hb34, cellP]
    have c21 := hd; have us := eq_self (0 : Nat)
    (repeat' (first | with_reducible (first | refine And.intro ?_ ?_ | intro _ | (refine hKv _ _ (AWp_nop ?_); clear hKv Kv) | (refine hKA ?_; clear hKA hKB KA KB) | (refine hKB ?_; clear hKA hKB KA KB) | refine Wp ?_ | fail) | ((first | with_reducible (first | (refine hKv _ _ ?_; clear hKv Kv) | (refine Wr ?_; intro Kv hKv) | refine AWp_retR ?_ | fail) | refine Wc ?_ | fail); try simp (dsimp := false) only [go_sem, Nat.reduceAdd, Nat.reduceBEq, Nat.reduceEqDiff, Nat.reduceLT, Nat.reduceLeDiff, Nat.reduceMul, Int.reduceToNat, reduceCtorEq, ↓reduceIte, us, Bool.false_and, Bool.true_and, Int.reduceEq, Int.reduceLE, Int.reduceLT, Int.reduceNeg, List.length_set, List.map_cons, List.map_nil, cellP, ga, gl0, glk, gpO, gs, gsa, hid, not_false_eq_true, not_true_eq_false, phD_1, phV, phW, sa, sl0, slk, ss, ssa, ti_hb34, tkV]) | (refine AWp_condC rfl ?_; intro KA KB hKA hKB; try simp only [onB_true, onB_false, onB_dec, onB_ndec, onB_not, onB_and, onB_or]) | (refine AWp_condA rfl ?_ ?_) | with_reducible (first | refine onB_of ?_ ?_ | rfl) | omega))
    refine hKD _ _ _ _ ?_
    clear hKD KD
    intro dd
    simp (dsimp := false) only [go_sem, Nat.reduceAdd, Nat.reduceBEq, Nat.reduceEqDiff, Nat.reduceLT, Nat.reduceLeDiff, Nat.reduceMul, Int.reduceToNat, reduceCtorEq, ↓reduceIte, not_true_eq_false, not_false_eq_true, Bool.true_and, Bool.false_and, Int.reduceEq, Int.reduceLT, Int.reduceLE, Int.reduceNeg, List.map_cons, List.map_nil, List.length_set, hid, ga, sa, gs, ss, gsa, ssa, gl0, glk, sl0, slk, phV, phW, phD_1, tkV, gpO, ti_hb34, cellP]
    have c21 := hu; have c31 := hv; have us := eq_self (0 : Nat)
    exact W50
  | false =>
    rw [hc, if_neg (by decide)] at hk
    rw [sMinus] at hc
    have h1 := fun G K hk => gHasF_A L hL id (n : Int) p hp e [45] hc (H ++ G) K (ga G) hk
    have hw1 := fun G K hk => hw p e (H ++ G) K hp hg (ga G) hk
    generalize way ⟨p, e⟩ = r at hk hw1
    simp only [gpO] at *
    refine Wd ?_
    refine AWpF_seq ?_
    have us := eq_self (0 : Nat)
    (repeat' (first | with_reducible (first | refine And.intro ?_ ?_ | intro _ | (refine hKv _ _ (AWp_nop ?_); clear hKv Kv) | (refine hKA ?_; clear hKA hKB KA KB) | (refine hKB ?_; clear hKA hKB KA KB) | refine Wp ?_ | fail) | ((first | with_reducible (first | (refine hKv _ _ ?_; clear hKv Kv) | (refine Wr ?_; intro Kv hKv) | refine AWp_retR ?_ | fail) | refine Wc ?_ | fail); try simp (dsimp := false) only [go_sem, Nat.reduceAdd, Nat.reduceBEq, Nat.reduceEqDiff, Nat.reduceLT, Nat.reduceLeDiff, Nat.reduceMul, Int.reduceToNat, reduceCtorEq, ↓reduceIte, us, Bool.false_and, Bool.true_and, Int.reduceEq, Int.reduceLE, Int.reduceLT, Int.reduceNeg, List.length_set, List.map_cons, List.map_nil, cellP, ga, gl0, glk, gpO, gs, gsa, hid, not_false_eq_true, not_true_eq_false, phD_1, phV, phW, sa, sl0, slk, ss, ssa, ti_hb34, tkV]) | (refine AWp_condC rfl ?_; intro KA KB hKA hKB; try simp only [onB_true, onB_false, onB_dec, onB_ndec, onB_not, onB_and, onB_or]) | (refine AWp_condA rfl ?_ ?_) | with_reducible (first | refine onB_of ?_ ?_ | rfl) | omega))
    refine AWpF_S ?_
    refine AWpS_seq ?_
    have c21 := h1; have us := eq_self (0 : Nat)
    (repeat' (first | with_reducible (first | refine And.intro ?_ ?_ | intro _ | (refine hKv _ _ (AWp_nop ?_); clear hKv Kv) | (refine hKA ?_; clear hKA hKB KA KB) | (refine hKB ?_; clear hKA hKB KA KB) | refine Wp ?_ | fail) | ((first | with_reducible (first | (refine hKv _ _ ?_; clear hKv Kv) | (refine Wr ?_; intro Kv hKv) | refine AWp_retR ?_ | fail) | refine Wc ?_ | fail); try simp (dsimp := false) only [go_sem, Nat.reduceAdd, Nat.reduceBEq, Nat.reduceEqDiff, Nat.reduceLT, Nat.reduceLeDiff, Nat.reduceMul, Int.reduceToNat, reduceCtorEq, ↓reduceIte, us, Bool.false_and, Bool.true_and, Int.reduceEq, Int.reduceLE, Int.reduceLT, Int.reduceNeg, List.length_set, List.map_cons, List.map_nil, cellP, ga, gl0, glk, gpO, gs, gsa, hid, not_false_eq_true, not_true_eq_false, phD_1, phV, phW, sa, sl0, slk, ss, ssa, ti_hb34, tkV]) | (refine AWp_condC rfl ?_; intro KA KB hKA hKB; try simp only [onB_true, onB_false, onB_dec, onB_ndec, onB_not, onB_and, onB_or]) | (refine AWp_condA rfl ?_ ?_) | with_reducible (first | refine onB_of ?_ ?_ | rfl) | omega))
    refine AWpS_cond rfl ?_
    simp only [onB_false]
    refine AWpS_skip ?_
    refine AWpF_plain ?_
    have c21 := hw1; have us := eq_self (0 : Nat)
    exact W51
end Go.Proofs.YtmhabdopcbokoaaDoor.Gq
