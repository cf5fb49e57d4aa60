/- The parser of queries: binary operators. No condition but that the tables of package unicode/utf8 are there. -/
import Derived.Test.YtmhabdopcbokoaaDoorR18
import Derived.Test.YtmhabdopcbokoaaDoorR28
import Derived.Test.YtmhabdopcbokoaaDoorR32
set_option linter.all false
set_option linter.unusedSimpArgs false
set_option linter.unusedVariables false
namespace Go.Proofs.YtmhabdopcbokoaaDoor.Gq
open Go Go.Proofs.YtmhabdopcbokoaaDoor.Ab
variable [Glo] [Gx]
set_option maxHeartbeats 4000000
set_option maxRecDepth 20000
structure Gw2 where
  x : Ph
  p : Nat
  e : Int
structure GbOk (L : List Tk) (r : Nat) (f : Ps → PR) (q : PR) (y : Gw2) : Prop where
  k : ∃ k, L.length < k + y.p ∧ binL L r f k y.x ⟨y.p, y.e⟩ = q
  p : y.p ≤ L.length
theorem GbOk.stop {L : List Tk} {r : Nat} {f : Ps → PR} {q : PR} {y : Gw2} (h : GbOk L r f q y) (h1 : opN L r ⟨y.p, y.e⟩ = false) : q = (y.x, ⟨y.p, y.e⟩) := by
  obtain ⟨⟨k, k1, k2⟩, hp⟩ := h
  cases k with
  | zero => omega
  | succ k =>
    rw [binL, h1, if_neg (by decide)] at k2
    exact k2.symm
theorem GbOk.once {L : List Tk} {r : Nat} {f : Ps → PR} {q : PR} {y : Gw2} (h : GbOk L r f q y) (hr : r = 2 ∨ r = 3) (h1 : opN L r ⟨y.p, y.e⟩ = true) : q = (pBin (tokAt L y.p).s y.x (f ⟨y.p + 1, y.e⟩).1, (f ⟨y.p + 1, y.e⟩).2) := by
  obtain ⟨⟨k, k1, k2⟩, hp⟩ := h
  have hlt := opN_lt h1
  cases k with
  | zero => simp only [] at hlt; omega
  | succ k =>
    rw [binL, h1, if_pos rfl] at k2
    simp only [] at k2
    rw [if_pos hr] at k2
    exact k2.symm
theorem GbOk.step {L : List Tk} {r : Nat} {f : Ps → PR} {q : PR} {y : Gw2} (h : GbOk L r f q y) (hf : Mo L f) (hr : ¬ (r = 2 ∨ r = 3)) (h1 : opN L r ⟨y.p, y.e⟩ = true) {z : Ph} {p : Nat} {e : Int} (hz : f ⟨y.p + 1, y.e⟩ = (z, ⟨p, e⟩)) : GbOk L r f q ⟨pBin (tokAt L y.p).s y.x z, p, e⟩ ∧ y.p < p := by
  obtain ⟨⟨k, k1, k2⟩, hp⟩ := h
  have hlt := opN_lt h1
  have hm := hf ⟨y.p + 1, y.e⟩ hlt
  rw [hz] at hm
  have hlo : y.p + 1 ≤ p := hm.lo
  refine ⟨⟨?_, hm.hi⟩, hlo⟩
  cases k with
  | zero => simp only [] at hlt; omega
  | succ k =>
    rw [binL, h1, if_pos rfl] at k2
    simp only [] at k2
    rw [if_neg hr, nxt, hz] at k2
    exact ⟨k, by simp only []; omega, k2⟩
theorem ops_ne {L : List Tk} {r p : Nat} {e : Int} (h : opN L r ⟨p, e⟩ = true) : (tokAt L p).s ≠ [] := by
  unfold opN at h
  simp only [Bool.and_eq_true, decide_eq_true_eq] at h
  intro h0
  rw [h0] at h
  have := h.2.2
  revert this
  unfold opsL
  split <;> simp
namespace FN40
def tks : Nat → List Nat | 0 => [0, 1, 4] | 1 => [0, 1, 4, 8] | 2 => [4] | 3 => [0, 1, 4, 5] | 4 => [0, 1, 4, 5, 6] | 5 => [0, 1, 4, 5, 6, 26] | 6 => [0, 1, 4, 5, 6] | 7 => [0, 1, 4, 5, 6] | 8 => [0, 1, 4, 5] | 9 => [0, 1, 4, 5, 50] | 10 => [4] | _ => []
def tmu : List Nat := []
def tin : List Nat := [0, 1]
def txt : Nat → Nat × List Cd | 8 => (7, [.q 0 0, .q 0 1, .q 0 0, .q 0 0, .q 0 0, .t, .q 0 0]) | _ => (0, [])
abbrev tfn := @Tryd.func40
end FN40
attribute [go_sem] FN40.tks FN40.tmu FN40.tin FN40.txt Tryd.ntmps40 Tryd.results40
open FN40 in
theorem gBin_A (L : List Tk) (hL : L.length ≤ 200) (hT : TksG L) {mi : Ps → PR} (hm : Mo L mi) (n id : Nat) (hn30 : n ≤ 30) (hu : GAt L 52 mi n id) : ∀ (j lv : Nat), lv + j = 8 → ∀ (p : Nat) (e : Int) (H : Heap) (K : V → Heap → Prop), p ≤ L.length → H[id]? = some (gpO L (n : Int) ⟨p, e⟩) →
    K (phV (opsF L mi j ⟨p, e⟩).1) (H.set id (gpO L (n : Int) (opsF L mi j ⟨p, e⟩).2)) → ACalls Tryd.prog 40 [.pt id 0 0 0, .d (.i .i64 lv)] H K := by
  intro j
  induction j with
  | zero =>
    intro lv hlv p e H K hp hr hk
    obtain rfl : lv = 8 := by omega
    have hid := lt_of_get hr
    obtain ⟨ga, sa, gs, ss, gsa, ssa, gl0, glk, sl0, slk⟩ := atH hr
    have hl := fun G K hk => hu p e (H ++ G) K hp (fun _ => by omega) (ga G) hk
    rw [opsF] at hk
    generalize mi ⟨p, e⟩ = r at hk hl
    simp only [gpO] at *
    refine We ?_
    have c21 := hl; have us := eq_self (0 : Nat)
    exact W38
  | succ j ih =>
    intro lv hlv p e H K hp hr hk
    have hid := lt_of_get hr
    obtain ⟨ga, sa, gs, ss, gsa, ssa, gl0, glk, sl0, slk⟩ := atH hr
    have hlj : 7 - j = lv := by omega
    have hmo := Mo_ops hm j
    have hb := fun p e H K hp hr hk => ih (lv + 1) (by omega) p e H K hp hr hk
    have hge : ((-9223372036854775808 : Int) ≤ ((lv + 1 : Nat) : Int)) = True := eq_true (by omega)
    have hlt9 : (((lv + 1 : Nat) : Int) ≤ 9223372036854775807) = True := eq_true (by omega)
    have q8 : ((lv : Int) = 8) = False := eq_false (by omega)
    have hl0 := fun G K hk => hb p e (H ++ G) K hp (ga G) hk
    rw [opsF, hlj] at hk
    obtain ⟨x, p2, e2, hx, hp2⟩ := fR_N hmo hp (e := e)
    rw [hx] at hk hl0
    simp only [] at hk
    have ho2 := fun G K hk => gOper_A L hL hT n id p2 e2 (H.set id (gpO L (n : Int) ⟨p2, e2⟩) ++ G) K hp2 (gsa _ _) lv (by omega) hk
    have hq0 : GbOk L lv (opsF L mi j) (binL L lv (opsF L mi j) (L.length + 1) x ⟨p2, e2⟩) ⟨x, p2, e2⟩ := ⟨⟨L.length + 1, by simp only []; omega, rfl⟩, hp2⟩
    generalize binL L lv (opsF L mi j) (L.length + 1) x ⟨p2, e2⟩ = q at hq0 hk
    simp only [gpO] at hl0 ho2 hr ga gs
    refine We ?_
    have c21 := hl0; have c22 := ho2; have us := an q8 (an hge hlt9)
    refine W44 ?_
    all_goals first
      | omega
      | skip
    refine AWp_whileG (GbOk L lv (opsF L mi j) q) (fun y => [(0, .pt id 0 0 0), (1, .d (.i .i64 lv)), (4, .pt H.length 0 0 0), (5, .pt (H.length + 1) 0 0 0), (6, .d (.s (if opN L lv ⟨y.p, y.e⟩ = true then (tokAt L y.p).s else [])))])
      (fun y => H.set id (gpO L (n : Int) ⟨y.p, y.e⟩) ++ [.row 0 30 11 [[.d (.i .i64 0), .d (.i .i64 0), .d (.i .i64 0), .d (.s []), .d (.s []), .d (.i .i64 0), .d (.i .i64 0), .d (.i .i64 0), .d (.s []), .d (.c (.slice none 0 0)), .d (.c (.slice none 0 0))]], .row 0 30 11 [phC y.x]])
      (fun y => L.length - y.p) ⟨x, p2, e2⟩ hq0 ⟨[], ?_⟩ ?_ ?_ ?_ ?_
    · simp [gpO, phC_1]
    · simp (dsimp := false) only [go_sem, Nat.reduceAdd, Nat.reduceBEq, Nat.reduceEqDiff, Nat.reduceLT, Nat.reduceLeDiff, Nat.reduceMul, Int.reduceToNat, reduceCtorEq, ↓reduceIte, not_true_eq_false, not_false_eq_true, Bool.true_and, Bool.false_and, Int.reduceEq, Int.reduceLT, Int.reduceLE, Int.reduceNeg, List.map_cons, List.map_nil, List.length_set, hid, ga, sa, gs, ss, gsa, ssa, gl0, glk, sl0, slk, phV, phW, phD_1, tkV, gpO, q8, pC1, hge, hlt9]
      simp
      try omega
    · intro y hy; simp
    · intro y hy
      refine closed_sa hid (gp_bel _ _ _ _ _) ?_
      simp only [List.forall_mem_cons, List.length_cons, List.length_nil]
      refine ⟨oB1 (by simp [Bel_d]), oB1 (by simp [phC_1, Bel_d]), by simp⟩
    rintro ⟨x8, p8, e8⟩ hy
    have hp8 := hy.p
    simp only [] at hp8 ⊢
    cases ho : opN L lv ⟨p8, e8⟩ with
    | false =>
      rw [hy.stop ho] at hk
      simp only [Bool.false_eq_true, if_false]
      simp only [gpO, phC_1] at *
      have us := q8
      exact W37
    | true =>
      have hlt := opN_lt ho
      have he8 := opN_e ho
      simp only [] at hlt he8
      have hne := ops_ne ho
      have q1 : ((tokAt L p8).s = []) = False := eq_false hne
      have q2 : (e8 = 0) = True := eq_true he8
      simp only [if_true]
      obtain ⟨z, p9, e9, hz, hp9⟩ := fR_N hmo (Nat.succ_le_of_lt hlt) (e := e8)
      have hl8 := fun G K hk => hb (p8 + 1) e8 (H.set id (gpO L (n : Int) ⟨p8 + 1, e8⟩) ++ G) K hlt (gsa _ _) hk
      rw [hz] at hl8
      by_cases h2 : lv = 2
      · have q3 : ((lv : Int) = 2) = True := eq_true (by omega)
        rw [hy.once (.inl h2) ho] at hk
        simp only [] at hk
        rw [hz] at hk
        simp only [phV, phW, pSeq, pStep, pPath, pBin, pMinus, pRoot, pAll, pNil, ph0, mkh, mka, mkc, aD_nil, cD_nil, aD_cons, phD_1, List.map_cons, List.map_nil] at hk
        simp only [gpO, phC_1] at *
        have c21 := hl8; have us := an q8 (an q1 (an q2 q3))
        exact W36
      · have q3 : ((lv : Int) = 2) = False := eq_false (by omega)
        by_cases h3 : lv = 3
        · have q4 : ((lv : Int) = 3) = True := eq_true (by omega)
          rw [hy.once (.inr h3) ho] at hk
          simp only [] at hk
          rw [hz] at hk
          simp only [phV, phW, pSeq, pStep, pPath, pBin, pMinus, pRoot, pAll, pNil, ph0, mkh, mka, mkc, aD_nil, cD_nil, aD_cons, phD_1, List.map_cons, List.map_nil] at hk
          simp only [gpO, phC_1] at *
          have c21 := hl8; have us := an q8 (an q1 (an q2 (an q3 q4)))
          exact W36
        · have q4 : ((lv : Int) = 3) = False := eq_false (by omega)
          have hst := hy.step hmo (fun h => h.elim h2 h3) ho hz
          have ho9 := fun G K hk => gOper_A L hL hT n id p9 e9 (H.set id (gpO L (n : Int) ⟨p9, e9⟩) ++ G) K hp9 (gsa _ _) lv (by omega) hk
          simp only [gpO, phC_1] at *
          have c21 := hl8; have c22 := ho9; have us := an q8 (an q1 (an q2 (an q3 q4)))
          (repeat' (first | with_reducible (first | refine And.intro ?_ ?_ | intro _ | (refine hKv _ _ (AWp_nop ?_); clear hKv Kv) | (refine hKA ?_; clear hKA hKB KA KB) | (refine hKB ?_; clear hKA hKB KA KB) | refine Wp ?_ | fail) | ((first | with_reducible (first | (refine hKv _ _ ?_; clear hKv Kv) | (refine Wr ?_; intro Kv hKv) | refine AWp_retR ?_ | fail) | refine Wc ?_ | fail); try simp (dsimp := false) only [go_sem, Nat.reduceAdd, Nat.reduceBEq, Nat.reduceEqDiff, Nat.reduceLT, Nat.reduceLeDiff, Nat.reduceMul, Int.reduceToNat, reduceCtorEq, ↓reduceIte, us, Bool.false_and, Bool.true_and, Int.reduceEq, Int.reduceLE, Int.reduceLT, Int.reduceNeg, List.length_set, List.map_cons, List.map_nil, ga, gl0, glk, gpO, gs, gsa, hid, not_false_eq_true, not_true_eq_false, pC1, phD_1, phV, phW, sa, sl0, slk, ss, ssa, tkV]) | (refine AWp_condC rfl ?_; intro KA KB hKA hKB; try simp only [onB_true, onB_false, onB_dec, onB_ndec, onB_not, onB_and, onB_or]) | (refine AWp_condA rfl ?_ ?_) | with_reducible (first | refine onB_of ?_ ?_ | rfl) | omega))
          all_goals first
            | omega
            | skip
          refine ⟨⟨pBin (tokAt L p8).s x8 z, p9, e9⟩, [], hst.1, by have := hst.2; simp only [] at this ⊢; omega, by simp [phC_1, pBin, ph0, mkh, mka, mkc, aD_nil, cD_nil, aD_cons, phD_1], ?_⟩
          try (simp (dsimp := false) only [go_sem, Nat.reduceAdd, Nat.reduceBEq, Nat.reduceEqDiff, Nat.reduceLT, Nat.reduceLeDiff, Nat.reduceMul, Int.reduceToNat, reduceCtorEq, ↓reduceIte, not_true_eq_false, not_false_eq_true, Bool.true_and, Bool.false_and, Int.reduceEq, Int.reduceLT, Int.reduceLE, Int.reduceNeg, List.map_cons, List.map_nil, List.length_set, hid, ga, sa, gs, ss, gsa, ssa, gl0, glk, sl0, slk, phV, phW, phD_1, tkV, gpO, q8, pC1, q1, q2, q3, q4])
          all_goals try simp
          all_goals try omega
end Go.Proofs.YtmhabdopcbokoaaDoor.Gq
namespace Go.Proofs.YtmhabdopcbokoaaDoor.Gq
open Go Go.Proofs.YtmhabdopcbokoaaDoor.Ab
variable [Glo] [U8] [Mk] [Gx]
set_option maxHeartbeats 4000000
set_option maxRecDepth 20000
namespace FN57
def tks : Nat → List Nat | 0 => [0] | 1 => [3] | 2 => [3, 4] | 3 => [2] | 4 => [3, 7] | 5 => [2] | 6 => [3, 10] | 7 => [2] | 8 => [3, 13] | 9 => [2] | 10 => [3, 16] | 11 => [2] | 12 => [3, 19] | 13 => [2] | 14 => [22] | 15 => [2] | 16 => [2] | _ => []
def tmu : List Nat := []
def tin : List Nat := [0]
abbrev tfn := @Tryd.func57
end FN57
attribute [go_sem] FN57.tks FN57.tmu FN57.tin Tryd.ntmps57 Tryd.results57
open FN57 in
theorem rOpsAt_A (r : Nat) (hr8 : r < 8) (H : Heap) (K : V → Heap → Prop) (hk : K (.d (.sl 1 ((opsL r).map strRow))) H) : ACalls Tryd.prog 57 [.d (.i .i64 (r : Int))] H K := by
  obtain rfl | rfl | rfl | rfl | rfl | rfl | rfl | rfl : r = 0 ∨ r = 1 ∨ r = 2 ∨ r = 3 ∨ r = 4 ∨ r = 5 ∨ r = 6 ∨ r = 7 := by omega
  · rw [show (((0 : Nat) : Nat) : Int) = 0 from rfl]
    simp only [opsL, List.map_cons, List.map_nil, strRow] at hk
    refine We ?_
    have us := eq_self (0 : Nat)
    exact W45
  · rw [show (((1 : Nat) : Nat) : Int) = 1 from rfl]
    simp only [opsL, List.map_cons, List.map_nil, strRow] at hk
    refine We ?_
    have us := eq_self (0 : Nat)
    exact W45
  · rw [show (((2 : Nat) : Nat) : Int) = 2 from rfl]
    simp only [opsL, List.map_cons, List.map_nil, strRow] at hk
    refine We ?_
    have us := eq_self (0 : Nat)
    exact W45
  · rw [show (((3 : Nat) : Nat) : Int) = 3 from rfl]
    simp only [opsL, List.map_cons, List.map_nil, strRow] at hk
    refine We ?_
    have us := eq_self (0 : Nat)
    exact W45
  · rw [show (((4 : Nat) : Nat) : Int) = 4 from rfl]
    simp only [opsL, List.map_cons, List.map_nil, strRow] at hk
    refine We ?_
    have us := eq_self (0 : Nat)
    exact W45
  · rw [show (((5 : Nat) : Nat) : Int) = 5 from rfl]
    simp only [opsL, List.map_cons, List.map_nil, strRow] at hk
    refine We ?_
    have us := eq_self (0 : Nat)
    exact W45
  · rw [show (((6 : Nat) : Nat) : Int) = 6 from rfl]
    simp only [opsL, List.map_cons, List.map_nil, strRow] at hk
    refine We ?_
    have us := eq_self (0 : Nat)
    exact W45
  · rw [show (((7 : Nat) : Nat) : Int) = 7 from rfl]
    simp only [opsL, List.map_cons, List.map_nil, strRow] at hk
    refine We ?_
    have us := eq_self (0 : Nat)
    exact W45
theorem opN_pk {L : List Tk} {r p : Nat} {e : Int} : opN L r ⟨p, e⟩ = (!decide (pkT L p e = []) && decide (pkT L p e ∈ opsL r)) := by
  have hne : [] ∉ opsL r := by unfold opsL; split <;> simp
  unfold opN pkT
  by_cases he : e = 0
  · by_cases hk : isK (tokAt L p) = true
    · rw [if_pos ⟨he, hk⟩, decide_eq_true he, hk, Bool.true_and, Bool.true_and]
      by_cases hs : (tokAt L p).s = []
      · rw [hs, decide_eq_false hne]; rfl
      · rw [decide_eq_false hs]; rfl
    · rw [if_neg (fun h => hk h.2), Bool.eq_false_iff.2 hk]
      simp
  · rw [if_neg (fun h => he h.1), decide_eq_false he]
    simp
namespace FN48
def tks : Nat → List Nat | 0 => [0, 1, 2, 6] | 1 => [0, 1, 2, 6, 12] | 2 => [6] | 3 => [0, 1, 2, 6, 7] | 4 => [0, 1, 2, 6, 7, 8] | 5 => [0, 1, 2, 6, 7, 8, 34] | 6 => [6] | 7 => [0, 1, 2, 6, 7, 8] | 8 => [0, 1, 2, 6, 7, 8, 10] | 9 => [0, 1, 2, 6, 7] | 10 => [0, 1, 2, 6, 7, 58] | 11 => [6] | _ => []
def tmu : List Nat := []
def tin : List Nat := [0, 1, 2]
abbrev tfn := @Tryd.func48
end FN48
attribute [go_sem] FN48.tks FN48.tmu FN48.tin Tryd.ntmps48 Tryd.results48
open FN48 in
theorem rOps_A (L : List Tk) (hL : L.length ≤ 200) {mi : Ps → PR} (hm : Mo L mi) (n : Nat) (hn : n ≤ 100) (id : Nat) (B : Prop) (hu : GRt L 56 mi n id B) : ∀ (j lv : Nat), lv + j = 8 → ∀ (p : Nat) (e : Int) (H : Heap) (K : V → Heap → Prop), p ≤ L.length → (e = 0 → B) → H[id]? = some (grO L ⟨p, e⟩) →
    K (phV (opsF L mi j ⟨p, e⟩).1) (H.set id (grO L (opsF L mi j ⟨p, e⟩).2)) → ACalls Tryd.prog 48 [.pt id 0 0 0, .d (.i .i64 (n : Int)), .d (.i .i64 (lv : Int))] H K := by
  intro j
  induction j with
  | zero =>
    intro lv hlv p e H K hp hg hr hk
    obtain rfl : lv = 8 := by omega
    have hid := lt_of_get hr
    obtain ⟨ga, sa, gs, ss, gsa, ssa, gl0, glk, sl0, slk⟩ := atH hr
    have hl := fun G K hk => hu p e (H ++ G) K hp hg (ga G) hk
    rw [opsF] at hk
    generalize mi ⟨p, e⟩ = r at hk hl
    rw [show (((8 : Nat) : Nat) : Int) = 8 from rfl]
    simp only [grO] at *
    refine We ?_
    have c21 := hl; have us := eq_self (0 : Nat)
    exact W43
  | succ j ih =>
    intro lv hlv p e H K hp hg hr hk
    have hid := lt_of_get hr
    obtain ⟨ga, sa, gs, ss, gsa, ssa, gl0, glk, sl0, slk⟩ := atH hr
    have hlj : 7 - j = lv := by omega
    have hmo := Mo_ops hm j
    have hb := fun p e H K hp hg hr hk => ih (lv + 1) (by omega) p e H K hp hg hr hk
    have hge : ((-9223372036854775808 : Int) ≤ ((lv + 1 : Nat) : Int)) = True := eq_true (by omega)
    have hlt9 : (((lv + 1 : Nat) : Int) ≤ 9223372036854775807) = True := eq_true (by omega)
    have q8 : ((lv : Int) = 8) = False := eq_false (by omega)
    have hl0 := fun G K hk => hb p e (H ++ G) K hp hg (ga G) hk
    rw [opsF, hlj] at hk
    obtain ⟨x, p2, e2, hx, hp2⟩ := fR_N hmo hp (e := e)
    have hg2 : e2 = 0 → B := fun h => by
      have := hmo ⟨p, e⟩ hp
      rw [hx] at this
      exact hg (this.e0 h)
    rw [hx] at hk hl0
    simp only [] at hk
    have hq0 : GbOk L lv (opsF L mi j) (binL L lv (opsF L mi j) (L.length + 1) x ⟨p2, e2⟩) ⟨x, p2, e2⟩ := ⟨⟨L.length + 1, by simp only []; omega, rfl⟩, hp2⟩
    generalize binL L lv (opsF L mi j) (L.length + 1) x ⟨p2, e2⟩ = q at hq0 hk
    have hoa := rOpsAt_A lv (by omega)
    have hol := opsL_len lv
    simp only [grO] at hl0 hr ga gs
    refine We ?_
    have c21 := hl0; have us := an q8 (an hge hlt9)
    refine W46 ?_
    all_goals first
      | omega
      | skip
    refine AWp_whileG (fun y => GbOk L lv (opsF L mi j) q y ∧ (y.e = 0 → B)) (fun y => [(0, .pt id 0 0 0), (1, .d (.i .i64 (n : Int))), (2, .d (.i .i64 (lv : Int))), (6, .pt H.length 0 0 0), (7, .pt (H.length + 1) 0 0 0)])
      (fun y => H.set id (grO L ⟨y.p, y.e⟩) ++ [.row 0 30 11 [[.d (.i .i64 0), .d (.i .i64 0), .d (.i .i64 0), .d (.s []), .d (.s []), .d (.i .i64 0), .d (.i .i64 0), .d (.i .i64 0), .d (.s []), .d (.c (.slice none 0 0)), .d (.c (.slice none 0 0))]], .row 0 30 11 [phC y.x]])
      (fun y => L.length - y.p) ⟨x, p2, e2⟩ ⟨hq0, hg2⟩ ⟨[], ?_⟩ ?_ ?_ ?_ ?_
    · simp [grO, phC_1]
    · simp (dsimp := false) only [go_sem, Nat.reduceAdd, Nat.reduceBEq, Nat.reduceEqDiff, Nat.reduceLT, Nat.reduceLeDiff, Nat.reduceMul, Int.reduceToNat, reduceCtorEq, ↓reduceIte, not_true_eq_false, not_false_eq_true, Bool.true_and, Bool.false_and, Int.reduceEq, Int.reduceLT, Int.reduceLE, Int.reduceNeg, List.map_cons, List.map_nil, List.length_set, hid, ga, sa, gs, ss, gsa, ssa, gl0, glk, sl0, slk, phV, phW, phD_1, tkV, grO, q8, pC1, hge, hlt9]
      simp
      try omega
    · intro y hy; simp
    · intro y hy
      refine closed_sa hid (gr_bel _ _ _ _) ?_
      simp only [List.forall_mem_cons, List.length_cons, List.length_nil]
      refine ⟨oB1 (by simp [Bel_d]), oB1 (by simp [phC_1, Bel_d]), by simp⟩
    rintro ⟨x8, p8, e8⟩ ⟨hy, hg8⟩
    have hp8 := hy.p
    simp only [] at hp8 hg8 ⊢
    have hpk := fun G K hk => rPeek_A L hL id p8 e8 hp8 0 (by omega) (H.set id (grO L ⟨p8, e8⟩) ++ G) K (gsa _ _) hk
    rw [Nat.add_zero] at hpk
    have ht := fun H K hk => contains_T (opsL lv) (pkT L p8 e8) H K (by omega) hk
    have hob := opN_pk (L := L) (r := lv) (p := p8) (e := e8)
    cases ho : opN L lv ⟨p8, e8⟩ with
    | false =>
      rw [hy.stop ho] at hk
      rw [ho] at hob
      by_cases h1 : pkT L p8 e8 = []
      · have q1 : (pkT L p8 e8 = []) = True := eq_true h1
        simp only [grO, phC_1] at *
        have c21 := hpk; have us := an q8 q1
        exact W39
      · have q1 : (pkT L p8 e8 = []) = False := eq_false h1
        rw [decide_eq_false h1, Bool.not_false, Bool.true_and] at hob
        rw [← hob] at ht
        simp only [grO, phC_1] at *
        have c21 := hpk; have c22 := hoa; have c23 := ht; have us := an q8 q1
        exact W39
    | true =>
      have hlt := opN_lt ho
      have he8 := opN_e ho
      simp only [] at hlt he8
      have hB := hg8 he8
      have hs8 : pkT L p8 e8 = (tokAt L p8).s := by
        have := ho
        unfold opN at this
        simp only [Bool.and_eq_true, decide_eq_true_eq] at this
        unfold pkT
        rw [if_pos ⟨this.1, this.2.1⟩]
      have hne := ops_ne ho
      rw [hs8] at hpk ht hob
      have q1 : ((tokAt L p8).s = []) = False := eq_false hne
      rw [ho, decide_eq_false hne, Bool.not_false, Bool.true_and] at hob
      rw [← hob] at ht
      obtain ⟨z, p9, e9, hz, hp9⟩ := fR_N hmo (Nat.succ_le_of_lt hlt) (e := e8)
      have hl8 := fun G K hk => hb (p8 + 1) e8 (H.set id (grO L ⟨p8 + 1, e8⟩) ++ G) K hlt (fun _ => hB) (gsa _ _) hk
      rw [hz] at hl8
      by_cases h2 : lv = 2
      · have q3 : ((lv : Int) = 2) = True := eq_true (by omega)
        rw [hy.once (.inl h2) ho] at hk
        simp only [] at hk
        rw [hz] at hk
        simp only [phV, phW, pSeq, pStep, pPath, pBin, pMinus, pRoot, pAll, pNil, ph0, mkh, mka, mkc, aD_nil, cD_nil, aD_cons, phD_1, List.map_cons, List.map_nil] at hk
        simp only [grO, phC_1] at *
        have c21 := hpk; have c22 := hoa; have c23 := ht; have c24 := hl8; have us := an q8 (an q1 q3)
        exact W42
      · have q3 : ((lv : Int) = 2) = False := eq_false (by omega)
        by_cases h3 : lv = 3
        · have q4 : ((lv : Int) = 3) = True := eq_true (by omega)
          rw [hy.once (.inr h3) ho] at hk
          simp only [] at hk
          rw [hz] at hk
          simp only [phV, phW, pSeq, pStep, pPath, pBin, pMinus, pRoot, pAll, pNil, ph0, mkh, mka, mkc, aD_nil, cD_nil, aD_cons, phD_1, List.map_cons, List.map_nil] at hk
          simp only [grO, phC_1] at *
          have c21 := hpk; have c22 := hoa; have c23 := ht; have c24 := hl8; have us := an q8 (an q1 (an q3 q4))
          exact W42
        · have q4 : ((lv : Int) = 3) = False := eq_false (by omega)
          have hst := hy.step hmo (fun h => h.elim h2 h3) ho hz
          simp only [grO, phC_1] at *
          have c21 := hpk; have c22 := hoa; have c23 := ht; have c24 := hl8; have us := an q8 (an q1 (an q3 q4))
          (repeat' (first | with_reducible (first | refine And.intro ?_ ?_ | intro _ | (refine hKv _ _ (AWp_nop ?_); clear hKv Kv) | (refine hKA ?_; clear hKA hKB KA KB) | (refine hKB ?_; clear hKA hKB KA KB) | refine Wp ?_ | fail) | ((first | with_reducible (first | (refine hKv _ _ ?_; clear hKv Kv) | (refine Wr ?_; intro Kv hKv) | refine AWp_retR ?_ | fail) | refine Wc ?_ | fail); try simp (dsimp := false) only [go_sem, Nat.reduceAdd, Nat.reduceBEq, Nat.reduceEqDiff, Nat.reduceLT, Nat.reduceLeDiff, Nat.reduceMul, Int.reduceToNat, reduceCtorEq, ↓reduceIte, us, Bool.false_and, Bool.true_and, Int.reduceEq, Int.reduceLE, Int.reduceLT, Int.reduceNeg, List.length_set, List.map_cons, List.map_nil, ga, gl0, glk, grO, gs, gsa, hid, not_false_eq_true, not_true_eq_false, pC1, phD_1, phV, phW, sa, sl0, slk, ss, ssa, tkV]) | (refine AWp_condC rfl ?_; intro KA KB hKA hKB; try simp only [onB_true, onB_false, onB_dec, onB_ndec, onB_not, onB_and, onB_or]) | (refine AWp_condA rfl ?_ ?_) | with_reducible (first | refine onB_of ?_ ?_ | rfl) | omega))
          all_goals first
            | omega
            | skip
          refine ⟨⟨pBin (tokAt L p8).s x8 z, p9, e9⟩, [.row 0 30 11 [phC z]], ⟨hst.1, fun _ => hB⟩, by have := hst.2; simp only [] at this ⊢; omega, by simp [phC_1, pBin, ph0, mkh, mka, mkc, aD_nil, cD_nil, aD_cons, phD_1], ?_⟩
          try (simp (dsimp := false) only [go_sem, Nat.reduceAdd, Nat.reduceBEq, Nat.reduceEqDiff, Nat.reduceLT, Nat.reduceLeDiff, Nat.reduceMul, Int.reduceToNat, reduceCtorEq, ↓reduceIte, not_true_eq_false, not_false_eq_true, Bool.true_and, Bool.false_and, Int.reduceEq, Int.reduceLT, Int.reduceLE, Int.reduceNeg, List.map_cons, List.map_nil, List.length_set, hid, ga, sa, gs, ss, gsa, ssa, gl0, glk, sl0, slk, phV, phW, phD_1, tkV, grO, q8, pC1, q1, q3, q4])
          all_goals try simp
          all_goals try omega
end Go.Proofs.YtmhabdopcbokoaaDoor.Gq
namespace Go.Proofs.YtmhabdopcbokoaaDoor.Gq
open Go Go.Proofs.YtmhabdopcbokoaaDoor.Ab
variable [Glo] [U8] [Mk] [Gx]
set_option maxHeartbeats 4000000
set_option maxRecDepth 20000
def bldB (x0 : Bs) (k0 : Int) (x1 : Bs) (k1 : Int) (x2 : Bs) (k2 : Int) : Bool :=
  decide (k0 = 1) && (if x0 = [116, 101, 120, 116] then decide (x1 = [123]) && decide (k1 = 5) else (decide (x0 = [101, 108, 101, 109, 101, 110, 116]) || decide (x0 = [97, 116, 116, 114, 105, 98, 117, 116, 101])) && (decide (k1 = 1) && (decide (x2 = [123]) && decide (k2 = 5))))
theorem pk_mk {L : List Tk} {i : Nat} {s : Bs} (hs : s ≠ []) : (decide (pkT L i 0 = s) && decide (pkK L i 0 = 5)) = mkAt L i s := by
  unfold pkT pkK mkAt
  rw [if_pos rfl]
  by_cases h5 : (tokAt L i).k = 5
  · rw [if_pos ⟨rfl, by simp [isK, h5]⟩, Bool.and_comm]
  · rw [decide_eq_false h5, Bool.and_false, Bool.false_and]
theorem bld_eq {L : List Tk} {p : Nat} {e : Int} : bldB (pkT L p e) (pkK L p e) (pkT L (p + 1) e) (pkK L (p + 1) e) (pkT L (p + 2) e) (pkK L (p + 2) e) = (decide (e = 0) && makesB L ⟨p, e⟩) := by
  by_cases he : e = 0
  · subst he
    have m1 := pk_mk (L := L) (i := p + 1) (s := [123]) (by decide)
    have m2 := pk_mk (L := L) (i := p + 2) (s := [123]) (by decide)
    unfold bldB
    rw [m1, m2]
    unfold makesB
    have hk0 : pkK L p 0 = (tokAt L p).k := by simp [pkK]
    have hk1 : pkK L (p + 1) 0 = (tokAt L (p + 1)).k := by simp [pkK]
    rw [hk0, hk1]
    simp only [decide_true, Bool.true_and]
    by_cases h1 : (tokAt L p).k = 1
    · have hx : pkT L p 0 = (tokAt L p).s := by unfold pkT; rw [if_pos ⟨rfl, by simp [isK, h1]⟩]
      rw [hx, decide_eq_true h1, Bool.true_and, Bool.true_and]
      by_cases ht : (tokAt L p).s = [116, 101, 120, 116]
      · rw [if_pos ht, decide_eq_true (show (tokAt L p).s = sText from ht), decide_eq_false (show ¬ (tokAt L p).s = sElement from by rw [ht]; decide), decide_eq_false (show ¬ (tokAt L p).s = sAttribute from by rw [ht]; decide)]
        simp [sOpenC]
      · rw [if_neg ht, decide_eq_false (show ¬ (tokAt L p).s = sText from ht), Bool.false_and, Bool.or_false]
        rfl
    · rw [decide_eq_false h1, Bool.false_and, Bool.false_and]
  · rw [decide_eq_false he, Bool.false_and]
    unfold bldB pkK
    rw [if_neg he]
    rfl
namespace FN80
def tks : Nat → List Nat | 0 => [0] | 1 => [0, 3, 4] | 2 => [0, 3, 4, 5, 6] | 3 => [3, 4, 5, 6, 7, 8] | 4 => [3, 5, 6, 7, 8, 25] | 5 => [2] | 6 => [3, 5, 6, 7, 8, 27] | 7 => [2] | 8 => [2] | _ => []
def tmu : List Nat := []
def tin : List Nat := [0]
abbrev tfn := @Tryd.func80
end FN80
attribute [go_sem] FN80.tks FN80.tmu FN80.tin Tryd.ntmps80 Tryd.results80
open FN80 in
theorem rBuilds_A (L : List Tk) (hL : L.length ≤ 200) (id p : Nat) (e : Int) (hp : p ≤ L.length) (H : Heap) (K : V → Heap → Prop) (hr : H[id]? = some (grO L ⟨p, e⟩)) (hk : K (.d (.b (decide (e = 0) && makesB L ⟨p, e⟩))) H) :
    ACalls Tryd.prog 80 [.pt id 0 0 0] H K := by
  have t0 := fun K hk => rPeek_A L hL id p e hp 0 (by omega) H K hr hk
  have t1 := fun K hk => rPeek_A L hL id p e hp 1 (by omega) H K hr hk
  have t2 := fun K hk => rPeek_A L hL id p e hp 2 (by omega) H K hr hk
  rw [Nat.add_zero] at t0
  rw [← bld_eq] at hk
  generalize pkT L p e = x0 at hk t0
  generalize pkK L p e = k0 at hk t0
  generalize pkT L (p + 1) e = x1 at hk t1
  generalize pkK L (p + 1) e = k1 at hk t1
  generalize pkT L (p + 2) e = x2 at hk t2
  generalize pkK L (p + 2) e = k2 at hk t2
  by_cases b0 : k0 = 1
  · have qb0 : (k0 = 1) = True := eq_true b0
    by_cases b1 : x0 = [116, 101, 120, 116]
    · have qb1 : (x0 = [116, 101, 120, 116]) = True := eq_true b1
      by_cases b2 : x1 = [123]
      · have qb2 : (x1 = [123]) = True := eq_true b2
        by_cases b3 : k1 = 5
        · have qb3 : (k1 = 5) = True := eq_true b3
          simp [bldB, qb0, qb1, qb2, qb3] at hk
          refine We ?_
          have c11 := t0; have c12 := t1; have c13 := t2; have us := an qb0 (an qb1 (an qb2 qb3))
          exact W47
        · have qb3 : (k1 = 5) = False := eq_false b3
          simp [bldB, qb0, qb1, qb2, qb3] at hk
          refine We ?_
          have c11 := t0; have c12 := t1; have c13 := t2; have us := an qb0 (an qb1 (an qb2 qb3))
          exact W47
      · have qb2 : (x1 = [123]) = False := eq_false b2
        simp [bldB, qb0, qb1, qb2] at hk
        refine We ?_
        have c11 := t0; have c12 := t1; have c13 := t2; have us := an qb0 (an qb1 qb2)
        exact W47
    · have qb1 : (x0 = [116, 101, 120, 116]) = False := eq_false b1
      by_cases b4 : x0 = [101, 108, 101, 109, 101, 110, 116]
      · have qb4 : (x0 = [101, 108, 101, 109, 101, 110, 116]) = True := eq_true b4
        by_cases c1 : k1 = 1
        · have qc1 : (k1 = 1) = True := eq_true c1
          by_cases c2 : x2 = [123]
          · have qc2 : (x2 = [123]) = True := eq_true c2
            by_cases c3 : k2 = 5
            · have qc3 : (k2 = 5) = True := eq_true c3
              simp [bldB, qb0, qb1, qb4, qc1, qc2, qc3] at hk
              refine We ?_
              have c11 := t0; have c12 := t1; have c13 := t2; have us := an qb0 (an qb1 (an qb4 (an qc1 (an qc2 qc3))))
              exact W47
            · have qc3 : (k2 = 5) = False := eq_false c3
              simp [bldB, qb0, qb1, qb4, qc1, qc2, qc3] at hk
              refine We ?_
              have c11 := t0; have c12 := t1; have c13 := t2; have us := an qb0 (an qb1 (an qb4 (an qc1 (an qc2 qc3))))
              exact W47
          · have qc2 : (x2 = [123]) = False := eq_false c2
            simp [bldB, qb0, qb1, qb4, qc1, qc2] at hk
            refine We ?_
            have c11 := t0; have c12 := t1; have c13 := t2; have us := an qb0 (an qb1 (an qb4 (an qc1 qc2)))
            exact W47
        · have qc1 : (k1 = 1) = False := eq_false c1
          simp [bldB, qb0, qb1, qb4, qc1] at hk
          refine We ?_
          have c11 := t0; have c12 := t1; have c13 := t2; have us := an qb0 (an qb1 (an qb4 qc1))
          exact W47
      · have qb4 : (x0 = [101, 108, 101, 109, 101, 110, 116]) = False := eq_false b4
        by_cases b5 : x0 = [97, 116, 116, 114, 105, 98, 117, 116, 101]
        · have qb5 : (x0 = [97, 116, 116, 114, 105, 98, 117, 116, 101]) = True := eq_true b5
          by_cases c1 : k1 = 1
          · have qc1 : (k1 = 1) = True := eq_true c1
            by_cases c2 : x2 = [123]
            · have qc2 : (x2 = [123]) = True := eq_true c2
              by_cases c3 : k2 = 5
              · have qc3 : (k2 = 5) = True := eq_true c3
                simp [bldB, qb0, qb1, qb4, qb5, qc1, qc2, qc3] at hk
                refine We ?_
                have c11 := t0; have c12 := t1; have c13 := t2; have us := an qb0 (an qb1 (an qb4 (an qb5 (an qc1 (an qc2 qc3)))))
                exact W47
              · have qc3 : (k2 = 5) = False := eq_false c3
                simp [bldB, qb0, qb1, qb4, qb5, qc1, qc2, qc3] at hk
                refine We ?_
                have c11 := t0; have c12 := t1; have c13 := t2; have us := an qb0 (an qb1 (an qb4 (an qb5 (an qc1 (an qc2 qc3)))))
                exact W47
            · have qc2 : (x2 = [123]) = False := eq_false c2
              simp [bldB, qb0, qb1, qb4, qb5, qc1, qc2] at hk
              refine We ?_
              have c11 := t0; have c12 := t1; have c13 := t2; have us := an qb0 (an qb1 (an qb4 (an qb5 (an qc1 qc2))))
              exact W47
          · have qc1 : (k1 = 1) = False := eq_false c1
            simp [bldB, qb0, qb1, qb4, qb5, qc1] at hk
            refine We ?_
            have c11 := t0; have c12 := t1; have c13 := t2; have us := an qb0 (an qb1 (an qb4 (an qb5 qc1)))
            exact W47
        · have qb5 : (x0 = [97, 116, 116, 114, 105, 98, 117, 116, 101]) = False := eq_false b5
          simp [bldB, qb0, qb1, qb4, qb5] at hk
          refine We ?_
          have c11 := t0; have c12 := t1; have c13 := t2; have us := an qb0 (an qb1 (an qb4 qb5))
          exact W47
  · have qb0 : (k0 = 1) = False := eq_false b0
    simp [bldB, qb0] at hk
    refine We ?_
    have c11 := t0; have c12 := t1; have c13 := t2; have us := qb0
    exact W47
end Go.Proofs.YtmhabdopcbokoaaDoor.Gq
