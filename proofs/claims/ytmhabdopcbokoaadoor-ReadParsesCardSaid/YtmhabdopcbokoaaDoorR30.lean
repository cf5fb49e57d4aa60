/- The parser of queries: what is no step; paths. No condition but that the tables of package unicode/utf8 are there. -/
import Derived.Test.YtmhabdopcbokoaaDoorR18
import Derived.Test.YtmhabdopcbokoaaDoorR28
set_option linter.all false
set_option linter.unusedSimpArgs false
set_option linter.unusedVariables false
namespace Go.Proofs.YtmhabdopcbokoaaDoor.Gq
open Go Go.Proofs.YtmhabdopcbokoaaDoor.Ab
variable [Glo] [Gx]
set_option maxHeartbeats 4000000
set_option maxRecDepth 20000
namespace FN76
def tks : Nat → List Nat | 0 => [0, 2] | 1 => [0, 2, 3] | 2 => [0, 2, 3, 7] | 3 => [2] | 4 => [0, 2, 3, 14] | 5 => [2, 3] | 6 => [2] | 7 => [0, 2, 3, 29] | 8 => [2, 3] | 9 => [2] | 10 => [0, 2, 3, 44] | 11 => [2, 3] | 12 => [2] | 13 => [0, 2, 3, 58] | 14 => [2] | 15 => [0, 2, 3, 62] | 16 => [0, 2, 66] | 17 => [2] | 18 => [0, 2, 4] | 19 => [2, 4] | 20 => [2] | 21 => [0, 2, 3, 73] | 22 => [2] | 23 => [0, 2, 78] | 24 => [2] | 25 => [2] | 26 => [2] | _ => []
def tmu : List Nat := []
def tin : List Nat := [0]
abbrev tfn := @Tryd.func76
end FN76
attribute [go_sem] FN76.tks FN76.tmu FN76.tin Tryd.ntmps76 Tryd.results76
open FN76 in
theorem gPrim_A (L : List Tk) (hL : L.length ≤ 200) (hT : TksG L) {ex al : Ps → PR} (hm : Mo L ex) (hm2 : Mo L al) (n id : Nat) (p : Nat) (e : Int) (H : Heap) (K : V → Heap → Prop) (hp : p ≤ L.length) (hr : H[id]? = some (gpO L (n : Int) ⟨p, e⟩)) (hn30 : n ≤ 30) (hs : GAt L 9 ex n id) (hs2 : GAt L 17 al n id) (hk : K (phV (firstF L ex al ⟨p, e⟩).1) (H.set id (gpO L (n : Int) (firstF L ex al ⟨p, e⟩).2))) :
    ACalls Tryd.prog 76 [.pt id 0 0 0] H K := by
  have hid := lt_of_get hr
  obtain ⟨ga, sa, gs, ss, gsa, ssa, gl0, glk, sl0, slk⟩ := atH hr
  have ht := fun G K hk => gToken_A L hL id (n : Int) ⟨p, e⟩ hp 0 (by omega) (H ++ G) K (ga G) hk
  rw [Nat.add_zero] at ht
  simp only [] at ht
  have hmk := fun G K hk => gMakes_A L hL hT n id p e (H ++ G) K hp (ga G) hk
  rw [firstF] at hk
  by_cases he : e = 0
  · have q0 : (e = 0) = True := eq_true he
    rw [if_neg (fun h => h he)] at hk
    by_cases a2 : (tokAt L p).k = 2
    · have q2 : ((tokAt L p).k = 2) = True := eq_true a2
      have hp1 : p + 1 ≤ L.length := tokAt_lt (by omega)
      rw [if_pos a2] at hk
      simp only [phV, phW, pSeq, pStep, pPath, pBin, pMinus, pRoot, pAll, pNil, ph0, mkh, mka, mkc, aD_nil, cD_nil, aD_cons, phD_1, List.map_cons, List.map_nil] at hk
      simp only [nxt] at hk
      simp only [gpO] at *
      refine We ?_
      have c21 := ht; have us := an q0 q2
      exact W36
    · have q2 : ((tokAt L p).k = 2) = False := eq_false a2
      rw [if_neg a2] at hk
      by_cases a3 : (tokAt L p).k = 3
      · have q3 : ((tokAt L p).k = 3) = True := eq_true a3
        have hp1 : p + 1 ≤ L.length := tokAt_lt (by omega)
        rw [if_pos a3] at hk
        simp only [phV, phW, pSeq, pStep, pPath, pBin, pMinus, pRoot, pAll, pNil, ph0, mkh, mka, mkc, aD_nil, cD_nil, aD_cons, phD_1, List.map_cons, List.map_nil] at hk
        simp only [nxt] at hk
        simp only [gpO] at *
        refine We ?_
        have c21 := ht; have us := an q0 (an q3 q2)
        exact W36
      · have q3 : ((tokAt L p).k = 3) = False := eq_false a3
        rw [if_neg a3] at hk
        by_cases a4 : (tokAt L p).k = 4
        · have q4 : ((tokAt L p).k = 4) = True := eq_true a4
          have hp1 : p + 1 ≤ L.length := tokAt_lt (by omega)
          rw [if_pos a4] at hk
          simp only [phV, phW, pSeq, pStep, pPath, pBin, pMinus, pRoot, pAll, pNil, ph0, mkh, mka, mkc, aD_nil, cD_nil, aD_cons, phD_1, List.map_cons, List.map_nil] at hk
          simp only [nxt] at hk
          simp only [gpO] at *
          refine We ?_
          have c21 := ht; have us := an q0 (an q4 (an q2 q3))
          exact W36
        · have q4 : ((tokAt L p).k = 4) = False := eq_false a4
          rw [if_neg a4] at hk
          cases hd : isN L sDot ⟨p, e⟩ with
          | true =>
            rw [hd, if_pos rfl] at hk
            rw [sDot] at hd
            have h1 := fun G K hk => gHasT_A L hL id (n : Int) p e [46] hd (H ++ G) K (ga G) hk
            simp only [phV, phW, pSeq, pStep, pPath, pBin, pMinus, pRoot, pAll, pNil, ph0, mkh, mka, mkc, aD_nil, cD_nil, aD_cons, phD_1, List.map_cons, List.map_nil] at hk
            simp only [nxt] at hk
            simp only [gpO] at *
            refine We ?_
            have c21 := ht; have c22 := h1; have us := an q0 (an q2 (an q3 q4))
            exact W36
          | false =>
            rw [hd, if_neg (by decide)] at hk
            rw [sDot] at hd
            have h1 := fun G K hk => gHasF_A L hL id (n : Int) p hp e [46] hd (H ++ G) K (ga G) hk
            cases ho : isN L sOpen ⟨p, e⟩ with
            | true =>
              have hp1 := isN_lt ho
              simp only [] at hp1
              rw [ho, if_pos rfl] at hk
              rw [sOpen] at ho
              have h2 := fun G K hk => gHasT_A L hL id (n : Int) p e [40] ho (H ++ G) K (ga G) hk
              cases hc : isN L sClose (nxt ⟨p, e⟩) with
              | true =>
                rw [hc, if_pos rfl] at hk
                simp only [nxt, sClose] at hc hk
                have h3 := fun G K hk => gHasT_A L hL id (n : Int) (p + 1) e [41] hc (H.set id (gpO L (n : Int) ⟨(p + 1), e⟩) ++ G) K (gsa _ _) hk
                simp only [phV, phW, pSeq, pStep, pPath, pBin, pMinus, pRoot, pAll, pNil, ph0, mkh, mka, mkc, aD_nil, cD_nil, aD_cons, phD_1, List.map_cons, List.map_nil] at hk
                simp only [gpO] at *
                refine We ?_
                have c21 := ht; have c22 := h1; have c23 := h2; have c24 := h3; have us := an q0 (an q2 (an q3 q4))
                exact W36
              | false =>
                rw [hc, if_neg (by decide)] at hk
                simp only [nxt, sClose] at hc hk
                have h3 := fun G K hk => gHasF_A L hL id (n : Int) (p + 1) hp1 e [41] hc (H.set id (gpO L (n : Int) ⟨(p + 1), e⟩) ++ G) K (gsa _ _) hk
                have hl := fun G K hk => hs (p + 1) e (H.set id (gpO L (n : Int) ⟨(p + 1), e⟩) ++ G) K hp1 (fun _ => by omega) (gsa _ _) hk
                obtain ⟨y, p4, e4, hy, hp4⟩ := fR_N hm hp1 (e := e)
                rw [hy] at hk hl
                have hmu := fun G K hk => gMust_A L hL id (n : Int) p4 hp4 e4 [41] (H.set id (gpO L (n : Int) ⟨p4, e4⟩) ++ G) K (gsa _ _) hk
                simp only [sClose] at hk
                generalize mustP L [41] ⟨p4, e4⟩ = s5 at hk hmu
                simp only [phV, phW, pSeq, pStep, pPath, pBin, pMinus, pRoot, pAll, pNil, ph0, mkh, mka, mkc, aD_nil, cD_nil, aD_cons, phD_1, List.map_cons, List.map_nil] at hk
                simp only [gpO] at *
                refine We ?_
                have c21 := ht; have c22 := h1; have c23 := h2; have c24 := h3; have c25 := hl; have c26 := hmu; have us := an q0 (an q2 (an q3 q4))
                exact W36
            | false =>
              rw [ho, if_neg (by decide)] at hk
              rw [sOpen] at ho
              have h2 := fun G K hk => gHasF_A L hL id (n : Int) p hp e [40] ho (H ++ G) K (ga G) hk
              cases hv : makesB L ⟨p, e⟩ with
              | true =>
                rw [hv, if_pos rfl] at hk
                have hmd := fun G K hk => gMade_A L hL hm n id p e (H ++ G) K hp (ga G) hn30 hs hv he hk
                generalize madeF L ex ⟨p, e⟩ = r at hk hmd
                simp only [gpO] at *
                refine We ?_
                have c21 := ht; have c22 := h1; have c23 := h2; have c24 := hmk; have c25 := hmd; have us := an q0 (an q2 (an q3 (an q4 hv)))
                exact W37
              | false =>
                rw [hv, if_neg (by decide)] at hk
                by_cases a1 : (tokAt L p).k = 1
                · have q1 : ((tokAt L p).k = 1) = True := eq_true a1
                  rw [if_pos a1] at hk
                  have hcl := fun G K hk => gCall_A L hL hm2 n id p e (H ++ G) K hp (ga G) hn30 hs2 hk
                  generalize callF L al ⟨p, e⟩ = r at hk hcl
                  simp only [gpO] at *
                  refine We ?_
                  have c21 := ht; have c22 := h1; have c23 := h2; have c24 := hmk; have c25 := hcl; have us := an q0 (an q2 (an q3 (an q4 (an hv q1))))
                  exact W37
                · have q1 : ((tokAt L p).k = 1) = False := eq_false a1
                  rw [if_neg a1] at hk
                  have hsk := fun G K hk => gStuck_A L hL id (n : Int) ⟨p, e⟩ hp (H ++ G) K (ga G) hk
                  simp only [phV, phW, pSeq, pStep, pPath, pBin, pMinus, pRoot, pAll, pNil, ph0, mkh, mka, mkc, aD_nil, cD_nil, aD_cons, phD_1, List.map_cons, List.map_nil] at hk
                  generalize stuckP L ⟨p, e⟩ = s5 at hk hsk
                  simp only [gpO] at *
                  refine We ?_
                  have c21 := ht; have c22 := h1; have c23 := h2; have c24 := hmk; have c25 := hsk; have us := an q0 (an q2 (an q3 (an q4 (an hv q1))))
                  exact W36
  · have q0 : (e = 0) = False := eq_false he
    rw [if_pos he] at hk
    simp only [phV, phW, pSeq, pStep, pPath, pBin, pMinus, pRoot, pAll, pNil, ph0, mkh, mka, mkc, aD_nil, cD_nil, aD_cons, phD_1, List.map_cons, List.map_nil] at hk
    rw [set_same hr] at hk
    simp only [gpO] at *
    refine We ?_
    have c21 := ht; have us := q0
    exact W21
structure Gw where
  x : Ph
  p : Nat
  e : Int
structure GwOk (N : Prop) (L : List Tk) (f : Ps → PR) (q : PR) (y : Gw) : Prop where
  k : ∃ k, L.length < k + y.p ∧ wayL L f k y.x ⟨y.p, y.e⟩ = q
  p : y.p ≤ L.length
  g : y.e = 0 → N
theorem GwOk.stop {N : Prop} {L : List Tk} {f : Ps → PR} {q : PR} {y : Gw} (h : GwOk N L f q y) (h1 : isN L sSlash2 ⟨y.p, y.e⟩ = false) (h2 : isN L sSlash ⟨y.p, y.e⟩ = false) : q = (y.x, ⟨y.p, y.e⟩) := by
  obtain ⟨⟨k, k1, k2⟩, hp, hg⟩ := h
  cases k with
  | zero => omega
  | succ k =>
    rw [wayL, h1, if_neg (by decide), h2, if_neg (by decide)] at k2
    exact k2.symm
theorem GwOk.step2 {N : Prop} {L : List Tk} {f : Ps → PR} {q : PR} {y : Gw} (h : GwOk N L f q y) (hf : Mo L f) (h1 : isN L sSlash2 ⟨y.p, y.e⟩ = true) {z : Ph} {p : Nat} {e : Int} (hz : f ⟨y.p + 1, y.e⟩ = (z, ⟨p, e⟩)) : GwOk N L f q ⟨pPath (pPath y.x pAll) z, p, e⟩ ∧ y.p < p := by
  obtain ⟨⟨k, k1, k2⟩, hp, hg⟩ := h
  have hlt := isN_lt h1
  have hm := hf ⟨y.p + 1, y.e⟩ hlt
  rw [hz] at hm
  have hlo : y.p + 1 ≤ p := hm.lo
  refine ⟨⟨?_, hm.hi, fun h => hg (hm.e0 h)⟩, hlo⟩
  cases k with
  | zero => simp only [] at hlt; omega
  | succ k =>
    rw [wayL, h1, if_pos rfl, nxt, hz] at k2
    exact ⟨k, by simp only []; omega, k2⟩
theorem GwOk.step1 {N : Prop} {L : List Tk} {f : Ps → PR} {q : PR} {y : Gw} (h : GwOk N L f q y) (hf : Mo L f) (h1 : isN L sSlash2 ⟨y.p, y.e⟩ = false) (h2 : isN L sSlash ⟨y.p, y.e⟩ = true) {z : Ph} {p : Nat} {e : Int} (hz : f ⟨y.p + 1, y.e⟩ = (z, ⟨p, e⟩)) : GwOk N L f q ⟨pPath y.x z, p, e⟩ ∧ y.p < p := by
  obtain ⟨⟨k, k1, k2⟩, hp, hg⟩ := h
  have hlt := isN_lt h2
  have hm := hf ⟨y.p + 1, y.e⟩ hlt
  rw [hz] at hm
  have hlo : y.p + 1 ≤ p := hm.lo
  refine ⟨⟨?_, hm.hi, fun h => hg (hm.e0 h)⟩, hlo⟩
  cases k with
  | zero => simp only [] at hlt; omega
  | succ k =>
    rw [wayL, h1, if_neg (by decide), h2, if_pos rfl, nxt, hz] at k2
    exact ⟨k, by simp only []; omega, k2⟩
namespace FN62
def tks : Nat → List Nat | 0 => [0, 2] | 1 => [0, 2, 3] | 2 => [0, 2, 3] | 3 => [0, 2, 3, 6] | 4 => [0, 2, 3] | 5 => [0, 2, 3, 15] | 6 => [0, 2, 3] | 7 => [0, 2, 3, 27] | 8 => [0, 2, 3] | 9 => [0, 2, 3, 36] | 10 => [0, 2, 3, 37] | 11 => [0, 2, 3] | 12 => [0, 2, 3, 46] | 13 => [0, 2, 3] | 14 => [2] | _ => []
def tmu : List Nat := []
def tin : List Nat := [0]
def txt : Nat → Nat × List Cd | 8 => (3, [.q 0 1, .q 0 0, .t]) | 11 => (5, [.q 0 0, .q 0 0, .q 0 0, .q 0 0, .t]) | 13 => (3, [.q 0 1, .q 0 0, .t]) | _ => (0, [])
abbrev tfn := @Tryd.func62
end FN62
attribute [go_sem] FN62.tks FN62.tmu FN62.tin FN62.txt Tryd.ntmps62 Tryd.results62
open FN62 in
theorem gPath_A (L : List Tk) (hL : L.length ≤ 200) (hT : TksG L) {pc : Ps → PR} (hm : Mo L pc) (n id : Nat) (p : Nat) (e : Int) (H : Heap) (K : V → Heap → Prop) (hp : p ≤ L.length) (hr : H[id]? = some (gpO L (n : Int) ⟨p, e⟩)) (hg : e = 0 → n ≤ 30) (hs : GAt L 68 pc n id) (hk : K (phV (wayF L pc ⟨p, e⟩).1) (H.set id (gpO L (n : Int) (wayF L pc ⟨p, e⟩).2))) :
    ACalls Tryd.prog 62 [.pt id 0 0 0] H K := by
  have hid := lt_of_get hr
  obtain ⟨ga, sa, gs, ss, gsa, ssa, gl0, glk, sl0, slk⟩ := atH hr
  rw [wayF] at hk
  have ja := gAll_A
  simp only [phV, phW, pRoot, pAll, pStep, pPath, ph0, mkh, mka, mkc, aD_nil, cD_nil, aD_cons, List.map_cons, List.map_nil, phD_1] at ja
  cases d2 : isN L sSlash2 ⟨p, e⟩ with
  | true =>
    have hn30 := hg (isN_e d2)
    have hp1 := isN_lt d2
    simp only [] at hp1
    rw [d2, if_pos rfl] at hk
    obtain ⟨y, p2, e2, hy, hp2⟩ := fR_N hm (Nat.succ_le_of_lt hp1) (e := e)
    simp only [nxt] at hk
    rw [hy] at hk
    rw [sSlash2] at d2
    have h1 := fun G K hk => gHasT_A L hL id (n : Int) p e [47, 47] d2 (H ++ G) K (ga G) hk
    have hl := fun G K hk => hs (p + 1) e (H.set id (gpO L (n : Int) ⟨(p + 1), e⟩) ++ G) K hp1 (fun _ => by omega) (gsa _ _) hk
    rw [hy] at hl
    have j1 := gJoined_A pRoot pAll
    have j2 := gJoined_A (pPath pRoot pAll) y
    simp only [phV, phW, pRoot, pAll, pStep, pPath, ph0, mkh, mka, mkc, aD_nil, cD_nil, aD_cons, List.map_cons, List.map_nil, phD_1] at j1 j2
    simp only [gpO] at *
    refine We ?_
    have c21 := h1; have c22 := hl; have c23 := ja; have c24 := j1; have c25 := j2; have us := eq_self (0 : Nat)
    (repeat' (first | with_reducible (first | refine And.intro ?_ ?_ | intro _ | (refine hKv _ _ (AWp_nop ?_); clear hKv Kv) | (refine hKA ?_; clear hKA hKB KA KB) | (refine hKB ?_; clear hKA hKB KA KB) | refine Wp ?_ | fail) | ((first | with_reducible (first | (refine hKv _ _ ?_; clear hKv Kv) | (refine Wr ?_; intro Kv hKv) | refine AWp_retR ?_ | fail) | refine Wc ?_ | fail); try simp (dsimp := false) only [go_sem, Nat.reduceAdd, Nat.reduceBEq, Nat.reduceEqDiff, Nat.reduceLT, Nat.reduceLeDiff, Nat.reduceMul, Int.reduceToNat, reduceCtorEq, ↓reduceIte, us, Bool.false_and, Bool.true_and, Int.reduceEq, Int.reduceLE, Int.reduceLT, Int.reduceNeg, List.length_set, List.map_cons, List.map_nil, ga, gl0, glk, gpO, gs, gsa, hid, not_false_eq_true, not_true_eq_false, pC1, phD_1, phV, phW, sa, sl0, slk, ss, ssa, tkV]) | (refine AWp_condC rfl ?_; intro KA KB hKA hKB; try simp only [onB_true, onB_false, onB_dec, onB_ndec, onB_not, onB_and, onB_or]) | (refine AWp_condA rfl ?_ ?_) | with_reducible (first | refine onB_of ?_ ?_ | rfl) | omega))
    all_goals first
      | omega
      | skip
    have hq0 : GwOk (n ≤ 30) L pc (wayL L pc (L.length + 1) (pPath (pPath pRoot pAll) y) ⟨p2, e2⟩) ⟨pPath (pPath pRoot pAll) y, p2, e2⟩ := ⟨⟨L.length + 1, by simp only []; omega, rfl⟩, hp2, (fun _ => hn30)⟩
    generalize wayL L pc (L.length + 1) (pPath (pPath pRoot pAll) y) ⟨p2, e2⟩ = q at hq0 hk
    refine AWp_whileG (GwOk (n ≤ 30) L pc q) (fun y => [(0, .pt id 0 0 0), (2, .pt H.length 0 0 0), (3, .pt (H.length + 1) 0 0 0)])
      (fun y => H.set id (gpO L (n : Int) ⟨y.p, y.e⟩) ++ [.row 0 30 11 [[.d (.i .i64 0), .d (.i .i64 0), .d (.i .i64 0), .d (.s []), .d (.s []), .d (.i .i64 0), .d (.i .i64 0), .d (.i .i64 0), .d (.s []), .d (.c (.slice none 0 0)), .d (.c (.slice none 0 0))]], .row 0 30 11 [phC y.x]])
      (fun y => L.length - y.p) ⟨pPath (pPath pRoot pAll) y, p2, e2⟩ hq0 ⟨[], ?_⟩ ?_ ?_ ?_ ?_
    · simp [gpO, phC_1, pPath, pRoot, pAll, pStep, ph0, mkh, mka, mkc, aD_nil, cD_nil, aD_cons, phD_1]
    · simp (dsimp := false) only [go_sem, Nat.reduceAdd, Nat.reduceBEq, Nat.reduceEqDiff, Nat.reduceLT, Nat.reduceLeDiff, Nat.reduceMul, Int.reduceToNat, reduceCtorEq, ↓reduceIte, not_true_eq_false, not_false_eq_true, Bool.true_and, Bool.false_and, Int.reduceEq, Int.reduceLT, Int.reduceLE, Int.reduceNeg, List.map_cons, List.map_nil, List.length_set, hid, ga, sa, gs, ss, gsa, ssa, gl0, glk, sl0, slk, phV, phW, phD_1, tkV, gpO, pC1]
      simp
      try omega
    · intro y hy; simp
    · intro y hy
      refine closed_sa hid (gp_bel _ _ _ _ _) ?_
      simp only [List.forall_mem_cons, List.length_cons, List.length_nil]
      refine ⟨oB1 (by simp [Bel_d]), oB1 (by simp [phC_1, Bel_d]), by simp⟩
    rintro ⟨x8, p8, e8⟩ hy
    have hp8 := hy.p
    simp only [] at hp8 ⊢
    by_cases he8 : e8 = 0
    · have q8 : (e8 = 0) = True := eq_true he8
      have hn30 : n ≤ 30 := hy.g he8
      cases c2 : isN L sSlash2 ⟨p8, e8⟩ with
      | true =>
        have hlt := isN_lt c2
        simp only [] at hlt
        obtain ⟨z, p9, e9, hz, hp9⟩ := fR_N hm (Nat.succ_le_of_lt hlt) (e := e8)
        have hst := hy.step2 hm c2 hz
        rw [sSlash2] at c2
        have h1 := fun G K hk => gHasT_A L hL id (n : Int) p8 e8 [47, 47] c2 (H.set id (gpO L (n : Int) ⟨p8, e8⟩) ++ G) K (gsa _ _) hk
        have hl := fun G K hk => hs (p8 + 1) e8 (H.set id (gpO L (n : Int) ⟨(p8 + 1), e8⟩) ++ G) K hlt (fun _ => by omega) (gsa _ _) hk
        rw [hz] at hl
        have j1 := gJoined_A x8 pAll
        have j2 := gJoined_A (pPath x8 pAll) z
        have ja := gAll_A
        simp only [phV, phW, pRoot, pAll, pStep, pPath, ph0, mkh, mka, mkc, aD_nil, cD_nil, aD_cons, List.map_cons, List.map_nil, phD_1] at j1 j2 ja
        simp only [gpO, phC_1] at *
        have c21 := h1; have c22 := hl; have c23 := ja; have c24 := j1; have c25 := j2; have us := q8
        (repeat' (first | with_reducible (first | refine And.intro ?_ ?_ | intro _ | (refine hKv _ _ (AWp_nop ?_); clear hKv Kv) | (refine hKA ?_; clear hKA hKB KA KB) | (refine hKB ?_; clear hKA hKB KA KB) | refine Wp ?_ | fail) | ((first | with_reducible (first | (refine hKv _ _ ?_; clear hKv Kv) | (refine Wr ?_; intro Kv hKv) | refine AWp_retR ?_ | fail) | refine Wc ?_ | fail); try simp (dsimp := false) only [go_sem, Nat.reduceAdd, Nat.reduceBEq, Nat.reduceEqDiff, Nat.reduceLT, Nat.reduceLeDiff, Nat.reduceMul, Int.reduceToNat, reduceCtorEq, ↓reduceIte, us, Bool.false_and, Bool.true_and, Int.reduceEq, Int.reduceLE, Int.reduceLT, Int.reduceNeg, List.length_set, List.map_cons, List.map_nil, ga, gl0, glk, gpO, gs, gsa, hid, not_false_eq_true, not_true_eq_false, pC1, phD_1, phV, phW, sa, sl0, slk, ss, ssa, tkV]) | (refine AWp_condC rfl ?_; intro KA KB hKA hKB; try simp only [onB_true, onB_false, onB_dec, onB_ndec, onB_not, onB_and, onB_or]) | (refine AWp_condA rfl ?_ ?_) | with_reducible (first | refine onB_of ?_ ?_ | rfl) | omega))
        all_goals first
          | omega
          | skip
        refine ⟨⟨pPath (pPath x8 pAll) z, p9, e9⟩, [], hst.1, by have := hst.2; simp only [] at this ⊢; omega, by simp [phC_1, pPath, pAll, pStep, ph0, mkh, mka, mkc, aD_nil, cD_nil, aD_cons, phD_1], ?_⟩
        try (simp (dsimp := false) only [go_sem, Nat.reduceAdd, Nat.reduceBEq, Nat.reduceEqDiff, Nat.reduceLT, Nat.reduceLeDiff, Nat.reduceMul, Int.reduceToNat, reduceCtorEq, ↓reduceIte, not_true_eq_false, not_false_eq_true, Bool.true_and, Bool.false_and, Int.reduceEq, Int.reduceLT, Int.reduceLE, Int.reduceNeg, List.map_cons, List.map_nil, List.length_set, hid, ga, sa, gs, ss, gsa, ssa, gl0, glk, sl0, slk, phV, phW, phD_1, tkV, gpO, q8, pC1])
        all_goals try simp
        all_goals try omega
      | false =>
        cases c1 : isN L sSlash ⟨p8, e8⟩ with
        | true =>
          have hlt := isN_lt c1
          simp only [] at hlt
          obtain ⟨z, p9, e9, hz, hp9⟩ := fR_N hm (Nat.succ_le_of_lt hlt) (e := e8)
          have hst := hy.step1 hm c2 c1 hz
          rw [sSlash2] at c2
          rw [sSlash] at c1
          have h1 := fun G K hk => gHasF_A L hL id (n : Int) p8 hp8 e8 [47, 47] c2 (H.set id (gpO L (n : Int) ⟨p8, e8⟩) ++ G) K (gsa _ _) hk
          have h2 := fun G K hk => gHasT_A L hL id (n : Int) p8 e8 [47] c1 (H.set id (gpO L (n : Int) ⟨p8, e8⟩) ++ G) K (gsa _ _) hk
          have hl := fun G K hk => hs (p8 + 1) e8 (H.set id (gpO L (n : Int) ⟨(p8 + 1), e8⟩) ++ G) K hlt (fun _ => by omega) (gsa _ _) hk
          rw [hz] at hl
          have j1 := gJoined_A x8 z
          simp only [phV, phW, pRoot, pAll, pStep, pPath, ph0, mkh, mka, mkc, aD_nil, cD_nil, aD_cons, List.map_cons, List.map_nil, phD_1] at j1
          simp only [gpO, phC_1] at *
          have c21 := h1; have c22 := h2; have c23 := hl; have c24 := j1; have us := q8
          (repeat' (first | with_reducible (first | refine And.intro ?_ ?_ | intro _ | (refine hKv _ _ (AWp_nop ?_); clear hKv Kv) | (refine hKA ?_; clear hKA hKB KA KB) | (refine hKB ?_; clear hKA hKB KA KB) | refine Wp ?_ | fail) | ((first | with_reducible (first | (refine hKv _ _ ?_; clear hKv Kv) | (refine Wr ?_; intro Kv hKv) | refine AWp_retR ?_ | fail) | refine Wc ?_ | fail); try simp (dsimp := false) only [go_sem, Nat.reduceAdd, Nat.reduceBEq, Nat.reduceEqDiff, Nat.reduceLT, Nat.reduceLeDiff, Nat.reduceMul, Int.reduceToNat, reduceCtorEq, ↓reduceIte, us, Bool.false_and, Bool.true_and, Int.reduceEq, Int.reduceLE, Int.reduceLT, Int.reduceNeg, List.length_set, List.map_cons, List.map_nil, ga, gl0, glk, gpO, gs, gsa, hid, not_false_eq_true, not_true_eq_false, pC1, phD_1, phV, phW, sa, sl0, slk, ss, ssa, tkV]) | (refine AWp_condC rfl ?_; intro KA KB hKA hKB; try simp only [onB_true, onB_false, onB_dec, onB_ndec, onB_not, onB_and, onB_or]) | (refine AWp_condA rfl ?_ ?_) | with_reducible (first | refine onB_of ?_ ?_ | rfl) | omega))
          all_goals first
            | omega
            | skip
          refine ⟨⟨pPath x8 z, p9, e9⟩, [], hst.1, by have := hst.2; simp only [] at this ⊢; omega, by simp [phC_1, pPath, ph0, mkh, mka, mkc, aD_nil, cD_nil, aD_cons, phD_1], ?_⟩
          try (simp (dsimp := false) only [go_sem, Nat.reduceAdd, Nat.reduceBEq, Nat.reduceEqDiff, Nat.reduceLT, Nat.reduceLeDiff, Nat.reduceMul, Int.reduceToNat, reduceCtorEq, ↓reduceIte, not_true_eq_false, not_false_eq_true, Bool.true_and, Bool.false_and, Int.reduceEq, Int.reduceLT, Int.reduceLE, Int.reduceNeg, List.map_cons, List.map_nil, List.length_set, hid, ga, sa, gs, ss, gsa, ssa, gl0, glk, sl0, slk, phV, phW, phD_1, tkV, gpO, q8, pC1])
          all_goals try simp
          all_goals try omega
        | false =>
          rw [hy.stop c2 c1] at hk
          rw [sSlash2] at c2
          rw [sSlash] at c1
          have h1 := fun G K hk => gHasF_A L hL id (n : Int) p8 hp8 e8 [47, 47] c2 (H.set id (gpO L (n : Int) ⟨p8, e8⟩) ++ G) K (gsa _ _) hk
          have h2 := fun G K hk => gHasF_A L hL id (n : Int) p8 hp8 e8 [47] c1 (H.set id (gpO L (n : Int) ⟨p8, e8⟩) ++ G) K (gsa _ _) hk
          simp only [gpO, phC_1] at *
          have c21 := h1; have c22 := h2; have us := q8
          exact W37
    · have q8 : (e8 = 0) = False := eq_false he8
      rw [hy.stop (isN_F he8) (isN_F he8)] at hk
      simp only [gpO, phC_1] at *
      have us := q8
      exact W38
  | false =>
    rw [d2, if_neg (by decide)] at hk
    rw [sSlash2] at d2
    have h1 := fun G K hk => gHasF_A L hL id (n : Int) p hp e [47, 47] d2 (H ++ G) K (ga G) hk
    cases d1 : isN L sSlash ⟨p, e⟩ with
    | true =>
      have hn30 := hg (isN_e d1)
      have hp1 := isN_lt d1
      have he := isN_e d1
      simp only [] at hp1 he
      have q0 : (e = 0) = True := eq_true he
      rw [d1, if_pos rfl] at hk
      rw [sSlash] at d1
      have h2 := fun G K hk => gHasT_A L hL id (n : Int) p e [47] d1 (H ++ G) K (ga G) hk
      have hsp := fun G K hk => gSteps_A L hL hT n id (p + 1) e (H.set id (gpO L (n : Int) ⟨p + 1, e⟩) ++ G) K hp1 (gsa _ _) hk
      cases hb : stepsB L (nxt ⟨p, e⟩) with
      | true =>
        rw [hb, if_pos rfl] at hk
        simp only [nxt] at hb hk
        obtain ⟨y, p2, e2, hy, hp2⟩ := fR_N hm (Nat.succ_le_of_lt hp1) (e := e)
        rw [hy] at hk
        have hl := fun G K hk => hs (p + 1) e (H.set id (gpO L (n : Int) ⟨(p + 1), e⟩) ++ G) K hp1 (fun _ => by omega) (gsa _ _) hk
        rw [hy] at hl
        have j1 := gJoined_A pRoot y
        simp only [phV, phW, pRoot, pAll, pStep, pPath, ph0, mkh, mka, mkc, aD_nil, cD_nil, aD_cons, List.map_cons, List.map_nil, phD_1] at j1
        simp only [gpO] at *
        refine We ?_
        have c21 := h1; have c22 := h2; have c23 := hsp; have c24 := hl; have c25 := j1; have us := an q0 hb
        (repeat' (first | with_reducible (first | refine And.intro ?_ ?_ | intro _ | (refine hKv _ _ (AWp_nop ?_); clear hKv Kv) | (refine hKA ?_; clear hKA hKB KA KB) | (refine hKB ?_; clear hKA hKB KA KB) | refine Wp ?_ | fail) | ((first | with_reducible (first | (refine hKv _ _ ?_; clear hKv Kv) | (refine Wr ?_; intro Kv hKv) | refine AWp_retR ?_ | fail) | refine Wc ?_ | fail); try simp (dsimp := false) only [go_sem, Nat.reduceAdd, Nat.reduceBEq, Nat.reduceEqDiff, Nat.reduceLT, Nat.reduceLeDiff, Nat.reduceMul, Int.reduceToNat, reduceCtorEq, ↓reduceIte, us, Bool.false_and, Bool.true_and, Int.reduceEq, Int.reduceLE, Int.reduceLT, Int.reduceNeg, List.length_set, List.map_cons, List.map_nil, ga, gl0, glk, gpO, gs, gsa, hid, not_false_eq_true, not_true_eq_false, pC1, phD_1, phV, phW, sa, sl0, slk, ss, ssa, tkV]) | (refine AWp_condC rfl ?_; intro KA KB hKA hKB; try simp only [onB_true, onB_false, onB_dec, onB_ndec, onB_not, onB_and, onB_or]) | (refine AWp_condA rfl ?_ ?_) | with_reducible (first | refine onB_of ?_ ?_ | rfl) | omega))
        all_goals first
          | omega
          | skip
        have hq0 : GwOk (n ≤ 30) L pc (wayL L pc (L.length + 1) (pPath pRoot y) ⟨p2, e2⟩) ⟨pPath pRoot y, p2, e2⟩ := ⟨⟨L.length + 1, by simp only []; omega, rfl⟩, hp2, (fun _ => hn30)⟩
        generalize wayL L pc (L.length + 1) (pPath pRoot y) ⟨p2, e2⟩ = q at hq0 hk
        refine AWp_whileG (GwOk (n ≤ 30) L pc q) (fun y => [(0, .pt id 0 0 0), (2, .pt H.length 0 0 0), (3, .pt (H.length + 1) 0 0 0)])
          (fun y => H.set id (gpO L (n : Int) ⟨y.p, y.e⟩) ++ [.row 0 30 11 [[.d (.i .i64 0), .d (.i .i64 0), .d (.i .i64 0), .d (.s []), .d (.s []), .d (.i .i64 0), .d (.i .i64 0), .d (.i .i64 0), .d (.s []), .d (.c (.slice none 0 0)), .d (.c (.slice none 0 0))]], .row 0 30 11 [phC y.x]])
          (fun y => L.length - y.p) ⟨pPath pRoot y, p2, e2⟩ hq0 ⟨[], ?_⟩ ?_ ?_ ?_ ?_
        · simp [gpO, phC_1, pPath, pRoot, pAll, pStep, ph0, mkh, mka, mkc, aD_nil, cD_nil, aD_cons, phD_1]
        · simp (dsimp := false) only [go_sem, Nat.reduceAdd, Nat.reduceBEq, Nat.reduceEqDiff, Nat.reduceLT, Nat.reduceLeDiff, Nat.reduceMul, Int.reduceToNat, reduceCtorEq, ↓reduceIte, not_true_eq_false, not_false_eq_true, Bool.true_and, Bool.false_and, Int.reduceEq, Int.reduceLT, Int.reduceLE, Int.reduceNeg, List.map_cons, List.map_nil, List.length_set, hid, ga, sa, gs, ss, gsa, ssa, gl0, glk, sl0, slk, phV, phW, phD_1, tkV, gpO, pC1, q0, hb]
          simp
          try omega
        · intro y hy; simp
        · intro y hy
          refine closed_sa hid (gp_bel _ _ _ _ _) ?_
          simp only [List.forall_mem_cons, List.length_cons, List.length_nil]
          refine ⟨oB1 (by simp [Bel_d]), oB1 (by simp [phC_1, Bel_d]), by simp⟩
        rintro ⟨x8, p8, e8⟩ hy
        have hp8 := hy.p
        simp only [] at hp8 ⊢
        by_cases he8 : e8 = 0
        · have q8 : (e8 = 0) = True := eq_true he8
          have hn30 : n ≤ 30 := hy.g he8
          cases c2 : isN L sSlash2 ⟨p8, e8⟩ with
          | true =>
            have hlt := isN_lt c2
            simp only [] at hlt
            obtain ⟨z, p9, e9, hz, hp9⟩ := fR_N hm (Nat.succ_le_of_lt hlt) (e := e8)
            have hst := hy.step2 hm c2 hz
            rw [sSlash2] at c2
            have h1 := fun G K hk => gHasT_A L hL id (n : Int) p8 e8 [47, 47] c2 (H.set id (gpO L (n : Int) ⟨p8, e8⟩) ++ G) K (gsa _ _) hk
            have hl := fun G K hk => hs (p8 + 1) e8 (H.set id (gpO L (n : Int) ⟨(p8 + 1), e8⟩) ++ G) K hlt (fun _ => by omega) (gsa _ _) hk
            rw [hz] at hl
            have j1 := gJoined_A x8 pAll
            have j2 := gJoined_A (pPath x8 pAll) z
            have ja := gAll_A
            simp only [phV, phW, pRoot, pAll, pStep, pPath, ph0, mkh, mka, mkc, aD_nil, cD_nil, aD_cons, List.map_cons, List.map_nil, phD_1] at j1 j2 ja
            simp only [gpO, phC_1] at *
            have c21 := h1; have c22 := hl; have c23 := ja; have c24 := j1; have c25 := j2; have us := q8
            (repeat' (first | with_reducible (first | refine And.intro ?_ ?_ | intro _ | (refine hKv _ _ (AWp_nop ?_); clear hKv Kv) | (refine hKA ?_; clear hKA hKB KA KB) | (refine hKB ?_; clear hKA hKB KA KB) | refine Wp ?_ | fail) | ((first | with_reducible (first | (refine hKv _ _ ?_; clear hKv Kv) | (refine Wr ?_; intro Kv hKv) | refine AWp_retR ?_ | fail) | refine Wc ?_ | fail); try simp (dsimp := false) only [go_sem, Nat.reduceAdd, Nat.reduceBEq, Nat.reduceEqDiff, Nat.reduceLT, Nat.reduceLeDiff, Nat.reduceMul, Int.reduceToNat, reduceCtorEq, ↓reduceIte, us, Bool.false_and, Bool.true_and, Int.reduceEq, Int.reduceLE, Int.reduceLT, Int.reduceNeg, List.length_set, List.map_cons, List.map_nil, ga, gl0, glk, gpO, gs, gsa, hid, not_false_eq_true, not_true_eq_false, pC1, phD_1, phV, phW, sa, sl0, slk, ss, ssa, tkV]) | (refine AWp_condC rfl ?_; intro KA KB hKA hKB; try simp only [onB_true, onB_false, onB_dec, onB_ndec, onB_not, onB_and, onB_or]) | (refine AWp_condA rfl ?_ ?_) | with_reducible (first | refine onB_of ?_ ?_ | rfl) | omega))
            all_goals first
              | omega
              | skip
            refine ⟨⟨pPath (pPath x8 pAll) z, p9, e9⟩, [], hst.1, by have := hst.2; simp only [] at this ⊢; omega, by simp [phC_1, pPath, pAll, pStep, ph0, mkh, mka, mkc, aD_nil, cD_nil, aD_cons, phD_1], ?_⟩
            try (simp (dsimp := false) only [go_sem, Nat.reduceAdd, Nat.reduceBEq, Nat.reduceEqDiff, Nat.reduceLT, Nat.reduceLeDiff, Nat.reduceMul, Int.reduceToNat, reduceCtorEq, ↓reduceIte, not_true_eq_false, not_false_eq_true, Bool.true_and, Bool.false_and, Int.reduceEq, Int.reduceLT, Int.reduceLE, Int.reduceNeg, List.map_cons, List.map_nil, List.length_set, hid, ga, sa, gs, ss, gsa, ssa, gl0, glk, sl0, slk, phV, phW, phD_1, tkV, gpO, q8, pC1])
            all_goals try simp
            all_goals try omega
          | false =>
            cases c1 : isN L sSlash ⟨p8, e8⟩ with
            | true =>
              have hlt := isN_lt c1
              simp only [] at hlt
              obtain ⟨z, p9, e9, hz, hp9⟩ := fR_N hm (Nat.succ_le_of_lt hlt) (e := e8)
              have hst := hy.step1 hm c2 c1 hz
              rw [sSlash2] at c2
              rw [sSlash] at c1
              have h1 := fun G K hk => gHasF_A L hL id (n : Int) p8 hp8 e8 [47, 47] c2 (H.set id (gpO L (n : Int) ⟨p8, e8⟩) ++ G) K (gsa _ _) hk
              have h2 := fun G K hk => gHasT_A L hL id (n : Int) p8 e8 [47] c1 (H.set id (gpO L (n : Int) ⟨p8, e8⟩) ++ G) K (gsa _ _) hk
              have hl := fun G K hk => hs (p8 + 1) e8 (H.set id (gpO L (n : Int) ⟨(p8 + 1), e8⟩) ++ G) K hlt (fun _ => by omega) (gsa _ _) hk
              rw [hz] at hl
              have j1 := gJoined_A x8 z
              simp only [phV, phW, pRoot, pAll, pStep, pPath, ph0, mkh, mka, mkc, aD_nil, cD_nil, aD_cons, List.map_cons, List.map_nil, phD_1] at j1
              simp only [gpO, phC_1] at *
              have c21 := h1; have c22 := h2; have c23 := hl; have c24 := j1; have us := q8
              (repeat' (first | with_reducible (first | refine And.intro ?_ ?_ | intro _ | (refine hKv _ _ (AWp_nop ?_); clear hKv Kv) | (refine hKA ?_; clear hKA hKB KA KB) | (refine hKB ?_; clear hKA hKB KA KB) | refine Wp ?_ | fail) | ((first | with_reducible (first | (refine hKv _ _ ?_; clear hKv Kv) | (refine Wr ?_; intro Kv hKv) | refine AWp_retR ?_ | fail) | refine Wc ?_ | fail); try simp (dsimp := false) only [go_sem, Nat.reduceAdd, Nat.reduceBEq, Nat.reduceEqDiff, Nat.reduceLT, Nat.reduceLeDiff, Nat.reduceMul, Int.reduceToNat, reduceCtorEq, ↓reduceIte, us, Bool.false_and, Bool.true_and, Int.reduceEq, Int.reduceLE, Int.reduceLT, Int.reduceNeg, List.length_set, List.map_cons, List.map_nil, ga, gl0, glk, gpO, gs, gsa, hid, not_false_eq_true, not_true_eq_false, pC1, phD_1, phV, phW, sa, sl0, slk, ss, ssa, tkV]) | (refine AWp_condC rfl ?_; intro KA KB hKA hKB; try simp only [onB_true, onB_false, onB_dec, onB_ndec, onB_not, onB_and, onB_or]) | (refine AWp_condA rfl ?_ ?_) | with_reducible (first | refine onB_of ?_ ?_ | rfl) | omega))
              all_goals first
                | omega
                | skip
              refine ⟨⟨pPath x8 z, p9, e9⟩, [], hst.1, by have := hst.2; simp only [] at this ⊢; omega, by simp [phC_1, pPath, ph0, mkh, mka, mkc, aD_nil, cD_nil, aD_cons, phD_1], ?_⟩
              try (simp (dsimp := false) only [go_sem, Nat.reduceAdd, Nat.reduceBEq, Nat.reduceEqDiff, Nat.reduceLT, Nat.reduceLeDiff, Nat.reduceMul, Int.reduceToNat, reduceCtorEq, ↓reduceIte, not_true_eq_false, not_false_eq_true, Bool.true_and, Bool.false_and, Int.reduceEq, Int.reduceLT, Int.reduceLE, Int.reduceNeg, List.map_cons, List.map_nil, List.length_set, hid, ga, sa, gs, ss, gsa, ssa, gl0, glk, sl0, slk, phV, phW, phD_1, tkV, gpO, q8, pC1])
              all_goals try simp
              all_goals try omega
            | false =>
              rw [hy.stop c2 c1] at hk
              rw [sSlash2] at c2
              rw [sSlash] at c1
              have h1 := fun G K hk => gHasF_A L hL id (n : Int) p8 hp8 e8 [47, 47] c2 (H.set id (gpO L (n : Int) ⟨p8, e8⟩) ++ G) K (gsa _ _) hk
              have h2 := fun G K hk => gHasF_A L hL id (n : Int) p8 hp8 e8 [47] c1 (H.set id (gpO L (n : Int) ⟨p8, e8⟩) ++ G) K (gsa _ _) hk
              simp only [gpO, phC_1] at *
              have c21 := h1; have c22 := h2; have us := q8
              exact W37
        · have q8 : (e8 = 0) = False := eq_false he8
          rw [hy.stop (isN_F he8) (isN_F he8)] at hk
          simp only [gpO, phC_1] at *
          have us := q8
          exact W38
      | false =>
        rw [hb, if_neg (by decide)] at hk
        simp only [nxt] at hb hk
        simp only [gpO] at *
        refine We ?_
        have c21 := h1; have c22 := h2; have c23 := hsp; have us := an q0 hb
        (repeat' (first | with_reducible (first | refine And.intro ?_ ?_ | intro _ | (refine hKv _ _ (AWp_nop ?_); clear hKv Kv) | (refine hKA ?_; clear hKA hKB KA KB) | (refine hKB ?_; clear hKA hKB KA KB) | refine Wp ?_ | fail) | ((first | with_reducible (first | (refine hKv _ _ ?_; clear hKv Kv) | (refine Wr ?_; intro Kv hKv) | refine AWp_retR ?_ | fail) | refine Wc ?_ | fail); try simp (dsimp := false) only [go_sem, Nat.reduceAdd, Nat.reduceBEq, Nat.reduceEqDiff, Nat.reduceLT, Nat.reduceLeDiff, Nat.reduceMul, Int.reduceToNat, reduceCtorEq, ↓reduceIte, us, Bool.false_and, Bool.true_and, Int.reduceEq, Int.reduceLE, Int.reduceLT, Int.reduceNeg, List.length_set, List.map_cons, List.map_nil, ga, gl0, glk, gpO, gs, gsa, hid, not_false_eq_true, not_true_eq_false, pC1, phD_1, phV, phW, sa, sl0, slk, ss, ssa, tkV]) | (refine AWp_condC rfl ?_; intro KA KB hKA hKB; try simp only [onB_true, onB_false, onB_dec, onB_ndec, onB_not, onB_and, onB_or]) | (refine AWp_condA rfl ?_ ?_) | with_reducible (first | refine onB_of ?_ ?_ | rfl) | omega))
        all_goals first
          | omega
          | skip
        have hq0 : GwOk (n ≤ 30) L pc (wayL L pc (L.length + 1) (pRoot) ⟨(p + 1), e⟩) ⟨pRoot, (p + 1), e⟩ := ⟨⟨L.length + 1, by simp only []; omega, rfl⟩, hp1, (fun _ => hn30)⟩
        generalize wayL L pc (L.length + 1) (pRoot) ⟨(p + 1), e⟩ = q at hq0 hk
        refine AWp_whileG (GwOk (n ≤ 30) L pc q) (fun y => [(0, .pt id 0 0 0), (2, .pt H.length 0 0 0), (3, .pt (H.length + 1) 0 0 0)])
          (fun y => H.set id (gpO L (n : Int) ⟨y.p, y.e⟩) ++ [.row 0 30 11 [[.d (.i .i64 0), .d (.i .i64 0), .d (.i .i64 0), .d (.s []), .d (.s []), .d (.i .i64 0), .d (.i .i64 0), .d (.i .i64 0), .d (.s []), .d (.c (.slice none 0 0)), .d (.c (.slice none 0 0))]], .row 0 30 11 [phC y.x]])
          (fun y => L.length - y.p) ⟨pRoot, (p + 1), e⟩ hq0 ⟨[], ?_⟩ ?_ ?_ ?_ ?_
        · simp [gpO, phC_1, pPath, pRoot, pAll, pStep, ph0, mkh, mka, mkc, aD_nil, cD_nil, aD_cons, phD_1]
        · simp (dsimp := false) only [go_sem, Nat.reduceAdd, Nat.reduceBEq, Nat.reduceEqDiff, Nat.reduceLT, Nat.reduceLeDiff, Nat.reduceMul, Int.reduceToNat, reduceCtorEq, ↓reduceIte, not_true_eq_false, not_false_eq_true, Bool.true_and, Bool.false_and, Int.reduceEq, Int.reduceLT, Int.reduceLE, Int.reduceNeg, List.map_cons, List.map_nil, List.length_set, hid, ga, sa, gs, ss, gsa, ssa, gl0, glk, sl0, slk, phV, phW, phD_1, tkV, gpO, pC1, q0, hb]
          simp
          try omega
        · intro y hy; simp
        · intro y hy
          refine closed_sa hid (gp_bel _ _ _ _ _) ?_
          simp only [List.forall_mem_cons, List.length_cons, List.length_nil]
          refine ⟨oB1 (by simp [Bel_d]), oB1 (by simp [phC_1, Bel_d]), by simp⟩
        rintro ⟨x8, p8, e8⟩ hy
        have hp8 := hy.p
        simp only [] at hp8 ⊢
        by_cases he8 : e8 = 0
        · have q8 : (e8 = 0) = True := eq_true he8
          have hn30 : n ≤ 30 := hy.g he8
          cases c2 : isN L sSlash2 ⟨p8, e8⟩ with
          | true =>
            have hlt := isN_lt c2
            simp only [] at hlt
            obtain ⟨z, p9, e9, hz, hp9⟩ := fR_N hm (Nat.succ_le_of_lt hlt) (e := e8)
            have hst := hy.step2 hm c2 hz
            rw [sSlash2] at c2
            have h1 := fun G K hk => gHasT_A L hL id (n : Int) p8 e8 [47, 47] c2 (H.set id (gpO L (n : Int) ⟨p8, e8⟩) ++ G) K (gsa _ _) hk
            have hl := fun G K hk => hs (p8 + 1) e8 (H.set id (gpO L (n : Int) ⟨(p8 + 1), e8⟩) ++ G) K hlt (fun _ => by omega) (gsa _ _) hk
            rw [hz] at hl
            have j1 := gJoined_A x8 pAll
            have j2 := gJoined_A (pPath x8 pAll) z
            have ja := gAll_A
            simp only [phV, phW, pRoot, pAll, pStep, pPath, ph0, mkh, mka, mkc, aD_nil, cD_nil, aD_cons, List.map_cons, List.map_nil, phD_1] at j1 j2 ja
            simp only [gpO, phC_1] at *
            have c21 := h1; have c22 := hl; have c23 := ja; have c24 := j1; have c25 := j2; have us := q8
            (repeat' (first | with_reducible (first | refine And.intro ?_ ?_ | intro _ | (refine hKv _ _ (AWp_nop ?_); clear hKv Kv) | (refine hKA ?_; clear hKA hKB KA KB) | (refine hKB ?_; clear hKA hKB KA KB) | refine Wp ?_ | fail) | ((first | with_reducible (first | (refine hKv _ _ ?_; clear hKv Kv) | (refine Wr ?_; intro Kv hKv) | refine AWp_retR ?_ | fail) | refine Wc ?_ | fail); try simp (dsimp := false) only [go_sem, Nat.reduceAdd, Nat.reduceBEq, Nat.reduceEqDiff, Nat.reduceLT, Nat.reduceLeDiff, Nat.reduceMul, Int.reduceToNat, reduceCtorEq, ↓reduceIte, us, Bool.false_and, Bool.true_and, Int.reduceEq, Int.reduceLE, Int.reduceLT, Int.reduceNeg, List.length_set, List.map_cons, List.map_nil, ga, gl0, glk, gpO, gs, gsa, hid, not_false_eq_true, not_true_eq_false, pC1, phD_1, phV, phW, sa, sl0, slk, ss, ssa, tkV]) | (refine AWp_condC rfl ?_; intro KA KB hKA hKB; try simp only [onB_true, onB_false, onB_dec, onB_ndec, onB_not, onB_and, onB_or]) | (refine AWp_condA rfl ?_ ?_) | with_reducible (first | refine onB_of ?_ ?_ | rfl) | omega))
            all_goals first
              | omega
              | skip
            refine ⟨⟨pPath (pPath x8 pAll) z, p9, e9⟩, [], hst.1, by have := hst.2; simp only [] at this ⊢; omega, by simp [phC_1, pPath, pAll, pStep, ph0, mkh, mka, mkc, aD_nil, cD_nil, aD_cons, phD_1], ?_⟩
            try (simp (dsimp := false) only [go_sem, Nat.reduceAdd, Nat.reduceBEq, Nat.reduceEqDiff, Nat.reduceLT, Nat.reduceLeDiff, Nat.reduceMul, Int.reduceToNat, reduceCtorEq, ↓reduceIte, not_true_eq_false, not_false_eq_true, Bool.true_and, Bool.false_and, Int.reduceEq, Int.reduceLT, Int.reduceLE, Int.reduceNeg, List.map_cons, List.map_nil, List.length_set, hid, ga, sa, gs, ss, gsa, ssa, gl0, glk, sl0, slk, phV, phW, phD_1, tkV, gpO, q8, pC1])
            all_goals try simp
            all_goals try omega
          | false =>
            cases c1 : isN L sSlash ⟨p8, e8⟩ with
            | true =>
              have hlt := isN_lt c1
              simp only [] at hlt
              obtain ⟨z, p9, e9, hz, hp9⟩ := fR_N hm (Nat.succ_le_of_lt hlt) (e := e8)
              have hst := hy.step1 hm c2 c1 hz
              rw [sSlash2] at c2
              rw [sSlash] at c1
              have h1 := fun G K hk => gHasF_A L hL id (n : Int) p8 hp8 e8 [47, 47] c2 (H.set id (gpO L (n : Int) ⟨p8, e8⟩) ++ G) K (gsa _ _) hk
              have h2 := fun G K hk => gHasT_A L hL id (n : Int) p8 e8 [47] c1 (H.set id (gpO L (n : Int) ⟨p8, e8⟩) ++ G) K (gsa _ _) hk
              have hl := fun G K hk => hs (p8 + 1) e8 (H.set id (gpO L (n : Int) ⟨(p8 + 1), e8⟩) ++ G) K hlt (fun _ => by omega) (gsa _ _) hk
              rw [hz] at hl
              have j1 := gJoined_A x8 z
              simp only [phV, phW, pRoot, pAll, pStep, pPath, ph0, mkh, mka, mkc, aD_nil, cD_nil, aD_cons, List.map_cons, List.map_nil, phD_1] at j1
              simp only [gpO, phC_1] at *
              have c21 := h1; have c22 := h2; have c23 := hl; have c24 := j1; have us := q8
              (repeat' (first | with_reducible (first | refine And.intro ?_ ?_ | intro _ | (refine hKv _ _ (AWp_nop ?_); clear hKv Kv) | (refine hKA ?_; clear hKA hKB KA KB) | (refine hKB ?_; clear hKA hKB KA KB) | refine Wp ?_ | fail) | ((first | with_reducible (first | (refine hKv _ _ ?_; clear hKv Kv) | (refine Wr ?_; intro Kv hKv) | refine AWp_retR ?_ | fail) | refine Wc ?_ | fail); try simp (dsimp := false) only [go_sem, Nat.reduceAdd, Nat.reduceBEq, Nat.reduceEqDiff, Nat.reduceLT, Nat.reduceLeDiff, Nat.reduceMul, Int.reduceToNat, reduceCtorEq, ↓reduceIte, us, Bool.false_and, Bool.true_and, Int.reduceEq, Int.reduceLE, Int.reduceLT, Int.reduceNeg, List.length_set, List.map_cons, List.map_nil, ga, gl0, glk, gpO, gs, gsa, hid, not_false_eq_true, not_true_eq_false, pC1, phD_1, phV, phW, sa, sl0, slk, ss, ssa, tkV]) | (refine AWp_condC rfl ?_; intro KA KB hKA hKB; try simp only [onB_true, onB_false, onB_dec, onB_ndec, onB_not, onB_and, onB_or]) | (refine AWp_condA rfl ?_ ?_) | with_reducible (first | refine onB_of ?_ ?_ | rfl) | omega))
              all_goals first
                | omega
                | skip
              refine ⟨⟨pPath x8 z, p9, e9⟩, [], hst.1, by have := hst.2; simp only [] at this ⊢; omega, by simp [phC_1, pPath, ph0, mkh, mka, mkc, aD_nil, cD_nil, aD_cons, phD_1], ?_⟩
              try (simp (dsimp := false) only [go_sem, Nat.reduceAdd, Nat.reduceBEq, Nat.reduceEqDiff, Nat.reduceLT, Nat.reduceLeDiff, Nat.reduceMul, Int.reduceToNat, reduceCtorEq, ↓reduceIte, not_true_eq_false, not_false_eq_true, Bool.true_and, Bool.false_and, Int.reduceEq, Int.reduceLT, Int.reduceLE, Int.reduceNeg, List.map_cons, List.map_nil, List.length_set, hid, ga, sa, gs, ss, gsa, ssa, gl0, glk, sl0, slk, phV, phW, phD_1, tkV, gpO, q8, pC1])
              all_goals try simp
              all_goals try omega
            | false =>
              rw [hy.stop c2 c1] at hk
              rw [sSlash2] at c2
              rw [sSlash] at c1
              have h1 := fun G K hk => gHasF_A L hL id (n : Int) p8 hp8 e8 [47, 47] c2 (H.set id (gpO L (n : Int) ⟨p8, e8⟩) ++ G) K (gsa _ _) hk
              have h2 := fun G K hk => gHasF_A L hL id (n : Int) p8 hp8 e8 [47] c1 (H.set id (gpO L (n : Int) ⟨p8, e8⟩) ++ G) K (gsa _ _) hk
              simp only [gpO, phC_1] at *
              have c21 := h1; have c22 := h2; have us := q8
              exact W37
        · have q8 : (e8 = 0) = False := eq_false he8
          rw [hy.stop (isN_F he8) (isN_F he8)] at hk
          simp only [gpO, phC_1] at *
          have us := q8
          exact W38
    | false =>
      rw [d1, if_neg (by decide)] at hk
      rw [sSlash] at d1
      have h2 := fun G K hk => gHasF_A L hL id (n : Int) p hp e [47] d1 (H ++ G) K (ga G) hk
      obtain ⟨y, p2, e2, hy, hp2⟩ := fR_N hm hp (e := e)
      rw [hy] at hk
      have hl := fun G K hk => hs p e (H ++ G) K hp hg (ga G) hk
      rw [hy] at hl
      have hgm := hm ⟨p, e⟩ hp
      rw [hy] at hgm
      have hg2 : e2 = 0 → n ≤ 30 := fun h => hg (hgm.e0 h)
      simp only [gpO] at *
      refine We ?_
      have c21 := h1; have c22 := h2; have c23 := hl; have us := eq_self (0 : Nat)
      (repeat' (first | with_reducible (first | refine And.intro ?_ ?_ | intro _ | (refine hKv _ _ (AWp_nop ?_); clear hKv Kv) | (refine hKA ?_; clear hKA hKB KA KB) | (refine hKB ?_; clear hKA hKB KA KB) | refine Wp ?_ | fail) | ((first | with_reducible (first | (refine hKv _ _ ?_; clear hKv Kv) | (refine Wr ?_; intro Kv hKv) | refine AWp_retR ?_ | fail) | refine Wc ?_ | fail); try simp (dsimp := false) only [go_sem, Nat.reduceAdd, Nat.reduceBEq, Nat.reduceEqDiff, Nat.reduceLT, Nat.reduceLeDiff, Nat.reduceMul, Int.reduceToNat, reduceCtorEq, ↓reduceIte, us, Bool.false_and, Bool.true_and, Int.reduceEq, Int.reduceLE, Int.reduceLT, Int.reduceNeg, List.length_set, List.map_cons, List.map_nil, ga, gl0, glk, gpO, gs, gsa, hid, not_false_eq_true, not_true_eq_false, pC1, phD_1, phV, phW, sa, sl0, slk, ss, ssa, tkV]) | (refine AWp_condC rfl ?_; intro KA KB hKA hKB; try simp only [onB_true, onB_false, onB_dec, onB_ndec, onB_not, onB_and, onB_or]) | (refine AWp_condA rfl ?_ ?_) | with_reducible (first | refine onB_of ?_ ?_ | rfl) | omega))
      all_goals first
        | omega
        | skip
      have hq0 : GwOk (n ≤ 30) L pc (wayL L pc (L.length + 1) (y) ⟨p2, e2⟩) ⟨y, p2, e2⟩ := ⟨⟨L.length + 1, by simp only []; omega, rfl⟩, hp2, hg2⟩
      generalize wayL L pc (L.length + 1) (y) ⟨p2, e2⟩ = q at hq0 hk
      refine AWp_whileG (GwOk (n ≤ 30) L pc q) (fun y => [(0, .pt id 0 0 0), (2, .pt H.length 0 0 0), (3, .pt (H.length + 1) 0 0 0)])
        (fun y => H.set id (gpO L (n : Int) ⟨y.p, y.e⟩) ++ [.row 0 30 11 [[.d (.i .i64 0), .d (.i .i64 0), .d (.i .i64 0), .d (.s []), .d (.s []), .d (.i .i64 0), .d (.i .i64 0), .d (.i .i64 0), .d (.s []), .d (.c (.slice none 0 0)), .d (.c (.slice none 0 0))]], .row 0 30 11 [phC y.x]])
        (fun y => L.length - y.p) ⟨y, p2, e2⟩ hq0 ⟨[], ?_⟩ ?_ ?_ ?_ ?_
      · simp [gpO, phC_1, pPath, pRoot, pAll, pStep, ph0, mkh, mka, mkc, aD_nil, cD_nil, aD_cons, phD_1]
      · simp (dsimp := false) only [go_sem, Nat.reduceAdd, Nat.reduceBEq, Nat.reduceEqDiff, Nat.reduceLT, Nat.reduceLeDiff, Nat.reduceMul, Int.reduceToNat, reduceCtorEq, ↓reduceIte, not_true_eq_false, not_false_eq_true, Bool.true_and, Bool.false_and, Int.reduceEq, Int.reduceLT, Int.reduceLE, Int.reduceNeg, List.map_cons, List.map_nil, List.length_set, hid, ga, sa, gs, ss, gsa, ssa, gl0, glk, sl0, slk, phV, phW, phD_1, tkV, gpO, pC1]
        simp
        try omega
      · intro y hy; simp
      · intro y hy
        refine closed_sa hid (gp_bel _ _ _ _ _) ?_
        simp only [List.forall_mem_cons, List.length_cons, List.length_nil]
        refine ⟨oB1 (by simp [Bel_d]), oB1 (by simp [phC_1, Bel_d]), by simp⟩
      rintro ⟨x8, p8, e8⟩ hy
      have hp8 := hy.p
      simp only [] at hp8 ⊢
      by_cases he8 : e8 = 0
      · have q8 : (e8 = 0) = True := eq_true he8
        have hn30 : n ≤ 30 := hy.g he8
        cases c2 : isN L sSlash2 ⟨p8, e8⟩ with
        | true =>
          have hlt := isN_lt c2
          simp only [] at hlt
          obtain ⟨z, p9, e9, hz, hp9⟩ := fR_N hm (Nat.succ_le_of_lt hlt) (e := e8)
          have hst := hy.step2 hm c2 hz
          rw [sSlash2] at c2
          have h1 := fun G K hk => gHasT_A L hL id (n : Int) p8 e8 [47, 47] c2 (H.set id (gpO L (n : Int) ⟨p8, e8⟩) ++ G) K (gsa _ _) hk
          have hl := fun G K hk => hs (p8 + 1) e8 (H.set id (gpO L (n : Int) ⟨(p8 + 1), e8⟩) ++ G) K hlt (fun _ => by omega) (gsa _ _) hk
          rw [hz] at hl
          have j1 := gJoined_A x8 pAll
          have j2 := gJoined_A (pPath x8 pAll) z
          have ja := gAll_A
          simp only [phV, phW, pRoot, pAll, pStep, pPath, ph0, mkh, mka, mkc, aD_nil, cD_nil, aD_cons, List.map_cons, List.map_nil, phD_1] at j1 j2 ja
          simp only [gpO, phC_1] at *
          have c21 := h1; have c22 := hl; have c23 := ja; have c24 := j1; have c25 := j2; have us := q8
          (repeat' (first | with_reducible (first | refine And.intro ?_ ?_ | intro _ | (refine hKv _ _ (AWp_nop ?_); clear hKv Kv) | (refine hKA ?_; clear hKA hKB KA KB) | (refine hKB ?_; clear hKA hKB KA KB) | refine Wp ?_ | fail) | ((first | with_reducible (first | (refine hKv _ _ ?_; clear hKv Kv) | (refine Wr ?_; intro Kv hKv) | refine AWp_retR ?_ | fail) | refine Wc ?_ | fail); try simp (dsimp := false) only [go_sem, Nat.reduceAdd, Nat.reduceBEq, Nat.reduceEqDiff, Nat.reduceLT, Nat.reduceLeDiff, Nat.reduceMul, Int.reduceToNat, reduceCtorEq, ↓reduceIte, us, Bool.false_and, Bool.true_and, Int.reduceEq, Int.reduceLE, Int.reduceLT, Int.reduceNeg, List.length_set, List.map_cons, List.map_nil, ga, gl0, glk, gpO, gs, gsa, hid, not_false_eq_true, not_true_eq_false, pC1, phD_1, phV, phW, sa, sl0, slk, ss, ssa, tkV]) | (refine AWp_condC rfl ?_; intro KA KB hKA hKB; try simp only [onB_true, onB_false, onB_dec, onB_ndec, onB_not, onB_and, onB_or]) | (refine AWp_condA rfl ?_ ?_) | with_reducible (first | refine onB_of ?_ ?_ | rfl) | omega))
          all_goals first
            | omega
            | skip
          refine ⟨⟨pPath (pPath x8 pAll) z, p9, e9⟩, [], hst.1, by have := hst.2; simp only [] at this ⊢; omega, by simp [phC_1, pPath, pAll, pStep, ph0, mkh, mka, mkc, aD_nil, cD_nil, aD_cons, phD_1], ?_⟩
          try (simp (dsimp := false) only [go_sem, Nat.reduceAdd, Nat.reduceBEq, Nat.reduceEqDiff, Nat.reduceLT, Nat.reduceLeDiff, Nat.reduceMul, Int.reduceToNat, reduceCtorEq, ↓reduceIte, not_true_eq_false, not_false_eq_true, Bool.true_and, Bool.false_and, Int.reduceEq, Int.reduceLT, Int.reduceLE, Int.reduceNeg, List.map_cons, List.map_nil, List.length_set, hid, ga, sa, gs, ss, gsa, ssa, gl0, glk, sl0, slk, phV, phW, phD_1, tkV, gpO, q8, pC1])
          all_goals try simp
          all_goals try omega
        | false =>
          cases c1 : isN L sSlash ⟨p8, e8⟩ with
          | true =>
            have hlt := isN_lt c1
            simp only [] at hlt
            obtain ⟨z, p9, e9, hz, hp9⟩ := fR_N hm (Nat.succ_le_of_lt hlt) (e := e8)
            have hst := hy.step1 hm c2 c1 hz
            rw [sSlash2] at c2
            rw [sSlash] at c1
            have h1 := fun G K hk => gHasF_A L hL id (n : Int) p8 hp8 e8 [47, 47] c2 (H.set id (gpO L (n : Int) ⟨p8, e8⟩) ++ G) K (gsa _ _) hk
            have h2 := fun G K hk => gHasT_A L hL id (n : Int) p8 e8 [47] c1 (H.set id (gpO L (n : Int) ⟨p8, e8⟩) ++ G) K (gsa _ _) hk
            have hl := fun G K hk => hs (p8 + 1) e8 (H.set id (gpO L (n : Int) ⟨(p8 + 1), e8⟩) ++ G) K hlt (fun _ => by omega) (gsa _ _) hk
            rw [hz] at hl
            have j1 := gJoined_A x8 z
            simp only [phV, phW, pRoot, pAll, pStep, pPath, ph0, mkh, mka, mkc, aD_nil, cD_nil, aD_cons, List.map_cons, List.map_nil, phD_1] at j1
            simp only [gpO, phC_1] at *
            have c21 := h1; have c22 := h2; have c23 := hl; have c24 := j1; have us := q8
            (repeat' (first | with_reducible (first | refine And.intro ?_ ?_ | intro _ | (refine hKv _ _ (AWp_nop ?_); clear hKv Kv) | (refine hKA ?_; clear hKA hKB KA KB) | (refine hKB ?_; clear hKA hKB KA KB) | refine Wp ?_ | fail) | ((first | with_reducible (first | (refine hKv _ _ ?_; clear hKv Kv) | (refine Wr ?_; intro Kv hKv) | refine AWp_retR ?_ | fail) | refine Wc ?_ | fail); try simp (dsimp := false) only [go_sem, Nat.reduceAdd, Nat.reduceBEq, Nat.reduceEqDiff, Nat.reduceLT, Nat.reduceLeDiff, Nat.reduceMul, Int.reduceToNat, reduceCtorEq, ↓reduceIte, us, Bool.false_and, Bool.true_and, Int.reduceEq, Int.reduceLE, Int.reduceLT, Int.reduceNeg, List.length_set, List.map_cons, List.map_nil, ga, gl0, glk, gpO, gs, gsa, hid, not_false_eq_true, not_true_eq_false, pC1, phD_1, phV, phW, sa, sl0, slk, ss, ssa, tkV]) | (refine AWp_condC rfl ?_; intro KA KB hKA hKB; try simp only [onB_true, onB_false, onB_dec, onB_ndec, onB_not, onB_and, onB_or]) | (refine AWp_condA rfl ?_ ?_) | with_reducible (first | refine onB_of ?_ ?_ | rfl) | omega))
            all_goals first
              | omega
              | skip
            refine ⟨⟨pPath x8 z, p9, e9⟩, [], hst.1, by have := hst.2; simp only [] at this ⊢; omega, by simp [phC_1, pPath, ph0, mkh, mka, mkc, aD_nil, cD_nil, aD_cons, phD_1], ?_⟩
            try (simp (dsimp := false) only [go_sem, Nat.reduceAdd, Nat.reduceBEq, Nat.reduceEqDiff, Nat.reduceLT, Nat.reduceLeDiff, Nat.reduceMul, Int.reduceToNat, reduceCtorEq, ↓reduceIte, not_true_eq_false, not_false_eq_true, Bool.true_and, Bool.false_and, Int.reduceEq, Int.reduceLT, Int.reduceLE, Int.reduceNeg, List.map_cons, List.map_nil, List.length_set, hid, ga, sa, gs, ss, gsa, ssa, gl0, glk, sl0, slk, phV, phW, phD_1, tkV, gpO, q8, pC1])
            all_goals try simp
            all_goals try omega
          | false =>
            rw [hy.stop c2 c1] at hk
            rw [sSlash2] at c2
            rw [sSlash] at c1
            have h1 := fun G K hk => gHasF_A L hL id (n : Int) p8 hp8 e8 [47, 47] c2 (H.set id (gpO L (n : Int) ⟨p8, e8⟩) ++ G) K (gsa _ _) hk
            have h2 := fun G K hk => gHasF_A L hL id (n : Int) p8 hp8 e8 [47] c1 (H.set id (gpO L (n : Int) ⟨p8, e8⟩) ++ G) K (gsa _ _) hk
            simp only [gpO, phC_1] at *
            have c21 := h1; have c22 := h2; have us := q8
            exact W37
      · have q8 : (e8 = 0) = False := eq_false he8
        rw [hy.stop (isN_F he8) (isN_F he8)] at hk
        simp only [gpO, phC_1] at *
        have us := q8
        exact W38
end Go.Proofs.YtmhabdopcbokoaaDoor.Gq
