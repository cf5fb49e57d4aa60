/- The parser of queries: constructors, calls. No condition but that the tables of package unicode/utf8 are there. -/
import Derived.Test.YtmhabdopcbokoaaDoorR18
import Derived.Test.YtmhabdopcbokoaaDoorR27
set_option linter.all false
set_option linter.unusedSimpArgs false
set_option linter.unusedVariables false
namespace Go.Proofs.YtmhabdopcbokoaaDoor.Gq
open Go Go.Proofs.YtmhabdopcbokoaaDoor.Ab
variable [Glo] [Gx]
set_option maxHeartbeats 4000000
set_option maxRecDepth 20000
theorem mP_N {L : List Tk} {p : Nat} {e : Int} {s : Bs} (hp : p ≤ L.length) : ∃ p' e', mustP L s ⟨p, e⟩ = ⟨p', e'⟩ ∧ p' ≤ L.length := ⟨_, _, rfl, (Le_must hp).hi⟩
theorem fR_N {L : List Tk} {f : Ps → PR} {p : Nat} {e : Int} (hf : Mo L f) (hp : p ≤ L.length) : ∃ x p' e', f ⟨p, e⟩ = (x, ⟨p', e'⟩) ∧ p' ≤ L.length := ⟨_, _, _, rfl, (hf ⟨p, e⟩ hp).hi⟩
namespace FN83
def tks : Nat → List Nat | 0 => [0, 2] | 1 => [0, 2, 3] | 2 => [0, 2, 3, 6] | 3 => [0, 2, 3, 6, 7] | 4 => [0, 2, 3] | 5 => [0, 2, 3] | 6 => [0, 2, 3, 13] | 7 => [0, 2, 3] | 8 => [0, 2, 3] | 9 => [0, 2, 3] | 10 => [0, 2, 3, 22] | 11 => [2, 3] | 12 => [2] | 13 => [0, 2, 3] | 14 => [2, 3] | 15 => [2] | _ => []
def tmu : List Nat := []
def tin : List Nat := [0]
abbrev tfn := @Tryd.func83
end FN83
attribute [go_sem] FN83.tks FN83.tmu FN83.tin Tryd.ntmps83 Tryd.results83
open FN83 in
theorem gMade_A (L : List Tk) (hL : L.length ≤ 200) {ex : Ps → PR} (hm : Mo L ex) (n id : Nat) (p : Nat) (e : Int) (H : Heap) (K : V → Heap → Prop) (hp : p ≤ L.length) (hr : H[id]? = some (gpO L (n : Int) ⟨p, e⟩)) (hn30 : n ≤ 30) (hs : GAt L 9 ex n id) (hmk : makesB L ⟨p, e⟩ = true) (he : e = 0) (hk : K (phV (madeF L ex ⟨p, e⟩).1) (H.set id (gpO L (n : Int) (madeF L ex ⟨p, e⟩).2))) :
    ACalls Tryd.prog 83 [.pt id 0 0 0] H K := by
  have hid := lt_of_get hr
  obtain ⟨ga, sa, gs, ss, gsa, ssa, gl0, glk, sl0, slk⟩ := atH hr
  have hk1 := makes_k hmk
  simp only [] at hk1
  have hp1 : p + 1 ≤ L.length := tokAt_lt (by omega)
  have hnm := fun G K hk => gName_A L hL id (n : Int) p hp e (H ++ G) K (ga G) hk
  rw [kindT, if_pos ⟨he, hk1⟩, kindP, if_pos he, if_pos hk1, nxt] at hnm
  unfold madeF at hk
  simp only [nxt] at hk hnm
  generalize (tokAt L p).s = x0 at hnm hk
  by_cases a1 : x0 = sElement
  · have r1 : (x0 = [101, 108, 101, 109, 101, 110, 116]) = True := eq_true a1
    have ho : x0 = sElement ∨ x0 = sAttribute := .inl a1
    simp only [if_pos a1, if_pos ho] at hk
    have hn2 := fun G K hk => gName_A L hL id (n : Int) (p + 1) hp1 e (H.set id (gpO L (n : Int) ⟨(p + 1), e⟩) ++ G) K (gsa _ _) hk
    obtain ⟨p2, e2, hkp, hp2⟩ := kP_N (L := L) (p := p + 1) (e := e) (k := 1) hp1 (by decide)
    rw [hkp] at hk hn2
    generalize kindT L 1 ⟨p + 1, e⟩ = nm at hk hn2
    have hm2 := fun G K hk => gMust_A L hL id (n : Int) p2 hp2 e2 [123] (H.set id (gpO L (n : Int) ⟨p2, e2⟩) ++ G) K (gsa _ _) hk
    obtain ⟨p3, e3, hmp, hp3⟩ := mP_N (L := L) (p := p2) (e := e2) (s := [123]) hp2
    rw [sOpenC, hmp] at hk
    rw [hmp] at hm2
    cases hc : isN L sCloseC ⟨p3, e3⟩ with
    | true =>
      rw [hc, if_pos rfl] at hk
      rw [sCloseC] at hc
      have hh := fun G K hk => gHasT_A L hL id (n : Int) p3 e3 [125] hc (H.set id (gpO L (n : Int) ⟨p3, e3⟩) ++ G) K (gsa _ _) hk
      simp only [phV, phW, pSeq, pStep, pPath, pBin, pMinus, pRoot, pAll, pNil, ph0, mkh, mka, mkc, aD_nil, cD_nil, aD_cons, phD_1, List.map_cons, List.map_nil] at hk
      simp only [gpO] at *
      refine We ?_
      have c21 := hnm; have c22 := hn2; have c23 := hm2; have c24 := hh; have us := r1
      exact W21
    | false =>
      rw [hc, if_neg (by decide)] at hk
      rw [sCloseC] at hc
      have hh := fun G K hk => gHasF_A L hL id (n : Int) p3 hp3 e3 [125] hc (H.set id (gpO L (n : Int) ⟨p3, e3⟩) ++ G) K (gsa _ _) hk
      have hl := fun G K hk => hs p3 e3 (H.set id (gpO L (n : Int) ⟨p3, e3⟩) ++ G) K hp3 (fun _ => by omega) (gsa _ _) hk
      obtain ⟨y, p4, e4, hy, hp4⟩ := fR_N hm hp3 (e := e3)
      rw [hy] at hk hl
      have hm3 := fun G K hk => gMust_A L hL id (n : Int) p4 hp4 e4 [125] (H.set id (gpO L (n : Int) ⟨p4, e4⟩) ++ G) K (gsa _ _) hk
      simp only [phV, phW, pSeq, pStep, pPath, pBin, pMinus, pRoot, pAll, pNil, ph0, mkh, mka, mkc, aD_nil, cD_nil, aD_cons, phD_1, List.map_cons, List.map_nil] at hk
      rw [sCloseC] at hk
      generalize mustP L [125] ⟨p4, e4⟩ = s5 at hk hm3
      simp only [gpO] at *
      refine We ?_
      have c21 := hnm; have c22 := hn2; have c23 := hm2; have c24 := hh; have c25 := hl; have c26 := hm3; have us := r1
      exact W21
  · have r1 : (x0 = [101, 108, 101, 109, 101, 110, 116]) = False := eq_false a1
    by_cases a2 : x0 = sAttribute
    · have r2 : (x0 = [97, 116, 116, 114, 105, 98, 117, 116, 101]) = True := eq_true a2
      have ho : x0 = sElement ∨ x0 = sAttribute := .inr a2
      simp only [if_neg a1, if_pos a2, if_pos ho] at hk
      have hn2 := fun G K hk => gName_A L hL id (n : Int) (p + 1) hp1 e (H.set id (gpO L (n : Int) ⟨(p + 1), e⟩) ++ G) K (gsa _ _) hk
      obtain ⟨p2, e2, hkp, hp2⟩ := kP_N (L := L) (p := p + 1) (e := e) (k := 1) hp1 (by decide)
      rw [hkp] at hk hn2
      generalize kindT L 1 ⟨p + 1, e⟩ = nm at hk hn2
      have hm2 := fun G K hk => gMust_A L hL id (n : Int) p2 hp2 e2 [123] (H.set id (gpO L (n : Int) ⟨p2, e2⟩) ++ G) K (gsa _ _) hk
      obtain ⟨p3, e3, hmp, hp3⟩ := mP_N (L := L) (p := p2) (e := e2) (s := [123]) hp2
      rw [sOpenC, hmp] at hk
      rw [hmp] at hm2
      cases hc : isN L sCloseC ⟨p3, e3⟩ with
      | true =>
        rw [hc, if_pos rfl] at hk
        rw [sCloseC] at hc
        have hh := fun G K hk => gHasT_A L hL id (n : Int) p3 e3 [125] hc (H.set id (gpO L (n : Int) ⟨p3, e3⟩) ++ G) K (gsa _ _) hk
        simp only [phV, phW, pSeq, pStep, pPath, pBin, pMinus, pRoot, pAll, pNil, ph0, mkh, mka, mkc, aD_nil, cD_nil, aD_cons, phD_1, List.map_cons, List.map_nil] at hk
        simp only [gpO] at *
        refine We ?_
        have c21 := hnm; have c22 := hn2; have c23 := hm2; have c24 := hh; have us := an r1 r2
        exact W21
      | false =>
        rw [hc, if_neg (by decide)] at hk
        rw [sCloseC] at hc
        have hh := fun G K hk => gHasF_A L hL id (n : Int) p3 hp3 e3 [125] hc (H.set id (gpO L (n : Int) ⟨p3, e3⟩) ++ G) K (gsa _ _) hk
        have hl := fun G K hk => hs p3 e3 (H.set id (gpO L (n : Int) ⟨p3, e3⟩) ++ G) K hp3 (fun _ => by omega) (gsa _ _) hk
        obtain ⟨y, p4, e4, hy, hp4⟩ := fR_N hm hp3 (e := e3)
        rw [hy] at hk hl
        have hm3 := fun G K hk => gMust_A L hL id (n : Int) p4 hp4 e4 [125] (H.set id (gpO L (n : Int) ⟨p4, e4⟩) ++ G) K (gsa _ _) hk
        simp only [phV, phW, pSeq, pStep, pPath, pBin, pMinus, pRoot, pAll, pNil, ph0, mkh, mka, mkc, aD_nil, cD_nil, aD_cons, phD_1, List.map_cons, List.map_nil] at hk
        rw [sCloseC] at hk
        generalize mustP L [125] ⟨p4, e4⟩ = s5 at hk hm3
        simp only [gpO] at *
        refine We ?_
        have c21 := hnm; have c22 := hn2; have c23 := hm2; have c24 := hh; have c25 := hl; have c26 := hm3; have us := an r1 r2
        exact W21
    · have r2 : (x0 = [97, 116, 116, 114, 105, 98, 117, 116, 101]) = False := eq_false a2
      have ho : ¬ (x0 = sElement ∨ x0 = sAttribute) := fun h => h.elim a1 a2
      simp only [if_neg a1, if_neg a2, if_neg ho] at hk
      have hm2 := fun G K hk => gMust_A L hL id (n : Int) (p + 1) hp1 e [123] (H.set id (gpO L (n : Int) ⟨(p + 1), e⟩) ++ G) K (gsa _ _) hk
      obtain ⟨p3, e3, hmp, hp3⟩ := mP_N (L := L) (p := (p + 1)) (e := e) (s := [123]) hp1
      rw [sOpenC, hmp] at hk
      rw [hmp] at hm2
      cases hc : isN L sCloseC ⟨p3, e3⟩ with
      | true =>
        rw [hc, if_pos rfl] at hk
        rw [sCloseC] at hc
        have hh := fun G K hk => gHasT_A L hL id (n : Int) p3 e3 [125] hc (H.set id (gpO L (n : Int) ⟨p3, e3⟩) ++ G) K (gsa _ _) hk
        simp only [phV, phW, pSeq, pStep, pPath, pBin, pMinus, pRoot, pAll, pNil, ph0, mkh, mka, mkc, aD_nil, cD_nil, aD_cons, phD_1, List.map_cons, List.map_nil] at hk
        simp only [gpO] at *
        refine We ?_
        have c21 := hnm; have c22 := hm2; have c23 := hh; have us := an r1 r2
        exact W21
      | false =>
        rw [hc, if_neg (by decide)] at hk
        rw [sCloseC] at hc
        have hh := fun G K hk => gHasF_A L hL id (n : Int) p3 hp3 e3 [125] hc (H.set id (gpO L (n : Int) ⟨p3, e3⟩) ++ G) K (gsa _ _) hk
        have hl := fun G K hk => hs p3 e3 (H.set id (gpO L (n : Int) ⟨p3, e3⟩) ++ G) K hp3 (fun _ => by omega) (gsa _ _) hk
        obtain ⟨y, p4, e4, hy, hp4⟩ := fR_N hm hp3 (e := e3)
        rw [hy] at hk hl
        have hm3 := fun G K hk => gMust_A L hL id (n : Int) p4 hp4 e4 [125] (H.set id (gpO L (n : Int) ⟨p4, e4⟩) ++ G) K (gsa _ _) hk
        simp only [phV, phW, pSeq, pStep, pPath, pBin, pMinus, pRoot, pAll, pNil, ph0, mkh, mka, mkc, aD_nil, cD_nil, aD_cons, phD_1, List.map_cons, List.map_nil] at hk
        rw [sCloseC] at hk
        generalize mustP L [125] ⟨p4, e4⟩ = s5 at hk hm3
        simp only [gpO] at *
        refine We ?_
        have c21 := hnm; have c22 := hm2; have c23 := hh; have c24 := hl; have c25 := hm3; have us := an r1 r2
        exact W21
namespace FN84
def tks : Nat → List Nat | 0 => [0, 2] | 1 => [0, 2, 3] | 2 => [0, 2, 3] | 3 => [0, 2, 3, 10] | 4 => [2] | 5 => [0, 2, 3] | 6 => [0, 2, 3, 17] | 7 => [0, 2, 3] | 8 => [2, 3] | 9 => [2] | _ => []
def tmu : List Nat := [14]
def tin : List Nat := [0]
def txt : Nat → Nat × List Cd | 7 => (5, [.q 0 1, .q 0 1, .q 0 0, .t, .q 0 0]) | _ => (0, [])
abbrev tfn := @Tryd.func84
end FN84
attribute [go_sem] FN84.tks FN84.tmu FN84.tin FN84.txt Tryd.ntmps84 Tryd.results84
open FN84 in
theorem gCall_A (L : List Tk) (hL : L.length ≤ 200) {al : Ps → PR} (hm : Mo L al) (n id : Nat) (p : Nat) (e : Int) (H : Heap) (K : V → Heap → Prop) (hp : p ≤ L.length) (hr : H[id]? = some (gpO L (n : Int) ⟨p, e⟩)) (hn30 : n ≤ 30) (hs : GAt L 17 al n id) (hk : K (phV (callF L al ⟨p, e⟩).1) (H.set id (gpO L (n : Int) (callF L al ⟨p, e⟩).2))) :
    ACalls Tryd.prog 84 [.pt id 0 0 0] H K := by
  have hid := lt_of_get hr
  obtain ⟨ga, sa, gs, ss, gsa, ssa, gl0, glk, sl0, slk⟩ := atH hr
  have hnm := fun G K hk => gName_A L hL id (n : Int) p hp e (H ++ G) K (ga G) hk
  unfold callF at hk
  simp only [] at hk
  obtain ⟨p1, e1, hkp, hp1⟩ := kP_N (L := L) (p := p) (e := e) (k := 1) hp (by decide)
  rw [hkp] at hk hnm
  generalize kindT L 1 ⟨p, e⟩ = nm at hk hnm
  have hm2 := fun G K hk => gMust_A L hL id (n : Int) p1 hp1 e1 [40] (H.set id (gpO L (n : Int) ⟨p1, e1⟩) ++ G) K (gsa _ _) hk
  obtain ⟨p2, e2, hmp, hp2⟩ := mP_N (L := L) (p := p1) (e := e1) (s := [40]) hp1
  rw [sOpen, hmp] at hk
  rw [hmp] at hm2
  cases hc : isN L sClose ⟨p2, e2⟩ with
  | true =>
    rw [hc, if_pos rfl] at hk
    rw [sClose] at hc
    have hh := fun G K hk => gHasT_A L hL id (n : Int) p2 e2 [41] hc (H.set id (gpO L (n : Int) ⟨p2, e2⟩) ++ G) K (gsa _ _) hk
    simp only [phV, phW, pSeq, pStep, pPath, pBin, pMinus, pRoot, pAll, pNil, ph0, mkh, mka, mkc, aD_nil, cD_nil, aD_cons, phD_1, List.map_cons, List.map_nil] at hk
    simp only [nxt] at hk
    simp only [gpO] at *
    refine We ?_
    have c21 := hnm; have c22 := hm2; have c23 := hh; have us := eq_self (0 : Nat)
    exact W21
  | false =>
    rw [hc, if_neg (by decide)] at hk
    rw [sClose] at hc
    have hh := fun G K hk => gHasF_A L hL id (n : Int) p2 hp2 e2 [41] hc (H.set id (gpO L (n : Int) ⟨p2, e2⟩) ++ G) K (gsa _ _) hk
    have hl := fun G K hk => hs p2 e2 (H.set id (gpO L (n : Int) ⟨p2, e2⟩) ++ G) K hp2 (fun _ => by omega) (gsa _ _) hk
    obtain ⟨x, p3, e3, hy, hp3⟩ := fR_N hm hp2 (e := e2)
    rw [hy] at hk hl
    simp only [sComma] at hk
    simp only [gpO] at *
    refine We ?_
    have c21 := hnm; have c22 := hm2; have c23 := hh; have c24 := hl; have us := eq_self (0 : Nat)
    (repeat' (first | with_reducible (first | refine And.intro ?_ ?_ | intro _ | (refine hKv _ _ (AWp_nop ?_); clear hKv Kv) | (refine hKA ?_; clear hKA hKB KA KB) | (refine hKB ?_; clear hKA hKB KA KB) | refine Wp ?_ | fail) | ((first | with_reducible (first | (refine hKv _ _ ?_; clear hKv Kv) | (refine Wr ?_; intro Kv hKv) | refine AWp_retR ?_ | fail) | refine Wc ?_ | fail); try simp (dsimp := false) only [go_sem, Nat.reduceAdd, Nat.reduceBEq, Nat.reduceEqDiff, Nat.reduceLT, Nat.reduceLeDiff, Nat.reduceMul, Int.reduceToNat, reduceCtorEq, ↓reduceIte, us, Bool.false_and, Bool.true_and, Int.reduceEq, Int.reduceLE, Int.reduceLT, Int.reduceNeg, List.length_set, List.map_cons, List.map_nil, ga, gl0, glk, gpO, gs, gsa, hid, not_false_eq_true, not_true_eq_false, phD_1, phV, phW, sa, sl0, slk, ss, ssa, tkV]) | (refine AWp_condC rfl ?_; intro KA KB hKA hKB; try simp only [onB_true, onB_false, onB_dec, onB_ndec, onB_not, onB_and, onB_or]) | (refine AWp_condA rfl ?_ ?_) | with_reducible (first | refine onB_of ?_ ?_ | rfl) | omega))
    all_goals first
      | omega
      | skip
    have hq0 : GlOk L [44] al (moreP L [44] al (L.length + 1) [x] ⟨p3, e3⟩) ⟨[x], p3, e3, 0⟩ := ⟨⟨L.length + 1, by simp only []; omega, rfl⟩, hp3, by simp, by simp⟩
    generalize moreP L [44] al (L.length + 1) [x] ⟨p3, e3⟩ = q at hq0 hk
    refine AWp_whileG (GlOk L [44] al q) (fun y => [(0, .pt id 0 0 0), (2, .pt H.length 0 0 0), (3, .pt (H.length + 1) 0 0 0)])
      (fun y => H.set id (gpO L (n : Int) ⟨y.p, y.e⟩) ++ [.row 0 30 11 [[.d (.i .i64 0), .d (.i .i64 0), .d (.i .i64 0), .d (.s []), .d (.s []), .d (.i .i64 0), .d (.i .i64 0), .d (.i .i64 0), .d (.s []), .d (.c (.slice none 0 0)), .d (.c (.slice none 0 0))]], .row 0 30 11 [[.d (.i .i64 8), .d (.i .i64 0), .d (.i .i64 0), .d (.s []), .d (.s nm), .d (.i .i64 0), .d (.i .i64 0), .d (.i .i64 0), .d (.s []), .os (H.length + 2) y.v, .d (.c (.slice none 0 0))]], .row y.v 30 11 (y.l.map phC)])
      (fun y => L.length - y.p) ⟨[x], p3, e3, 0⟩ hq0 ⟨[], ?_⟩ ?_ ?_ ?_ ?_
    · simp [gpO, phC_1, cellP]
    · simp (dsimp := false) only [go_sem, Nat.reduceAdd, Nat.reduceBEq, Nat.reduceEqDiff, Nat.reduceLT, Nat.reduceLeDiff, Nat.reduceMul, Int.reduceToNat, reduceCtorEq, ↓reduceIte, not_true_eq_false, not_false_eq_true, Bool.true_and, Bool.false_and, Int.reduceEq, Int.reduceLT, Int.reduceLE, Int.reduceNeg, List.map_cons, List.map_nil, List.length_set, hid, ga, sa, gs, ss, gsa, ssa, gl0, glk, sl0, slk, phV, phW, phD_1, tkV, gpO]
      simp
      try omega
    · intro y hy; simp
    · intro y hy
      refine closed_sa hid (gp_bel _ _ _ _ _) ?_
      simp only [List.forall_mem_cons, List.length_cons, List.length_nil]
      refine ⟨oB1 (by simp [Bel_d]), oB1 (by simp [Bel_d, Bel_os]), oBp _, by simp⟩
    rintro ⟨l, p8, e8, v⟩ hy
    have hp8 := hy.p
    have hl8 := hy.l
    simp only [] at hp8 hl8 ⊢
    cases hc8 : isN L [44] ⟨p8, e8⟩ with
    | false =>
      have hh8 := fun G K hk => gHasF_A L hL id (n : Int) p8 hp8 e8 [44] hc8 (H.set id (gpO L (n : Int) ⟨p8, e8⟩) ++ G) K (gsa _ _) hk
      have hm8 := fun G K hk => gMust_A L hL id (n : Int) p8 hp8 e8 [41] (H.set id (gpO L (n : Int) ⟨p8, e8⟩) ++ G) K (gsa _ _) hk
      rw [hy.stop hc8] at hk
      simp only [phV, phW, ph0, mkh, mka, mkc, aD_ne hy.ne, cD_nil, sClose] at hk
      generalize mustP L [41] ⟨p8, e8⟩ = s5 at hk hm8
      simp only [gpO] at *
      have c21 := hh8; have c22 := hm8; have us := eq_self (0 : Nat)
      exact W27
    | true =>
      have hh8 := fun G K hk => gHasT_A L hL id (n : Int) p8 e8 [44] hc8 (H.set id (gpO L (n : Int) ⟨p8, e8⟩) ++ G) K (gsa _ _) hk
      have hlt := isN_lt hc8
      have hs8 := fun G K hk => hs (p8 + 1) e8 (H.set id (gpO L (n : Int) ⟨(p8 + 1), e8⟩) ++ G) K hlt (fun _ => by omega) (gsa _ _) hk
      have hst := fun {x p e} hx v => hy.step hm hc8 (x := x) (p := p) (e := e) hx v
      simp only [] at hst
      generalize al ⟨p8 + 1, e8⟩ = r4 at hs8 hst
      obtain ⟨x9, p9, e9⟩ := r4
      have hst := hst rfl
      simp only [gpO] at *
      have c21 := hh8; have c22 := hs8; have us := eq_self (0 : Nat)
      (repeat' (first | with_reducible (first | refine And.intro ?_ ?_ | intro _ | (refine hKv _ _ (AWp_nop ?_); clear hKv Kv) | (refine hKA ?_; clear hKA hKB KA KB) | (refine hKB ?_; clear hKA hKB KA KB) | refine Wp ?_ | fail) | ((first | with_reducible (first | (refine hKv _ _ ?_; clear hKv Kv) | (refine Wr ?_; intro Kv hKv) | refine AWp_retR ?_ | fail) | refine Wc ?_ | fail); try simp (dsimp := false) only [go_sem, Nat.reduceAdd, Nat.reduceBEq, Nat.reduceEqDiff, Nat.reduceLT, Nat.reduceLeDiff, Nat.reduceMul, Int.reduceToNat, reduceCtorEq, ↓reduceIte, us, Bool.false_and, Bool.true_and, Int.reduceEq, Int.reduceLE, Int.reduceLT, Int.reduceNeg, List.length_set, List.map_cons, List.map_nil, ga, gl0, glk, gpO, gs, gsa, hid, not_false_eq_true, not_true_eq_false, phD_1, phV, phW, sa, sl0, slk, ss, ssa, tkV]) | (refine AWp_condC rfl ?_; intro KA KB hKA hKB; try simp only [onB_true, onB_false, onB_dec, onB_ndec, onB_not, onB_and, onB_or]) | (refine AWp_condA rfl ?_ ?_) | with_reducible (first | refine onB_of ?_ ?_ | rfl) | omega))
      all_goals first
        | omega
        | skip
      have h5 := (hst (v + 1)).2
      try simp only [] at h5 hlt
      exact ⟨⟨l ++ [x9], p9, e9, v + 1⟩, [], (hst (v + 1)).1, by simp only []; omega, by simp [phC_1], by omega, by omega, by omega⟩
end Go.Proofs.YtmhabdopcbokoaaDoor.Gq
