/- The grammar of queries: the reference: what is no step. No condition but that the tables of package unicode/utf8 are there. -/
import Derived.Test.YtmhabdopcbokoaaDoorR18
import Derived.Test.YtmhabdopcbokoaaDoorR33
set_option linter.all false
set_option linter.unusedSimpArgs false
set_option linter.unusedVariables false
namespace Go.Proofs.YtmhabdopcbokoaaDoor.Gq
open Go Go.Proofs.YtmhabdopcbokoaaDoor.Ab
variable [Glo] [U8] [Mk] [Gx]
set_option maxHeartbeats 4000000
set_option maxRecDepth 20000
theorem made_s {L : List Tk} {st : Ps} (h : makesB L st = true) : (tokAt L st.p).s = sElement ∨ (tokAt L st.p).s = sAttribute ∨ (tokAt L st.p).s = sText := by
  unfold makesB at h
  simp only [Bool.and_eq_true, Bool.or_eq_true, decide_eq_true_eq] at h
  rcases h.2 with h | h
  · rcases h.1 with h | h
    · exact .inl h
    · exact .inr (.inl h)
  · exact .inr (.inr h.1)
namespace FN81
def tks : Nat → List Nat | 0 => [0, 1, 4] | 1 => [0, 1, 4, 6] | 2 => [0, 1, 4, 6, 19] | 3 => [0, 4] | 4 => [4] | 5 => [0, 1, 4, 6, 43] | 6 => [0, 4] | 7 => [4] | 8 => [0, 1, 4, 6, 67] | 9 => [4] | 10 => [0, 1, 4, 6, 73] | 11 => [4] | 12 => [0, 1, 4, 6, 77] | 13 => [0, 1, 4, 81] | 14 => [4] | 15 => [0, 4, 7] | 16 => [4, 7] | 17 => [4] | 18 => [0, 1, 4, 6, 90] | 19 => [0, 1, 4, 8] | 20 => [0, 1, 4, 8, 9] | 21 => [0, 1, 4, 8, 9, 97] | 22 => [0, 1, 4, 8, 9] | 23 => [0, 1, 4, 8, 100] | 24 => [0, 1, 4, 8] | 25 => [0, 1, 4, 8] | 26 => [0, 1, 4, 8] | 27 => [0, 1, 4, 8, 10] | 28 => [0, 1, 4, 8, 10, 110] | 29 => [0, 4, 8, 10] | 30 => [4, 8, 10] | 31 => [4, 8] | 32 => [4] | 33 => [0, 1, 4, 121] | 34 => [0, 1, 4, 11] | 35 => [0, 1, 4, 11] | 36 => [0, 1, 4, 11, 130] | 37 => [4] | 38 => [0, 1, 4, 11, 12] | 39 => [0, 1, 4, 11] | 40 => [0, 1, 4, 11, 140] | 41 => [0, 1, 4, 11, 13] | 42 => [0, 1, 4, 11] | 43 => [4, 11] | 44 => [4] | 45 => [4] | 46 => [4] | _ => []
def tmu : List Nat := [137]
def tin : List Nat := [0, 1]
def tnd : Nat → Nat | 4 => 14 | 7 => 14 | _ => 0
abbrev tfn := @Tryd.func81
end FN81
attribute [go_sem] FN81.tks FN81.tmu FN81.tin FN81.tnd Tryd.ntmps81 Tryd.results81
open FN81 in
theorem rFirst_A (L : List Tk) (hL : L.length ≤ 200) {ex al : Ps → PR} (hm : Mo L ex) (hm2 : Mo L al) (n id : Nat) (hn : n ≤ 100) (hs : GRt L 11 ex (n + 1) id True) (hs2 : GRt L 26 al (n + 1) id True) : GRt L 81 (firstF L ex al) n id True := by
  intro p e H K hp _ hr hk
  have hid := lt_of_get hr
  obtain ⟨ga, sa, gs, ss, gsa, ssa, gl0, glk, sl0, slk⟩ := atH hr
  have ht := fun G K hk => rPeek_A L hL id p e hp 0 (by omega) (H ++ G) K (ga G) hk
  rw [Nat.add_zero] at ht
  have hmk := fun G K hk => rBuilds_A L hL id p e hp (H ++ G) K (ga G) hk
  rw [firstF] at hk
  by_cases he : e = 0
  · have q0 : (e = 0) = True := eq_true he
    rw [if_neg (fun h => h he)] at hk
    rw [decide_eq_true he, Bool.true_and] at hmk
    have hk1 : pkK L p e = (tokAt L p).k := by unfold pkK; rw [if_pos he]
    rw [hk1] at ht
    generalize pkT L p e = tx at ht
    by_cases a2 : (tokAt L p).k = 2
    · have q2 : ((tokAt L p).k = 2) = True := eq_true a2
      rw [if_pos a2] at hk
      simp only [phV, phW, pSeq, pStep, pPath, pBin, pMinus, pRoot, pAll, pNil, ph0, mkh, mka, mkc, aD_nil, cD_nil, aD_cons, phD_1, List.map_cons, List.map_nil] at hk
      simp only [nxt] at hk
      have hlt := tokAt_lt (L := L) (i := p) (by omega)
      have hx := tokAt_get hlt
      have h2 : (((p + 1 : Nat) : Int) - 1) = (p : Int) := by omega
      have h3 : ((0 : Int) ≤ (p : Int)) = True := eq_true (by omega)
      have h5 : ((p : Int) < (L.length : Int)) = True := eq_true (by omega)
      simp only [grO] at *
      refine We ?_
      have c21 := ht; have us := an q0 (an q2 (an h2 (an h3 (an h5 hx))))
      exact W48
    · have q2 : ((tokAt L p).k = 2) = False := eq_false a2
      rw [if_neg a2] at hk
      by_cases a3 : (tokAt L p).k = 3
      · have q3 : ((tokAt L p).k = 3) = True := eq_true a3
        rw [if_pos a3] at hk
        simp only [phV, phW, pSeq, pStep, pPath, pBin, pMinus, pRoot, pAll, pNil, ph0, mkh, mka, mkc, aD_nil, cD_nil, aD_cons, phD_1, List.map_cons, List.map_nil] at hk
        simp only [nxt] at hk
        have hlt := tokAt_lt (L := L) (i := p) (by omega)
        have hx := tokAt_get hlt
        have h2 : (((p + 1 : Nat) : Int) - 1) = (p : Int) := by omega
        have h3 : ((0 : Int) ≤ (p : Int)) = True := eq_true (by omega)
        have h5 : ((p : Int) < (L.length : Int)) = True := eq_true (by omega)
        simp only [grO] at *
        refine We ?_
        have c21 := ht; have us := an q0 (an q2 (an q3 (an h2 (an h3 (an h5 hx)))))
        exact W48
      · have q3 : ((tokAt L p).k = 3) = False := eq_false a3
        rw [if_neg a3] at hk
        by_cases a4 : (tokAt L p).k = 4
        · have q4 : ((tokAt L p).k = 4) = True := eq_true a4
          rw [if_pos a4] at hk
          simp only [phV, phW, pSeq, pStep, pPath, pBin, pMinus, pRoot, pAll, pNil, ph0, mkh, mka, mkc, aD_nil, cD_nil, aD_cons, phD_1, List.map_cons, List.map_nil] at hk
          simp only [nxt] at hk
          have hkd := fun G K hk => rKind_A L hL id p hp e 4 (by decide) (H ++ G) K (ga G) hk
          rw [kindT, if_pos ⟨he, a4⟩, kindP, if_pos he, if_pos a4] at hkd
          simp only [nxt] at hkd
          simp only [grO] at *
          refine We ?_
          have c21 := ht; have c22 := hkd; have us := an q0 (an q2 (an q3 q4))
          exact W42
        · have q4 : ((tokAt L p).k = 4) = False := eq_false a4
          rw [if_neg a4] at hk
          cases hd : isN L sDot ⟨p, e⟩ with
          | true =>
            rw [hd, if_pos rfl] at hk
            rw [sDot] at hd
            have h1 := fun G K hk => rPassT_A L hL id p e [46] (by decide) hd (H ++ G) K (ga G) hk
            simp only [phV, phW, pSeq, pStep, pPath, pBin, pMinus, pRoot, pAll, pNil, ph0, mkh, mka, mkc, aD_nil, cD_nil, aD_cons, phD_1, List.map_cons, List.map_nil] at hk
            simp only [nxt] at hk
            simp only [grO] at *
            refine We ?_
            have c21 := ht; have c22 := h1; have us := an q0 (an q2 (an q3 q4))
            exact W42
          | false =>
            rw [hd, if_neg (by decide)] at hk
            rw [sDot] at hd
            have h1 := fun G K hk => rPassF_A L hL id p hp e [46] (by decide) hd (H ++ G) K (ga G) hk
            cases ho : isN L sOpen ⟨p, e⟩ with
            | true =>
              have hp1 := isN_lt ho
              simp only [] at hp1
              rw [ho, if_pos rfl] at hk
              rw [sOpen] at ho
              have h2 := fun G K hk => rPassT_A L hL id p e [40] (by decide) ho (H ++ G) K (ga G) hk
              cases hc : isN L sClose (nxt ⟨p, e⟩) with
              | true =>
                rw [hc, if_pos rfl] at hk
                simp only [nxt, sClose] at hc hk
                have h3 := fun G K hk => rPassT_A L hL id (p + 1) e [41] (by decide) hc (H.set id (grO L ⟨(p + 1), e⟩) ++ G) K (gsa _ _) hk
                simp only [phV, phW, pSeq, pStep, pPath, pBin, pMinus, pRoot, pAll, pNil, ph0, mkh, mka, mkc, aD_nil, cD_nil, aD_cons, phD_1, List.map_cons, List.map_nil] at hk
                simp only [grO] at *
                refine We ?_
                have c21 := ht; have c22 := h1; have c23 := h2; have c24 := h3; have us := an q0 (an q2 (an q3 q4))
                exact W42
              | false =>
                rw [hc, if_neg (by decide)] at hk
                simp only [nxt, sClose] at hc hk
                have h3 := fun G K hk => rPassF_A L hL id (p + 1) hp1 e [41] (by decide) hc (H.set id (grO L ⟨(p + 1), e⟩) ++ G) K (gsa _ _) hk
                have hl := fun G K hk => hs (p + 1) e (H.set id (grO L ⟨(p + 1), e⟩) ++ G) K hp1 (fun _ => trivial) (gsa _ _) hk
                obtain ⟨y, p4, e4, hy, hp4⟩ := fR_N hm hp1 (e := e)
                rw [hy] at hk hl
                have hmu := fun G K hk => rNeed_A L hL id p4 hp4 e4 [41] (by decide) (H.set id (grO L ⟨p4, e4⟩) ++ G) K (gsa _ _) hk
                simp only [sClose] at hk
                generalize mustP L [41] ⟨p4, e4⟩ = s5 at hk hmu
                simp only [phV, phW, pSeq, pStep, pPath, pBin, pMinus, pRoot, pAll, pNil, ph0, mkh, mka, mkc, aD_nil, cD_nil, aD_cons, phD_1, List.map_cons, List.map_nil] at hk
                simp only [grO] at *
                refine We ?_
                have c21 := ht; have c22 := h1; have c23 := h2; have c24 := h3; have c25 := hl; have c26 := hmu; have us := an q0 (an q2 (an q3 q4))
                exact W42
            | false =>
              rw [ho, if_neg (by decide)] at hk
              rw [sOpen] at ho
              have h2 := fun G K hk => rPassF_A L hL id p hp e [40] (by decide) ho (H ++ G) K (ga G) hk
              cases hv : makesB L ⟨p, e⟩ with
              | true =>
                rw [hv, if_pos rfl] at hk
                rw [hv] at hmk
                have a1 := makes_k hv
                simp only [] at a1
                have hp1 : p + 1 ≤ L.length := tokAt_lt (by omega)
                have hnm := fun G K hk => rKind_A L hL id p hp e 1 (by decide) (H ++ G) K (ga G) hk
                rw [kindT, if_pos ⟨he, a1⟩, kindP, if_pos he, if_pos a1, nxt] at hnm
                unfold madeF at hk
                simp only [nxt] at hk hnm
                have hx0 := made_s hv
                simp only [] at hx0
                generalize (tokAt L p).s = x0 at hnm hk hx0
                by_cases a7 : x0 = sElement
                · have r1 : (x0 = [116, 101, 120, 116]) = False := eq_false (fun h => by rw [a7] at h; revert h; decide)
                  have r2 : (x0 = [101, 108, 101, 109, 101, 110, 116]) = True := eq_true a7
                  have ho : x0 = sElement ∨ x0 = sAttribute := .inl a7
                  simp only [if_pos a7, if_pos ho] at hk
                  have hn2 := fun G K hk => rKind_A L hL id (p + 1) hp1 e 1 (by decide) (H.set id (grO L ⟨(p + 1), e⟩) ++ G) K (gsa _ _) hk
                  obtain ⟨p2, e2, hkp, hp2⟩ := kP_N (L := L) (p := p + 1) (e := e) (k := 1) hp1 (by decide)
                  rw [hkp] at hk hn2
                  generalize kindT L 1 ⟨p + 1, e⟩ = nm at hk hn2
                  have hm2 := fun G K hk => rNeed_A L hL id p2 hp2 e2 [123] (by decide) (H.set id (grO L ⟨p2, e2⟩) ++ G) K (gsa _ _) hk
                  obtain ⟨p3, e3, hmp, hp3⟩ := mP_N (L := L) (p := p2) (e := e2) (s := [123]) hp2
                  rw [sOpenC, hmp] at hk
                  rw [hmp] at hm2
                  cases hc : isN L sCloseC ⟨p3, e3⟩ with
                  | true =>
                    rw [hc, if_pos rfl] at hk
                    rw [sCloseC] at hc
                    have hh := fun G K hk => rPassT_A L hL id p3 e3 [125] (by decide) hc (H.set id (grO L ⟨p3, e3⟩) ++ G) K (gsa _ _) hk
                    simp only [phV, phW, pSeq, pStep, pPath, pBin, pMinus, pRoot, pAll, pNil, ph0, mkh, mka, mkc, aD_nil, cD_nil, aD_cons, phD_1, List.map_cons, List.map_nil] at hk
                    simp only [grO] at *
                    refine We ?_
                    have c21 := ht; have c22 := h1; have c23 := h2; have c24 := hmk; have c25 := hnm; have c26 := hn2; have c27 := hm2; have c28 := hh; have us := an q0 (an q2 (an q3 (an q4 (an r1 r2))))
                    exact W42
                  | false =>
                    rw [hc, if_neg (by decide)] at hk
                    rw [sCloseC] at hc
                    have hh := fun G K hk => rPassF_A L hL id p3 hp3 e3 [125] (by decide) hc (H.set id (grO L ⟨p3, e3⟩) ++ G) K (gsa _ _) hk
                    have hl := fun G K hk => hs p3 e3 (H.set id (grO L ⟨p3, e3⟩) ++ G) K hp3 (fun _ => trivial) (gsa _ _) hk
                    obtain ⟨y, p4, e4, hy, hp4⟩ := fR_N hm hp3 (e := e3)
                    rw [hy] at hk hl
                    have hm3 := fun G K hk => rNeed_A L hL id p4 hp4 e4 [125] (by decide) (H.set id (grO L ⟨p4, e4⟩) ++ G) K (gsa _ _) hk
                    simp only [phV, phW, pSeq, pStep, pPath, pBin, pMinus, pRoot, pAll, pNil, ph0, mkh, mka, mkc, aD_nil, cD_nil, aD_cons, phD_1, List.map_cons, List.map_nil] at hk
                    rw [sCloseC] at hk
                    generalize mustP L [125] ⟨p4, e4⟩ = s5 at hk hm3
                    simp only [grO] at *
                    refine We ?_
                    have c21 := ht; have c22 := h1; have c23 := h2; have c24 := hmk; have c25 := hnm; have c26 := hn2; have c27 := hm2; have c28 := hh; have c29 := hl; have c210 := hm3; have us := an q0 (an q2 (an q3 (an q4 (an r1 r2))))
                    exact W42
                · by_cases a8 : x0 = sAttribute
                  · have r1 : (x0 = [116, 101, 120, 116]) = False := eq_false (fun h => by rw [a8] at h; revert h; decide)
                    have r2 : (x0 = [101, 108, 101, 109, 101, 110, 116]) = False := eq_false a7
                    have ho : x0 = sElement ∨ x0 = sAttribute := .inr a8
                    simp only [if_neg a7, if_pos a8, if_pos ho] at hk
                    have hn2 := fun G K hk => rKind_A L hL id (p + 1) hp1 e 1 (by decide) (H.set id (grO L ⟨(p + 1), e⟩) ++ G) K (gsa _ _) hk
                    obtain ⟨p2, e2, hkp, hp2⟩ := kP_N (L := L) (p := p + 1) (e := e) (k := 1) hp1 (by decide)
                    rw [hkp] at hk hn2
                    generalize kindT L 1 ⟨p + 1, e⟩ = nm at hk hn2
                    have hm2 := fun G K hk => rNeed_A L hL id p2 hp2 e2 [123] (by decide) (H.set id (grO L ⟨p2, e2⟩) ++ G) K (gsa _ _) hk
                    obtain ⟨p3, e3, hmp, hp3⟩ := mP_N (L := L) (p := p2) (e := e2) (s := [123]) hp2
                    rw [sOpenC, hmp] at hk
                    rw [hmp] at hm2
                    cases hc : isN L sCloseC ⟨p3, e3⟩ with
                    | true =>
                      rw [hc, if_pos rfl] at hk
                      rw [sCloseC] at hc
                      have hh := fun G K hk => rPassT_A L hL id p3 e3 [125] (by decide) hc (H.set id (grO L ⟨p3, e3⟩) ++ G) K (gsa _ _) hk
                      simp only [phV, phW, pSeq, pStep, pPath, pBin, pMinus, pRoot, pAll, pNil, ph0, mkh, mka, mkc, aD_nil, cD_nil, aD_cons, phD_1, List.map_cons, List.map_nil] at hk
                      simp only [grO] at *
                      refine We ?_
                      have c21 := ht; have c22 := h1; have c23 := h2; have c24 := hmk; have c25 := hnm; have c26 := hn2; have c27 := hm2; have c28 := hh; have us := an q0 (an q2 (an q3 (an q4 (an r1 r2))))
                      exact W42
                    | false =>
                      rw [hc, if_neg (by decide)] at hk
                      rw [sCloseC] at hc
                      have hh := fun G K hk => rPassF_A L hL id p3 hp3 e3 [125] (by decide) hc (H.set id (grO L ⟨p3, e3⟩) ++ G) K (gsa _ _) hk
                      have hl := fun G K hk => hs p3 e3 (H.set id (grO L ⟨p3, e3⟩) ++ G) K hp3 (fun _ => trivial) (gsa _ _) hk
                      obtain ⟨y, p4, e4, hy, hp4⟩ := fR_N hm hp3 (e := e3)
                      rw [hy] at hk hl
                      have hm3 := fun G K hk => rNeed_A L hL id p4 hp4 e4 [125] (by decide) (H.set id (grO L ⟨p4, e4⟩) ++ G) K (gsa _ _) hk
                      simp only [phV, phW, pSeq, pStep, pPath, pBin, pMinus, pRoot, pAll, pNil, ph0, mkh, mka, mkc, aD_nil, cD_nil, aD_cons, phD_1, List.map_cons, List.map_nil] at hk
                      rw [sCloseC] at hk
                      generalize mustP L [125] ⟨p4, e4⟩ = s5 at hk hm3
                      simp only [grO] at *
                      refine We ?_
                      have c21 := ht; have c22 := h1; have c23 := h2; have c24 := hmk; have c25 := hnm; have c26 := hn2; have c27 := hm2; have c28 := hh; have c29 := hl; have c210 := hm3; have us := an q0 (an q2 (an q3 (an q4 (an r1 r2))))
                      exact W42
                  · have a9 : x0 = sText := (hx0.resolve_left a7).resolve_left a8
                    have ho : ¬ (x0 = sElement ∨ x0 = sAttribute) := fun h => h.elim a7 a8
                    simp only [if_neg a7, if_neg a8, if_neg ho] at hk
                    have r1 : (x0 = [116, 101, 120, 116]) = True := eq_true a9
                    have hm2 := fun G K hk => rNeed_A L hL id (p + 1) hp1 e [123] (by decide) (H.set id (grO L ⟨(p + 1), e⟩) ++ G) K (gsa _ _) hk
                    obtain ⟨p3, e3, hmp, hp3⟩ := mP_N (L := L) (p := (p + 1)) (e := e) (s := [123]) hp1
                    rw [sOpenC, hmp] at hk
                    rw [hmp] at hm2
                    cases hc : isN L sCloseC ⟨p3, e3⟩ with
                    | true =>
                      rw [hc, if_pos rfl] at hk
                      rw [sCloseC] at hc
                      have hh := fun G K hk => rPassT_A L hL id p3 e3 [125] (by decide) hc (H.set id (grO L ⟨p3, e3⟩) ++ G) K (gsa _ _) hk
                      simp only [phV, phW, pSeq, pStep, pPath, pBin, pMinus, pRoot, pAll, pNil, ph0, mkh, mka, mkc, aD_nil, cD_nil, aD_cons, phD_1, List.map_cons, List.map_nil] at hk
                      simp only [grO] at *
                      refine We ?_
                      have c21 := ht; have c22 := h1; have c23 := h2; have c24 := hmk; have c25 := hnm; have c26 := hm2; have c27 := hh; have us := an q0 (an q2 (an q3 (an q4 r1)))
                      exact W42
                    | false =>
                      rw [hc, if_neg (by decide)] at hk
                      rw [sCloseC] at hc
                      have hh := fun G K hk => rPassF_A L hL id p3 hp3 e3 [125] (by decide) hc (H.set id (grO L ⟨p3, e3⟩) ++ G) K (gsa _ _) hk
                      have hl := fun G K hk => hs p3 e3 (H.set id (grO L ⟨p3, e3⟩) ++ G) K hp3 (fun _ => trivial) (gsa _ _) hk
                      obtain ⟨y, p4, e4, hy, hp4⟩ := fR_N hm hp3 (e := e3)
                      rw [hy] at hk hl
                      have hm3 := fun G K hk => rNeed_A L hL id p4 hp4 e4 [125] (by decide) (H.set id (grO L ⟨p4, e4⟩) ++ G) K (gsa _ _) hk
                      simp only [phV, phW, pSeq, pStep, pPath, pBin, pMinus, pRoot, pAll, pNil, ph0, mkh, mka, mkc, aD_nil, cD_nil, aD_cons, phD_1, List.map_cons, List.map_nil] at hk
                      rw [sCloseC] at hk
                      generalize mustP L [125] ⟨p4, e4⟩ = s5 at hk hm3
                      simp only [grO] at *
                      refine We ?_
                      have c21 := ht; have c22 := h1; have c23 := h2; have c24 := hmk; have c25 := hnm; have c26 := hm2; have c27 := hh; have c28 := hl; have c29 := hm3; have us := an q0 (an q2 (an q3 (an q4 r1)))
                      exact W42
              | false =>
                rw [hv, if_neg (by decide)] at hk
                rw [hv] at hmk
                by_cases a1 : (tokAt L p).k = 1
                · have q1 : ((tokAt L p).k = 1) = True := eq_true a1
                  rw [if_pos a1] at hk
                  have hnm := fun G K hk => rKind_A L hL id p hp e 1 (by decide) (H ++ G) K (ga G) hk
                  unfold callF at hk
                  simp only [] at hk
                  obtain ⟨p1, e1, hkp, hp1⟩ := kP_N (L := L) (p := p) (e := e) (k := 1) hp (by decide)
                  rw [hkp] at hk hnm
                  generalize kindT L 1 ⟨p, e⟩ = nm at hk hnm
                  have hmm := fun G K hk => rNeed_A L hL id p1 hp1 e1 [40] (by decide) (H.set id (grO L ⟨p1, e1⟩) ++ G) K (gsa _ _) hk
                  obtain ⟨p2, e2, hmp, hp2⟩ := mP_N (L := L) (p := p1) (e := e1) (s := [40]) hp1
                  rw [sOpen, hmp] at hk
                  rw [hmp] at hmm
                  cases hc : isN L sClose ⟨p2, e2⟩ with
                  | true =>
                    rw [hc, if_pos rfl] at hk
                    rw [sClose] at hc
                    have hh := fun G K hk => rPassT_A L hL id p2 e2 [41] (by decide) hc (H.set id (grO L ⟨p2, e2⟩) ++ G) K (gsa _ _) hk
                    simp only [phV, phW, pSeq, pStep, pPath, pBin, pMinus, pRoot, pAll, pNil, ph0, mkh, mka, mkc, aD_nil, cD_nil, aD_cons, phD_1, List.map_cons, List.map_nil] at hk
                    simp only [nxt] at hk
                    simp only [grO] at *
                    refine We ?_
                    have c21 := ht; have c22 := h1; have c23 := h2; have c24 := hmk; have c25 := hnm; have c26 := hmm; have c27 := hh; have us := an q0 (an q2 (an q3 (an q4 q1)))
                    exact W42
                  | false =>
                    rw [hc, if_neg (by decide)] at hk
                    rw [sClose] at hc
                    have hh := fun G K hk => rPassF_A L hL id p2 hp2 e2 [41] (by decide) hc (H.set id (grO L ⟨p2, e2⟩) ++ G) K (gsa _ _) hk
                    have hl := fun G K hk => hs2 p2 e2 (H.set id (grO L ⟨p2, e2⟩) ++ G) K hp2 (fun _ => trivial) (gsa _ _) hk
                    obtain ⟨x, p3, e3, hy, hp3⟩ := fR_N hm2 hp2 (e := e2)
                    rw [hy] at hk hl
                    simp only [sComma] at hk
                    simp only [grO] at *
                    refine We ?_
                    have c21 := ht; have c22 := h1; have c23 := h2; have c24 := hmk; have c25 := hnm; have c26 := hmm; have c27 := hh; have c28 := hl; have us := an q0 (an q2 (an q3 (an q4 q1)))
                    (repeat' (first | with_reducible (first | refine And.intro ?_ ?_ | intro _ | (refine hKv _ _ (AWp_nop ?_); clear hKv Kv) | (refine hKA ?_; clear hKA hKB KA KB) | (refine hKB ?_; clear hKA hKB KA KB) | refine Wp ?_ | fail) | ((first | with_reducible (first | (refine hKv _ _ ?_; clear hKv Kv) | (refine Wr ?_; intro Kv hKv) | refine AWp_retR ?_ | fail) | refine Wc ?_ | fail); try simp (dsimp := false) only [go_sem, Nat.reduceAdd, Nat.reduceBEq, Nat.reduceEqDiff, Nat.reduceLT, Nat.reduceLeDiff, Nat.reduceMul, Int.reduceToNat, reduceCtorEq, ↓reduceIte, us, Bool.false_and, Bool.true_and, Int.reduceEq, Int.reduceLE, Int.reduceLT, Int.reduceNeg, List.length_set, List.map_cons, List.map_nil, ga, gl0, glk, grO, gs, gsa, hid, not_false_eq_true, not_true_eq_false, pC1, phD_1, phV, phW, sa, sl0, slk, ss, ssa, tkV]) | (refine AWp_condC rfl ?_; intro KA KB hKA hKB; try simp only [onB_true, onB_false, onB_dec, onB_ndec, onB_not, onB_and, onB_or]) | (refine AWp_condA rfl ?_ ?_) | with_reducible (first | refine onB_of ?_ ?_ | rfl) | omega))
                    all_goals first
                      | omega
                      | skip
                    have hq0 : GlOk L [44] al (moreP L [44] al (L.length + 1) [x] ⟨p3, e3⟩) ⟨[x], p3, e3, 0⟩ := ⟨⟨L.length + 1, by simp only []; omega, rfl⟩, hp3, by simp, by simp⟩
                    generalize moreP L [44] al (L.length + 1) [x] ⟨p3, e3⟩ = q at hq0 hk
                    refine AWp_whileG (GlOk L [44] al q) (fun y => [(0, .pt id 0 0 0), (1, .d (.i .i64 (n : Int))), (4, .pt H.length 0 0 0), (11, .pt (H.length + 1) 0 0 0)])
                      (fun y => H.set id (grO L ⟨y.p, y.e⟩) ++ [.row 0 30 11 [[.d (.i .i64 0), .d (.i .i64 0), .d (.i .i64 0), .d (.s []), .d (.s []), .d (.i .i64 0), .d (.i .i64 0), .d (.i .i64 0), .d (.s []), .d (.c (.slice none 0 0)), .d (.c (.slice none 0 0))]], .row 0 30 11 [[.d (.i .i64 8), .d (.i .i64 0), .d (.i .i64 0), .d (.s []), .d (.s nm), .d (.i .i64 0), .d (.i .i64 0), .d (.i .i64 0), .d (.s []), .os (H.length + 3) y.v, .d (.c (.slice none 0 0))]], .row 0 30 11 [phC x], .row y.v 30 11 (y.l.map phC)])
                      (fun y => L.length - y.p) ⟨[x], p3, e3, 0⟩ hq0 ⟨[], ?_⟩ ?_ ?_ ?_ ?_
                    · simp [grO, phC_1]
                    · simp (dsimp := false) only [go_sem, Nat.reduceAdd, Nat.reduceBEq, Nat.reduceEqDiff, Nat.reduceLT, Nat.reduceLeDiff, Nat.reduceMul, Int.reduceToNat, reduceCtorEq, ↓reduceIte, not_true_eq_false, not_false_eq_true, Bool.true_and, Bool.false_and, Int.reduceEq, Int.reduceLT, Int.reduceLE, Int.reduceNeg, List.map_cons, List.map_nil, List.length_set, hid, ga, sa, gs, ss, gsa, ssa, gl0, glk, sl0, slk, phV, phW, phD_1, tkV, grO, q0, q2, q3, q4, pC1, q1]
                      simp
                      try omega
                    · intro y hy; simp
                    · intro y hy
                      refine closed_sa hid (gr_bel _ _ _ _) ?_
                      simp only [List.forall_mem_cons, List.length_cons, List.length_nil]
                      refine ⟨oB1 (by simp [Bel_d]), oB1 (by simp [Bel_d, Bel_os]), oB1 (by simp [phC_1, Bel_d]), oBp _, by simp⟩
                    rintro ⟨l, p8, e8, v⟩ hy
                    have hp8 := hy.p
                    have hl8 := hy.l
                    simp only [] at hp8 hl8 ⊢
                    cases hc8 : isN L [44] ⟨p8, e8⟩ with
                    | false =>
                      have hh8 := fun G K hk => rPassF_A L hL id p8 hp8 e8 [44] (by decide) hc8 (H.set id (grO L ⟨p8, e8⟩) ++ G) K (gsa _ _) hk
                      have hm8 := fun G K hk => rNeed_A L hL id p8 hp8 e8 [41] (by decide) (H.set id (grO L ⟨p8, e8⟩) ++ G) K (gsa _ _) hk
                      rw [hy.stop hc8] at hk
                      simp only [phV, phW, ph0, mkh, mka, mkc, aD_ne hy.ne, cD_nil, sClose] at hk
                      generalize mustP L [41] ⟨p8, e8⟩ = s5 at hk hm8
                      simp only [grO] at *
                      have c21 := hh8; have c22 := hm8; have us := an q0 (an q2 (an q3 (an q4 q1)))
                      exact W49
                    | true =>
                      have hh8 := fun G K hk => rPassT_A L hL id p8 e8 [44] (by decide) hc8 (H.set id (grO L ⟨p8, e8⟩) ++ G) K (gsa _ _) hk
                      have hlt := isN_lt hc8
                      simp only [] at hlt
                      obtain ⟨x9, p9, e9, h9, hp9⟩ := fR_N hm2 (Nat.succ_le_of_lt hlt) (e := e8)
                      have hs8 := fun G K hk => hs2 (p8 + 1) e8 (H.set id (grO L ⟨(p8 + 1), e8⟩) ++ G) K hlt (fun _ => trivial) (gsa _ _) hk
                      rw [h9] at hs8
                      have hst := fun v => hy.step hm2 hc8 h9 v
                      simp only [] at hst
                      simp only [grO] at *
                      have c21 := hh8; have c22 := hs8; have us := an q0 (an q2 (an q3 (an q4 q1)))
                      (repeat' (first | with_reducible (first | refine And.intro ?_ ?_ | intro _ | (refine hKv _ _ (AWp_nop ?_); clear hKv Kv) | (refine hKA ?_; clear hKA hKB KA KB) | (refine hKB ?_; clear hKA hKB KA KB) | refine Wp ?_ | fail) | ((first | with_reducible (first | (refine hKv _ _ ?_; clear hKv Kv) | (refine Wr ?_; intro Kv hKv) | refine AWp_retR ?_ | fail) | refine Wc ?_ | fail); try simp (dsimp := false) only [go_sem, Nat.reduceAdd, Nat.reduceBEq, Nat.reduceEqDiff, Nat.reduceLT, Nat.reduceLeDiff, Nat.reduceMul, Int.reduceToNat, reduceCtorEq, ↓reduceIte, us, Bool.false_and, Bool.true_and, Int.reduceEq, Int.reduceLE, Int.reduceLT, Int.reduceNeg, List.length_set, List.map_cons, List.map_nil, ga, gl0, glk, grO, gs, gsa, hid, not_false_eq_true, not_true_eq_false, pC1, phD_1, phV, phW, sa, sl0, slk, ss, ssa, tkV]) | (refine AWp_condC rfl ?_; intro KA KB hKA hKB; try simp only [onB_true, onB_false, onB_dec, onB_ndec, onB_not, onB_and, onB_or]) | (refine AWp_condA rfl ?_ ?_) | with_reducible (first | refine onB_of ?_ ?_ | rfl) | omega))
                      all_goals first
                        | omega
                        | skip
                      have h5 := (hst (v + 1)).2
                      try simp only [] at h5 hlt
                      refine ⟨⟨l ++ [x9], p9, e9, v + 1⟩, _, (hst (v + 1)).1, by simp only []; omega, by simp [phC_1]; rfl, ?_⟩
                      try (simp (dsimp := false) only [go_sem, Nat.reduceAdd, Nat.reduceBEq, Nat.reduceEqDiff, Nat.reduceLT, Nat.reduceLeDiff, Nat.reduceMul, Int.reduceToNat, reduceCtorEq, ↓reduceIte, not_true_eq_false, not_false_eq_true, Bool.true_and, Bool.false_and, Int.reduceEq, Int.reduceLT, Int.reduceLE, Int.reduceNeg, List.map_cons, List.map_nil, List.length_set, hid, ga, sa, gs, ss, gsa, ssa, gl0, glk, sl0, slk, phV, phW, phD_1, tkV, grO, q0, q2, q3, q4, pC1, q1])
                      all_goals try simp
                      all_goals try omega
                · have q1 : ((tokAt L p).k = 1) = False := eq_false a1
                  rw [if_neg a1] at hk
                  have hsk := fun G K hk => rOdd_A L hL id ⟨p, e⟩ hp (H ++ G) K (ga G) hk
                  simp only [phV, phW, pSeq, pStep, pPath, pBin, pMinus, pRoot, pAll, pNil, ph0, mkh, mka, mkc, aD_nil, cD_nil, aD_cons, phD_1, List.map_cons, List.map_nil] at hk
                  generalize stuckP L ⟨p, e⟩ = s5 at hk hsk
                  simp only [grO] at *
                  refine We ?_
                  have c21 := ht; have c22 := h1; have c23 := h2; have c24 := hmk; have c25 := hsk; have us := an q0 (an q2 (an q3 (an q4 q1)))
                  exact W42
  · have q0 : (e = 0) = False := eq_false he
    rw [if_pos he] at hk
    have r0 : pkT L p e = [] := by unfold pkT; rw [if_neg (fun h => he h.1)]
    have r1 : pkK L p e = 0 := by unfold pkK; rw [if_neg he]
    rw [r0, r1] at ht
    rw [decide_eq_false he, Bool.false_and] at hmk
    have h1 := fun G K hk => rPassF_A L hL id p hp e [46] (by decide) (isN_F he) (H ++ G) K (ga G) hk
    have h2 := fun G K hk => rPassF_A L hL id p hp e [40] (by decide) (isN_F he) (H ++ G) K (ga G) hk
    have hsk := fun G K hk => rOdd_A L hL id ⟨p, e⟩ hp (H ++ G) K (ga G) hk
    have hst : stuckP L ⟨p, e⟩ = ⟨p, e⟩ := by rw [stuckP, wrongP, if_neg he]
    rw [hst] at hsk
    simp only [phV, phW, pSeq, pStep, pPath, pBin, pMinus, pRoot, pAll, pNil, ph0, mkh, mka, mkc, aD_nil, cD_nil, aD_cons, phD_1, List.map_cons, List.map_nil] at hk
    simp only [grO] at *
    refine We ?_
    have c21 := ht; have c22 := h1; have c23 := h2; have c24 := hmk; have c25 := hsk; have us := q0
    exact W42
end Go.Proofs.YtmhabdopcbokoaaDoor.Gq
