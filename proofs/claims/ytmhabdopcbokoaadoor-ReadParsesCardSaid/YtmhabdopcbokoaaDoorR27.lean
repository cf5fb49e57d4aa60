/- The parser of queries: tests of nodes, paths of two. No condition but that the tables of package unicode/utf8 are there. -/
import Derived.Test.YtmhabdopcbokoaaDoorR18
import Derived.Test.YtmhabdopcbokoaaDoorR26
set_option linter.all false
set_option linter.unusedSimpArgs false
set_option linter.unusedVariables false
namespace Go.Proofs.YtmhabdopcbokoaaDoor.Gq
open Go Go.Proofs.YtmhabdopcbokoaaDoor.Ab
variable [Glo]
set_option maxHeartbeats 4000000
set_option maxRecDepth 20000
theorem txtAt_lt (l : List Bs) (s : Bs) : -1 ≤ txtAt l s ∧ txtAt l s < l.length := fidx_lt _ _
theorem kP_N {L : List Tk} {p : Nat} {e : Int} {k : Int} (hp : p ≤ L.length) (hk : k ≠ 0) : ∃ p' e', kindP L k ⟨p, e⟩ = ⟨p', e'⟩ ∧ p' ≤ L.length := ⟨_, _, rfl, (Le_kind hk hp).hi⟩
namespace FN67
def tks : Nat → List Nat | 0 => [0] | 1 => [0] | _ => []
def tmu : List Nat := []
def tin : List Nat := []
abbrev tfn := @Tryd.func67
end FN67
attribute [go_sem] FN67.tks FN67.tmu FN67.tin Tryd.ntmps67 Tryd.results67
open FN67 in
theorem gAll_A (H : Heap) (K : V → Heap → Prop) (hk : K (phV pAll) H) : ACalls Tryd.prog 67 [] H K := by
  simp only [phV, phW, pSeq, pStep, pPath, pBin, pMinus, pRoot, pAll, pNil, ph0, mkh, mka, mkc, aD_nil, cD_nil, aD_cons] at hk
  refine We ?_
  have us := eq_self (0 : Nat)
  exact W20
namespace FN66
def tks : Nat → List Nat | 0 => [2, 3, 4] | 1 => [4] | _ => []
def tmu : List Nat := []
def tin : List Nat := [0, 1]
abbrev tfn := @Tryd.func66
end FN66
attribute [go_sem] FN66.tks FN66.tmu FN66.tin Tryd.ntmps66 Tryd.results66
open FN66 in
theorem gJoined_A (a b : Ph) (H : Heap) (K : V → Heap → Prop) (hk : K (phV (pPath a b)) H) : ACalls Tryd.prog 66 [phV a, phV b] H K := by
  simp only [phV, phW]
  simp only [phV, phW, pSeq, pStep, pPath, pBin, pMinus, pRoot, pAll, pNil, ph0, mkh, mka, mkc, aD_nil, cD_nil, aD_cons, phD_1, List.map_cons, List.map_nil] at hk
  refine We ?_
  have us := eq_self (0 : Nat)
  exact W20
namespace FN74
def tks : Nat → List Nat | 0 => [0, 1, 4] | 1 => [0, 4, 5] | 2 => [0, 4, 5, 12] | 3 => [4] | 4 => [0, 4, 5, 6] | 5 => [0, 4, 5, 6] | 6 => [0, 4, 5, 7] | 7 => [0, 4, 5, 7, 27] | 8 => [4, 5, 7] | 9 => [4, 5] | 10 => [4] | _ => []
def tmu : List Nat := []
def tin : List Nat := [0, 1]
abbrev tfn := @Tryd.func74
end FN74
attribute [go_sem] FN74.tks FN74.tmu FN74.tin Tryd.ntmps74 Tryd.results74
open FN74 in
theorem gTest_A (L : List Tk) (hL : L.length ≤ 200) (ax : Int) (n id : Nat) (p : Nat) (e : Int) (H : Heap) (K : V → Heap → Prop) (hp : p ≤ L.length) (hr : H[id]? = some (gpO L (n : Int) ⟨p, e⟩)) (hk : K (phV (testF L ax ⟨p, e⟩).1) (H.set id (gpO L (n : Int) (testF L ax ⟨p, e⟩).2))) :
    ACalls Tryd.prog 74 [.pt id 0 0 0, .d (.i .i64 ax)] H K := by
  have hid := lt_of_get hr
  obtain ⟨ga, sa, gs, ss, gsa, ssa, gl0, glk, sl0, slk⟩ := atH hr
  rw [testF] at hk
  cases hc : isN L sStar ⟨p, e⟩ with
  | true =>
    rw [hc, if_pos rfl] at hk
    rw [sStar] at hc
    have hh := fun G K hk => gHasT_A L hL id (n : Int) p e [42] hc (H ++ G) K (ga G) hk
    simp only [phV, phW, pSeq, pStep, pPath, pBin, pMinus, pRoot, pAll, pNil, ph0, mkh, mka, mkc, aD_nil, cD_nil, aD_cons] at hk
    simp only [nxt] at hk
    simp only [gpO] at *
    refine We ?_
    have c21 := hh; have us := eq_self (0 : Nat)
    exact W21
  | false =>
    rw [hc, if_neg (by decide)] at hk
    rw [sStar] at hc
    have hh := fun G K hk => gHasF_A L hL id (n : Int) p hp e [42] hc (H ++ G) K (ga G) hk
    have hnm := fun G K hk => gName_A L hL id (n : Int) p hp e (H ++ G) K (ga G) hk
    obtain ⟨p1, e1, hkp, hp1⟩ := kP_N (L := L) (e := e) (k := 1) hp (by decide)
    rw [hkp] at hk hnm
    simp only [] at hk
    generalize kindT L 1 ⟨p, e⟩ = s at hk hnm
    have hix := txtAt_lt kindsL s
    have hx := fun G K hk => index_A kindsL s (by decide) G K hk
    simp only [kindsL, List.map_cons, List.map_nil, strRow, sNode, sText, sComment, List.length_cons, List.length_nil] at hx hix
    by_cases hi : idx1 kindsL s ≠ 0
    · have h0 : ((0 : Int) ≤ txtAt kindsL s) = True := eq_true (by unfold idx1 at hi; simp only [kindsL, sNode, sText, sComment] at hi ⊢; omega)
      simp only [kindsL, sNode, sText, sComment] at h0
      cases hc1 : isN L sOpen ⟨p1, e1⟩ with
      | true =>
        rw [hc1, if_pos ⟨hi, rfl⟩] at hk
        rw [sOpen] at hc1
        have hh1 := fun G K hk => gHasT_A L hL id (n : Int) p1 e1 [40] hc1 (H.set id (gpO L (n : Int) ⟨p1, e1⟩) ++ G) K (gsa _ _) hk
        have hlt := isN_lt hc1
        simp only [] at hlt
        have hmu := fun G K hk => gMust_A L hL id (n : Int) (p1 + 1) hlt e1 [41] (H.set id (gpO L (n : Int) ⟨(p1 + 1), e1⟩) ++ G) K (gsa _ _) hk
        simp only [phV, phW, pSeq, pStep, pPath, pBin, pMinus, pRoot, pAll, pNil, ph0, mkh, mka, mkc, aD_nil, cD_nil, aD_cons] at hk
        simp only [nxt, sClose, idx1, kindsL, sNode, sText, sComment] at hk
        generalize mustP L [41] ⟨p1 + 1, e1⟩ = s2 at hk hmu
        simp only [gpO] at *
        refine We ?_
        have c21 := hh; have c22 := hnm; have c23 := hx; have c24 := hh1; have c25 := hmu; have us := h0
        exact W21
      | false =>
        rw [hc1, if_neg (by rintro ⟨_, h⟩; cases h)] at hk
        rw [sOpen] at hc1
        have hh1 := fun G K hk => gHasF_A L hL id (n : Int) p1 hp1 e1 [40] hc1 (H.set id (gpO L (n : Int) ⟨p1, e1⟩) ++ G) K (gsa _ _) hk
        simp only [phV, phW, pSeq, pStep, pPath, pBin, pMinus, pRoot, pAll, pNil, ph0, mkh, mka, mkc, aD_nil, cD_nil, aD_cons] at hk
        simp only [gpO] at *
        refine We ?_
        have c21 := hh; have c22 := hnm; have c23 := hx; have c24 := hh1; have us := h0
        exact W21
    · have h0 : ((0 : Int) ≤ txtAt kindsL s) = False := eq_false (by unfold idx1 at hi; simp only [kindsL, sNode, sText, sComment] at hi ⊢; omega)
      simp only [kindsL, sNode, sText, sComment] at h0
      rw [if_neg (fun h => hi h.1)] at hk
      simp only [phV, phW, pSeq, pStep, pPath, pBin, pMinus, pRoot, pAll, pNil, ph0, mkh, mka, mkc, aD_nil, cD_nil, aD_cons] at hk
      simp only [gpO] at *
      refine We ?_
      have c21 := hh; have c22 := hnm; have c23 := hx; have us := h0
      exact W21
end Go.Proofs.YtmhabdopcbokoaaDoor.Gq
namespace Go.Proofs.YtmhabdopcbokoaaDoor.Gq
open Go Go.Proofs.YtmhabdopcbokoaaDoor.Ab
variable [Glo]
set_option maxHeartbeats 4000000
set_option maxRecDepth 20000
def axesRow : List D := ([] :: axesL).map D.s
def binRow : List D := [.sl 1 ((opsL 0).map strRow), .sl 1 ((opsL 1).map strRow), .sl 1 ((opsL 2).map strRow), .sl 1 ((opsL 3).map strRow), .sl 1 ((opsL 4).map strRow), .sl 1 ((opsL 5).map strRow), .sl 1 ((opsL 6).map strRow), .sl 1 ((opsL 7).map strRow)]
class Gx [Glo] : Prop where
  ax : glob 5 = some axesRow
  bi : glob 4 = some binRow
variable [Gx]
structure TkG (t : Tk) : Prop where
  n : t.k ≠ 2 → t.n = 0
  w : t.k = 1 → t.s ∉ [[40], [41], [58, 58], [123]]
def TksG (L : List Tk) : Prop := ∀ t, t ∈ L → TkG t
theorem TksG.at {L : List Tk} (h : TksG L) (i : Nat) : TkG (tokAt L i) := by
  by_cases hi : i < L.length
  · exact h _ (List.mem_of_getElem? (tokAt_get hi))
  · rw [tokAt_nil hi]
    exact ⟨fun _ => rfl, fun h => by cases h⟩
theorem mkAt_T {L : List Tk} {i : Nat} {s : Bs} (h : mkAt L i s = true) : (tokAt L i).k = 5 ∧ (tokAt L i).s = s := by
  unfold mkAt at h
  simpa only [Bool.and_eq_true, decide_eq_true_eq] using h
theorem mkAt_F {L : List Tk} {i : Nat} {s : Bs} (h : mkAt L i s = false) (hk : (tokAt L i).k = 5) : (tokAt L i).s ≠ s := by
  intro hs
  unfold mkAt at h
  rw [decide_eq_true hk, decide_eq_true hs] at h
  cases h
theorem tok_eq {L : List Tk} (hT : TksG L) (i : Nat) (s : Bs) : (decide ((tokAt L i).k = 5) && (decide ((tokAt L i).s = s) && decide ((tokAt L i).n = 0))) = mkAt L i s := by
  unfold mkAt
  by_cases h : (tokAt L i).k = 5
  · rw [decide_eq_true ((hT.at i).n (by omega)), Bool.and_true]
  · rw [decide_eq_false h, Bool.false_and, Bool.false_and]
namespace FN73
def tks : Nat → List Nat | 0 => [0] | 1 => [0, 3] | 2 => [0, 3, 15] | 3 => [2] | 4 => [0, 4] | 5 => [0, 4, 22] | 6 => [4] | 7 => [2] | _ => []
def tmu : List Nat := []
def tin : List Nat := [0]
def tnd : Nat → Nat | 4 => 5 | _ => 0
abbrev tfn := @Tryd.func73
end FN73
attribute [go_sem] FN73.tks FN73.tmu FN73.tin FN73.tnd Tryd.ntmps73 Tryd.results73
open FN73 in
theorem gAxis0_A (L : List Tk) (hL : L.length ≤ 200) (hT : TksG L) (n id : Nat) (p : Nat) (e : Int) (H : Heap) (K : V → Heap → Prop) (hp : p ≤ L.length) (hr : H[id]? = some (gpO L (n : Int) ⟨p, e⟩)) (hk0 : (tokAt L p).k ≠ 1) (hk : K (.d (.i .i64 0)) H) : ACalls Tryd.prog 73 [.pt id 0 0 0] H K := by
  have hid := lt_of_get hr
  obtain ⟨ga, sa, gs, ss, gsa, ssa, gl0, glk, sl0, slk⟩ := atH hr
  have ht0 := fun K hk => gToken_A L hL id (n : Int) ⟨p, e⟩ hp 0 (by omega) H K hr hk
  have ht1 := fun G K hk => gToken_A L hL id (n : Int) ⟨p, e⟩ hp 1 (by omega) (H ++ G) K (ga G) hk
  rw [Nat.add_zero] at ht0
  have hax : glob 5 = some axesRow := Gx.ax
  have hal : axesRow.length = 13 := rfl
  have hl2 : (axesRow.drop 1).map (fun x => [x]) = axesL.map strRow := rfl
  have hix := txtAt_lt axesL (tokAt L p).s
  have hal2 : axesL.length = 12 := rfl
  have hx := fun G K hk => index_A axesL (tokAt L p).s (by decide) G K hk
  have hw := fun G K hk => gWrong_A L id (n : Int) ⟨p, e⟩ 6 (H ++ G) K (ga G) hk
  have hn1 := (hT.at (p + 1)).n
  simp only [tkV] at *
  generalize tokAt L (p + 1) = t1 at *
  generalize tokAt L p = t0 at *
  obtain ⟨k0, x0, n0⟩ := t0
  obtain ⟨k1, x1, n1⟩ := t1
  simp only [] at *
  have q0 : (k0 = 1) = False := eq_false hk0
  simp only [gpO] at *
  refine We ?_
  have c11 := ht0; have c21 := ht1; have us := an hax (an hal (an hl2 q0))
  exact W22
open FN73 in
theorem gAxis1_A (L : List Tk) (hL : L.length ≤ 200) (hT : TksG L) (n id : Nat) (p : Nat) (e : Int) (H : Heap) (K : V → Heap → Prop) (hp : p ≤ L.length) (hr : H[id]? = some (gpO L (n : Int) ⟨p, e⟩)) (hk0 : (tokAt L p).k = 1) (hm : mkAt L (p + 1) sColon2 = false) (hk : K (.d (.i .i64 0)) H) : ACalls Tryd.prog 73 [.pt id 0 0 0] H K := by
  have hid := lt_of_get hr
  obtain ⟨ga, sa, gs, ss, gsa, ssa, gl0, glk, sl0, slk⟩ := atH hr
  have ht0 := fun K hk => gToken_A L hL id (n : Int) ⟨p, e⟩ hp 0 (by omega) H K hr hk
  have ht1 := fun G K hk => gToken_A L hL id (n : Int) ⟨p, e⟩ hp 1 (by omega) (H ++ G) K (ga G) hk
  rw [Nat.add_zero] at ht0
  have hax : glob 5 = some axesRow := Gx.ax
  have hal : axesRow.length = 13 := rfl
  have hl2 : (axesRow.drop 1).map (fun x => [x]) = axesL.map strRow := rfl
  have hix := txtAt_lt axesL (tokAt L p).s
  have hal2 : axesL.length = 12 := rfl
  have hx := fun G K hk => index_A axesL (tokAt L p).s (by decide) G K hk
  have hw := fun G K hk => gWrong_A L id (n : Int) ⟨p, e⟩ 6 (H ++ G) K (ga G) hk
  have hn1 := (hT.at (p + 1)).n
  simp only [tkV] at *
  have hm := mkAt_F hm
  rw [sColon2] at hm
  generalize tokAt L (p + 1) = t1 at *
  generalize tokAt L p = t0 at *
  obtain ⟨k0, x0, n0⟩ := t0
  obtain ⟨k1, x1, n1⟩ := t1
  simp only [] at *
  have q0 : (k0 = 1) = True := eq_true hk0
  by_cases h1 : k1 = 5
  · have q1 : (k1 = 5) = True := eq_true h1
    have q3 : (n1 = 0) = True := eq_true (hn1 (by omega))
    have q2 : (x1 = [58, 58]) = False := eq_false (hm h1)
    simp only [gpO] at *
    refine We ?_
    have c11 := ht0; have c21 := ht1; have us := an hax (an hal (an hl2 (an q0 (an q1 (an q2 q3)))))
    exact W22
  · have q1 : (k1 = 5) = False := eq_false h1
    simp only [gpO] at *
    refine We ?_
    have c11 := ht0; have c21 := ht1; have us := an hax (an hal (an hl2 (an q0 q1)))
    exact W22
open FN73 in
theorem gAxisN_A (L : List Tk) (hL : L.length ≤ 200) (hT : TksG L) (n id : Nat) (p : Nat) (e : Int) (H : Heap) (K : V → Heap → Prop) (hp : p ≤ L.length) (hr : H[id]? = some (gpO L (n : Int) ⟨p, e⟩)) (hk0 : (tokAt L p).k = 1) (hm : mkAt L (p + 1) sColon2 = true) (hi : idx1 axesL (tokAt L p).s ≠ 0) (hk : K (.d (.i .i64 (idx1 axesL (tokAt L p).s))) H) : ACalls Tryd.prog 73 [.pt id 0 0 0] H K := by
  have hid := lt_of_get hr
  obtain ⟨ga, sa, gs, ss, gsa, ssa, gl0, glk, sl0, slk⟩ := atH hr
  have ht0 := fun K hk => gToken_A L hL id (n : Int) ⟨p, e⟩ hp 0 (by omega) H K hr hk
  have ht1 := fun G K hk => gToken_A L hL id (n : Int) ⟨p, e⟩ hp 1 (by omega) (H ++ G) K (ga G) hk
  rw [Nat.add_zero] at ht0
  have hax : glob 5 = some axesRow := Gx.ax
  have hal : axesRow.length = 13 := rfl
  have hl2 : (axesRow.drop 1).map (fun x => [x]) = axesL.map strRow := rfl
  have hix := txtAt_lt axesL (tokAt L p).s
  have hal2 : axesL.length = 12 := rfl
  have hx := fun G K hk => index_A axesL (tokAt L p).s (by decide) G K hk
  have hw := fun G K hk => gWrong_A L id (n : Int) ⟨p, e⟩ 6 (H ++ G) K (ga G) hk
  have hn1 := (hT.at (p + 1)).n
  simp only [tkV] at *
  have hm := mkAt_T hm
  rw [sColon2] at hm
  rw [idx1] at hi hk
  generalize tokAt L (p + 1) = t1 at *
  generalize tokAt L p = t0 at *
  obtain ⟨k0, x0, n0⟩ := t0
  obtain ⟨k1, x1, n1⟩ := t1
  simp only [] at *
  have q0 : (k0 = 1) = True := eq_true hk0
  have q1 : (k1 = 5) = True := eq_true hm.1
  have q2 : (x1 = [58, 58]) = True := eq_true hm.2
  have q3 : (n1 = 0) = True := eq_true (hn1 (by omega))
  generalize txtAt axesL x0 = i at *
  have q4 : (i + 1 = 0) = False := eq_false (by omega)
  rw [Int.add_comm] at hk
  simp only [gpO] at *
  refine We ?_
  have c11 := ht0; have c21 := ht1; have c22 := hx; have us := an hax (an hal (an hl2 (an q0 (an q1 (an q2 (an q3 q4))))))
  exact W22
open FN73 in
theorem gAxisF_A (L : List Tk) (hL : L.length ≤ 200) (hT : TksG L) (n id : Nat) (p : Nat) (e : Int) (H : Heap) (K : V → Heap → Prop) (hp : p ≤ L.length) (hr : H[id]? = some (gpO L (n : Int) ⟨p, e⟩)) (hk0 : (tokAt L p).k = 1) (hm : mkAt L (p + 1) sColon2 = true) (hi : idx1 axesL (tokAt L p).s = 0) (hk : K (.d (.i .i64 0)) (H.set id (gpO L (n : Int) (wrongP 6 ⟨p, e⟩)))) : ACalls Tryd.prog 73 [.pt id 0 0 0] H K := by
  have hid := lt_of_get hr
  obtain ⟨ga, sa, gs, ss, gsa, ssa, gl0, glk, sl0, slk⟩ := atH hr
  have ht0 := fun K hk => gToken_A L hL id (n : Int) ⟨p, e⟩ hp 0 (by omega) H K hr hk
  have ht1 := fun G K hk => gToken_A L hL id (n : Int) ⟨p, e⟩ hp 1 (by omega) (H ++ G) K (ga G) hk
  rw [Nat.add_zero] at ht0
  have hax : glob 5 = some axesRow := Gx.ax
  have hal : axesRow.length = 13 := rfl
  have hl2 : (axesRow.drop 1).map (fun x => [x]) = axesL.map strRow := rfl
  have hix := txtAt_lt axesL (tokAt L p).s
  have hal2 : axesL.length = 12 := rfl
  have hx := fun G K hk => index_A axesL (tokAt L p).s (by decide) G K hk
  have hw := fun G K hk => gWrong_A L id (n : Int) ⟨p, e⟩ 6 (H ++ G) K (ga G) hk
  have hn1 := (hT.at (p + 1)).n
  simp only [tkV] at *
  have hm := mkAt_T hm
  rw [sColon2] at hm
  rw [idx1] at hi
  generalize tokAt L (p + 1) = t1 at *
  generalize tokAt L p = t0 at *
  obtain ⟨k0, x0, n0⟩ := t0
  obtain ⟨k1, x1, n1⟩ := t1
  simp only [] at *
  have q0 : (k0 = 1) = True := eq_true hk0
  have q1 : (k1 = 5) = True := eq_true hm.1
  have q2 : (x1 = [58, 58]) = True := eq_true hm.2
  have q3 : (n1 = 0) = True := eq_true (hn1 (by omega))
  generalize txtAt axesL x0 = i at *
  have hi0 : i + 1 = 0 := by omega
  have q4 : (i + 1 = 0) = True := eq_true hi0
  rw [← hi0] at hk
  simp only [gpO] at *
  refine We ?_
  have c11 := ht0; have c21 := ht1; have c22 := hx; have c23 := hw; have us := an hax (an hal (an hl2 (an q0 (an q1 (an q2 (an q3 q4))))))
  exact W22
end Go.Proofs.YtmhabdopcbokoaaDoor.Gq
namespace Go.Proofs.YtmhabdopcbokoaaDoor.Gq
open Go Go.Proofs.YtmhabdopcbokoaaDoor.Ab
variable [Glo] [Gx]
set_option maxHeartbeats 4000000
set_option maxRecDepth 20000
namespace FN69
def tks : Nat → List Nat | 0 => [0] | 1 => [3] | 2 => [2] | _ => []
def tmu : List Nat := []
def tin : List Nat := [0]
abbrev tfn := @Tryd.func69
end FN69
attribute [go_sem] FN69.tks FN69.tmu FN69.tin Tryd.ntmps69 Tryd.results69
open FN69 in
theorem gSteps_A (L : List Tk) (hL : L.length ≤ 200) (hT : TksG L) (n id : Nat) (p : Nat) (e : Int) (H : Heap) (K : V → Heap → Prop) (hp : p ≤ L.length) (hr : H[id]? = some (gpO L (n : Int) ⟨p, e⟩)) (hk : K (.d (.b (stepsB L ⟨p, e⟩))) H) : ACalls Tryd.prog 69 [.pt id 0 0 0] H K := by
  have hid := lt_of_get hr
  obtain ⟨ga, sa, gs, ss, gsa, ssa, gl0, glk, sl0, slk⟩ := atH hr
  have ht0 := fun K hk => gToken_A L hL id (n : Int) ⟨p, e⟩ hp 0 (by omega) H K hr hk
  rw [Nat.add_zero] at ht0
  have hc := contains_A [sDot2, sDot, sAtS, sStar, sOpen] (tokAt L p).s (by decide)
  simp only [stepsB] at hk
  simp only [tkV, List.map_cons, List.map_nil, strRow, sDot2, sDot, sAtS, sStar, sOpen] at *
  generalize tokAt L p = t0 at *
  obtain ⟨k0, x0, n0⟩ := t0
  simp only [] at *
  by_cases h0 : k0 = 0
  · have q0 : (k0 = 0) = True := eq_true h0
    rw [decide_eq_true h0, Bool.not_true, Bool.false_and] at hk
    simp only [gpO] at *
    refine We ?_
    have c11 := ht0; have c21 := hc; have us := q0
    exact W23
  · have q0 : (k0 = 0) = False := eq_false h0
    rw [decide_eq_false h0, Bool.not_false, Bool.true_and] at hk
    by_cases h5 : k0 = 5
    · have q5 : (k0 = 5) = True := eq_true h5
      rw [decide_eq_true h5, Bool.not_true, Bool.false_or] at hk
      simp only [gpO] at *
      refine We ?_
      have c11 := ht0; have c21 := hc; have us := an q0 q5
      exact W23
    · have q5 : (k0 = 5) = False := eq_false h5
      rw [decide_eq_false h5, Bool.not_false, Bool.true_or] at hk
      simp only [gpO] at *
      refine We ?_
      have c11 := ht0; have c21 := hc; have us := an q0 q5
      exact W23
theorem makes_v {L : List Tk} {st : Ps} {k0 k1 k2 n0 n1 n2 : Int} {x0 x1 x2 : Bs} (h0 : tokAt L st.p = ⟨k0, x0, n0⟩) (h1 : tokAt L (st.p + 1) = ⟨k1, x1, n1⟩) (h2 : tokAt L (st.p + 2) = ⟨k2, x2, n2⟩) :
    makesB L st = (decide (k0 = 1) && (((decide (x0 = [101, 108, 101, 109, 101, 110, 116]) || decide (x0 = [97, 116, 116, 114, 105, 98, 117, 116, 101])) && (decide (k1 = 1) && (decide (k2 = 5) && decide (x2 = [123])))) || (decide (x0 = [116, 101, 120, 116]) && (decide (k1 = 5) && decide (x1 = [123]))))) := by
  unfold makesB mkAt
  rw [h0, h1, h2]
  rfl
namespace FN75
def tks : Nat → List Nat | 0 => [0] | 1 => [0, 3] | 2 => [0, 3, 4] | 3 => [0, 3, 4, 10] | 4 => [2] | 5 => [2] | _ => []
def tmu : List Nat := []
def tin : List Nat := [0]
def tnd : Nat → Nat | 5 => 31 | _ => 0
abbrev tfn := @Tryd.func75
end FN75
attribute [go_sem] FN75.tks FN75.tmu FN75.tin FN75.tnd Tryd.ntmps75 Tryd.results75
open FN75 in
theorem gMakes_A (L : List Tk) (hL : L.length ≤ 200) (hT : TksG L) (n id : Nat) (p : Nat) (e : Int) (H : Heap) (K : V → Heap → Prop) (hp : p ≤ L.length) (hr : H[id]? = some (gpO L (n : Int) ⟨p, e⟩)) (hk : K (.d (.b (makesB L ⟨p, e⟩))) H) : ACalls Tryd.prog 75 [.pt id 0 0 0] H K := by
  have hid := lt_of_get hr
  obtain ⟨ga, sa, gs, ss, gsa, ssa, gl0, glk, sl0, slk⟩ := atH hr
  have ht0 := fun K hk => gToken_A L hL id (n : Int) ⟨p, e⟩ hp 0 (by omega) H K hr hk
  rw [Nat.add_zero] at ht0
  have ht1 := fun G K hk => gToken_A L hL id (n : Int) ⟨p, e⟩ hp 1 (by omega) (H ++ G) K (ga G) hk
  have ht2 := fun G K hk => gToken_A L hL id (n : Int) ⟨p, e⟩ hp 2 (by omega) (H ++ G) K (ga G) hk
  have hn1 := (hT.at (p + 1)).n
  have hn2 := (hT.at (p + 2)).n
  obtain ⟨k0, x0, n0, e0⟩ : ∃ k x n, tokAt L p = ⟨k, x, n⟩ := ⟨_, _, _, rfl⟩
  obtain ⟨k1, x1, n1, e1⟩ : ∃ k x n, tokAt L (p + 1) = ⟨k, x, n⟩ := ⟨_, _, _, rfl⟩
  obtain ⟨k2, x2, n2, e2⟩ : ∃ k x n, tokAt L (p + 2) = ⟨k, x, n⟩ := ⟨_, _, _, rfl⟩
  have hmv := makes_v (st := ⟨p, e⟩) e0 e1 e2
  rw [hmv] at hk
  clear hmv
  simp only [tkV, e0, e1, e2] at *
  clear e0 e1 e2
  by_cases h0 : k0 = 1
  · have q0 : (k0 = 1) = True := eq_true h0
    rw [decide_eq_true h0, Bool.true_and] at hk
    by_cases a1 : x0 = [101, 108, 101, 109, 101, 110, 116]
    · have r1 : (x0 = [101, 108, 101, 109, 101, 110, 116]) = True := eq_true a1
      have r3 : (x0 = [116, 101, 120, 116]) = False := eq_false (by subst a1; decide)
      rw [decide_eq_true a1, Bool.true_or, Bool.true_and, decide_eq_false (of_eq_false r3), Bool.false_and, Bool.or_false] at hk
      by_cases b1 : k1 = 1
      · have p1 : (k1 = 1) = True := eq_true b1
        rw [decide_eq_true b1, Bool.true_and] at hk
        by_cases j2 : k2 = 5
        · have q21 : (k2 = 5) = True := eq_true j2
          have q23 : (n2 = 0) = True := eq_true (hn2 (by omega))
          rw [decide_eq_true j2, Bool.true_and] at hk
          by_cases g2 : x2 = [123]
          · have q22 : (x2 = [123]) = True := eq_true g2
            rw [decide_eq_true g2] at hk
            simp only [gpO] at *
            refine We ?_
            have c11 := ht0; have c21 := ht1; have c22 := ht2; have us := an q0 (an r1 (an r3 (an p1 (an q21 (an q22 q23)))))
            exact W23
          · have q22 : (x2 = [123]) = False := eq_false g2
            rw [decide_eq_false g2] at hk
            simp only [gpO] at *
            refine We ?_
            have c11 := ht0; have c21 := ht1; have c22 := ht2; have us := an q0 (an r1 (an r3 (an p1 (an q21 (an q22 q23)))))
            exact W23
        · have q21 : (k2 = 5) = False := eq_false j2
          rw [decide_eq_false j2, Bool.false_and] at hk
          simp only [gpO] at *
          refine We ?_
          have c11 := ht0; have c21 := ht1; have c22 := ht2; have us := an q0 (an r1 (an r3 (an p1 q21)))
          exact W23
      · have p1 : (k1 = 1) = False := eq_false b1
        rw [decide_eq_false b1, Bool.false_and] at hk
        simp only [gpO] at *
        refine We ?_
        have c11 := ht0; have c21 := ht1; have c22 := ht2; have us := an q0 (an r1 (an r3 p1))
        exact W23
    · have r1 : (x0 = [101, 108, 101, 109, 101, 110, 116]) = False := eq_false a1
      by_cases a2 : x0 = [97, 116, 116, 114, 105, 98, 117, 116, 101]
      · have r2 : (x0 = [97, 116, 116, 114, 105, 98, 117, 116, 101]) = True := eq_true a2
        have r3 : (x0 = [116, 101, 120, 116]) = False := eq_false (by subst a2; decide)
        rw [decide_eq_false a1, decide_eq_true a2, Bool.or_true, Bool.true_and, decide_eq_false (of_eq_false r3), Bool.false_and, Bool.or_false] at hk
        by_cases b1 : k1 = 1
        · have p1 : (k1 = 1) = True := eq_true b1
          rw [decide_eq_true b1, Bool.true_and] at hk
          by_cases j2 : k2 = 5
          · have q21 : (k2 = 5) = True := eq_true j2
            have q23 : (n2 = 0) = True := eq_true (hn2 (by omega))
            rw [decide_eq_true j2, Bool.true_and] at hk
            by_cases g2 : x2 = [123]
            · have q22 : (x2 = [123]) = True := eq_true g2
              rw [decide_eq_true g2] at hk
              simp only [gpO] at *
              refine We ?_
              have c11 := ht0; have c21 := ht1; have c22 := ht2; have us := an q0 (an r1 (an r2 (an r3 (an p1 (an q21 (an q22 q23))))))
              exact W23
            · have q22 : (x2 = [123]) = False := eq_false g2
              rw [decide_eq_false g2] at hk
              simp only [gpO] at *
              refine We ?_
              have c11 := ht0; have c21 := ht1; have c22 := ht2; have us := an q0 (an r1 (an r2 (an r3 (an p1 (an q21 (an q22 q23))))))
              exact W23
          · have q21 : (k2 = 5) = False := eq_false j2
            rw [decide_eq_false j2, Bool.false_and] at hk
            simp only [gpO] at *
            refine We ?_
            have c11 := ht0; have c21 := ht1; have c22 := ht2; have us := an q0 (an r1 (an r2 (an r3 (an p1 q21))))
            exact W23
        · have p1 : (k1 = 1) = False := eq_false b1
          rw [decide_eq_false b1, Bool.false_and] at hk
          simp only [gpO] at *
          refine We ?_
          have c11 := ht0; have c21 := ht1; have c22 := ht2; have us := an q0 (an r1 (an r2 (an r3 p1)))
          exact W23
      · have r2 : (x0 = [97, 116, 116, 114, 105, 98, 117, 116, 101]) = False := eq_false a2
        rw [decide_eq_false a1, decide_eq_false a2, Bool.or_false, Bool.false_and, Bool.false_or] at hk
        by_cases a3 : x0 = [116, 101, 120, 116]
        · have r3 : (x0 = [116, 101, 120, 116]) = True := eq_true a3
          rw [decide_eq_true a3, Bool.true_and] at hk
          by_cases j1 : k1 = 5
          · have q11 : (k1 = 5) = True := eq_true j1
            have q13 : (n1 = 0) = True := eq_true (hn1 (by omega))
            rw [decide_eq_true j1, Bool.true_and] at hk
            by_cases g1 : x1 = [123]
            · have q12 : (x1 = [123]) = True := eq_true g1
              rw [decide_eq_true g1] at hk
              simp only [gpO] at *
              refine We ?_
              have c11 := ht0; have c21 := ht1; have c22 := ht2; have us := an q0 (an r1 (an r2 (an r3 (an q11 (an q12 q13)))))
              exact W23
            · have q12 : (x1 = [123]) = False := eq_false g1
              rw [decide_eq_false g1] at hk
              simp only [gpO] at *
              refine We ?_
              have c11 := ht0; have c21 := ht1; have c22 := ht2; have us := an q0 (an r1 (an r2 (an r3 (an q11 (an q12 q13)))))
              exact W23
          · have q11 : (k1 = 5) = False := eq_false j1
            rw [decide_eq_false j1, Bool.false_and] at hk
            simp only [gpO] at *
            refine We ?_
            have c11 := ht0; have c21 := ht1; have c22 := ht2; have us := an q0 (an r1 (an r2 (an r3 q11)))
            exact W23
        · have r3 : (x0 = [116, 101, 120, 116]) = False := eq_false a3
          rw [decide_eq_false a3, Bool.false_and] at hk
          simp only [gpO] at *
          refine We ?_
          have c11 := ht0; have c21 := ht1; have c22 := ht2; have us := an q0 (an r1 (an r2 r3))
          exact W23
  · have q0 : (k0 = 1) = False := eq_false h0
    rw [decide_eq_false h0, Bool.false_and] at hk
    simp only [gpO] at *
    refine We ?_
    have c11 := ht0; have c21 := ht1; have c22 := ht2; have us := q0
    exact W23
theorem opN_of {L : List Tk} {r p : Nat} {e : Int} {s : Bs} (hs : s ∈ opsL r) (h : isN L s ⟨p, e⟩ = true) : opN L r ⟨p, e⟩ = true ∧ (tokAt L p).s = s := by
  unfold isN at h
  unfold opN
  simp only [Bool.and_eq_true, decide_eq_true_eq] at h ⊢
  exact ⟨⟨h.1, h.2.1, by rw [h.2.2]; exact hs⟩, h.2.2⟩
theorem opN_no {L : List Tk} {r p : Nat} {e : Int} (h : ∀ s, s ∈ opsL r → isN L s ⟨p, e⟩ = false) : opN L r ⟨p, e⟩ = false := by
  cases ho : opN L r ⟨p, e⟩ with
  | false => rfl
  | true =>
    unfold opN at ho
    simp only [Bool.and_eq_true, decide_eq_true_eq] at ho
    have := h _ ho.2.2
    unfold isN at this
    simp only [ho.1, ho.2.1, decide_true, Bool.and_self] at this
    cases this
theorem opsL_len (r : Nat) : (opsL r).length ≤ 9 := by unfold opsL; split <;> decide
namespace FN53
def tks : Nat → List Nat | 0 => [0, 1] | 1 => [0, 9, 10, 11] | 2 => [0, 9, 10, 11, 12] | 3 => [0, 6, 9, 10, 11] | 4 => [0, 6, 9, 10, 11, 17] | 5 => [4] | 6 => [0, 9, 10, 11] | 7 => [4] | _ => []
def tmu : List Nat := []
def tin : List Nat := [0, 1]
abbrev tfn := @Tryd.func53
end FN53
attribute [go_sem] FN53.tks FN53.tmu FN53.tin Tryd.ntmps53 Tryd.results53
open FN53 in
theorem gOper_A (L : List Tk) (hL : L.length ≤ 200) (hT : TksG L) (n id : Nat) (p : Nat) (e : Int) (H : Heap) (K : V → Heap → Prop) (hp : p ≤ L.length) (hr : H[id]? = some (gpO L (n : Int) ⟨p, e⟩)) (r : Nat) (hr8 : r < 8) (hk : K (.d (.s (if opN L r ⟨p, e⟩ = true then (tokAt L p).s else []))) H) : ACalls Tryd.prog 53 [.pt id 0 0 0, .d (.i .i64 r)] H K := by
  have hid := lt_of_get hr
  obtain ⟨ga, sa, gs, ss, gsa, ssa, gl0, glk, sl0, slk⟩ := atH hr
  have hbi : glob 4 = some binRow := Gx.bi
  have hbl : binRow.length = 8 := rfl
  have hbr : binRow[r]? = some (.sl 1 ((opsL r).map strRow)) := by
    obtain rfl | rfl | rfl | rfl | rfl | rfl | rfl | rfl : r = 0 ∨ r = 1 ∨ r = 2 ∨ r = 3 ∨ r = 4 ∨ r = 5 ∨ r = 6 ∨ r = 7 := by omega
    all_goals rfl
  obtain ⟨tl, hbd⟩ : ∃ tl, List.map V.d (List.drop (r * 1) binRow) = V.d (.sl 1 ((opsL r).map strRow)) :: tl := by
    obtain rfl | rfl | rfl | rfl | rfl | rfl | rfl | rfl : r = 0 ∨ r = 1 ∨ r = 2 ∨ r = 3 ∨ r = 4 ∨ r = 5 ∨ r = 6 ∨ r = 7 := by omega
    all_goals exact ⟨_, rfl⟩
  have hge : ((0 : Int) ≤ (r : Int)) = True := eq_true (by omega)
  have hlt8 : ((r : Int) < 8) = True := eq_true (by omega)
  have hol := opsL_len r
  have hi := fun s K hk => gIs_A L hL id (n : Int) ⟨p, e⟩ hp s H K hr hk
  simp only [gpO] at *
  refine We ?_
  repeat' (first | (fail) | with_reducible (first | refine And.intro ?_ ?_ | intro _ | refine AWp_seq ?_ | refine AWp_block ?_ | (refine hKv _ _ (AWp_nop ?_); clear hKv Kv) | (refine hKA ?_; clear hKA hKB KA KB) | (refine hKB ?_; clear hKA hKB KA KB) | refine AWp_skipN ?_ | refine AWp_exitO (by repeat (first | exact Out.hit | apply Out.thenA | apply Out.out rfl)) ?_) | (with_reducible (first | (refine hKv _ _ ?_; clear hKv Kv) | ((first | refine AWp_regC tmu tks ?_ | refine AWp_regE tmu tks ?_); intro Kv hKv) | refine AWp_retR ?_); try simp (dsimp := false) only [go_sem, Nat.reduceAdd, Nat.reduceBEq, Nat.reduceEqDiff, Nat.reduceLT, Nat.reduceLeDiff, Nat.reduceMul, Int.reduceToNat, reduceCtorEq, ↓reduceIte, not_true_eq_false, not_false_eq_true, Bool.true_and, Bool.false_and, Int.reduceEq, Int.reduceLT, Int.reduceLE, Int.reduceNeg, List.map_cons, List.map_nil, List.length_set, hid, ga, sa, gs, ss, gsa, ssa, gl0, glk, sl0, slk, phV, phW, phD_1, tkV, gpO, hbi, hbl, hbr, hbd, hge, hlt8]) | (refine AWp_condC rfl ?_; intro KA KB hKA hKB; try simp only [onB_true, onB_false, onB_dec, onB_ndec, onB_not, onB_and, onB_or]) | (refine AWp_condA rfl ?_ ?_) | with_reducible (first | refine onB_of ?_ ?_ | rfl) | omega)
  all_goals first
    | omega
    | skip
  refine AWp_while0 (fun i : Nat => i ≤ (opsL r).length ∧ ∀ s, s ∈ (opsL r).take i → isN L s ⟨p, e⟩ = false) (fun i => [(0, .pt id 0 0 0), (9, .d (.sl 1 ((opsL r).map strRow))), (10, .d (.i .i64 (opsL r).length)), (11, .d (.i .i64 i))]) (fun i => (opsL r).length - i) 0 ⟨Nat.zero_le _, by simp⟩ ?_ ?_
  · simp (dsimp := false) only [go_sem, Nat.reduceAdd, Nat.reduceBEq, Nat.reduceEqDiff, Nat.reduceLT, Nat.reduceLeDiff, Nat.reduceMul, Int.reduceToNat, reduceCtorEq, ↓reduceIte, not_true_eq_false, not_false_eq_true, Bool.true_and, Bool.false_and, Int.reduceEq, Int.reduceLT, Int.reduceLE, Int.reduceNeg, List.map_cons, List.map_nil, List.length_set, hid, ga, sa, gs, ss, gsa, ssa, gl0, glk, sl0, slk, phV, phW, phD_1, tkV, gpO, hbi, hbl, hbr, hbd, hge, hlt8]
    first | done | (simp; omega) | simp
  rintro i ⟨hil, hno⟩
  by_cases hi2 : i < (opsL r).length
  · have q1 : ((i : Int) < ((opsL r).length : Int)) = True := eq_true (by omega)
    obtain ⟨s, hs⟩ : ∃ s, (opsL r)[i]? = some s := ⟨_, List.getElem?_eq_getElem hi2⟩
    have hmem := List.mem_of_getElem? hs
    cases hn : isN L s ⟨p, e⟩ with
    | true =>
      rw [(opN_of hmem hn).1, if_pos rfl, (opN_of hmem hn).2] at hk
      have c21 := hi; have us := an q1 (an hs hn)
      exact W24
    | false =>
      have hnx : ∀ s, s ∈ (opsL r).take (i + 1) → isN L s ⟨p, e⟩ = false := fun z hz => by
        rw [take_of_get hs] at hz
        rcases List.mem_append.1 hz with h | h
        · exact hno z h
        · rw [List.mem_singleton.1 h]; exact hn
      have c21 := hi; have us := an q1 (an hs hn)
      refine W25 ?_ ?_ ?_ ?_ <;> try exact trivial
      all_goals first
        | omega
        | exact ⟨i + 1, ⟨by omega, hnx⟩, by omega, by omega⟩
        | (refine ⟨i + 1, ⟨by omega, hnx⟩, by omega, ?_⟩; simp; omega)
  · have q1 : ((i : Int) < ((opsL r).length : Int)) = False := eq_false (by omega)
    rw [opN_no (fun s hs => hno s (by rw [List.take_of_length_le (by omega)]; exact hs)), if_neg (by decide)] at hk
    have us := q1
    exact W26
end Go.Proofs.YtmhabdopcbokoaaDoor.Gq
