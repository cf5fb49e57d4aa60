/- The grammar of queries: the reference: single expressions. No condition but that the tables of package unicode/utf8 are there. -/
import Derived.Test.YtmhabdopcbokoaaDoorR18
import Derived.Test.YtmhabdopcbokoaaDoorR38
import Derived.Test.YtmhabdopcbokoaaDoorR41
import Derived.Test.YtmhabdopcbokoaaDoorR37
import Derived.Test.YtmhabdopcbokoaaDoorR40
import Derived.Test.YtmhabdopcbokoaaDoorR34
set_option linter.all false
set_option linter.unusedSimpArgs false
set_option linter.unusedVariables false
namespace Go.Proofs.YtmhabdopcbokoaaDoor.Gq
open Go Go.Proofs.YtmhabdopcbokoaaDoor.Ab
variable [Glo] [U8] [Mk] [Gx]
set_option maxHeartbeats 4000000
set_option maxRecDepth 20000
namespace FN26
def tks : Nat → List Nat | 0 => [0, 1, 4] | 1 => [0, 1, 4] | 2 => [0, 1, 4, 21] | 3 => [4] | 4 => [0, 1, 4, 30] | 5 => [0, 1, 4, 5] | 6 => [0, 1, 4, 5, 33] | 7 => [0, 1, 4, 5] | 8 => [0, 1, 4, 5] | 9 => [0, 1, 4, 5] | 10 => [0, 1, 4, 5] | 11 => [0, 1, 4, 5, 6] | 12 => [0, 1, 4, 5, 6] | 13 => [4, 5, 6, 7] | 14 => [4, 5] | 15 => [4] | 16 => [0, 1, 4, 8] | 17 => [0, 1, 4, 72] | 18 => [0, 1, 4] | 19 => [0, 1, 4, 10] | 20 => [0, 1, 4, 10] | 21 => [0, 1, 4, 10] | 22 => [0, 1, 4, 10, 11] | 23 => [0, 1, 4, 10, 11] | 24 => [4, 10, 11, 12] | 25 => [4] | 26 => [4] | _ => []
def tmu : List Nat := []
def tin : List Nat := [0, 1]
abbrev tfn := @Tryd.func26
end FN26
attribute [go_sem] FN26.tks FN26.tmu FN26.tin Tryd.ntmps26 Tryd.results26
open FN26 in
theorem rAlone_A (L : List Tk) (hL : L.length ≤ 200) (hT : TksG L) {ex al mi : Ps → PR} (hm : Mo L ex) (hma : Mo L al) (hmi : Mo L mi) (hme : ∀ st : Ps, st.e ≠ 0 → mi st = (pNil, st)) (n id : Nat) (hn : n ≤ 100) (hs : n ≤ 30 → GRt L 11 ex (n + 1) id True) (hsa : n ≤ 30 → GRt L 26 al (n + 1) id True) (hsu : GRt L 56 mi n id (n ≤ 30)) : GRt L 26 (aloneF L ex al (opsF L mi 8) (n : Int)) n id True := by
  intro p e H K hp _ hr hk
  have hid := lt_of_get hr
  obtain ⟨ga, sa, gs, ss, gsa, ssa, gl0, glk, sl0, slk⟩ := atH hr
  have hlv := fun G K hk => rLevel_A L id p e (n : Int) (H ++ G) K (ga G) hk
  have hl := Le_lev (L := L) (n : Int) (st := ⟨p, e⟩) hp
  have hgl := lev_g (n := (n : Int)) (st := ⟨p, e⟩)
  rw [aloneF] at hk
  try simp only [] at hk
  generalize levP (n : Int) ⟨p, e⟩ = s1 at hlv hl hk hgl
  obtain ⟨p1, e1⟩ := s1
  have hp1 := hl.hi
  try simp only [] at hp1 hgl
  have h1 := fun G K hk => rBound_A L hL id p1 hp1 e1 [102, 111, 114] (by decide) (H.set id (grO L ⟨p1, e1⟩) ++ G) K (gsa _ _) hk
  have h2 := fun G K hk => rBound_A L hL id p1 hp1 e1 [108, 101, 116] (by decide) (H.set id (grO L ⟨p1, e1⟩) ++ G) K (gsa _ _) hk
  have h3 := fun G K hk => rBound_A L hL id p1 hp1 e1 [115, 111, 109, 101] (by decide) (H.set id (grO L ⟨p1, e1⟩) ++ G) K (gsa _ _) hk
  have h4 := fun G K hk => rBound_A L hL id p1 hp1 e1 [101, 118, 101, 114, 121] (by decide) (H.set id (grO L ⟨p1, e1⟩) ++ G) K (gsa _ _) hk
  have h5 := fun G K hk => rPeek_A L hL id p1 e1 hp1 1 (by omega) (H.set id (grO L ⟨p1, e1⟩) ++ G) K (gsa _ _) hk
  have h6 := fun G K hk => rNext_A L hL id p1 e1 hp1 [105, 102] (by decide) (H.set id (grO L ⟨p1, e1⟩) ++ G) K (gsa _ _) hk
  by_cases he : e1 = 0
  · have hn30 : n ≤ 30 := by have := hgl he; omega
    have hs := hs hn30
    have hsa := hsa hn30
    rw [if_neg (fun h => h he)] at hk
    by_cases hfl : opensP L sFor ⟨p1, e1⟩ = true ∨ opensP L sLet ⟨p1, e1⟩ = true
    · rw [if_pos hfl] at hk
      have hf := fun G K hk => rFlwor_A L hL hma n hn id p1 e1 (H.set id (grO L ⟨p1, e1⟩) ++ G) K hp1 (gsa _ _) hsa hfl hk
      obtain ⟨x, p2, e2, hx, hp2⟩ := fR_N (Mo_flwor hma) hp1 (e := e1)
      rw [hx] at hk hf
      cases hb1 : opensP L sFor ⟨p1, e1⟩ with
      | true =>
        rw [sFor] at hb1
        rw [hb1] at h1
        simp only [grO] at *
        refine We ?_
        have c21 := hlv; have c22 := h1; have c23 := hf; have us := eq_self (0 : Nat)
        exact W59
      | false =>
        have hb2 := hfl.resolve_left (by rw [hb1]; decide)
        rw [sFor] at hb1
        rw [sLet] at hb2
        rw [hb1] at h1
        rw [hb2] at h2
        simp only [grO] at *
        refine We ?_
        have c21 := hlv; have c22 := h1; have c23 := h2; have c24 := hf; have us := eq_self (0 : Nat)
        exact W59
    · rw [if_neg hfl] at hk
      have hb1 : opensP L sFor ⟨p1, e1⟩ = false := Bool.eq_false_iff.2 fun h => hfl (.inl h)
      have hb2 : opensP L sLet ⟨p1, e1⟩ = false := Bool.eq_false_iff.2 fun h => hfl (.inr h)
      rw [sFor] at hb1
      rw [sLet] at hb2
      rw [hb1] at h1
      rw [hb2] at h2
      by_cases hse : opensP L sSome ⟨p1, e1⟩ = true ∨ opensP L sEvery ⟨p1, e1⟩ = true
      · rw [if_pos hse] at hk
        have hlt : p1 + 1 ≤ L.length := by
          rcases hse with h | h
          · exact isN_lt (opens_N h)
          · exact isN_lt (opens_N h)
        rw [quantF] at hk
        simp only [nxt] at hk
        have hz := fun G K hk => rNext_A L hL id p1 e1 hp1 [115, 111, 109, 101] (by decide) (H.set id (grO L ⟨p1, e1⟩) ++ G) K (gsa _ _) hk
        have j6 := fun G K hk => rKind_A L hL id (p1 + 1) hlt e1 4 (by decide) (H.set id (grO L ⟨(p1 + 1), e1⟩) ++ G) K (gsa _ _) hk
        obtain ⟨p2, e2, hk2, hp2⟩ := kP_N (L := L) (p := p1 + 1) (e := e1) (k := 4) hlt (by decide)
        rw [hk2] at hk j6
        generalize kindT L 4 ⟨p1 + 1, e1⟩ = nm at hk j6
        have j7 := fun G K hk => rNeed_A L hL id p2 hp2 e2 [105, 110] (by decide) (H.set id (grO L ⟨p2, e2⟩) ++ G) K (gsa _ _) hk
        obtain ⟨p3, e3, hk3, hp3⟩ := mP_N (L := L) (p := p2) (e := e2) (s := sIn) hp2
        rw [hk3] at hk
        rw [sIn] at hk3
        rw [hk3] at j7
        have j8 := fun G K hk => hsa p3 e3 (H.set id (grO L ⟨p3, e3⟩) ++ G) K hp3 (fun _ => trivial) (gsa _ _) hk
        obtain ⟨x4, p4, e4, hk4, hp4⟩ := fR_N hma hp3 (e := e3)
        rw [hk4] at hk j8
        have j9 := fun G K hk => rNeed_A L hL id p4 hp4 e4 [115, 97, 116, 105, 115, 102, 105, 101, 115] (by decide) (H.set id (grO L ⟨p4, e4⟩) ++ G) K (gsa _ _) hk
        obtain ⟨p5, e5, hk5, hp5⟩ := mP_N (L := L) (p := p4) (e := e4) (s := sSatisfies) hp4
        rw [hk5] at hk
        rw [sSatisfies] at hk5
        rw [hk5] at j9
        have j10 := fun G K hk => hsa p5 e5 (H.set id (grO L ⟨p5, e5⟩) ++ G) K hp5 (fun _ => trivial) (gsa _ _) hk
        obtain ⟨x6, p6, e6, hk6, hp6⟩ := fR_N hma hp5 (e := e5)
        rw [hk6] at hk j10
        cases hb3 : opensP L sSome ⟨p1, e1⟩ with
        | true =>
          have hi := opens_N hb3
          rw [if_pos hi] at hk
          rw [sSome] at hb3 hi
          rw [hb3] at h3
          rw [hi] at hz
          simp only [phV, phW, pSeq, pStep, pPath, pBin, pMinus, pRoot, pAll, pNil, ph0, mkh, mka, mkc, aD_nil, cD_nil, aD_cons, phD_1, List.map_cons, List.map_nil] at hk
          simp only [grO] at *
          refine We ?_
          have c21 := hlv; have c22 := h1; have c23 := h2; have c24 := h3; have c25 := hz; have c26 := j6; have c27 := j7; have c28 := j8; have c29 := j9; have c210 := j10; have us := eq_self (0 : Nat)
          exact W60
        | false =>
          have hb4 := hse.resolve_left (by rw [hb3]; decide)
          have hi := isN_uni (opens_N hb4) (s' := sSome) (by decide)
          rw [if_neg (by rw [hi]; decide)] at hk
          rw [sSome] at hb3 hi
          rw [sEvery] at hb4
          rw [hb3] at h3
          rw [hb4] at h4
          rw [hi] at hz
          simp only [phV, phW, pSeq, pStep, pPath, pBin, pMinus, pRoot, pAll, pNil, ph0, mkh, mka, mkc, aD_nil, cD_nil, aD_cons, phD_1, List.map_cons, List.map_nil] at hk
          simp only [grO] at *
          refine We ?_
          have c21 := hlv; have c22 := h1; have c23 := h2; have c24 := h3; have c25 := h4; have c26 := hz; have c27 := j6; have c28 := j7; have c29 := j8; have c210 := j9; have c211 := j10; have us := eq_self (0 : Nat)
          exact W60
      · rw [if_neg hse] at hk
        have hb3 : opensP L sSome ⟨p1, e1⟩ = false := Bool.eq_false_iff.2 fun h => hse (.inl h)
        have hb4 : opensP L sEvery ⟨p1, e1⟩ = false := Bool.eq_false_iff.2 fun h => hse (.inr h)
        rw [sSome] at hb3
        rw [sEvery] at hb4
        rw [hb3] at h3
        rw [hb4] at h4
        have hA := pk_mark hT (i := p1 + 1) he (s := [40]) (by simp)
        generalize pkT L (p1 + 1) e1 = bt at hA h5
        generalize pkK L (p1 + 1) e1 = bk at h5
        by_cases hif : isN L sIf ⟨p1, e1⟩ = true ∧ mkAt L (p1 + 1) sOpen = true
        · rw [if_pos hif] at hk
          have hlt2 : p1 + 2 ≤ L.length := tokAt_lt (mkAt_k hif.2)
          rw [ifF] at hk
          simp only [nxt] at hk
          have j7 := fun G K hk => hs (p1 + 2) e1 (H.set id (grO L ⟨(p1 + 2), e1⟩) ++ G) K hlt2 (fun _ => trivial) (gsa _ _) hk
          obtain ⟨x2, p2, e2, hk2, hp2⟩ := fR_N hm hlt2 (e := e1)
          rw [show p1 + 1 + 1 = p1 + 2 from rfl, hk2] at hk
          rw [hk2] at j7
          have j8 := fun G K hk => rNeed_A L hL id p2 hp2 e2 [41] (by decide) (H.set id (grO L ⟨p2, e2⟩) ++ G) K (gsa _ _) hk
          obtain ⟨p3, e3, hk3, hp3⟩ := mP_N (L := L) (p := p2) (e := e2) (s := sClose) hp2
          rw [hk3] at hk
          rw [sClose] at hk3
          rw [hk3] at j8
          have j9 := fun G K hk => rNeed_A L hL id p3 hp3 e3 [116, 104, 101, 110] (by decide) (H.set id (grO L ⟨p3, e3⟩) ++ G) K (gsa _ _) hk
          obtain ⟨p4, e4, hk4, hp4⟩ := mP_N (L := L) (p := p3) (e := e3) (s := sThen) hp3
          rw [hk4] at hk
          rw [sThen] at hk4
          rw [hk4] at j9
          have j10 := fun G K hk => hsa p4 e4 (H.set id (grO L ⟨p4, e4⟩) ++ G) K hp4 (fun _ => trivial) (gsa _ _) hk
          obtain ⟨x5, p5, e5, hk5, hp5⟩ := fR_N hma hp4 (e := e4)
          rw [hk5] at hk j10
          have j11 := fun G K hk => rNeed_A L hL id p5 hp5 e5 [101, 108, 115, 101] (by decide) (H.set id (grO L ⟨p5, e5⟩) ++ G) K (gsa _ _) hk
          obtain ⟨p6, e6, hk6, hp6⟩ := mP_N (L := L) (p := p5) (e := e5) (s := sElse) hp5
          rw [hk6] at hk
          rw [sElse] at hk6
          rw [hk6] at j11
          have j12 := fun G K hk => hsa p6 e6 (H.set id (grO L ⟨p6, e6⟩) ++ G) K hp6 (fun _ => trivial) (gsa _ _) hk
          obtain ⟨x7, p7, e7, hk7, hp7⟩ := fR_N hma hp6 (e := e6)
          rw [hk7] at hk j12
          have hi := hif.1
          rw [sIf] at hi
          rw [hi] at h6
          have qo : (bt = [40]) = True := eq_true (of_decide_eq_true (hA.trans hif.2))
          simp only [phV, phW, pSeq, pStep, pPath, pBin, pMinus, pRoot, pAll, pNil, ph0, mkh, mka, mkc, aD_nil, cD_nil, aD_cons, phD_1, List.map_cons, List.map_nil] at hk
          simp only [grO] at *
          refine We ?_
          have c21 := hlv; have c22 := h1; have c23 := h2; have c24 := h3; have c25 := h4; have c26 := h5; have c27 := h6; have c28 := j7; have c29 := j8; have c210 := j9; have c211 := j10; have c212 := j11; have c213 := j12; have us := qo
          exact W60
        · rw [if_neg hif] at hk
          have hbi := fun G K hk => rOps_A L hL hmi n hn id (n ≤ 30) hsu 8 0 rfl p1 e1 (H.set id (grO L ⟨p1, e1⟩) ++ G) K hp1 (fun _ => hn30) (gsa _ _) hk
          rw [show ((0 : Nat) : Int) = 0 from rfl] at hbi
          obtain ⟨x2, p2, e2, hx, hp2⟩ := fR_N (Mo_ops hmi 8) hp1 (e := e1)
          rw [hx] at hk hbi
          cases hi : isN L sIf ⟨p1, e1⟩ with
          | false =>
            rw [sIf] at hi
            rw [hi] at h6
            simp only [grO] at *
            refine We ?_
            have c21 := hlv; have c22 := h1; have c23 := h2; have c24 := h3; have c25 := h4; have c26 := h5; have c27 := h6; have c28 := hbi; have us := eq_self (0 : Nat)
            exact W59
          | true =>
            have hj : mkAt L (p1 + 1) sOpen = false := Bool.eq_false_iff.2 fun h => hif ⟨hi, h⟩
            have qo : (bt = [40]) = False := eq_false (of_decide_eq_false (hA.trans hj))
            rw [sIf] at hi
            rw [hi] at h6
            simp only [grO] at *
            refine We ?_
            have c21 := hlv; have c22 := h1; have c23 := h2; have c24 := h3; have c25 := h4; have c26 := h5; have c27 := h6; have c28 := hbi; have us := qo
            exact W59
  · rw [if_pos he] at hk
    have hx : ∀ s, opensP L s ⟨p1, e1⟩ = false := fun s => by unfold opensP; rw [isN_F he, Bool.false_and]
    have hbi := fun G K hk => rOps_A L hL hmi n hn id (n ≤ 30) hsu 8 0 rfl p1 e1 (H.set id (grO L ⟨p1, e1⟩) ++ G) K hp1 (fun h => absurd h he) (gsa _ _) hk
    rw [show ((0 : Nat) : Int) = 0 from rfl, ops_err hme (st := ⟨p1, e1⟩) he 8] at hbi
    rw [hx] at h1 h2 h3 h4
    rw [isN_F he] at h6
    generalize pkT L (p1 + 1) e1 = bt at h5
    generalize pkK L (p1 + 1) e1 = bk at h5
    simp only [grO] at *
    refine We ?_
    have c21 := hlv; have c22 := h1; have c23 := h2; have c24 := h3; have c25 := h4; have c26 := h5; have c27 := h6; have c28 := hbi; have us := eq_self (0 : Nat)
    exact W59
end Go.Proofs.YtmhabdopcbokoaaDoor.Gq
namespace Go.Proofs.YtmhabdopcbokoaaDoor.Gq
open Go Go.Proofs.YtmhabdopcbokoaaDoor.Ab
variable [Glo] [Gx]
set_option maxHeartbeats 4000000
set_option maxRecDepth 20000
def pOdd : Ph := pStep 1 4 []
structure GAll (L : List Tk) (id m n : Nat) : Prop where
  ex : n ≤ 31 → GAt L 9 (gr L pOdd m ((n + 1 : Nat) : Int)).ex n id
  al : n ≤ 32 → GAt L 17 (gr L pOdd m ((n + 1 : Nat) : Int)).al n id
  pc : n ≤ 32 → GAt L 68 (gr L pOdd m ((n + 1 : Nat) : Int)).pc n id
  mi : n ≤ 30 → GAt L 52 (gr L pOdd m ((n + 1 : Nat) : Int)).mi (n + 1) id
theorem gAll (L : List Tk) (hL : L.length ≤ 200) (hT : TksG L) (id : Nat) : ∀ m n : Nat, n + m = 40 → GAll L id m n
  | 0, n, h => ⟨fun _ => by omega, fun _ => by omega, fun _ => by omega, fun _ => by omega⟩
  | m + 1, n, h => by
    have ih := gAll L hL hT id m (n + 1) (by omega)
    have hm := MoG_gr (L := L) (J := pOdd) m ((n + 1 + 1 : Nat) : Int)
    have e : gr L pOdd (m + 1) ((n + 1 : Nat) : Int) = grF L pOdd (gr L pOdd m ((n + 1 + 1 : Nat) : Int)) ((n + 1 : Nat) : Int) := by
      rw [gr]
      rw [show (((n + 1 : Nat) : Int) + 1) = ((n + 1 + 1 : Nat) : Int) by omega]
    have hmi : n ≤ 30 → GAt L 52 (minusF L (gr L pOdd m ((n + 1 + 1 : Nat) : Int)).mi (wayF L (gr L pOdd m ((n + 1 + 1 : Nat) : Int)).pc) ((n + 1 : Nat) : Int)) (n + 1) id := fun hn =>
      gUnary_A L hL hm.mi (n + 1) id (by omega) (fun h30 => ih.mi h30) fun p e H K hp hg hr hk => gPath_A L hL hT hm.pc (n + 1) id p e H K hp hr hg (ih.pc (by omega)) hk
    refine ⟨fun hn => ?_, fun hn => ?_, fun hn => ?_, fun hn => ?_⟩
    · rw [e]
      exact gList_A L hL hm.al n id hn (ih.al (by omega))
    · rw [e]
      exact gSingle_A L hL hT hm.ex hm.al (Mo_minus hm.mi (Mo_way hm.pc) _) n id hn (fun h => ih.ex (by omega)) (fun h => ih.al (by omega)) fun h => hmi (by omega)
    · rw [e]
      exact gStep_A L hL hT hm.ex hm.al n id (by omega) (fun h => ih.ex (by omega)) fun h => ih.al (by omega)
    · rw [e]
      exact hmi hn
def tokBad : List Tk → Nat → Option (Nat × Int)
  | [], _ => none
  | t :: l, i => if tokFault t = 0 then tokBad l (i + 1) else some (i, tokFault t)
def endP (L : List Tk) (r : PR) : Ph × Int × Int :=
  let e := if r.2.e = 0 then (if r.2.p < L.length then 4 else 0) else r.2.e
  if e ≠ 0 then (pNil, r.2.p, e) else (r.1, 0, 0)
def parseP (J : Ph) (L : List Tk) : Ph × Int × Int :=
  if 200 < L.length then (pNil, 0, 1)
  else match tokBad L 0 with
    | some (i, e) => (pNil, i, e)
    | none => endP L ((gr L J 40 1).ex ⟨0, 0⟩)
end Go.Proofs.YtmhabdopcbokoaaDoor.Gq
namespace Go.Proofs.YtmhabdopcbokoaaDoor.Gq
open Go Go.Proofs.YtmhabdopcbokoaaDoor.Ab
variable [Glo] [U8] [Mk] [Gx]
set_option maxHeartbeats 4000000
set_option maxRecDepth 20000
theorem tok_good {t : Tk} (h : tokFault t = 0) : TkG t := by
  unfold tokFault at h
  split at h
  · cases h
  · split at h
    · rename_i h2
      exact ⟨fun h => absurd h2 h, fun h1 => by omega⟩
    · split at h
      · rename_i hn
        refine ⟨fun _ => hn, fun h1 => ?_⟩
        rw [if_neg (by omega), if_neg (by omega)] at h
        split at h
        · cases h
        · rename_i hw
          intro hmem
          have hwl : wEnd t.s 0 0 = t.s.length := Decidable.by_contra fun hx => hw (.inr (.inr hx))
          simp only [List.mem_cons, List.not_mem_nil, or_false] at hmem
          rcases hmem with e | e | e | e <;> rw [e] at hwl <;> rw [wEnd_stop (c := _) rfl (by decide)] at hwl <;> simp at hwl
      · cases h
theorem tokBad_next {L : List Tk} {i : Nat} {t : Tk} (h : L[i]? = some t) : tokBad (L.drop i) i = if tokFault t = 0 then tokBad (L.drop (i + 1)) (i + 1) else some (i, tokFault t) := by
  obtain ⟨hi, rfl⟩ := List.getElem?_eq_some_iff.1 h
  rw [List.drop_eq_getElem_cons hi, tokBad]
theorem tokBad_none : ∀ {L : List Tk} {i : Nat}, tokBad L i = none → ∀ t, t ∈ L → tokFault t = 0
  | [], _, _, t, h => by cases h
  | x :: l, i, hn, t, h => by
    rw [tokBad] at hn
    split at hn
    · rename_i hx
      rcases List.mem_cons.1 h with rfl | h
      · exact hx
      · exact tokBad_none hn t h
    · cases hn
theorem data_rows (R : List (List D)) : dsRows (R.map fun r => r.map V.d) = some R := by
  have h1 : ∀ r : List D, dsOf (r.map V.d) = some r := fun r => by
    induction r with
    | nil => rfl
    | cons x r ih => simp [dsOf, asD, ih]
  induction R with
  | nil => rfl
  | cons r R ih => simp [dsRows, h1, ih]
namespace FN8
def tks : Nat → List Nat | 0 => [0] | 1 => [0, 4] | 2 => [2] | 3 => [2] | _ => []
def tmu : List Nat := [5]
def tin : List Nat := [0]
abbrev tfn := @Tryd.func8
end FN8
attribute [go_sem] FN8.tks FN8.tmu FN8.tin Tryd.ntmps8 Tryd.results8
open FN8 in
theorem cloneTks_nil (H : Heap) (K : V → Heap → Prop) (hk : K (.d (.sl 3 [])) H) : ACalls Tryd.prog 8 [.d (.sl 3 [])] H K := by
  refine We ?_
  have us := eq_self (0 : Nat)
  exact W61
open FN8 in
theorem cloneTks_cons (r : List D) (R : List (List D)) (hlen : (R.length + 1) * 32 ≤ 140737488355328) (H : Heap) (K : V → Heap → Prop) (hk : K (.d (.sl 3 (r :: R))) H) : ACalls Tryd.prog 8 [.d (.sl 3 (r :: R))] H K := by
  refine We ?_
  have us := eq_self (0 : Nat)
  (repeat' (first | with_reducible (first | refine And.intro ?_ ?_ | intro _ | (refine hKv _ _ (AWp_nop ?_); clear hKv Kv) | (refine hKA ?_; clear hKA hKB KA KB) | (refine hKB ?_; clear hKA hKB KA KB) | refine Wp ?_ | fail) | ((first | with_reducible (first | (refine hKv _ _ ?_; clear hKv Kv) | (refine Wr ?_; intro Kv hKv) | refine AWp_retR ?_ | fail) | refine Wc ?_ | fail); try simp (dsimp := false) only [go_sem, Nat.reduceAdd, Nat.reduceBEq, Nat.reduceEqDiff, Nat.reduceLT, Nat.reduceLeDiff, Nat.reduceMul, Int.reduceToNat, reduceCtorEq, ↓reduceIte, us]) | (refine AWp_condC rfl ?_; intro KA KB hKA hKB; try simp only [onB_true, onB_false, onB_dec, onB_ndec, onB_not, onB_and, onB_or]) | (refine AWp_condA rfl ?_ ?_) | with_reducible (first | refine onB_of ?_ ?_ | rfl) | omega))
  exact dropF hk (.os _ _ _ _ _ _ (by omega) (get_app0 _ _) (data_rows (r :: R))) (by simp [Bel_d])
theorem cloneTks_A (R : List (List D)) (hlen : R.length * 32 ≤ 140737488355328) (H : Heap) (K : V → Heap → Prop) (hk : K (.d (.sl 3 R)) H) : ACalls Tryd.prog 8 [.d (.sl 3 R)] H K := by
  cases R with
  | nil => exact cloneTks_nil H K hk
  | cons r R => exact cloneTks_cons r R (by simpa using hlen) H K hk
namespace FN4
def tks : Nat → List Nat | 0 => [0, 2] | 1 => [0, 2, 12] | 2 => [2, 3, 4] | 3 => [0, 2, 14, 15, 16] | 4 => [0, 2, 14, 15, 16, 17] | 5 => [0, 2, 5, 6, 14, 15, 16] | 6 => [0, 2, 5, 7, 14, 15, 16] | 7 => [0, 2, 5, 7, 14, 15, 16, 24] | 8 => [2, 3, 4] | 9 => [0, 2, 14, 15, 16] | 10 => [0, 2, 8] | 11 => [0, 2, 8, 9] | 12 => [2, 8, 9, 48] | 13 => [2, 8, 9] | 14 => [2, 8, 9, 56] | 15 => [2, 3, 4] | 16 => [2, 3, 4] | _ => []
def tmu : List Nat := [32]
def tin : List Nat := [0]
def tro : Nat → List Nat | 5 => [6] | _ => []
def txt : Nat → Nat × List Cd | 15 => (11, [.q 0 0, .q 0 0, .q 0 1, .q 0 1, .q 0 1, .q 0 0, .q 0 1, .q 0 1, .q 0 1, .t, .q 0 0]) | _ => (0, [])
abbrev tfn := @Tryd.func4
end FN4
attribute [go_sem] FN4.tks FN4.tmu FN4.tin FN4.tro FN4.txt Tryd.ntmps4 Tryd.results4
open FN4 in
theorem gParse_A (L : List Tk) (hlen : L.length ≤ 9223372036854775807) (hS : ∀ t, t ∈ L → t.s.length ≤ 9223372036854775807) (H : Heap) (K : V → Heap → Prop) (hk : K (.tu [phV (parseP pOdd L).1, .d (.i .i64 (parseP pOdd L).2.1), .d (.i .i64 (parseP pOdd L).2.2)]) H) :
    ACalls Tryd.prog 4 [.d (.sl 3 (L.map tkD))] H K := by
  rw [parseP] at hk
  by_cases h200 : 200 < L.length
  · have q0 : ((200 : Int) < (L.length : Int)) = True := eq_true (by omega)
    rw [if_pos h200] at hk
    simp only [phV, phW, pNil, ph0, mkh, mka, mkc, aD_nil, cD_nil] at hk
    refine We ?_
    have us := q0
    exact W62
  · have q0 : ((200 : Int) < (L.length : Int)) = False := eq_false (by omega)
    have hL : L.length ≤ 200 := by omega
    rw [if_neg h200] at hk
    refine We ?_
    have us := q0
    refine W1 ?_
    all_goals first
      | omega
      | skip
    refine AWp_whileG (fun i : Nat => i ≤ L.length ∧ tokBad (L.drop i) i = tokBad L 0) (fun i => [(0, .d (.sl 3 (L.map tkD))), (2, .pt H.length 0 0 0), (14, .d (.sl 3 (L.map tkD))), (15, .d (.i .i64 L.length)), (16, .d (.i .i64 i))])
      (fun i => H ++ [.row 0 30 11 [[.d (.i .i64 0), .d (.i .i64 0), .d (.i .i64 0), .d (.s []), .d (.s []), .d (.i .i64 0), .d (.i .i64 0), .d (.i .i64 0), .d (.s []), .d (.c (.slice none 0 0)), .d (.c (.slice none 0 0))]]]) (fun i => L.length - i) 0 ⟨Nat.zero_le _, rfl⟩ ⟨[], by simp⟩ ?_ (fun _ _ => by simp) (fun _ _ => closed_app (by
        simp only [List.forall_mem_cons, List.length_append, List.length_cons, List.length_nil]
        exact ⟨oB1 (by simp [Bel_d]), by simp⟩)) ?_
    · simp (dsimp := false) only [go_sem, Nat.reduceAdd, Nat.reduceBEq, Nat.reduceEqDiff, Nat.reduceLT, Nat.reduceLeDiff, Nat.reduceMul, Int.reduceToNat, reduceCtorEq, ↓reduceIte, q0]
      simp
    rintro i ⟨hi, hb⟩
    by_cases hil : i < L.length
    · obtain ⟨t, ht⟩ : ∃ t, L[i]? = some t := ⟨L[i], List.getElem?_eq_getElem hil⟩
      have q1 : ((i : Int) < (L.length : Int)) = True := eq_true (by omega)
      have hct := checkToken_A t (Nat.le_trans (hS t (List.mem_of_getElem? ht)) (by decide))
      simp only [tkV] at hct
      rw [tokBad_next ht] at hb
      by_cases hf : tokFault t = 0
      · have q2 : (tokFault t = 0) = True := eq_true hf
        rw [if_pos hf] at hb
        have c21 := hct; have us := an q1 (an q2 ht)
        exact W63
      · have q2 : (tokFault t = 0) = False := eq_false hf
        rw [if_neg hf] at hb
        rw [← hb] at hk
        simp only [phV, phW, pNil, ph0, mkh, mka, mkc, aD_nil, cD_nil] at hk
        have c21 := hct; have us := an q1 (an q2 ht)
        exact W64
    · have q1 : ((i : Int) < (L.length : Int)) = False := eq_false (by omega)
      rw [List.drop_eq_nil_of_le (by omega), tokBad] at hb
      rw [← hb] at hk
      simp only [] at hk
      have hT : TksG L := fun t ht => tok_good (tokBad_none hb.symm t ht)
      have hex := (gAll L hL hT (H.length + 1) 40 0 rfl).ex (by omega)
      have hcl := cloneTks_A (L.map tkD) (by rw [List.length_map]; omega)
      have hmo := (MoG_gr (L := L) (J := pOdd) 40 1).ex ⟨0, 0⟩ (Nat.zero_le _)
      have hx := fun a K hk => hex 0 0 (H ++ [a, gpO L ((0 : Nat) : Int) ⟨0, 0⟩]) K (Nat.zero_le _) (fun _ => by omega) ((get_appk _ _ 1).trans rfl) hk
      rw [show (((0 + 1 : Nat) : Nat) : Int) = 1 from rfl] at hx
      rw [endP] at hk
      generalize (gr L pOdd 40 1).ex ⟨0, 0⟩ = r at hk hx hmo
      obtain ⟨x, p, e⟩ := r
      have hp := hmo.hi
      simp only [gpO, phV, phW] at hx hp hk
      rw [show ((0 : Nat) : Int) = 0 from rfl] at hx
      by_cases he : e = 0
      · have q2 : (e = 0) = True := eq_true he
        by_cases hpl : p < L.length
        · have q3 : ((p : Int) < (L.length : Int)) = True := eq_true (by omega)
          simp only [he, hpl, if_true] at hk
          simp only [pNil, ph0, mkh, mka, mkc, aD_nil, cD_nil] at hk
          rw [if_pos (by decide)] at hk
          simp only [aD_nil, cD_nil, mkh, mka, mkc] at hk
          have c21 := hcl; have c22 := hx; have us := an q1 (an q2 q3)
          exact W65
        · have q3 : ((p : Int) < (L.length : Int)) = False := eq_false (by omega)
          simp only [he, hpl, if_true, if_false] at hk
          rw [if_neg (by decide)] at hk
          simp only [] at hk
          have c21 := hcl; have c22 := hx; have us := an q1 (an q2 q3)
          exact W65
      · have q2 : (e = 0) = False := eq_false he
        simp only [he, if_false] at hk
        rw [if_pos he] at hk
        simp only [pNil, ph0, mkh, mka, mkc, aD_nil, cD_nil] at hk
        have c21 := hcl; have c22 := hx; have us := an q1 q2
        exact W65
end Go.Proofs.YtmhabdopcbokoaaDoor.Gq
namespace Go.Proofs.YtmhabdopcbokoaaDoor.Gq
open Go Go.Proofs.YtmhabdopcbokoaaDoor.Ab
variable [Glo] [U8] [Mk] [Gx]
set_option maxHeartbeats 4000000
set_option maxRecDepth 20000
structure GRAll (L : List Tk) (id m n : Nat) : Prop where
  ex : n ≤ 31 → GRt L 11 (gr L pNil m (n : Int)).ex n id True
  al : n ≤ 32 → GRt L 26 (gr L pNil m (n : Int)).al n id True
  pc : n ≤ 33 → GRt L 70 (gr L pNil m (n : Int)).pc n id True
  mi : n ≤ 32 → GRt L 56 (gr L pNil m (n : Int)).mi n id (n ≤ 30)
theorem pc_err {L : List Tk} {J : Ph} : ∀ (m : Nat) (n : Int) (st : Ps), st.e ≠ 0 → (gr L J m n).pc st = (pNil, st)
  | 0, n, st, h => rfl
  | m + 1, n, st, h => pace_err n h
theorem grAll (L : List Tk) (hL : L.length ≤ 200) (hT : TksG L) (id : Nat) : ∀ m n : Nat, n + m = 41 → GRAll L id m n
  | 0, n, h => ⟨fun _ => by omega, fun _ => by omega, fun _ => by omega, fun _ => by omega⟩
  | m + 1, n, h => by
    have ih := grAll L hL hT id m (n + 1) (by omega)
    have hm := MoG_gr (L := L) (J := pNil) m ((n + 1 : Nat) : Int)
    have hpe := pc_err (L := L) (J := pNil) m ((n + 1 : Nat) : Int)
    have e : gr L pNil (m + 1) (n : Int) = grF L pNil (gr L pNil m ((n + 1 : Nat) : Int)) (n : Int) := by
      rw [gr]
      rw [show ((n : Int) + 1) = ((n + 1 : Nat) : Int) by omega]
    have hmi : n ≤ 32 → GRt L 56 (minusF L (gr L pNil m ((n + 1 : Nat) : Int)).mi (wayF L (gr L pNil m ((n + 1 : Nat) : Int)).pc) (n : Int)) n id (n ≤ 30) := fun hn =>
      rMinus_A L hL hm.mi n id (by omega) (fun h30 => ih.mi (by omega)) fun p e H K hp hg hr hk => rWay_A L hL hm.pc n (by omega) id p e H K hp hr (ih.pc (by omega)) hk
    refine ⟨fun hn => ?_, fun hn => ?_, fun hn => ?_, fun hn => ?_⟩
    · rw [e]
      exact rExpr_A L hL hm.al n id (by omega) (ih.al (by omega))
    · rw [e]
      exact rAlone_A L hL hT hm.ex hm.al (Mo_minus hm.mi (Mo_way hm.pc) _) (fun st hs => minus_err hpe _ hs) n id (by omega) (fun h => ih.ex (by omega)) (fun h => ih.al (by omega)) (hmi (by omega))
    · rw [e]
      exact rPace_A L hL hT hm.ex hm.al n id (by omega) (fun h => ih.ex (by omega)) fun h => rFirst_A L hL hm.ex hm.al n id (by omega) (ih.ex (by omega)) (ih.al (by omega))
    · rw [e]
      exact hmi hn
namespace FN5
def tks : Nat → List Nat | 0 => [0, 2] | 1 => [0, 2, 11] | 2 => [2, 3, 4] | 3 => [0, 2, 5] | 4 => [0, 2, 5, 16] | 5 => [0, 2, 5] | 6 => [0, 2, 5, 6] | 7 => [0, 2, 5, 6, 25] | 8 => [2, 3, 4] | 9 => [0, 2, 7] | 10 => [0, 2, 7, 8] | 11 => [2, 7, 8, 47] | 12 => [2, 7, 8] | 13 => [2, 7, 8, 55] | 14 => [2, 3, 4] | 15 => [2, 3, 4] | _ => []
def tmu : List Nat := [31]
def tin : List Nat := [0]
def txt : Nat → Nat × List Cd | 14 => (11, [.q 0 0, .q 0 0, .q 0 1, .q 0 1, .q 0 1, .q 0 0, .q 0 1, .q 0 1, .q 0 1, .t, .q 0 0]) | _ => (0, [])
abbrev tfn := @Tryd.func5
end FN5
attribute [go_sem] FN5.tks FN5.tmu FN5.tin FN5.txt Tryd.ntmps5 Tryd.results5
open FN5 in
theorem rPhraseOf_A (L : List Tk) (hlen : L.length ≤ 9223372036854775807) (hS : ∀ t, t ∈ L → t.s.length ≤ 9223372036854775807) (H : Heap) (K : V → Heap → Prop) (hk : K (.tu [phV (parseP pNil L).1, .d (.i .i64 (parseP pNil L).2.1), .d (.i .i64 (parseP pNil L).2.2)]) H) :
    ACalls Tryd.prog 5 [.d (.sl 3 (L.map tkD))] H K := by
  rw [parseP] at hk
  by_cases h200 : 200 < L.length
  · have q0 : ((200 : Int) < (L.length : Int)) = True := eq_true (by omega)
    rw [if_pos h200] at hk
    simp only [phV, phW, pNil, ph0, mkh, mka, mkc, aD_nil, cD_nil] at hk
    refine We ?_
    have us := q0
    exact W62
  · have q0 : ((200 : Int) < (L.length : Int)) = False := eq_false (by omega)
    have hL : L.length ≤ 200 := by omega
    rw [if_neg h200] at hk
    refine We ?_
    have us := q0
    refine W1 ?_
    all_goals first
      | omega
      | skip
    refine AWp_whileG (fun i : Nat => i ≤ L.length ∧ tokBad (L.drop i) i = tokBad L 0) (fun i => [(0, .d (.sl 3 (L.map tkD))), (2, .pt H.length 0 0 0), (5, .d (.i .i64 i))])
      (fun i => H ++ [.row 0 30 11 [[.d (.i .i64 0), .d (.i .i64 0), .d (.i .i64 0), .d (.s []), .d (.s []), .d (.i .i64 0), .d (.i .i64 0), .d (.i .i64 0), .d (.s []), .d (.c (.slice none 0 0)), .d (.c (.slice none 0 0))]]]) (fun i => L.length - i) 0 ⟨Nat.zero_le _, rfl⟩ ⟨[], by simp⟩ ?_ (fun _ _ => by simp) (fun _ _ => closed_app (by
        simp only [List.forall_mem_cons, List.length_append, List.length_cons, List.length_nil]
        exact ⟨oB1 (by simp [Bel_d]), by simp⟩)) ?_
    · simp (dsimp := false) only [go_sem, Nat.reduceAdd, Nat.reduceBEq, Nat.reduceEqDiff, Nat.reduceLT, Nat.reduceLeDiff, Nat.reduceMul, Int.reduceToNat, reduceCtorEq, ↓reduceIte, q0]
      simp
    rintro i ⟨hi, hb⟩
    by_cases hil : i < L.length
    · obtain ⟨t, ht⟩ : ∃ t, L[i]? = some t := ⟨L[i], List.getElem?_eq_getElem hil⟩
      have q1 : ((i : Int) < (L.length : Int)) = True := eq_true (by omega)
      have hct := tokenFault_A t (Nat.le_trans (hS t (List.mem_of_getElem? ht)) (by decide))
      simp only [tkV] at hct
      rw [tokBad_next ht] at hb
      by_cases hf : tokFault t = 0
      · have q2 : (tokFault t = 0) = True := eq_true hf
        rw [if_pos hf] at hb
        have c21 := hct; have us := an q1 (an q2 ht)
        exact W63
      · have q2 : (tokFault t = 0) = False := eq_false hf
        rw [if_neg hf] at hb
        rw [← hb] at hk
        simp only [phV, phW, pNil, ph0, mkh, mka, mkc, aD_nil, cD_nil] at hk
        have c21 := hct; have us := an q1 (an q2 ht)
        exact W64
    · have q1 : ((i : Int) < (L.length : Int)) = False := eq_false (by omega)
      rw [List.drop_eq_nil_of_le (by omega), tokBad] at hb
      rw [← hb] at hk
      simp only [] at hk
      have hT : TksG L := fun t ht => tok_good (tokBad_none hb.symm t ht)
      have hex := (grAll L hL hT (H.length + 1) 40 1 rfl).ex (by omega)
      have hmo := (MoG_gr (L := L) (J := pNil) 40 1).ex ⟨0, 0⟩ (Nat.zero_le _)
      have hx := fun a K hk => hex 0 0 (H ++ [a, grO L ⟨0, 0⟩]) K (Nat.zero_le _) (fun _ => trivial) ((get_appk _ _ 1).trans rfl) hk
      rw [show (((1 : Nat) : Nat) : Int) = 1 from rfl] at hx
      rw [endP] at hk
      generalize (gr L pNil 40 1).ex ⟨0, 0⟩ = r at hk hx hmo
      obtain ⟨x, p, e⟩ := r
      have hp := hmo.hi
      simp only [grO, phV, phW] at hx hp hk
      rw [show ((0 : Nat) : Int) = 0 from rfl] at hx
      by_cases he : e = 0
      · have q2 : (e = 0) = True := eq_true he
        by_cases hpl : p < L.length
        · have q3 : ((p : Int) < (L.length : Int)) = True := eq_true (by omega)
          simp only [he, hpl, if_true] at hk
          simp only [pNil, ph0, mkh, mka, mkc, aD_nil, cD_nil] at hk
          rw [if_pos (by decide)] at hk
          simp only [aD_nil, cD_nil, mkh, mka, mkc] at hk
          have c21 := hx; have us := an q1 (an q2 q3)
          exact W65
        · have q3 : ((p : Int) < (L.length : Int)) = False := eq_false (by omega)
          simp only [he, hpl, if_true, if_false] at hk
          rw [if_neg (by decide)] at hk
          simp only [] at hk
          have c21 := hx; have us := an q1 (an q2 q3)
          exact W65
      · have q2 : (e = 0) = False := eq_false he
        simp only [he, if_false] at hk
        rw [if_pos he] at hk
        simp only [pNil, ph0, mkh, mka, mkc, aD_nil, cD_nil] at hk
        have c21 := hx; have us := an q1 q2
        exact W65
end Go.Proofs.YtmhabdopcbokoaaDoor.Gq
namespace Go.Proofs.YtmhabdopcbokoaaDoor.Gq
open Go Go.Proofs.YtmhabdopcbokoaaDoor.Ab
variable [Glo] [Gx]
theorem endP_agr {L : List Tk} {a b : PR} (h : Agr a b) : endP L a = endP L b := by
  obtain ⟨x, p, e⟩ := a
  obtain ⟨y, q⟩ := b
  obtain ⟨h1, h2⟩ := h
  simp only [] at h1 h2
  subst h1
  unfold endP
  simp only []
  by_cases he : e = 0
  · rw [h2 he]
  · rw [if_neg he, if_pos he, if_pos he]
theorem parseP_agr (J J' : Ph) (L : List Tk) : parseP J L = parseP J' L := by
  unfold parseP
  split
  · rfl
  · split
    · rfl
    · exact endP_agr ((AgG_gr (J := J) (J' := J') 40 1).ex ⟨0, 0⟩ (Nat.zero_le _))
end Go.Proofs.YtmhabdopcbokoaaDoor.Gq
