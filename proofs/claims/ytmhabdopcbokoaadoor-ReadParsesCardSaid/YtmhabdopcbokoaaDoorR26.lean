/- The parser of queries: its small steps, part two; one level deeper. No condition but that the tables of package unicode/utf8 are there. -/
import Derived.Test.YtmhabdopcbokoaaDoorR18
import Derived.Test.YtmhabdopcbokoaaDoorR25
set_option linter.all false
set_option linter.unusedSimpArgs false
set_option linter.unusedVariables false
namespace Go.Proofs.YtmhabdopcbokoaaDoor.Gq
open Go Go.Proofs.YtmhabdopcbokoaaDoor.Ab
variable [Glo]
set_option maxHeartbeats 4000000
set_option maxRecDepth 20000
theorem pC1 (p : Nat) : (p : Int) + 1 = ((p + 1 : Nat) : Int) := by omega
theorem pC2 (p : Nat) : (p : Int) + 2 = ((p + 2 : Nat) : Int) := by omega
namespace FN19
def tks : Nat → List Nat | 0 => [0, 1] | 1 => [0, 5] | 2 => [0, 5, 9] | 3 => [5] | 4 => [4] | _ => []
def tmu : List Nat := []
def tin : List Nat := [0, 1]
abbrev tfn := @Tryd.func19
end FN19
attribute [go_sem] FN19.tks FN19.tmu FN19.tin Tryd.ntmps19 Tryd.results19
open FN19 in
theorem gHasT_A (L : List Tk) (hL : L.length ≤ 200) (id : Nat) (n : Int) (p : Nat) (e : Int) (s : Bs) (h : isN L s ⟨p, e⟩ = true) (H : Heap) (K : V → Heap → Prop) (hr : H[id]? = some (gpO L n ⟨p, e⟩)) (hk : K (.d (.b true)) (H.set id (gpO L n ⟨p + 1, e⟩))) :
    ACalls Tryd.prog 19 [.pt id 0 0 0, .d (.s s)] H K := by
  have hid := lt_of_get hr
  have hlt := isN_lt h
  have hi := fun K hk => gIs_A L hL id n ⟨p, e⟩ (by omega) s H K hr hk
  rw [h] at hi
  rw [gpO] at hr
  simp only [] at hlt
  refine We ?_
  have c11 := hi; have us := hr
  exact W10
open FN19 in
theorem gHasF_A (L : List Tk) (hL : L.length ≤ 200) (id : Nat) (n : Int) (p : Nat) (hp : p ≤ L.length) (e : Int) (s : Bs) (h : isN L s ⟨p, e⟩ = false) (H : Heap) (K : V → Heap → Prop) (hr : H[id]? = some (gpO L n ⟨p, e⟩)) (hk : K (.d (.b false)) H) :
    ACalls Tryd.prog 19 [.pt id 0 0 0, .d (.s s)] H K := by
  have hid := lt_of_get hr
  have hi := fun K hk => gIs_A L hL id n ⟨p, e⟩ hp s H K hr hk
  rw [h] at hi
  rw [gpO] at hr
  refine We ?_
  have c11 := hi; have us := hr
  exact W11
namespace FN38
def tks : Nat → List Nat | 0 => [0, 14] | 1 => [] | _ => []
def tmu : List Nat := []
def tin : List Nat := [0, 1]
abbrev tfn := @Tryd.func38
end FN38
attribute [go_sem] FN38.tks FN38.tmu FN38.tin Tryd.ntmps38 Tryd.results38
open FN38 in
theorem gMust_A (L : List Tk) (hL : L.length ≤ 200) (id : Nat) (n : Int) (p : Nat) (hp : p ≤ L.length) (e : Int) (s : Bs) (H : Heap) (K : V → Heap → Prop) (hr : H[id]? = some (gpO L n ⟨p, e⟩)) (hk : K (.tu []) (H.set id (gpO L n (mustP L s ⟨p, e⟩)))) :
    ACalls Tryd.prog 38 [.pt id 0 0 0, .d (.s s)] H K := by
  have hid := lt_of_get hr
  rw [mustP] at hk
  by_cases he : e = 0
  · have h1 : (e = 0) = True := eq_true he
    cases hn : isN L s ⟨p, e⟩ with
    | true =>
      rw [hn, if_pos rfl] at hk
      have hh := fun K hk => gHasT_A L hL id n p e s hn H K hr hk
      rw [gpO] at hr
      refine We ?_
      have c11 := hh; have us := an hr h1
      (repeat' (first | with_reducible (first | refine And.intro ?_ ?_ | intro _ | (refine hKv _ _ (AWp_nop ?_); clear hKv Kv) | (refine hKA ?_; clear hKA hKB KA KB) | (refine hKB ?_; clear hKA hKB KA KB) | refine Wp ?_ | fail) | ((first | with_reducible (first | (refine hKv _ _ ?_; clear hKv Kv) | (refine Wr ?_; intro Kv hKv) | refine AWp_retR ?_ | fail) | refine Wc ?_ | fail); try simp (dsimp := false) only [go_sem, Nat.reduceAdd, Nat.reduceBEq, Nat.reduceEqDiff, Nat.reduceLT, Nat.reduceLeDiff, Nat.reduceMul, Int.reduceToNat, reduceCtorEq, ↓reduceIte, us, hid, not_true_eq_false]) | (refine AWp_condC rfl ?_; intro KA KB hKA hKB; try simp only [onB_true, onB_false, onB_dec, onB_ndec, onB_not, onB_and, onB_or]) | (refine AWp_condA rfl ?_ ?_) | with_reducible (first | refine onB_of ?_ ?_ | rfl) | omega))
      all_goals try (refine AWp_skip ?_; simp (dsimp := false) only [go_sem, Nat.reduceAdd, Nat.reduceBEq, Nat.reduceEqDiff, Nat.reduceLT, Nat.reduceLeDiff, Nat.reduceMul, Int.reduceToNat, reduceCtorEq, ↓reduceIte, hr, hid, h1, not_true_eq_false])
      all_goals first
        | omega
        | exact keepS hk (by simp) (closed_set (closed_self H) (gp_bel _ _ _ _ _)) (by simp [Bel_tu])
    | false =>
      rw [hn, if_neg (by decide)] at hk
      have hh := fun K hk => gHasF_A L hL id n p hp e s hn H K hr hk
      have hs := fun K hk => gStuck_A L hL id n ⟨p, e⟩ hp H K hr hk
      rw [gpO] at hr
      refine We ?_
      have c11 := hh; have c12 := hs; have us := an hr h1
      (repeat' (first | with_reducible (first | refine And.intro ?_ ?_ | intro _ | (refine hKv _ _ (AWp_nop ?_); clear hKv Kv) | (refine hKA ?_; clear hKA hKB KA KB) | (refine hKB ?_; clear hKA hKB KA KB) | refine Wp ?_ | fail) | ((first | with_reducible (first | (refine hKv _ _ ?_; clear hKv Kv) | (refine Wr ?_; intro Kv hKv) | refine AWp_retR ?_ | fail) | refine Wc ?_ | fail); try simp (dsimp := false) only [go_sem, Nat.reduceAdd, Nat.reduceBEq, Nat.reduceEqDiff, Nat.reduceLT, Nat.reduceLeDiff, Nat.reduceMul, Int.reduceToNat, reduceCtorEq, ↓reduceIte, us, hid, not_true_eq_false]) | (refine AWp_condC rfl ?_; intro KA KB hKA hKB; try simp only [onB_true, onB_false, onB_dec, onB_ndec, onB_not, onB_and, onB_or]) | (refine AWp_condA rfl ?_ ?_) | with_reducible (first | refine onB_of ?_ ?_ | rfl) | omega))
      all_goals try (refine AWp_skip ?_; simp (dsimp := false) only [go_sem, Nat.reduceAdd, Nat.reduceBEq, Nat.reduceEqDiff, Nat.reduceLT, Nat.reduceLeDiff, Nat.reduceMul, Int.reduceToNat, reduceCtorEq, ↓reduceIte, hr, hid, h1, not_true_eq_false])
      all_goals first
        | omega
        | exact keepS hk (by simp) (closed_set (closed_self H) (gp_bel _ _ _ _ _)) (by simp [Bel_tu])
  · have h1 : (e = 0) = False := eq_false he
    rw [isN_F he, if_neg (by decide), stuckP, wrongP, if_neg he, set_same hr] at hk
    rw [gpO] at hr
    refine We ?_
    have us := an hr h1
    (repeat' (first | with_reducible (first | refine And.intro ?_ ?_ | intro _ | (refine hKv _ _ (AWp_nop ?_); clear hKv Kv) | (refine hKA ?_; clear hKA hKB KA KB) | (refine hKB ?_; clear hKA hKB KA KB) | refine Wp ?_ | fail) | ((first | with_reducible (first | (refine hKv _ _ ?_; clear hKv Kv) | (refine Wr ?_; intro Kv hKv) | refine AWp_retR ?_ | fail) | refine Wc ?_ | fail); try simp (dsimp := false) only [go_sem, Nat.reduceAdd, Nat.reduceBEq, Nat.reduceEqDiff, Nat.reduceLT, Nat.reduceLeDiff, Nat.reduceMul, Int.reduceToNat, reduceCtorEq, ↓reduceIte, us, hid, not_true_eq_false]) | (refine AWp_condC rfl ?_; intro KA KB hKA hKB; try simp only [onB_true, onB_false, onB_dec, onB_ndec, onB_not, onB_and, onB_or]) | (refine AWp_condA rfl ?_ ?_) | with_reducible (first | refine onB_of ?_ ?_ | rfl) | omega))
    all_goals try (refine AWp_skip ?_; simp (dsimp := false) only [go_sem, Nat.reduceAdd, Nat.reduceBEq, Nat.reduceEqDiff, Nat.reduceLT, Nat.reduceLeDiff, Nat.reduceMul, Int.reduceToNat, reduceCtorEq, ↓reduceIte, hr, hid, h1, not_true_eq_false])
    all_goals first
      | omega
      | exact keepS hk (Nat.le_refl _) (closed_self H) (by simp [Bel_tu])
namespace FN37
def tks : Nat → List Nat | 0 => [0] | 1 => [0, 3] | 2 => [0, 3, 10] | 3 => [2] | 4 => [0, 3, 13] | 5 => [] | 6 => [2] | 7 => [3] | 8 => [2] | _ => []
def tmu : List Nat := []
def tin : List Nat := [0]
def tro : Nat → List Nat | 1 => [3] | _ => []
abbrev tfn := @Tryd.func37
end FN37
attribute [go_sem] FN37.tks FN37.tmu FN37.tin FN37.tro Tryd.ntmps37 Tryd.results37
open FN37 in
theorem gVar_A (L : List Tk) (hL : L.length ≤ 200) (id : Nat) (n : Int) (p : Nat) (hp : p ≤ L.length) (e : Int) (H : Heap) (K : V → Heap → Prop) (hr : H[id]? = some (gpO L n ⟨p, e⟩)) (hk : K (.d (.s (kindT L 4 ⟨p, e⟩))) (H.set id (gpO L n (kindP L 4 ⟨p, e⟩)))) :
    ACalls Tryd.prog 37 [.pt id 0 0 0] H K := by
  have hid := lt_of_get hr
  have ht := fun K hk => gToken_A L hL id n ⟨p, e⟩ hp 0 (by omega) H K hr hk
  have hs := fun K hk => gStuck_A L hL id n ⟨p, e⟩ hp H K hr hk
  rw [Nat.add_zero] at ht
  rw [kindT, kindP] at hk
  have hlt := fun h => tokAt_lt (L := L) (i := p) h
  simp only [] at ht hk hlt
  generalize tokAt L p = t at ht hk hlt
  obtain ⟨k, x, m⟩ := t
  simp only [tkV] at ht hk hlt
  by_cases he : e = 0
  · have h1 : (e = 0) = True := eq_true he
    by_cases h4 : k = 4
    · have h2 : (k = 4) = True := eq_true h4
      have := hlt (by omega)
      rw [if_pos ⟨he, h4⟩, if_pos he, if_pos h4] at hk
      rw [gpO] at hr
      refine We ?_
      have c11 := ht; have c12 := hs; have us := an hr (an h1 h2)
      exact W12
    · have h2 : (k = 4) = False := eq_false h4
      rw [if_neg (fun h => h4 h.2), if_pos he, if_neg h4] at hk
      rw [gpO] at hr
      refine We ?_
      have c11 := ht; have c12 := hs; have us := an hr (an h1 h2)
      exact W13
  · have h1 : (e = 0) = False := eq_false he
    rw [if_neg (fun h => he h.1), if_neg he, set_same hr] at hk
    rw [gpO] at hr
    refine We ?_
    have c11 := ht; have c12 := hs; have us := an hr h1
    exact W14
namespace FN82
def tks : Nat → List Nat | 0 => [0] | 1 => [0, 3] | 2 => [0, 3, 10] | 3 => [2] | 4 => [0, 3, 13] | 5 => [] | 6 => [2] | 7 => [3] | 8 => [2] | _ => []
def tmu : List Nat := []
def tin : List Nat := [0]
def tro : Nat → List Nat | 1 => [3] | _ => []
abbrev tfn := @Tryd.func82
end FN82
attribute [go_sem] FN82.tks FN82.tmu FN82.tin FN82.tro Tryd.ntmps82 Tryd.results82
open FN82 in
theorem gName_A (L : List Tk) (hL : L.length ≤ 200) (id : Nat) (n : Int) (p : Nat) (hp : p ≤ L.length) (e : Int) (H : Heap) (K : V → Heap → Prop) (hr : H[id]? = some (gpO L n ⟨p, e⟩)) (hk : K (.d (.s (kindT L 1 ⟨p, e⟩))) (H.set id (gpO L n (kindP L 1 ⟨p, e⟩)))) :
    ACalls Tryd.prog 82 [.pt id 0 0 0] H K := by
  have hid := lt_of_get hr
  have ht := fun K hk => gToken_A L hL id n ⟨p, e⟩ hp 0 (by omega) H K hr hk
  have hs := fun K hk => gStuck_A L hL id n ⟨p, e⟩ hp H K hr hk
  rw [Nat.add_zero] at ht
  rw [kindT, kindP] at hk
  have hlt := fun h => tokAt_lt (L := L) (i := p) h
  simp only [] at ht hk hlt
  generalize tokAt L p = t at ht hk hlt
  obtain ⟨k, x, m⟩ := t
  simp only [tkV] at ht hk hlt
  by_cases he : e = 0
  · have h1 : (e = 0) = True := eq_true he
    by_cases h4 : k = 1
    · have h2 : (k = 1) = True := eq_true h4
      have := hlt (by omega)
      rw [if_pos ⟨he, h4⟩, if_pos he, if_pos h4] at hk
      rw [gpO] at hr
      refine We ?_
      have c11 := ht; have c12 := hs; have us := an hr (an h1 h2)
      exact W12
    · have h2 : (k = 1) = False := eq_false h4
      rw [if_neg (fun h => h4 h.2), if_pos he, if_neg h4] at hk
      rw [gpO] at hr
      refine We ?_
      have c11 := ht; have c12 := hs; have us := an hr (an h1 h2)
      exact W13
  · have h1 : (e = 0) = False := eq_false he
    rw [if_neg (fun h => he h.1), if_neg he, set_same hr] at hk
    rw [gpO] at hr
    refine We ?_
    have c11 := ht; have c12 := hs; have us := an hr h1
    exact W14
namespace FN35
def tks : Nat → List Nat | 0 => [0, 1] | 1 => [4] | _ => []
def tmu : List Nat := []
def tin : List Nat := [0, 1]
abbrev tfn := @Tryd.func35
end FN35
attribute [go_sem] FN35.tks FN35.tmu FN35.tin Tryd.ntmps35 Tryd.results35
open FN35 in
theorem gOpens_A (L : List Tk) (hL : L.length ≤ 200) (id : Nat) (n : Int) (p : Nat) (hp : p ≤ L.length) (e : Int) (s : Bs) (H : Heap) (K : V → Heap → Prop) (hr : H[id]? = some (gpO L n ⟨p, e⟩)) (hk : K (.d (.b (opensP L s ⟨p, e⟩))) H) :
    ACalls Tryd.prog 35 [.pt id 0 0 0, .d (.s s)] H K := by
  have hid := lt_of_get hr
  have hi := fun K hk => gIs_A L hL id n ⟨p, e⟩ hp s H K hr hk
  have ht := fun K hk => gToken_A L hL id n ⟨p, e⟩ hp 1 (by omega) H K hr hk
  rw [opensP] at hk
  simp only [tkV] at ht hk
  cases hn : isN L s ⟨p, e⟩ with
  | true =>
    rw [hn] at hi hk
    rw [Bool.true_and] at hk
    refine We ?_
    have c11 := hi; have c12 := ht; have us := eq_self (0 : Nat)
    exact W15
  | false =>
    rw [hn] at hi hk
    rw [Bool.false_and] at hk
    refine We ?_
    have c11 := hi; have c12 := ht; have us := eq_self (0 : Nat)
    exact W15
theorem closed_sa {H G : Heap} {id : Nat} {X : Ob} (hid : id < H.length) (hX : ObBel (H ++ G).length X) (hG : ∀ ob, ob ∈ G → ObBel (H ++ G).length ob) : Closed H (H.set id X ++ G) := by
  rw [← List.set_append_left _ _ hid]
  exact closed_set (closed_app hG) hX
def cellP (id : Nat) : Ob := .row 0 39 1 [[.pt id 0 0 0]]
theorem cellP_bel {m id : Nat} (h : id < m) : ObBel m (cellP id) := by
  intro row hr v hv
  simp at hr
  subst hr
  simp at hv
  subst hv
  exact .pt _ _ _ _ h
namespace FN16
def tks : Nat → List Nat | 0 => [1] | 1 => [1] | 2 => [1, 14] | 3 => [1] | 4 => [2] | _ => []
def tmu : List Nat := [1]
def tin : List Nat := [0]
abbrev tfn := @Tryd.func16
end FN16
attribute [go_sem] FN16.tks FN16.tmu FN16.tin Tryd.ntmps16 Tryd.results16
open FN16 in
theorem gDeeper_A (L : List Tk) (id : Nat) (n : Nat) (hn : n ≤ 100) (p : Nat) (e : Int) (H : Heap) (K : V → Heap → Prop) (hr : H[id]? = some (gpO L n ⟨p, e⟩))
    (hk : K (.fn 34 [.pt H.length 0 0 0]) (H.set id (gpO L ((n + 1 : Nat) : Int) (levP ((n + 1 : Nat) : Int) ⟨p, e⟩)) ++ [cellP id])) :
    ACalls Tryd.prog 16 [.pt id 0 0 0] H K := by
  have hid := lt_of_get hr
  obtain ⟨ga, sa, gs, ss, gsa, ssa, gl0, glk, sl0, slk⟩ := atH hr
  have hw := fun G K hk => gWrong_A L id ((n + 1 : Nat) : Int) ⟨p, e⟩ 8 (H.set id (gpO L ((n + 1 : Nat) : Int) ⟨p, e⟩) ++ G) K (gsa _ _) hk
  rw [levP] at hk
  by_cases h30 : (30 : Int) < ((n + 1 : Nat) : Int)
  · have h1 : ((30 : Int) < ((n + 1 : Nat) : Int)) = True := eq_true h30
    rw [if_pos h30] at hk
    simp only [gpO] at *
    refine We ?_
    have c21 := hw; have us := an hr h1
    exact W16
  · have h1 : ((30 : Int) < ((n + 1 : Nat) : Int)) = False := eq_false h30
    rw [if_neg h30] at hk
    simp only [gpO] at *
    refine We ?_
    have c21 := hw; have us := an hr h1
    exact W16
end Go.Proofs.YtmhabdopcbokoaaDoor.Gq
namespace Go.Proofs.YtmhabdopcbokoaaDoor.Gq
open Go Go.Proofs.YtmhabdopcbokoaaDoor.Ab
variable [Glo]
set_option maxHeartbeats 4000000
set_option maxRecDepth 20000
theorem nC1 (n : Nat) : ((n + 1 : Nat) : Int) - 1 = (n : Int) := by omega
namespace FN34
def tks : Nat → List Nat | 0 => [] | _ => []
def tmu : List Nat := []
def tin : List Nat := [0]
abbrev tfn := @Tryd.func34
end FN34
attribute [go_sem] FN34.tks FN34.tmu FN34.tin Tryd.ntmps34 Tryd.results34
open FN34 in
theorem gLeave_A (L : List Tk) (id cid : Nat) (n : Nat) (hn : n ≤ 100) (p : Nat) (e : Int) (H : Heap) (K : V → Heap → Prop) (hr : H[id]? = some (gpO L ((n + 1 : Nat) : Int) ⟨p, e⟩)) (hc : H[cid]? = some (cellP id))
    (hk : K (.tu []) (H.set id (gpO L (n : Int) ⟨p, e⟩))) :
    ACallsD Tryd.prog 34 [.pt cid 0 0 0] H K := by
  have hid := lt_of_get hr
  have hcd := lt_of_get hc
  simp only [gpO, cellP] at *
  refine Wf ?_
  have us := an hr (an hc hcd)
  exact W17
def phV (x : Ph) : V := phW x.h x.args x.cls
theorem phV_bel (m : Nat) (x : Ph) : Bel m (phV x) := by simp [phV, phW, Bel_ag, Bel_d]
def GAt (L : List Tk) (f : Nat) (g : Ps → PR) (n : Nat) (id : Nat) : Prop := ∀ (p : Nat) (e : Int) (H : Heap) (K : V → Heap → Prop), p ≤ L.length → (e = 0 → n ≤ 30) → H[id]? = some (gpO L (n : Int) ⟨p, e⟩) →
  K (phV (g ⟨p, e⟩).1) (H.set id (gpO L (n : Int) (g ⟨p, e⟩).2)) → ACalls Tryd.prog f [.pt id 0 0 0] H K
theorem lev_g {n : Int} {st : Ps} (h : (levP n st).e = 0) : n ≤ 30 := by
  unfold levP at h
  split at h
  · unfold wrongP at h
    split at h
    · cases h
    · rename_i h1 h2; exact absurd h h2
  · omega
def phC (x : Ph) : List V := (phD x).map .d
theorem phC_1 (x : Ph) : phC x = [.d (.i .i64 x.h.k), .d (.i .i64 x.h.it.k), .d (.i .i64 x.h.it.n), .d (.s x.h.it.s), .d (.s x.h.nm), .d (.i .i64 x.h.n), .d (.i .i64 x.h.ax), .d (.i .i64 x.h.tk), .d (.s x.h.tn), .d (aD x.args), .d (cD x.cls)] := by rw [phC, phD_1]; rfl
theorem closed_sb {H G G1 : Heap} {id : Nat} {X X1 : Ob} (hid : id < H.length) (hX : ObBel (H.length + G.length) X) (hG : ∀ ob, ob ∈ G → ObBel (H.length + G.length) ob) : Closed (H.set id X1 ++ G1) (H.set id X ++ G) := by
  intro j ver e sz rows hr
  have hlen : (H.set id X ++ G).length = H.length + G.length := by simp
  rw [hlen]
  by_cases hj : j < H.length
  · have h1 : (H.set id X ++ G)[j]? = (H.set id X)[j]? := List.getElem?_append_left (by simpa using hj)
    have h2 : (H.set id X1 ++ G1)[j]? = (H.set id X1)[j]? := List.getElem?_append_left (by simpa using hj)
    rw [h1] at hr
    by_cases e1 : id = j
    · subst e1
      rw [get_self (List.getElem?_eq_getElem hid)] at hr
      cases hr
      exact .inr hX
    · left
      rw [h2, List.getElem?_set_ne e1]
      rw [List.getElem?_set_ne e1] at hr
      exact hr
  · rw [List.getElem?_append_right (by simpa using Nat.le_of_not_lt hj)] at hr
    exact .inr (hG _ (List.mem_of_getElem? hr))
theorem oB1 {m ver sz : Nat} {e : TypeId} {row : List V} (h : ∀ v, v ∈ row → Bel m v) : ObBel m (.row ver e sz [row]) := fun r hr => by rw [List.mem_singleton] at hr; subst hr; exact h
theorem oBp {m ver sz : Nat} {e : TypeId} (l : List Ph) : ObBel m (.row ver e sz (l.map phC)) := fun r hr v hv => by
  obtain ⟨x, _, rfl⟩ := List.mem_map.1 hr
  obtain ⟨d, _, rfl⟩ := List.mem_map.1 hv
  exact .d d
theorem gDrop {H H1 G : Heap} {v v' : V} {K : V → Heap → Prop} (hk : K v' H1) (hl : H.length ≤ H1.length) (hc : Closed H H1) (hf : Fz H1.length (H1 ++ G) v v') (hb : Bel H1.length v') : RetK H K v (H1 ++ G) :=
  ⟨H1, G, v', rfl, hl, hc, hf, hb, hk⟩
theorem phs_data (l : List Ph) : dsRows (l.map phC) = some (l.map phD) := by
  induction l with
  | nil => rfl
  | cons x l ih => simp [dsRows, phC_1, dsOf, asD, ih, phD_1]
theorem Fz_ph {m : Nat} {H : Heap} {a b c d e f g h i u v u' v' : V} (h1 : Fz m H u u') (h2 : Fz m H v v') : Fz m H (.ag [a, b, c, d, e, f, g, h, i, u, v]) (.ag [a, b, c, d, e, f, g, h, i, u', v']) :=
  .ag _ _ rfl fun j c' c'' hc hc' => by
    match j, hc, hc' with
    | 0, hc, hc' => cases hc; cases hc'; exact .same _
    | 1, hc, hc' => cases hc; cases hc'; exact .same _
    | 2, hc, hc' => cases hc; cases hc'; exact .same _
    | 3, hc, hc' => cases hc; cases hc'; exact .same _
    | 4, hc, hc' => cases hc; cases hc'; exact .same _
    | 5, hc, hc' => cases hc; cases hc'; exact .same _
    | 6, hc, hc' => cases hc; cases hc'; exact .same _
    | 7, hc, hc' => cases hc; cases hc'; exact .same _
    | 8, hc, hc' => cases hc; cases hc'; exact .same _
    | 9, hc, hc' => cases hc; cases hc'; exact h1
    | 10, hc, hc' => cases hc; cases hc'; exact h2
    | k + 11, hc, hc' => cases hc
structure Gl where
  l : List Ph
  p : Nat
  e : Int
  v : Nat
structure GlOk (L : List Tk) (s : Bs) (f : Ps → PR) (q : List Ph × Ps) (y : Gl) : Prop where
  k : ∃ k, L.length < k + y.p ∧ moreP L s f k y.l ⟨y.p, y.e⟩ = q
  p : y.p ≤ L.length
  l : y.l.length ≤ y.p + 1
  ne : y.l ≠ []
theorem GlOk.stop {L : List Tk} {s : Bs} {f : Ps → PR} {q : List Ph × Ps} {y : Gl} (h : GlOk L s f q y) (hn : isN L s ⟨y.p, y.e⟩ = false) : q = (y.l, ⟨y.p, y.e⟩) := by
  obtain ⟨⟨k, h1, h2⟩, hp, _, _⟩ := h
  cases k with
  | zero => omega
  | succ k =>
    rw [moreP, hn, if_neg (by decide)] at h2
    exact h2.symm
theorem GlOk.step {L : List Tk} {s : Bs} {f : Ps → PR} {q : List Ph × Ps} {y : Gl} (h : GlOk L s f q y) (hf : Mo L f) (hn : isN L s ⟨y.p, y.e⟩ = true) {x : Ph} {p : Nat} {e : Int} (hx : f ⟨y.p + 1, y.e⟩ = (x, ⟨p, e⟩)) (v : Nat) : GlOk L s f q ⟨y.l ++ [x], p, e, v⟩ ∧ y.p < p := by
  obtain ⟨⟨k, h1, h2⟩, hp, hl, _⟩ := h
  have hlt := isN_lt hn
  have hm := hf ⟨y.p + 1, y.e⟩ hlt
  rw [hx] at hm
  have hlo : y.p + 1 ≤ p := hm.lo
  refine ⟨⟨?_, hm.hi, ?_, by simp⟩, hlo⟩
  · cases k with
    | zero => simp only [] at hlt; omega
    | succ k =>
      rw [moreP, hn, if_pos rfl, nxt, hx] at h2
      exact ⟨k, by simp only []; omega, h2⟩
  · simp only [List.length_append, List.length_cons, List.length_nil]; omega
namespace FN9
def tks : Nat → List Nat | 0 => [0, 2] | 1 => [0, 2] | 2 => [0, 2, 3] | 3 => [0, 2, 3, 11] | 4 => [2] | 5 => [0, 2, 4] | 6 => [0, 2, 4, 17] | 7 => [0, 2, 4] | 8 => [2] | _ => []
def tmu : List Nat := [14]
def tin : List Nat := [0]
def txt : Nat → Nat × List Cd | 7 => (5, [.q 0 1, .q 0 1, .q 0 0, .t, .q 0 0]) | _ => (0, [])
abbrev tfn := @Tryd.func9
end FN9
attribute [go_sem] FN9.tks FN9.tmu FN9.tin FN9.txt Tryd.ntmps9 Tryd.results9
open FN9 in
theorem gList_A (L : List Tk) (hL : L.length ≤ 200) {al : Ps → PR} (hm : Mo L al) (n id : Nat) (hn : n ≤ 31) (hs : GAt L 17 al (n + 1) id) : GAt L 9 (exprF L al ((n + 1 : Nat) : Int)) n id := by
  intro p e H K hp hg hr hk
  have hid := lt_of_get hr
  obtain ⟨ga, sa, gs, ss, gsa, ssa, gl0, glk, sl0, slk⟩ := atH hr
  have hd := fun G K hk => gDeeper_A L id n (by omega) p e (H ++ G) K (ga G) hk
  have hl := Le_lev (L := L) ((n + 1 : Nat) : Int) (st := ⟨p, e⟩) hp
  have hm1 := hm _ hl.hi
  have hgl := lev_g (n := ((n + 1 : Nat) : Int)) (st := ⟨p, e⟩)
  rw [exprF] at hk
  simp only [] at hk
  generalize levP ((n + 1 : Nat) : Int) ⟨p, e⟩ = s1 at hd hl hm1 hk hgl
  obtain ⟨p1, e1⟩ := s1
  simp only [] at hgl
  have hs1 := fun G K hk => hs p1 e1 (H.set id (gpO L ((n + 1 : Nat) : Int) ⟨p1, e1⟩) ++ G) K hl.hi (fun h => by have := hgl h; omega) (gsa _ _) hk
  generalize al ⟨p1, e1⟩ = r1 at hs1 hm1 hk
  obtain ⟨x, p2, e2⟩ := r1
  have hg2 : e2 = 0 → n + 1 ≤ 30 := fun h => by have := hgl (hm1.e0 h); omega
  have hi1 := fun G K hk => gIs_A L hL id ((n + 1 : Nat) : Int) ⟨p2, e2⟩ hm1.hi [44] (H.set id (gpO L ((n + 1 : Nat) : Int) ⟨p2, e2⟩) ++ G) K (gsa _ _) hk
  have hv := fun (p : Nat) (e : Int) G K hc hk => gLeave_A L id (H.length + 1) n (by omega) p e (H.set id (gpO L ((n + 1 : Nat) : Int) ⟨p, e⟩) ++ G) K (gsa _ _) hc hk
  cases hc : isN L [44] ⟨p2, e2⟩ with
  | false =>
    rw [sComma, hc] at hk
    rw [hc] at hi1
    simp only [Bool.false_eq_true, if_false] at hk
    simp only [gpO] at *
    refine Wd ?_
    refine AWpF_seq ?_
    have us := hc
    (repeat' (first | with_reducible (first | refine And.intro ?_ ?_ | intro _ | (refine hKv _ _ (AWp_nop ?_); clear hKv Kv) | (refine hKA ?_; clear hKA hKB KA KB) | (refine hKB ?_; clear hKA hKB KA KB) | refine Wp ?_ | fail) | ((first | with_reducible (first | (refine hKv _ _ ?_; clear hKv Kv) | (refine Wr ?_; intro Kv hKv) | refine AWp_retR ?_ | fail) | refine Wc ?_ | fail); try simp (dsimp := false) only [go_sem, Nat.reduceAdd, Nat.reduceBEq, Nat.reduceEqDiff, Nat.reduceLT, Nat.reduceLeDiff, Nat.reduceMul, Int.reduceToNat, reduceCtorEq, ↓reduceIte, us, List.length_set, cellP, ga, gl0, glk, gs, gsa, hid, phV, phW, sa, sl0, slk, ss, ssa, ti_hb34]) | (refine AWp_condC rfl ?_; intro KA KB hKA hKB; try simp only [onB_true, onB_false, onB_dec, onB_ndec, onB_not, onB_and, onB_or]) | (refine AWp_condA rfl ?_ ?_) | with_reducible (first | refine onB_of ?_ ?_ | rfl) | omega))
    refine AWpF_deferC tmu (tks 1) (dfs3 _ _ _) ?_
    intro KD hKD
    simp (dsimp := false) only [go_sem, Nat.reduceAdd, Nat.reduceBEq, Nat.reduceEqDiff, Nat.reduceLT, Nat.reduceLeDiff, Nat.reduceMul, Int.reduceToNat, reduceCtorEq, ↓reduceIte, ti_hb34, hc, hid, ga, sa, gs, ss, gsa, ssa, gl0, glk, sl0, slk, phV, phW, cellP, List.length_set]
    have c21 := hd; have us := hc
    (repeat' (first | with_reducible (first | refine And.intro ?_ ?_ | intro _ | (refine hKv _ _ (AWp_nop ?_); clear hKv Kv) | (refine hKA ?_; clear hKA hKB KA KB) | (refine hKB ?_; clear hKA hKB KA KB) | refine Wp ?_ | fail) | ((first | with_reducible (first | (refine hKv _ _ ?_; clear hKv Kv) | (refine Wr ?_; intro Kv hKv) | refine AWp_retR ?_ | fail) | refine Wc ?_ | fail); try simp (dsimp := false) only [go_sem, Nat.reduceAdd, Nat.reduceBEq, Nat.reduceEqDiff, Nat.reduceLT, Nat.reduceLeDiff, Nat.reduceMul, Int.reduceToNat, reduceCtorEq, ↓reduceIte, us, List.length_set, cellP, ga, gl0, glk, gs, gsa, hid, phV, phW, sa, sl0, slk, ss, ssa, ti_hb34]) | (refine AWp_condC rfl ?_; intro KA KB hKA hKB; try simp only [onB_true, onB_false, onB_dec, onB_ndec, onB_not, onB_and, onB_or]) | (refine AWp_condA rfl ?_ ?_) | with_reducible (first | refine onB_of ?_ ?_ | rfl) | omega))
    refine hKD _ _ _ _ ?_
    clear hKD KD
    intro dd
    simp (dsimp := false) only [go_sem, Nat.reduceAdd, Nat.reduceBEq, Nat.reduceEqDiff, Nat.reduceLT, Nat.reduceLeDiff, Nat.reduceMul, Int.reduceToNat, reduceCtorEq, ↓reduceIte, ti_hb34, hc, hid, ga, sa, gs, ss, gsa, ssa, gl0, glk, sl0, slk, phV, phW, cellP, List.length_set]
    have c21 := hs1; have c22 := hi1; have us := hc
    exact W18
  | true =>
    have hn30 := hg2 (isN_e hc)
    rw [sComma, hc] at hk
    rw [hc] at hi1
    simp only [if_true] at hk
    simp only [gpO] at *
    refine Wd ?_
    refine AWpF_seq ?_
    have us := hc
    (repeat' (first | with_reducible (first | refine And.intro ?_ ?_ | intro _ | (refine hKv _ _ (AWp_nop ?_); clear hKv Kv) | (refine hKA ?_; clear hKA hKB KA KB) | (refine hKB ?_; clear hKA hKB KA KB) | refine Wp ?_ | fail) | ((first | with_reducible (first | (refine hKv _ _ ?_; clear hKv Kv) | (refine Wr ?_; intro Kv hKv) | refine AWp_retR ?_ | fail) | refine Wc ?_ | fail); try simp (dsimp := false) only [go_sem, Nat.reduceAdd, Nat.reduceBEq, Nat.reduceEqDiff, Nat.reduceLT, Nat.reduceLeDiff, Nat.reduceMul, Int.reduceToNat, reduceCtorEq, ↓reduceIte, us, List.length_set, cellP, ga, gl0, glk, gs, gsa, hid, phD_1, phV, phW, sa, sl0, slk, ss, ssa, ti_hb34]) | (refine AWp_condC rfl ?_; intro KA KB hKA hKB; try simp only [onB_true, onB_false, onB_dec, onB_ndec, onB_not, onB_and, onB_or]) | (refine AWp_condA rfl ?_ ?_) | with_reducible (first | refine onB_of ?_ ?_ | rfl) | omega))
    refine AWpF_deferC tmu (tks 1) (dfs3 _ _ _) ?_
    intro KD hKD
    simp (dsimp := false) only [go_sem, Nat.reduceAdd, Nat.reduceBEq, Nat.reduceEqDiff, Nat.reduceLT, Nat.reduceLeDiff, Nat.reduceMul, Int.reduceToNat, reduceCtorEq, ↓reduceIte, ti_hb34, hc, hid, ga, sa, gs, ss, gsa, ssa, gl0, glk, sl0, slk, phV, phW, phD_1, cellP, List.length_set]
    have c21 := hd; have us := hc
    (repeat' (first | with_reducible (first | refine And.intro ?_ ?_ | intro _ | (refine hKv _ _ (AWp_nop ?_); clear hKv Kv) | (refine hKA ?_; clear hKA hKB KA KB) | (refine hKB ?_; clear hKA hKB KA KB) | refine Wp ?_ | fail) | ((first | with_reducible (first | (refine hKv _ _ ?_; clear hKv Kv) | (refine Wr ?_; intro Kv hKv) | refine AWp_retR ?_ | fail) | refine Wc ?_ | fail); try simp (dsimp := false) only [go_sem, Nat.reduceAdd, Nat.reduceBEq, Nat.reduceEqDiff, Nat.reduceLT, Nat.reduceLeDiff, Nat.reduceMul, Int.reduceToNat, reduceCtorEq, ↓reduceIte, us, List.length_set, cellP, ga, gl0, glk, gs, gsa, hid, phD_1, phV, phW, sa, sl0, slk, ss, ssa, ti_hb34]) | (refine AWp_condC rfl ?_; intro KA KB hKA hKB; try simp only [onB_true, onB_false, onB_dec, onB_ndec, onB_not, onB_and, onB_or]) | (refine AWp_condA rfl ?_ ?_) | with_reducible (first | refine onB_of ?_ ?_ | rfl) | omega))
    refine hKD _ _ _ _ ?_
    clear hKD KD
    intro dd
    simp (dsimp := false) only [go_sem, Nat.reduceAdd, Nat.reduceBEq, Nat.reduceEqDiff, Nat.reduceLT, Nat.reduceLeDiff, Nat.reduceMul, Int.reduceToNat, reduceCtorEq, ↓reduceIte, ti_hb34, hc, hid, ga, sa, gs, ss, gsa, ssa, gl0, glk, sl0, slk, phV, phW, phD_1, cellP, List.length_set]
    have c21 := hs1; have c22 := hi1; have us := hc
    (repeat' (first | with_reducible (first | refine And.intro ?_ ?_ | intro _ | (refine hKv _ _ (AWp_nop ?_); clear hKv Kv) | (refine hKA ?_; clear hKA hKB KA KB) | (refine hKB ?_; clear hKA hKB KA KB) | refine Wp ?_ | fail) | ((first | with_reducible (first | (refine hKv _ _ ?_; clear hKv Kv) | (refine Wr ?_; intro Kv hKv) | refine AWp_retR ?_ | fail) | refine Wc ?_ | fail); try simp (dsimp := false) only [go_sem, Nat.reduceAdd, Nat.reduceBEq, Nat.reduceEqDiff, Nat.reduceLT, Nat.reduceLeDiff, Nat.reduceMul, Int.reduceToNat, reduceCtorEq, ↓reduceIte, us, List.length_set, cellP, ga, gl0, glk, gs, gsa, hid, phD_1, phV, phW, sa, sl0, slk, ss, ssa, ti_hb34]) | (refine AWp_condC rfl ?_; intro KA KB hKA hKB; try simp only [onB_true, onB_false, onB_dec, onB_ndec, onB_not, onB_and, onB_or]) | (refine AWp_condA rfl ?_ ?_) | with_reducible (first | refine onB_of ?_ ?_ | rfl) | omega))
    have hq0 : GlOk L [44] al (moreP L [44] al (L.length + 1) [x] ⟨p2, e2⟩) ⟨[x], p2, e2, 0⟩ := ⟨⟨L.length + 1, by simp only []; omega, rfl⟩, hm1.hi, by simp, by simp⟩
    generalize moreP L [44] al (L.length + 1) [x] ⟨p2, e2⟩ = q at hq0 hk
    refine AWp_whileG (GlOk L [44] al q) (fun y => [(0, .pt id 0 0 0), (2, .pt H.length 0 0 0), (4, .pt (H.length + 4) 0 0 0)])
      (fun y => H.set id (gpO L ((n + 1 : Nat) : Int) ⟨y.p, y.e⟩) ++ [.row 0 30 11 [[.d (.i .i64 0), .d (.i .i64 0), .d (.i .i64 0), .d (.s []), .d (.s []), .d (.i .i64 0), .d (.i .i64 0), .d (.i .i64 0), .d (.s []), .d (.c (.slice none 0 0)), .d (.c (.slice none 0 0))]], cellP id, .row 0 30 11 [phC x], .row y.v 30 11 (y.l.map phC),
        .row 0 30 11 [[.d (.i .i64 3), .d (.i .i64 0), .d (.i .i64 0), .d (.s []), .d (.s []), .d (.i .i64 0), .d (.i .i64 0), .d (.i .i64 0), .d (.s []), .os (H.length + 3) y.v, .d (.c (.slice none 0 0))]]])
      (fun y => L.length - y.p) ⟨[x], p2, e2, 0⟩ hq0 ⟨[], ?_⟩ ?_ ?_ ?_ ?_
    · simp [gpO, phC_1, cellP]
    · simp (dsimp := false) only [go_sem, Nat.reduceAdd, Nat.reduceBEq, Nat.reduceEqDiff, Nat.reduceLT, Nat.reduceLeDiff, Nat.reduceMul, Int.reduceToNat, reduceCtorEq, ↓reduceIte, ti_hb34, hc, hid, ga, sa, gs, ss, gsa, ssa, gl0, glk, sl0, slk, phV, phW, phD_1, cellP, List.length_set]
      simp
      omega
    · intro y hy; simp
    · intro y hy
      refine closed_sb hid (gp_bel _ _ _ _ _) ?_
      simp only [List.forall_mem_cons, List.length_cons, List.length_nil]
      refine ⟨oB1 (by simp [Bel_d]), cellP_bel (by omega), oB1 (by simp [phC_1, Bel_d]), oBp _, oB1 (by simp [Bel_d, Bel_os]), by simp⟩
    rintro ⟨l, p3, e3, v⟩ hy
    have hp3 := hy.p
    have hl3 := hy.l
    simp only [] at hp3 hl3 ⊢
    have hv3 := fun G K hc hk => gLeave_A L id (H.length + 1) n (by omega) p3 e3 (H.set id (gpO L ((n + 1 : Nat) : Int) ⟨p3, e3⟩) ++ G) K (gsa _ _) hc hk
    cases hc3 : isN L [44] ⟨p3, e3⟩ with
    | false =>
      have hh := fun G K hk => gHasF_A L hL id ((n + 1 : Nat) : Int) p3 hp3 e3 [44] hc3 (H.set id (gpO L ((n + 1 : Nat) : Int) ⟨p3, e3⟩) ++ G) K (gsa _ _) hk
      rw [hy.stop hc3] at hk
      simp only [phV, phW, pSeq, ph0, mkh, mka, mkc, aD_ne hy.ne, cD_nil] at hk
      simp only [gpO] at *
      have c21 := hh; have us := hc
      exact W19
    | true =>
      have hh := fun G K hk => gHasT_A L hL id ((n + 1 : Nat) : Int) p3 e3 [44] hc3 (H.set id (gpO L ((n + 1 : Nat) : Int) ⟨p3, e3⟩) ++ G) K (gsa _ _) hk
      have hlt := isN_lt hc3
      have hs3 := fun G K hk => hs (p3 + 1) e3 (H.set id (gpO L ((n + 1 : Nat) : Int) ⟨p3 + 1, e3⟩) ++ G) K hlt (fun _ => hn30) (gsa _ _) hk
      have hst := fun {x p e} hx v => hy.step hm hc3 (x := x) (p := p) (e := e) hx v
      simp only [] at hst
      generalize al ⟨p3 + 1, e3⟩ = r4 at hs3 hst
      obtain ⟨x4, p4, e4⟩ := r4
      have hst := hst rfl
      simp only [gpO] at *
      have c21 := hh; have c22 := hs3; have us := hc
      (repeat' (first | with_reducible (first | refine And.intro ?_ ?_ | intro _ | (refine hKv _ _ (AWp_nop ?_); clear hKv Kv) | (refine hKA ?_; clear hKA hKB KA KB) | (refine hKB ?_; clear hKA hKB KA KB) | refine Wp ?_ | fail) | ((first | with_reducible (first | (refine hKv _ _ ?_; clear hKv Kv) | (refine Wr ?_; intro Kv hKv) | refine AWp_retR ?_ | fail) | refine Wc ?_ | fail); try simp (dsimp := false) only [go_sem, Nat.reduceAdd, Nat.reduceBEq, Nat.reduceEqDiff, Nat.reduceLT, Nat.reduceLeDiff, Nat.reduceMul, Int.reduceToNat, reduceCtorEq, ↓reduceIte, us, List.length_set, cellP, ga, gl0, glk, gs, gsa, hid, phD_1, phV, phW, sa, sl0, slk, ss, ssa, ti_hb34]) | (refine AWp_condC rfl ?_; intro KA KB hKA hKB; try simp only [onB_true, onB_false, onB_dec, onB_ndec, onB_not, onB_and, onB_or]) | (refine AWp_condA rfl ?_ ?_) | with_reducible (first | refine onB_of ?_ ?_ | rfl) | omega))
      all_goals first
        | omega
        | skip
      have h5 := (hst (v + 1)).2
      try simp only [] at h5 hlt
      exact ⟨⟨l ++ [x4], p4, e4, v + 1⟩, [], (hst (v + 1)).1, by simp only []; omega, by simp [phC_1], by omega, by omega, by omega⟩
end Go.Proofs.YtmhabdopcbokoaaDoor.Gq
