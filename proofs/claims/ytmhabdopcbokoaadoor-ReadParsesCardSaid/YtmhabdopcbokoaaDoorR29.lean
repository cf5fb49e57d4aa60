/- The reference's grammar of queries: its small steps. No condition. -/
import Derived.Test.YtmhabdopcbokoaaDoorR18
import Derived.Test.YtmhabdopcbokoaaDoorR28
set_option linter.all false
set_option linter.unusedSimpArgs false
set_option linter.unusedVariables false
namespace Go.Proofs.YtmhabdopcbokoaaDoor.Gq
open Go Go.Proofs.YtmhabdopcbokoaaDoor.Ab
variable [Glo]
set_option maxHeartbeats 4000000
set_option maxRecDepth 20000
def grO (L : List Tk) (st : Ps) : Ob := .row 0 46 3 [[.d (.sl 3 (L.map tkD)), .d (.i .i64 st.p), .d (.i .i64 st.e)]]
theorem gr_bel (m : Nat) (a b c : D) : ObBel m (.row 0 46 3 [[.d a, .d b, .d c]]) := by
  intro row hr v hv
  simp at hr
  subst hr
  simp at hv
  rcases hv with rfl | rfl | rfl <;> exact .d _
def pkT (L : List Tk) (i : Nat) (e : Int) : Bs := if e = 0 ∧ isK (tokAt L i) = true then (tokAt L i).s else []
def pkK (L : List Tk) (i : Nat) (e : Int) : Int := if e = 0 then (tokAt L i).k else 0
namespace FN47
def tks : Nat → List Nat | 0 => [0, 1] | 1 => [0, 1, 25] | 2 => [4, 5] | 3 => [6] | 4 => [6, 45] | 5 => [4, 5] | 6 => [4, 5] | _ => []
def tmu : List Nat := []
def tin : List Nat := [0, 1]
def txv : Nat → Nat × Nat × List Ce | 3 => (13, 12, [.q 0 0 true, .q 0 0 false, .q 0 0 false, .q 0 0 false, .q 0 0 true, .q 0 0 false, .q 0 0 false, .q 0 0 false, .q 0 0 true, .q 0 0 true, .q 0 0 false, .q 0 0 false, .a]) | _ => (0, 0, [])
def tnd : Nat → Nat | 1 => 18 | 5 => 5 | 6 => 3 | _ => 0
abbrev tfn := @Tryd.func47
end FN47
attribute [go_sem] FN47.tks FN47.tmu FN47.tin FN47.txv FN47.tnd Tryd.ntmps47 Tryd.results47
open FN47 in
theorem rPeek_A (L : List Tk) (hL : L.length ≤ 200) (id : Nat) (p : Nat) (e : Int) (hp : p ≤ L.length) (a : Nat) (ha : a ≤ 2) (H : Heap) (K : V → Heap → Prop) (hr : H[id]? = some (grO L ⟨p, e⟩)) (hk : K (.tu [.d (.s (pkT L (p + a) e)), .d (.i .i64 (pkK L (p + a) e))]) H) :
    ACalls Tryd.prog 47 [.pt id 0 0 0, .d (.i .i64 a)] H K := by
  have hid := lt_of_get hr
  obtain ⟨ga, sa, gs, ss, gsa, ssa, gl0, glk, sl0, slk⟩ := atH hr
  rw [pkT, pkK] at hk
  simp only [grO] at *
  by_cases he : e = 0
  · have q0 : (e = 0) = True := eq_true he
    by_cases h : p + a < L.length
    · have h1 : ((L.length : Int) ≤ ((p : Int) + (a : Int))) = False := eq_false (by omega)
      have h2 : ((0 : Int) ≤ (p : Int) + (a : Int)) = True := eq_true (by omega)
      have h4 : (((p : Int) + (a : Int)) < (L.length : Int)) = True := eq_true (by omega)
      have h3 : ((p : Int) + (a : Int)).toNat = p + a := by omega
      have hx := tokAt_get h
      generalize tokAt L (p + a) = t at hx hk
      obtain ⟨k, s, n⟩ := t
      by_cases k1 : k = 1
      · have q1 : (k = 1) = True := eq_true k1
        rw [if_pos (show e = 0 ∧ isK ⟨k, s, n⟩ = true from ⟨he, by simp [isK, k1]⟩), if_pos he] at hk
        refine We ?_
        have us := an hr (an q0 (an q1 (an h1 (an h2 (an h3 (an h4 hx))))))
        exact W28
      · have q1 : (k = 1) = False := eq_false k1
        by_cases k5 : k = 5
        · have q5 : (k = 5) = True := eq_true k5
          rw [if_pos (show e = 0 ∧ isK ⟨k, s, n⟩ = true from ⟨he, by simp [isK, k5]⟩), if_pos he] at hk
          refine We ?_
          have us := an hr (an q0 (an q1 (an q5 (an h1 (an h2 (an h3 (an h4 hx)))))))
          exact W28
        · have q5 : (k = 5) = False := eq_false k5
          rw [if_neg (show ¬ (e = 0 ∧ isK ⟨k, s, n⟩ = true) from fun h => by have := h.2; simp [isK, k1, k5] at this), if_pos he] at hk
          refine We ?_
          have us := an hr (an q0 (an q1 (an q5 (an h1 (an h2 (an h3 (an h4 hx)))))))
          exact W28
    · have h1 : ((L.length : Int) ≤ ((p : Int) + (a : Int))) = True := eq_true (by omega)
      rw [tokAt_nil h, if_neg (by rintro ⟨_, h⟩; cases h), if_pos he] at hk
      refine We ?_
      have us := an hr (an q0 h1)
      exact W29
  · have q0 : (e = 0) = False := eq_false he
    rw [if_neg (fun h => he h.1), if_neg he] at hk
    refine We ?_
    have us := an hr q0
    exact W29
theorem pkT_isN {L : List Tk} {p : Nat} {e : Int} {s : Bs} (hs : s ≠ []) : (pkT L p e = s) = (isN L s ⟨p, e⟩ = true) := by
  unfold pkT isN
  apply propext
  simp only [Bool.and_eq_true, decide_eq_true_eq]
  by_cases h : e = 0 ∧ isK (tokAt L p) = true
  · rw [if_pos h]
    exact ⟨fun x => ⟨h.1, h.2, x⟩, fun x => x.2.2⟩
  · rw [if_neg h]
    exact ⟨fun x => absurd x.symm hs, fun x => absurd ⟨x.1, x.2.1⟩ h⟩
namespace FN27
def tks : Nat → List Nat | 0 => [0, 1] | 1 => [1, 5] | 2 => [4] | _ => []
def tmu : List Nat := []
def tin : List Nat := [0, 1]
abbrev tfn := @Tryd.func27
end FN27
attribute [go_sem] FN27.tks FN27.tmu FN27.tin Tryd.ntmps27 Tryd.results27
open FN27 in
theorem rNext_A (L : List Tk) (hL : L.length ≤ 200) (id : Nat) (p : Nat) (e : Int) (hp : p ≤ L.length) (s : Bs) (hs : s ≠ []) (H : Heap) (K : V → Heap → Prop) (hr : H[id]? = some (grO L ⟨p, e⟩)) (hk : K (.d (.b (isN L s ⟨p, e⟩))) H) :
    ACalls Tryd.prog 27 [.pt id 0 0 0, .d (.s s)] H K := by
  have hpk := fun K hk => rPeek_A L hL id p e hp 0 (by omega) H K hr hk
  rw [Nat.add_zero] at hpk
  have hi := pkT_isN (L := L) (p := p) (e := e) hs
  have q1 : (s = []) = False := eq_false hs
  cases hn : isN L s ⟨p, e⟩ with
  | true =>
    rw [hn] at hk hi
    have q2 : (pkT L p e = s) = True := by rw [hi]; simp
    refine We ?_
    have c11 := hpk; have us := an q1 q2
    exact W30
  | false =>
    rw [hn] at hk hi
    have q2 : (pkT L p e = s) = False := by rw [hi]; simp
    refine We ?_
    have c11 := hpk; have us := an q1 q2
    exact W30
namespace FN28
def tks : Nat → List Nat | 0 => [0, 1] | 1 => [0, 8] | 2 => [4] | 3 => [] | 4 => [4] | _ => []
def tmu : List Nat := []
def tin : List Nat := [0, 1]
abbrev tfn := @Tryd.func28
end FN28
attribute [go_sem] FN28.tks FN28.tmu FN28.tin Tryd.ntmps28 Tryd.results28
open FN28 in
theorem rPassT_A (L : List Tk) (hL : L.length ≤ 200) (id : Nat) (p : Nat) (e : Int) (s : Bs) (hs : s ≠ []) (h : isN L s ⟨p, e⟩ = true) (H : Heap) (K : V → Heap → Prop) (hr : H[id]? = some (grO L ⟨p, e⟩)) (hk : K (.d (.b true)) (H.set id (grO L ⟨p + 1, e⟩))) :
    ACalls Tryd.prog 28 [.pt id 0 0 0, .d (.s s)] H K := by
  have hid := lt_of_get hr
  have hlt := isN_lt h
  simp only [] at hlt
  have hi := fun K hk => rNext_A L hL id p e (by omega) s hs H K hr hk
  rw [h] at hi
  simp only [grO] at *
  refine We ?_
  have c11 := hi; have us := hr
  exact W31
open FN28 in
theorem rPassF_A (L : List Tk) (hL : L.length ≤ 200) (id : Nat) (p : Nat) (hp : p ≤ L.length) (e : Int) (s : Bs) (hs : s ≠ []) (h : isN L s ⟨p, e⟩ = false) (H : Heap) (K : V → Heap → Prop) (hr : H[id]? = some (grO L ⟨p, e⟩)) (hk : K (.d (.b false)) H) :
    ACalls Tryd.prog 28 [.pt id 0 0 0, .d (.s s)] H K := by
  have hid := lt_of_get hr
  have hi := fun K hk => rNext_A L hL id p e hp s hs H K hr hk
  rw [h] at hi
  simp only [grO] at *
  refine We ?_
  have c11 := hi; have us := hr
  exact W32
namespace FN42
def tks : Nat → List Nat | 0 => [0, 1, 8] | 1 => [] | _ => []
def tmu : List Nat := []
def tin : List Nat := [0, 1]
abbrev tfn := @Tryd.func42
end FN42
attribute [go_sem] FN42.tks FN42.tmu FN42.tin Tryd.ntmps42 Tryd.results42
open FN42 in
theorem rHalt_A (L : List Tk) (id : Nat) (st : Ps) (e : Int) (H : Heap) (K : V → Heap → Prop) (hr : H[id]? = some (grO L st)) (hk : K (.tu []) (H.set id (grO L (wrongP e st)))) :
    ACalls Tryd.prog 42 [.pt id 0 0 0, .d (.i .i64 e)] H K := by
  have hid := lt_of_get hr
  by_cases hf : st.e = 0
  · rw [wrongP, if_pos hf] at hk
    have h1 : (st.e = 0) = True := eq_true hf
    rw [grO] at hr
    refine We ?_
    have us := an hr h1
    (repeat' (first | with_reducible (first | refine And.intro ?_ ?_ | intro _ | (refine hKv _ _ (AWp_nop ?_); clear hKv Kv) | (refine hKA ?_; clear hKA hKB KA KB) | (refine hKB ?_; clear hKA hKB KA KB) | refine Wp ?_ | fail) | ((first | with_reducible (first | (refine hKv _ _ ?_; clear hKv Kv) | (refine Wr ?_; intro Kv hKv) | refine AWp_retR ?_ | fail) | refine Wc ?_ | fail); try simp (dsimp := false) only [go_sem, Nat.reduceAdd, Nat.reduceBEq, Nat.reduceEqDiff, Nat.reduceLT, Nat.reduceLeDiff, Nat.reduceMul, Int.reduceToNat, reduceCtorEq, ↓reduceIte, us, hid]) | (refine AWp_condC rfl ?_; intro KA KB hKA hKB; try simp only [onB_true, onB_false, onB_dec, onB_ndec, onB_not, onB_and, onB_or]) | (refine AWp_condA rfl ?_ ?_) | with_reducible (first | refine onB_of ?_ ?_ | rfl) | omega))
    all_goals try (refine AWp_skip ?_; simp (dsimp := false) only [go_sem, Nat.reduceAdd, Nat.reduceBEq, Nat.reduceEqDiff, Nat.reduceLT, Nat.reduceLeDiff, Nat.reduceMul, Int.reduceToNat, reduceCtorEq, ↓reduceIte, hr, h1, hid])
    all_goals first
      | omega
      | exact keepS hk (by simp) (closed_set (closed_self H) (gr_bel _ _ _ _)) (by simp [Bel_tu])
  · rw [wrongP, if_neg hf, set_same hr] at hk
    have h1 : (st.e = 0) = False := eq_false hf
    rw [grO] at hr
    refine We ?_
    have us := an hr h1
    (repeat' (first | with_reducible (first | refine And.intro ?_ ?_ | intro _ | (refine hKv _ _ (AWp_nop ?_); clear hKv Kv) | (refine hKA ?_; clear hKA hKB KA KB) | (refine hKB ?_; clear hKA hKB KA KB) | refine Wp ?_ | fail) | ((first | with_reducible (first | (refine hKv _ _ ?_; clear hKv Kv) | (refine Wr ?_; intro Kv hKv) | refine AWp_retR ?_ | fail) | refine Wc ?_ | fail); try simp (dsimp := false) only [go_sem, Nat.reduceAdd, Nat.reduceBEq, Nat.reduceEqDiff, Nat.reduceLT, Nat.reduceLeDiff, Nat.reduceMul, Int.reduceToNat, reduceCtorEq, ↓reduceIte, us, hid]) | (refine AWp_condC rfl ?_; intro KA KB hKA hKB; try simp only [onB_true, onB_false, onB_dec, onB_ndec, onB_not, onB_and, onB_or]) | (refine AWp_condA rfl ?_ ?_) | with_reducible (first | refine onB_of ?_ ?_ | rfl) | omega))
    all_goals try (refine AWp_skip ?_; simp (dsimp := false) only [go_sem, Nat.reduceAdd, Nat.reduceBEq, Nat.reduceEqDiff, Nat.reduceLT, Nat.reduceLeDiff, Nat.reduceMul, Int.reduceToNat, reduceCtorEq, ↓reduceIte, hr, h1, hid])
    all_goals first
      | omega
      | exact keepS hk (Nat.le_refl _) (closed_self H) (by simp [Bel_tu])
theorem wrong2 (a b : Int) (ha : a ≠ 0) (st : Ps) : wrongP b (wrongP a st) = wrongP a st := by
  unfold wrongP
  by_cases h : st.e = 0
  · rw [if_pos h, if_neg ha]
  · rw [if_neg h, if_neg h]
namespace FN55
def tks : Nat → List Nat | 0 => [0, 11] | 1 => [0] | 2 => [] | _ => []
def tmu : List Nat := []
def tin : List Nat := [0]
def tnd : Nat → Nat | 0 => 9 | _ => 0
abbrev tfn := @Tryd.func55
end FN55
attribute [go_sem] FN55.tks FN55.tmu FN55.tin FN55.tnd Tryd.ntmps55 Tryd.results55
open FN55 in
theorem rOdd_A (L : List Tk) (hL : L.length ≤ 200) (id : Nat) (st : Ps) (hp : st.p ≤ L.length) (H : Heap) (K : V → Heap → Prop) (hr : H[id]? = some (grO L st)) (hk : K (.tu []) (H.set id (grO L (stuckP L st)))) :
    ACalls Tryd.prog 55 [.pt id 0 0 0] H K := by
  have hid := lt_of_get hr
  rw [stuckP] at hk
  by_cases h : L.length ≤ st.p
  · have h1 : ((L.length : Int) ≤ (st.p : Int)) = True := eq_true (by omega)
    rw [if_pos h] at hk
    have hw := fun K hk => rHalt_A L id st 5 H K hr hk
    have hw2 := fun K hk => rHalt_A L id (wrongP 5 st) 4 (H.set id (grO L (wrongP 5 st))) K (get_self hr _) hk
    rw [wrong2 5 4 (by decide), List.set_set] at hw2
    simp only [grO] at *
    refine We ?_
    have c11 := hw; have c12 := hw2; have us := an hr h1
    (repeat' (first | with_reducible (first | refine And.intro ?_ ?_ | intro _ | (refine hKv _ _ (AWp_nop ?_); clear hKv Kv) | (refine hKA ?_; clear hKA hKB KA KB) | (refine hKB ?_; clear hKA hKB KA KB) | refine Wp ?_ | fail) | ((first | with_reducible (first | (refine hKv _ _ ?_; clear hKv Kv) | (refine Wr ?_; intro Kv hKv) | refine AWp_retR ?_ | fail) | refine Wc ?_ | fail); try simp (dsimp := false) only [go_sem, Nat.reduceAdd, Nat.reduceBEq, Nat.reduceEqDiff, Nat.reduceLT, Nat.reduceLeDiff, Nat.reduceMul, Int.reduceToNat, reduceCtorEq, ↓reduceIte, us, hid]) | (refine AWp_condC rfl ?_; intro KA KB hKA hKB; try simp only [onB_true, onB_false, onB_dec, onB_ndec, onB_not, onB_and, onB_or]) | (refine AWp_condA rfl ?_ ?_) | with_reducible (first | refine onB_of ?_ ?_ | rfl) | omega))
    all_goals try (refine AWp_skip ?_; simp (dsimp := false) only [go_sem, Nat.reduceAdd, Nat.reduceBEq, Nat.reduceEqDiff, Nat.reduceLT, Nat.reduceLeDiff, Nat.reduceMul, Int.reduceToNat, reduceCtorEq, ↓reduceIte, hr, h1, hid])
    all_goals first
      | omega
      | exact keepS hk (by simp) (closed_set (closed_self H) (gr_bel _ _ _ _)) (by simp [Bel_tu])
  · have h1 : ((L.length : Int) ≤ (st.p : Int)) = False := eq_false (by omega)
    rw [if_neg h] at hk
    have hw2 := fun K hk => rHalt_A L id st 4 H K hr hk
    simp only [grO] at *
    refine We ?_
    have c11 := hw2; have us := an hr h1
    (repeat' (first | with_reducible (first | refine And.intro ?_ ?_ | intro _ | (refine hKv _ _ (AWp_nop ?_); clear hKv Kv) | (refine hKA ?_; clear hKA hKB KA KB) | (refine hKB ?_; clear hKA hKB KA KB) | refine Wp ?_ | fail) | ((first | with_reducible (first | (refine hKv _ _ ?_; clear hKv Kv) | (refine Wr ?_; intro Kv hKv) | refine AWp_retR ?_ | fail) | refine Wc ?_ | fail); try simp (dsimp := false) only [go_sem, Nat.reduceAdd, Nat.reduceBEq, Nat.reduceEqDiff, Nat.reduceLT, Nat.reduceLeDiff, Nat.reduceMul, Int.reduceToNat, reduceCtorEq, ↓reduceIte, us, hid]) | (refine AWp_condC rfl ?_; intro KA KB hKA hKB; try simp only [onB_true, onB_false, onB_dec, onB_ndec, onB_not, onB_and, onB_or]) | (refine AWp_condA rfl ?_ ?_) | with_reducible (first | refine onB_of ?_ ?_ | rfl) | omega))
    all_goals try (refine AWp_skip ?_; simp (dsimp := false) only [go_sem, Nat.reduceAdd, Nat.reduceBEq, Nat.reduceEqDiff, Nat.reduceLT, Nat.reduceLeDiff, Nat.reduceMul, Int.reduceToNat, reduceCtorEq, ↓reduceIte, hr, h1, hid])
    all_goals first
      | omega
      | exact keepS hk (by simp) (closed_set (closed_self H) (gr_bel _ _ _ _)) (by simp [Bel_tu])
namespace FN46
def tks : Nat → List Nat | 0 => [0, 7] | 1 => [] | _ => []
def tmu : List Nat := []
def tin : List Nat := [0, 1]
abbrev tfn := @Tryd.func46
end FN46
attribute [go_sem] FN46.tks FN46.tmu FN46.tin Tryd.ntmps46 Tryd.results46
open FN46 in
theorem rNeed_A (L : List Tk) (hL : L.length ≤ 200) (id : Nat) (p : Nat) (hp : p ≤ L.length) (e : Int) (s : Bs) (hs : s ≠ []) (H : Heap) (K : V → Heap → Prop) (hr : H[id]? = some (grO L ⟨p, e⟩)) (hk : K (.tu []) (H.set id (grO L (mustP L s ⟨p, e⟩)))) :
    ACalls Tryd.prog 46 [.pt id 0 0 0, .d (.s s)] H K := by
  have hid := lt_of_get hr
  rw [mustP] at hk
  cases hn : isN L s ⟨p, e⟩ with
  | true =>
    rw [hn, if_pos rfl] at hk
    have hh := fun K hk => rPassT_A L hL id p e s hs hn H K hr hk
    simp only [grO] at *
    refine We ?_
    have c11 := hh; have us := hr
    (repeat' (first | with_reducible (first | refine And.intro ?_ ?_ | intro _ | (refine hKv _ _ (AWp_nop ?_); clear hKv Kv) | (refine hKA ?_; clear hKA hKB KA KB) | (refine hKB ?_; clear hKA hKB KA KB) | refine Wp ?_ | fail) | ((first | with_reducible (first | (refine hKv _ _ ?_; clear hKv Kv) | (refine Wr ?_; intro Kv hKv) | refine AWp_retR ?_ | fail) | refine Wc ?_ | fail); try simp (dsimp := false) only [go_sem, Nat.reduceAdd, Nat.reduceBEq, Nat.reduceEqDiff, Nat.reduceLT, Nat.reduceLeDiff, Nat.reduceMul, Int.reduceToNat, reduceCtorEq, ↓reduceIte, us, hid]) | (refine AWp_condC rfl ?_; intro KA KB hKA hKB; try simp only [onB_true, onB_false, onB_dec, onB_ndec, onB_not, onB_and, onB_or]) | (refine AWp_condA rfl ?_ ?_) | with_reducible (first | refine onB_of ?_ ?_ | rfl) | omega))
    all_goals try (refine AWp_skip ?_; simp (dsimp := false) only [go_sem, Nat.reduceAdd, Nat.reduceBEq, Nat.reduceEqDiff, Nat.reduceLT, Nat.reduceLeDiff, Nat.reduceMul, Int.reduceToNat, reduceCtorEq, ↓reduceIte, hr, hid])
    all_goals first
      | omega
      | exact keepS hk (by simp) (closed_set (closed_self H) (gr_bel _ _ _ _)) (by simp [Bel_tu])
  | false =>
    rw [hn, if_neg (by decide)] at hk
    have hh := fun K hk => rPassF_A L hL id p hp e s hs hn H K hr hk
    have ho := fun K hk => rOdd_A L hL id ⟨p, e⟩ hp H K hr hk
    simp only [grO] at *
    refine We ?_
    have c11 := hh; have c12 := ho; have us := hr
    (repeat' (first | with_reducible (first | refine And.intro ?_ ?_ | intro _ | (refine hKv _ _ (AWp_nop ?_); clear hKv Kv) | (refine hKA ?_; clear hKA hKB KA KB) | (refine hKB ?_; clear hKA hKB KA KB) | refine Wp ?_ | fail) | ((first | with_reducible (first | (refine hKv _ _ ?_; clear hKv Kv) | (refine Wr ?_; intro Kv hKv) | refine AWp_retR ?_ | fail) | refine Wc ?_ | fail); try simp (dsimp := false) only [go_sem, Nat.reduceAdd, Nat.reduceBEq, Nat.reduceEqDiff, Nat.reduceLT, Nat.reduceLeDiff, Nat.reduceMul, Int.reduceToNat, reduceCtorEq, ↓reduceIte, us, hid]) | (refine AWp_condC rfl ?_; intro KA KB hKA hKB; try simp only [onB_true, onB_false, onB_dec, onB_ndec, onB_not, onB_and, onB_or]) | (refine AWp_condA rfl ?_ ?_) | with_reducible (first | refine onB_of ?_ ?_ | rfl) | omega))
    all_goals try (refine AWp_skip ?_; simp (dsimp := false) only [go_sem, Nat.reduceAdd, Nat.reduceBEq, Nat.reduceEqDiff, Nat.reduceLT, Nat.reduceLeDiff, Nat.reduceMul, Int.reduceToNat, reduceCtorEq, ↓reduceIte, hr, hid])
    all_goals first
      | omega
      | exact keepS hk (by simp) (closed_set (closed_self H) (gr_bel _ _ _ _)) (by simp [Bel_tu])
namespace FN45
def tks : Nat → List Nat | 0 => [0, 1] | 1 => [0, 1, 6] | 2 => [0, 14] | 3 => [] | 4 => [4] | 5 => [0] | 6 => [4] | _ => []
def tmu : List Nat := []
def tin : List Nat := [0, 1]
def tnd : Nat → Nat | 6 => 12 | _ => 0
abbrev tfn := @Tryd.func45
end FN45
attribute [go_sem] FN45.tks FN45.tmu FN45.tin FN45.tnd Tryd.ntmps45 Tryd.results45
open FN45 in
theorem rKind_A (L : List Tk) (hL : L.length ≤ 200) (id : Nat) (p : Nat) (hp : p ≤ L.length) (e : Int) (k : Int) (hk0 : k ≠ 0) (H : Heap) (K : V → Heap → Prop) (hr : H[id]? = some (grO L ⟨p, e⟩)) (hk : K (.d (.s (kindT L k ⟨p, e⟩))) (H.set id (grO L (kindP L k ⟨p, e⟩)))) :
    ACalls Tryd.prog 45 [.pt id 0 0 0, .d (.i .i64 k)] H K := by
  have hid := lt_of_get hr
  obtain ⟨ga, sa, gs, ss, gsa, ssa, gl0, glk, sl0, slk⟩ := atH hr
  have hpk := fun K hk => rPeek_A L hL id p e hp 0 (by omega) H K hr hk
  have ho := fun K hk => rOdd_A L hL id ⟨p, e⟩ hp H K hr hk
  rw [Nat.add_zero] at hpk
  rw [kindT, kindP] at hk
  by_cases he : e = 0
  · have q0 : (e = 0) = True := eq_true he
    by_cases h4 : (tokAt L p).k = k
    · have hlt := tokAt_lt (L := L) (i := p) (by omega)
      have hx := tokAt_get hlt
      rw [if_pos ⟨he, h4⟩, if_pos he, if_pos h4, nxt] at hk
      rw [pkK, if_pos he] at hpk
      have q2 : ((tokAt L p).k = k) = True := eq_true h4
      have h2 : (((p + 1 : Nat) : Int) - 1) = (p : Int) := by omega
      have h3 : ((0 : Int) ≤ (p : Int)) = True := eq_true (by omega)
      have h5 : ((p : Int) < (L.length : Int)) = True := eq_true (by omega)
      simp only [grO] at *
      refine We ?_
      have c11 := hpk; have c12 := ho; have us := an hr (an q0 (an q2 (an h2 (an h3 (an h5 hx)))))
      exact W33
    · rw [if_neg (fun h => h4 h.2), if_pos he, if_neg h4] at hk
      rw [pkK, if_pos he] at hpk
      have q2 : ((tokAt L p).k = k) = False := eq_false h4
      simp only [grO] at *
      refine We ?_
      have c11 := hpk; have c12 := ho; have us := an hr (an q0 q2)
      exact W34
  · rw [if_neg (fun h => he h.1), if_neg he] at hk
    rw [pkK, if_neg he] at hpk
    have hst : stuckP L ⟨p, e⟩ = ⟨p, e⟩ := by rw [stuckP, wrongP, if_neg he]
    rw [hst] at ho
    have q2 : ((0 : Int) = k) = False := eq_false (fun h => hk0 h.symm)
    simp only [grO] at *
    refine We ?_
    have c11 := hpk; have c12 := ho; have us := an hr q2
    exact W34
namespace FN25
def tks : Nat → List Nat | 0 => [0, 1] | 1 => [0, 1, 6] | 2 => [1] | 3 => [4] | _ => []
def tmu : List Nat := []
def tin : List Nat := [0, 1]
abbrev tfn := @Tryd.func25
end FN25
attribute [go_sem] FN25.tks FN25.tmu FN25.tin Tryd.ntmps25 Tryd.results25
open FN25 in
theorem rLevel_A (L : List Tk) (id : Nat) (p : Nat) (e : Int) (n : Int) (H : Heap) (K : V → Heap → Prop) (hr : H[id]? = some (grO L ⟨p, e⟩)) (hk : K (.d (.i .i64 n)) (H.set id (grO L (levP n ⟨p, e⟩)))) :
    ACalls Tryd.prog 25 [.pt id 0 0 0, .d (.i .i64 n)] H K := by
  have hid := lt_of_get hr
  rw [levP] at hk
  by_cases h : 30 < n
  · have h1 : ((30 : Int) < n) = True := eq_true h
    rw [if_pos h] at hk
    have hw := fun K hk => rHalt_A L id ⟨p, e⟩ 8 H K hr hk
    simp only [grO] at *
    refine We ?_
    have c11 := hw; have us := an hr h1
    exact W35
  · have h1 : ((30 : Int) < n) = False := eq_false h
    rw [if_neg h, set_same hr] at hk
    refine We ?_
    have us := h1
    exact W15
namespace FN43
def tks : Nat → List Nat | 0 => [0, 1] | 1 => [0, 1, 6] | 2 => [4] | _ => []
def tmu : List Nat := []
def tin : List Nat := [0, 1]
abbrev tfn := @Tryd.func43
end FN43
attribute [go_sem] FN43.tks FN43.tmu FN43.tin Tryd.ntmps43 Tryd.results43
open FN43 in
theorem rBound_A (L : List Tk) (hL : L.length ≤ 200) (id : Nat) (p : Nat) (hp : p ≤ L.length) (e : Int) (s : Bs) (hs : s ≠ []) (H : Heap) (K : V → Heap → Prop) (hr : H[id]? = some (grO L ⟨p, e⟩)) (hk : K (.d (.b (opensP L s ⟨p, e⟩))) H) :
    ACalls Tryd.prog 43 [.pt id 0 0 0, .d (.s s)] H K := by
  have hpk := fun K hk => rPeek_A L hL id p e hp 1 (by omega) H K hr hk
  have hi := fun K hk => rNext_A L hL id p e hp s hs H K hr hk
  rw [opensP] at hk
  cases hn : isN L s ⟨p, e⟩ with
  | true =>
    rw [hn] at hi hk
    rw [Bool.true_and] at hk
    have he := isN_e hn
    simp only [] at he
    rw [pkK, if_pos he] at hpk
    simp only [] at hk
    refine We ?_
    have c11 := hpk; have c12 := hi; have us := eq_self (0 : Nat)
    exact W15
  | false =>
    rw [hn] at hi hk
    rw [Bool.false_and] at hk
    refine We ?_
    have c11 := hpk; have c12 := hi; have us := eq_self (0 : Nat)
    exact W15
end Go.Proofs.YtmhabdopcbokoaaDoor.Gq
