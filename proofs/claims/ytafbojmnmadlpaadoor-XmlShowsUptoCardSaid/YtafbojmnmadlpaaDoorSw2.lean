/- Events as text: what the reference makes. No condition but that the tables of package unicode/utf8 and of marks, and what package bytealg calls its greatest length, are there. -/
import Derived.Test.YtafbojmnmadlpaaDoorEc5
import Derived.Test.YtafbojmnmadlpaaDoorSw0
import Derived.Test.YtafbojmnmadlpaaDoorEs1
import Derived.Test.YtafbojmnmadlpaaDoorEcN
set_option linter.all false
set_option linter.unusedSimpArgs false
set_option linter.unusedVariables false
namespace Go.Proofs.YtafbojmnmadlpaaDoor
open Go Go.Proofs.YtafbojmnmadlpaaDoor.Ab
variable [Glo] [U8] [Ml] [Ec]
set_option maxHeartbeats 8000000
set_option maxRecDepth 20000
/-- What is known ahead of an event. -/
structure Wr where
  i : Nat
  s : Es
  b : Nat
def wrFr (l : List Ev) (H : Heap) (y : Wr) : Ab.Frame := [(0, .d (.sl 3 (l.map evD))), (5, .d (.s (swAt l y.i).acc)), (6, .os H.length y.b), (7, .d (.i .i64 y.i))]
def wrHp (l : List Ev) (y : Wr) : Heap := [Ob.row y.b 9 1 ((swAt l y.i).names.map strC)]
theorem wrHp_bel (l : List Ev) (y : Wr) (n : Nat) : ∀ ob, ob ∈ wrHp l y → ObBel n ob := fun ob hob => by
  simp only [wrHp, List.mem_cons, List.not_mem_nil, or_false] at hob
  subst hob
  exact obBel_str _ _ _ _

/- the live slots of pleacher/pleacherref.EventsText -/
def ks_39 : Nat → List Nat
  | 0 => [0]
  | 1 => [0, 4]
  | 2 => [0, 4, 12]
  | 3 => [2, 3]
  | 4 => [0, 5]
  | 5 => [0, 5, 6]
  | 6 => [0, 5, 6, 7]
  | 7 => [0, 5, 6, 7, 17]
  | 8 => [0, 5, 6, 7]
  | 9 => [0, 5, 6, 7, 8]
  | 10 => [0, 5, 6, 7, 8, 56]
  | 11 => [0, 5, 6, 7, 8]
  | 12 => [0, 5, 6, 7, 8, 63]
  | 13 => [0, 5, 6, 7, 64]
  | 14 => [0, 5, 6, 7]
  | 15 => [0, 5, 6, 7]
  | 16 => [0, 5, 6, 7]
  | 17 => [0, 5, 6, 7, 8, 63, 82]
  | 18 => [0, 5, 6, 7]
  | 19 => [0, 5, 6, 7]
  | 20 => [0, 5, 6, 7, 8, 63, 100]
  | 21 => [0, 5, 6, 7]
  | 22 => [0, 5, 6, 7, 8, 63, 119]
  | 23 => [0, 5, 6, 7]
  | 24 => [0, 5, 6, 7, 8, 129]
  | 25 => [0, 5, 6, 7]
  | 26 => [2, 3]
  | _ => []
def mu_39 : List Nat := [6]
def in_39 : List Nat := [0]
def nd_39 : Nat → Nat
  | 21 => 17
  | _ => 0
theorem eventsText_A (l : List Ev) (hS : EvSh l) (H : Heap) (K : V → Heap → Prop) (hk : K (.tu [.d (.s (shown l)), .d (.i .i64 (eventsFault l))]) H) :
    ACalls Tryd.prog 39 [.d (.sl 3 (l.map evD))] H K := by
  have hS1 := hS.1
  by_cases hf : eventsFault l = 0
  · have hN : l.length ≤ 400 := by
      by_cases h : l.length ≤ 400
      · exact h
      · rw [eventsFault_big h] at hf; cases hf
    have hgo := hf
    rw [eventsFault_go hN] at hgo
    rw [shown, if_pos hf, hf] at hk
    
    refine ACalls_of Tryd.func39 rfl in_39 (Nat.le_of_ble_eq_true rfl) ?_
    intro F hF
    simp (dsimp := false) only [go_sem, Nat.reduceAdd, Nat.reduceBEq, Nat.reduceEqDiff, Nat.reduceLT, Nat.reduceLeDiff, Nat.reduceMul, Int.reduceToNat, reduceCtorEq, ↓reduceIte, Tryd.ntmps39, Tryd.results39, ks_39, mu_39, nd_39, ti_ag3, ti_ag9, ti_fl100_0, ti_fl100_1, ti_fl100_2, ti_hb28, ti_hb30, ti_sb22, ti_sb49, ti_sl22, ti_sl49, evD, evV, hf, in_39] at hF
    subst hF
    repeat' (first
      | with_reducible refine And.intro ?_ ?_
      | with_reducible intro _
      | with_reducible refine AWp_seq ?_
      | with_reducible refine AWp_block ?_
      | (with_reducible refine hKv _ _ (AWp_nop ?_); clear hKv Kv)
      | (with_reducible refine hKv _ _ ?_; clear hKv Kv; simp (dsimp := false) only [go_sem, Nat.reduceAdd, Nat.reduceBEq, Nat.reduceEqDiff, Nat.reduceLT, Nat.reduceLeDiff, Nat.reduceMul, Int.reduceToNat, reduceCtorEq, ↓reduceIte, Tryd.ntmps39, Tryd.results39, ks_39, mu_39, nd_39, ti_ag3, ti_ag9, ti_fl100_0, ti_fl100_1, ti_fl100_2, ti_hb28, ti_hb30, ti_sb22, ti_sb49, ti_sl22, ti_sl49, evD, evV, hf])
      | (with_reducible refine hKA ?_; clear hKA hKB KA KB)
      | (with_reducible refine hKB ?_; clear hKA hKB KA KB)
      | ((first | with_reducible refine AWp_regC mu_39 ks_39 ?_ | with_reducible refine AWp_draw nd_39 mu_39 ks_39 ti_mixed (by kernel_rfl) ?_); intro Kv hKv; simp (dsimp := false) only [go_sem, Nat.reduceAdd, Nat.reduceBEq, Nat.reduceEqDiff, Nat.reduceLT, Nat.reduceLeDiff, Nat.reduceMul, Int.reduceToNat, reduceCtorEq, ↓reduceIte, Tryd.ntmps39, Tryd.results39, ks_39, mu_39, nd_39, ti_ag3, ti_ag9, ti_fl100_0, ti_fl100_1, ti_fl100_2, ti_hb28, ti_hb30, ti_sb22, ti_sb49, ti_sl22, ti_sl49, evD, evV, hf])
      | with_reducible refine AWp_skipN ?_
      | with_reducible refine AWp_exitO (by repeat (first | with_reducible exact Out.hit | with_reducible apply Out.thenA | with_reducible apply Out.out rfl)) ?_
      | (with_reducible refine AWp_retR ?_; simp (dsimp := false) only [go_sem, Nat.reduceAdd, Nat.reduceBEq, Nat.reduceEqDiff, Nat.reduceLT, Nat.reduceLeDiff, Nat.reduceMul, Int.reduceToNat, reduceCtorEq, ↓reduceIte, Tryd.ntmps39, Tryd.results39, ks_39, mu_39, nd_39, ti_ag3, ti_ag9, ti_fl100_0, ti_fl100_1, ti_fl100_2, ti_hb28, ti_hb30, ti_sb22, ti_sb49, ti_sl22, ti_sl49, evD, evV, hf])
      | ((first | with_reducible refine AWp_regE mu_39 ks_39 ?_ | with_reducible refine AWp_drawE nd_39 mu_39 ks_39 ti_mixed (by kernel_rfl) ?_); intro Kv hKv; simp (dsimp := false) only [go_sem, Nat.reduceAdd, Nat.reduceBEq, Nat.reduceEqDiff, Nat.reduceLT, Nat.reduceLeDiff, Nat.reduceMul, Int.reduceToNat, reduceCtorEq, ↓reduceIte, Tryd.ntmps39, Tryd.results39, ks_39, mu_39, nd_39, ti_ag3, ti_ag9, ti_fl100_0, ti_fl100_1, ti_fl100_2, ti_hb28, ti_hb30, ti_sb22, ti_sb49, ti_sl22, ti_sl49, evD, evV, hf])
      | (refine AWp_condC rfl ?_; intro KA KB hKA hKB; try simp only [onB_true, onB_false, onB_dec, onB_ndec, onB_not, onB_and, onB_or])
      | (refine AWp_condA rfl ?_ ?_)
      | ((first | refine eventsFault_A l hS _ _ ?_ | refine QCall_of (eventsFault_A l hS _ _ (Two_intro _ _)) ?_); try simp (dsimp := false) only [go_sem, Nat.reduceAdd, Nat.reduceBEq, Nat.reduceEqDiff, Nat.reduceLT, Nat.reduceLeDiff, Nat.reduceMul, Int.reduceToNat, reduceCtorEq, ↓reduceIte, Tryd.ntmps39, Tryd.results39, ks_39, mu_39, nd_39, ti_ag3, ti_ag9, ti_fl100_0, ti_fl100_1, ti_fl100_2, ti_hb28, ti_hb30, ti_sb22, ti_sb49, ti_sl22, ti_sl49, evD, evV, hf])
      | with_reducible refine onB_of ?_ ?_
      | with_reducible rfl
      | omega)
    refine AWp_whileH (fun y : Wr => SwOk l y.i y.s) (wrFr l H) (wrHp l) (fun y => l.length - y.i) ⟨0, evSt, 0⟩ (SwOk.zero hgo) ?_ ?_ ?_ ?_
    · first | rfl | (simp [wrHp, swAt]; done)
    · simp only [wrFr]
      simp (dsimp := false) only [go_sem, Nat.reduceAdd, Nat.reduceBEq, Nat.reduceEqDiff, Nat.reduceLT, Nat.reduceLeDiff, Nat.reduceMul, Int.reduceToNat, reduceCtorEq, ↓reduceIte, Tryd.ntmps39, Tryd.results39, ks_39, mu_39, nd_39, ti_ag3, ti_ag9, ti_fl100_0, ti_fl100_1, ti_fl100_2, ti_hb28, ti_hb30, ti_sb22, ti_sb49, ti_sl22, ti_sl49, evD, evV, hf]
      first | done | (simp [swAt]; done)
    · rintro y _ ob hob
      exact wrHp_bel l y _ ob hob
    rintro y hy
    have hcl : Closed H (H ++ wrHp l y) := closed_app (wrHp_bel l y _)
    obtain ⟨i, s, b⟩ := y
    simp only [wrFr, wrHp] at hcl hy ⊢
    have hyi := hy.hi
    have hab := hy.ab
    by_cases hin : i < l.length
    · obtain ⟨x, hx⟩ : ∃ x, l[i]? = some x := ⟨l[i], List.getElem?_eq_getElem hin⟩
      have hxs := hS.2 x (List.mem_of_getElem? hx)
      have hin' : ((i : Int) < (l.length : Int)) = True := eq_true (by omega)
      obtain ⟨q1, q2, q3, q4⟩ := evGo_ok1 hx hy.ev
      have hst := hy.step hS hx
      have hsu := swAt_succ hx
      have hnb := hy.nb
      have hnn := hy.n
      have hn20 := hy.n20
      have hel := escT_len x.vl
      have htag := hy.tag
      generalize swAt l i = Y at hcl hab hsu hnb hnn htag ⊢
      obtain ⟨acc, names, bare⟩ := Y
      simp only [] at hcl hab hsu hnb hnn htag ⊢
      have ways : (bare = false ∧ i = 0) ∨ (∃ z, 0 < i ∧ l[((i : Int) - 1).toNat]? = some z ∧ ((bare = true ∧ z.k = 1) ∨ (bare = true ∧ z.k = 2) ∨ (bare = false ∧ ¬ z.k = 1 ∧ ¬ z.k = 2))) := by
        by_cases h0 : i = 0
        · refine .inl ⟨?_, h0⟩
          cases bare
          · rfl
          · obtain ⟨_, h, _⟩ := htag.1 rfl
            omega
        · obtain ⟨z, hz⟩ : ∃ z, l[i - 1]? = some z := ⟨l[i - 1]'(by omega), List.getElem?_eq_getElem (by omega)⟩
          refine .inr ⟨z, by omega, by rw [show ((i : Int) - 1).toNat = i - 1 by omega]; exact hz, ?_⟩
          cases bare
          · refine .inr (.inr ⟨rfl, fun h => ?_, fun h => ?_⟩)
            · have := htag.2 ⟨z, by omega, hz, .inl h⟩; cases this
            · have := htag.2 ⟨z, by omega, hz, .inr h⟩; cases this
          · obtain ⟨z', _, hz', hzk⟩ := htag.1 rfl
            rw [hz] at hz'
            cases hz'
            rcases hzk with h | h
            · exact .inl ⟨rfl, h⟩
            · exact .inr (.inl ⟨rfl, h⟩)
      have hge : 0 < i → ((0 : Int) ≤ (i : Int) - 1) = True := fun _ => eq_true (by omega)
      have hlt : ((i : Int) - 1 < (l.length : Int)) = True := eq_true (by omega)
      obtain h1 | h1 | h1 | h1 | h1 : x.k = 1 ∨ x.k = 2 ∨ x.k = 3 ∨ x.k = 4 ∨ x.k = 5 := by omega
      · skip
        rcases ways with ⟨rfl, hi0⟩ | ⟨z, hi0, hz, ⟨rfl, z1⟩ | ⟨rfl, z2⟩ | ⟨rfl, z1, z2⟩⟩
        · have hit : ((0 : Int) < (i : Int)) = False := eq_false (by omega)
          
          repeat' (first
            | with_reducible refine And.intro ?_ ?_
            | with_reducible intro _
            | with_reducible refine AWp_seq ?_
            | with_reducible refine AWp_block ?_
            | (with_reducible refine hKv _ _ (AWp_nop ?_); clear hKv Kv)
            | (with_reducible refine hKv _ _ ?_; clear hKv Kv; simp (dsimp := false) only [go_sem, Nat.reduceAdd, Nat.reduceBEq, Nat.reduceEqDiff, Nat.reduceLT, Nat.reduceLeDiff, Nat.reduceMul, Int.reduceToNat, reduceCtorEq, ↓reduceIte, Tryd.ntmps39, Tryd.results39, ks_39, mu_39, nd_39, ti_ag3, ti_ag9, ti_fl100_0, ti_fl100_1, ti_fl100_2, ti_hb28, ti_hb30, ti_sb22, ti_sb49, ti_sl22, ti_sl49, evD, evV, h1, Int.reduceEq, decide_true, decide_false, Bool.not_true, Bool.not_false, not_true_eq_false, not_false_eq_true, true_implies, false_implies, and_true, true_and, hx, hin', List.length_map, hit])
            | (with_reducible refine hKA ?_; clear hKA hKB KA KB)
            | (with_reducible refine hKB ?_; clear hKA hKB KA KB)
            | ((first | with_reducible refine AWp_regC mu_39 ks_39 ?_ | with_reducible refine AWp_draw nd_39 mu_39 ks_39 ti_mixed (by kernel_rfl) ?_); intro Kv hKv; simp (dsimp := false) only [go_sem, Nat.reduceAdd, Nat.reduceBEq, Nat.reduceEqDiff, Nat.reduceLT, Nat.reduceLeDiff, Nat.reduceMul, Int.reduceToNat, reduceCtorEq, ↓reduceIte, Tryd.ntmps39, Tryd.results39, ks_39, mu_39, nd_39, ti_ag3, ti_ag9, ti_fl100_0, ti_fl100_1, ti_fl100_2, ti_hb28, ti_hb30, ti_sb22, ti_sb49, ti_sl22, ti_sl49, evD, evV, h1, Int.reduceEq, decide_true, decide_false, Bool.not_true, Bool.not_false, not_true_eq_false, not_false_eq_true, true_implies, false_implies, and_true, true_and, hx, hin', List.length_map, hit])
            | with_reducible refine AWp_skipN ?_
            | with_reducible refine AWp_exitO (by repeat (first | with_reducible exact Out.hit | with_reducible apply Out.thenA | with_reducible apply Out.out rfl)) ?_
            | (with_reducible refine AWp_retR ?_; simp (dsimp := false) only [go_sem, Nat.reduceAdd, Nat.reduceBEq, Nat.reduceEqDiff, Nat.reduceLT, Nat.reduceLeDiff, Nat.reduceMul, Int.reduceToNat, reduceCtorEq, ↓reduceIte, Tryd.ntmps39, Tryd.results39, ks_39, mu_39, nd_39, ti_ag3, ti_ag9, ti_fl100_0, ti_fl100_1, ti_fl100_2, ti_hb28, ti_hb30, ti_sb22, ti_sb49, ti_sl22, ti_sl49, evD, evV, h1, Int.reduceEq, decide_true, decide_false, Bool.not_true, Bool.not_false, not_true_eq_false, not_false_eq_true, true_implies, false_implies, and_true, true_and, hx, hin', List.length_map, hit])
            | ((first | with_reducible refine AWp_regE mu_39 ks_39 ?_ | with_reducible refine AWp_drawE nd_39 mu_39 ks_39 ti_mixed (by kernel_rfl) ?_); intro Kv hKv; simp (dsimp := false) only [go_sem, Nat.reduceAdd, Nat.reduceBEq, Nat.reduceEqDiff, Nat.reduceLT, Nat.reduceLeDiff, Nat.reduceMul, Int.reduceToNat, reduceCtorEq, ↓reduceIte, Tryd.ntmps39, Tryd.results39, ks_39, mu_39, nd_39, ti_ag3, ti_ag9, ti_fl100_0, ti_fl100_1, ti_fl100_2, ti_hb28, ti_hb30, ti_sb22, ti_sb49, ti_sl22, ti_sl49, evD, evV, h1, Int.reduceEq, decide_true, decide_false, Bool.not_true, Bool.not_false, not_true_eq_false, not_false_eq_true, true_implies, false_implies, and_true, true_and, hx, hin', List.length_map, hit])
            | (refine AWp_condC rfl ?_; intro KA KB hKA hKB; try simp only [onB_true, onB_false, onB_dec, onB_ndec, onB_not, onB_and, onB_or])
            | (refine AWp_condA rfl ?_ ?_)
            | with_reducible refine onB_of ?_ ?_
            | with_reducible rfl
            | omega)
          all_goals first
            | omega
            | exact hcl
            | (simp; omega)
            | exact ⟨⟨i + 1, evS s x, b + 1⟩, hst, by show l.length - (i + 1) < l.length - i; omega, by simp [hsu, swStep, h1, strC], by rw [hsu]; simp [swStep, swPre, swTxt, h1, List.append_assoc]; omega⟩
            | exact ⟨⟨i + 1, evS s x, b + 1⟩, hst, by show l.length - (i + 1) < l.length - i; omega, by simp [hsu, swStep, h1, strC], by rw [hsu]; simp [swStep, swPre, swTxt, h1, List.append_assoc]⟩
        · have hit : ((0 : Int) < (i : Int)) = True := eq_true (by omega)
          have hge := hge hi0
          
          repeat' (first
            | with_reducible refine And.intro ?_ ?_
            | with_reducible intro _
            | with_reducible refine AWp_seq ?_
            | with_reducible refine AWp_block ?_
            | (with_reducible refine hKv _ _ (AWp_nop ?_); clear hKv Kv)
            | (with_reducible refine hKv _ _ ?_; clear hKv Kv; simp (dsimp := false) only [go_sem, Nat.reduceAdd, Nat.reduceBEq, Nat.reduceEqDiff, Nat.reduceLT, Nat.reduceLeDiff, Nat.reduceMul, Int.reduceToNat, reduceCtorEq, ↓reduceIte, Tryd.ntmps39, Tryd.results39, ks_39, mu_39, nd_39, ti_ag3, ti_ag9, ti_fl100_0, ti_fl100_1, ti_fl100_2, ti_hb28, ti_hb30, ti_sb22, ti_sb49, ti_sl22, ti_sl49, evD, evV, h1, Int.reduceEq, decide_true, decide_false, Bool.not_true, Bool.not_false, not_true_eq_false, not_false_eq_true, true_implies, false_implies, and_true, true_and, hx, hin', List.length_map, hit, hge, hlt, hz, z1])
            | (with_reducible refine hKA ?_; clear hKA hKB KA KB)
            | (with_reducible refine hKB ?_; clear hKA hKB KA KB)
            | ((first | with_reducible refine AWp_regC mu_39 ks_39 ?_ | with_reducible refine AWp_draw nd_39 mu_39 ks_39 ti_mixed (by kernel_rfl) ?_); intro Kv hKv; simp (dsimp := false) only [go_sem, Nat.reduceAdd, Nat.reduceBEq, Nat.reduceEqDiff, Nat.reduceLT, Nat.reduceLeDiff, Nat.reduceMul, Int.reduceToNat, reduceCtorEq, ↓reduceIte, Tryd.ntmps39, Tryd.results39, ks_39, mu_39, nd_39, ti_ag3, ti_ag9, ti_fl100_0, ti_fl100_1, ti_fl100_2, ti_hb28, ti_hb30, ti_sb22, ti_sb49, ti_sl22, ti_sl49, evD, evV, h1, Int.reduceEq, decide_true, decide_false, Bool.not_true, Bool.not_false, not_true_eq_false, not_false_eq_true, true_implies, false_implies, and_true, true_and, hx, hin', List.length_map, hit, hge, hlt, hz, z1])
            | with_reducible refine AWp_skipN ?_
            | with_reducible refine AWp_exitO (by repeat (first | with_reducible exact Out.hit | with_reducible apply Out.thenA | with_reducible apply Out.out rfl)) ?_
            | (with_reducible refine AWp_retR ?_; simp (dsimp := false) only [go_sem, Nat.reduceAdd, Nat.reduceBEq, Nat.reduceEqDiff, Nat.reduceLT, Nat.reduceLeDiff, Nat.reduceMul, Int.reduceToNat, reduceCtorEq, ↓reduceIte, Tryd.ntmps39, Tryd.results39, ks_39, mu_39, nd_39, ti_ag3, ti_ag9, ti_fl100_0, ti_fl100_1, ti_fl100_2, ti_hb28, ti_hb30, ti_sb22, ti_sb49, ti_sl22, ti_sl49, evD, evV, h1, Int.reduceEq, decide_true, decide_false, Bool.not_true, Bool.not_false, not_true_eq_false, not_false_eq_true, true_implies, false_implies, and_true, true_and, hx, hin', List.length_map, hit, hge, hlt, hz, z1])
            | ((first | with_reducible refine AWp_regE mu_39 ks_39 ?_ | with_reducible refine AWp_drawE nd_39 mu_39 ks_39 ti_mixed (by kernel_rfl) ?_); intro Kv hKv; simp (dsimp := false) only [go_sem, Nat.reduceAdd, Nat.reduceBEq, Nat.reduceEqDiff, Nat.reduceLT, Nat.reduceLeDiff, Nat.reduceMul, Int.reduceToNat, reduceCtorEq, ↓reduceIte, Tryd.ntmps39, Tryd.results39, ks_39, mu_39, nd_39, ti_ag3, ti_ag9, ti_fl100_0, ti_fl100_1, ti_fl100_2, ti_hb28, ti_hb30, ti_sb22, ti_sb49, ti_sl22, ti_sl49, evD, evV, h1, Int.reduceEq, decide_true, decide_false, Bool.not_true, Bool.not_false, not_true_eq_false, not_false_eq_true, true_implies, false_implies, and_true, true_and, hx, hin', List.length_map, hit, hge, hlt, hz, z1])
            | (refine AWp_condC rfl ?_; intro KA KB hKA hKB; try simp only [onB_true, onB_false, onB_dec, onB_ndec, onB_not, onB_and, onB_or])
            | (refine AWp_condA rfl ?_ ?_)
            | with_reducible refine onB_of ?_ ?_
            | with_reducible rfl
            | omega)
          all_goals first
            | omega
            | exact hcl
            | (simp; omega)
            | exact ⟨⟨i + 1, evS s x, b + 1⟩, hst, by show l.length - (i + 1) < l.length - i; omega, by simp [hsu, swStep, h1, strC], by rw [hsu]; simp [swStep, swPre, swTxt, h1, List.append_assoc]; omega⟩
            | exact ⟨⟨i + 1, evS s x, b + 1⟩, hst, by show l.length - (i + 1) < l.length - i; omega, by simp [hsu, swStep, h1, strC], by rw [hsu]; simp [swStep, swPre, swTxt, h1, List.append_assoc]⟩
        · have hit : ((0 : Int) < (i : Int)) = True := eq_true (by omega)
          have hge := hge hi0
          
          repeat' (first
            | with_reducible refine And.intro ?_ ?_
            | with_reducible intro _
            | with_reducible refine AWp_seq ?_
            | with_reducible refine AWp_block ?_
            | (with_reducible refine hKv _ _ (AWp_nop ?_); clear hKv Kv)
            | (with_reducible refine hKv _ _ ?_; clear hKv Kv; simp (dsimp := false) only [go_sem, Nat.reduceAdd, Nat.reduceBEq, Nat.reduceEqDiff, Nat.reduceLT, Nat.reduceLeDiff, Nat.reduceMul, Int.reduceToNat, reduceCtorEq, ↓reduceIte, Tryd.ntmps39, Tryd.results39, ks_39, mu_39, nd_39, ti_ag3, ti_ag9, ti_fl100_0, ti_fl100_1, ti_fl100_2, ti_hb28, ti_hb30, ti_sb22, ti_sb49, ti_sl22, ti_sl49, evD, evV, h1, Int.reduceEq, decide_true, decide_false, Bool.not_true, Bool.not_false, not_true_eq_false, not_false_eq_true, true_implies, false_implies, and_true, true_and, hx, hin', List.length_map, hit, hge, hlt, hz, z2])
            | (with_reducible refine hKA ?_; clear hKA hKB KA KB)
            | (with_reducible refine hKB ?_; clear hKA hKB KA KB)
            | ((first | with_reducible refine AWp_regC mu_39 ks_39 ?_ | with_reducible refine AWp_draw nd_39 mu_39 ks_39 ti_mixed (by kernel_rfl) ?_); intro Kv hKv; simp (dsimp := false) only [go_sem, Nat.reduceAdd, Nat.reduceBEq, Nat.reduceEqDiff, Nat.reduceLT, Nat.reduceLeDiff, Nat.reduceMul, Int.reduceToNat, reduceCtorEq, ↓reduceIte, Tryd.ntmps39, Tryd.results39, ks_39, mu_39, nd_39, ti_ag3, ti_ag9, ti_fl100_0, ti_fl100_1, ti_fl100_2, ti_hb28, ti_hb30, ti_sb22, ti_sb49, ti_sl22, ti_sl49, evD, evV, h1, Int.reduceEq, decide_true, decide_false, Bool.not_true, Bool.not_false, not_true_eq_false, not_false_eq_true, true_implies, false_implies, and_true, true_and, hx, hin', List.length_map, hit, hge, hlt, hz, z2])
            | with_reducible refine AWp_skipN ?_
            | with_reducible refine AWp_exitO (by repeat (first | with_reducible exact Out.hit | with_reducible apply Out.thenA | with_reducible apply Out.out rfl)) ?_
            | (with_reducible refine AWp_retR ?_; simp (dsimp := false) only [go_sem, Nat.reduceAdd, Nat.reduceBEq, Nat.reduceEqDiff, Nat.reduceLT, Nat.reduceLeDiff, Nat.reduceMul, Int.reduceToNat, reduceCtorEq, ↓reduceIte, Tryd.ntmps39, Tryd.results39, ks_39, mu_39, nd_39, ti_ag3, ti_ag9, ti_fl100_0, ti_fl100_1, ti_fl100_2, ti_hb28, ti_hb30, ti_sb22, ti_sb49, ti_sl22, ti_sl49, evD, evV, h1, Int.reduceEq, decide_true, decide_false, Bool.not_true, Bool.not_false, not_true_eq_false, not_false_eq_true, true_implies, false_implies, and_true, true_and, hx, hin', List.length_map, hit, hge, hlt, hz, z2])
            | ((first | with_reducible refine AWp_regE mu_39 ks_39 ?_ | with_reducible refine AWp_drawE nd_39 mu_39 ks_39 ti_mixed (by kernel_rfl) ?_); intro Kv hKv; simp (dsimp := false) only [go_sem, Nat.reduceAdd, Nat.reduceBEq, Nat.reduceEqDiff, Nat.reduceLT, Nat.reduceLeDiff, Nat.reduceMul, Int.reduceToNat, reduceCtorEq, ↓reduceIte, Tryd.ntmps39, Tryd.results39, ks_39, mu_39, nd_39, ti_ag3, ti_ag9, ti_fl100_0, ti_fl100_1, ti_fl100_2, ti_hb28, ti_hb30, ti_sb22, ti_sb49, ti_sl22, ti_sl49, evD, evV, h1, Int.reduceEq, decide_true, decide_false, Bool.not_true, Bool.not_false, not_true_eq_false, not_false_eq_true, true_implies, false_implies, and_true, true_and, hx, hin', List.length_map, hit, hge, hlt, hz, z2])
            | (refine AWp_condC rfl ?_; intro KA KB hKA hKB; try simp only [onB_true, onB_false, onB_dec, onB_ndec, onB_not, onB_and, onB_or])
            | (refine AWp_condA rfl ?_ ?_)
            | with_reducible refine onB_of ?_ ?_
            | with_reducible rfl
            | omega)
          all_goals first
            | omega
            | exact hcl
            | (simp; omega)
            | exact ⟨⟨i + 1, evS s x, b + 1⟩, hst, by show l.length - (i + 1) < l.length - i; omega, by simp [hsu, swStep, h1, strC], by rw [hsu]; simp [swStep, swPre, swTxt, h1, List.append_assoc]; omega⟩
            | exact ⟨⟨i + 1, evS s x, b + 1⟩, hst, by show l.length - (i + 1) < l.length - i; omega, by simp [hsu, swStep, h1, strC], by rw [hsu]; simp [swStep, swPre, swTxt, h1, List.append_assoc]⟩
        · have hit : ((0 : Int) < (i : Int)) = True := eq_true (by omega)
          have hge := hge hi0
          have z1f : (z.k = 1) = False := eq_false z1
          have z2f : (z.k = 2) = False := eq_false z2
          
          repeat' (first
            | with_reducible refine And.intro ?_ ?_
            | with_reducible intro _
            | with_reducible refine AWp_seq ?_
            | with_reducible refine AWp_block ?_
            | (with_reducible refine hKv _ _ (AWp_nop ?_); clear hKv Kv)
            | (with_reducible refine hKv _ _ ?_; clear hKv Kv; simp (dsimp := false) only [go_sem, Nat.reduceAdd, Nat.reduceBEq, Nat.reduceEqDiff, Nat.reduceLT, Nat.reduceLeDiff, Nat.reduceMul, Int.reduceToNat, reduceCtorEq, ↓reduceIte, Tryd.ntmps39, Tryd.results39, ks_39, mu_39, nd_39, ti_ag3, ti_ag9, ti_fl100_0, ti_fl100_1, ti_fl100_2, ti_hb28, ti_hb30, ti_sb22, ti_sb49, ti_sl22, ti_sl49, evD, evV, h1, Int.reduceEq, decide_true, decide_false, Bool.not_true, Bool.not_false, not_true_eq_false, not_false_eq_true, true_implies, false_implies, and_true, true_and, hx, hin', List.length_map, hit, hge, hlt, hz, z1f, z2f])
            | (with_reducible refine hKA ?_; clear hKA hKB KA KB)
            | (with_reducible refine hKB ?_; clear hKA hKB KA KB)
            | ((first | with_reducible refine AWp_regC mu_39 ks_39 ?_ | with_reducible refine AWp_draw nd_39 mu_39 ks_39 ti_mixed (by kernel_rfl) ?_); intro Kv hKv; simp (dsimp := false) only [go_sem, Nat.reduceAdd, Nat.reduceBEq, Nat.reduceEqDiff, Nat.reduceLT, Nat.reduceLeDiff, Nat.reduceMul, Int.reduceToNat, reduceCtorEq, ↓reduceIte, Tryd.ntmps39, Tryd.results39, ks_39, mu_39, nd_39, ti_ag3, ti_ag9, ti_fl100_0, ti_fl100_1, ti_fl100_2, ti_hb28, ti_hb30, ti_sb22, ti_sb49, ti_sl22, ti_sl49, evD, evV, h1, Int.reduceEq, decide_true, decide_false, Bool.not_true, Bool.not_false, not_true_eq_false, not_false_eq_true, true_implies, false_implies, and_true, true_and, hx, hin', List.length_map, hit, hge, hlt, hz, z1f, z2f])
            | with_reducible refine AWp_skipN ?_
            | with_reducible refine AWp_exitO (by repeat (first | with_reducible exact Out.hit | with_reducible apply Out.thenA | with_reducible apply Out.out rfl)) ?_
            | (with_reducible refine AWp_retR ?_; simp (dsimp := false) only [go_sem, Nat.reduceAdd, Nat.reduceBEq, Nat.reduceEqDiff, Nat.reduceLT, Nat.reduceLeDiff, Nat.reduceMul, Int.reduceToNat, reduceCtorEq, ↓reduceIte, Tryd.ntmps39, Tryd.results39, ks_39, mu_39, nd_39, ti_ag3, ti_ag9, ti_fl100_0, ti_fl100_1, ti_fl100_2, ti_hb28, ti_hb30, ti_sb22, ti_sb49, ti_sl22, ti_sl49, evD, evV, h1, Int.reduceEq, decide_true, decide_false, Bool.not_true, Bool.not_false, not_true_eq_false, not_false_eq_true, true_implies, false_implies, and_true, true_and, hx, hin', List.length_map, hit, hge, hlt, hz, z1f, z2f])
            | ((first | with_reducible refine AWp_regE mu_39 ks_39 ?_ | with_reducible refine AWp_drawE nd_39 mu_39 ks_39 ti_mixed (by kernel_rfl) ?_); intro Kv hKv; simp (dsimp := false) only [go_sem, Nat.reduceAdd, Nat.reduceBEq, Nat.reduceEqDiff, Nat.reduceLT, Nat.reduceLeDiff, Nat.reduceMul, Int.reduceToNat, reduceCtorEq, ↓reduceIte, Tryd.ntmps39, Tryd.results39, ks_39, mu_39, nd_39, ti_ag3, ti_ag9, ti_fl100_0, ti_fl100_1, ti_fl100_2, ti_hb28, ti_hb30, ti_sb22, ti_sb49, ti_sl22, ti_sl49, evD, evV, h1, Int.reduceEq, decide_true, decide_false, Bool.not_true, Bool.not_false, not_true_eq_false, not_false_eq_true, true_implies, false_implies, and_true, true_and, hx, hin', List.length_map, hit, hge, hlt, hz, z1f, z2f])
            | (refine AWp_condC rfl ?_; intro KA KB hKA hKB; try simp only [onB_true, onB_false, onB_dec, onB_ndec, onB_not, onB_and, onB_or])
            | (refine AWp_condA rfl ?_ ?_)
            | with_reducible refine onB_of ?_ ?_
            | with_reducible rfl
            | omega)
          all_goals first
            | omega
            | exact hcl
            | (simp; omega)
            | exact ⟨⟨i + 1, evS s x, b + 1⟩, hst, by show l.length - (i + 1) < l.length - i; omega, by simp [hsu, swStep, h1, strC], by rw [hsu]; simp [swStep, swPre, swTxt, h1, List.append_assoc]; omega⟩
            | exact ⟨⟨i + 1, evS s x, b + 1⟩, hst, by show l.length - (i + 1) < l.length - i; omega, by simp [hsu, swStep, h1, strC], by rw [hsu]; simp [swStep, swPre, swTxt, h1, List.append_assoc]⟩
      · skip
        rcases ways with ⟨rfl, hi0⟩ | ⟨z, hi0, hz, ⟨rfl, z1⟩ | ⟨rfl, z2⟩ | ⟨rfl, z1, z2⟩⟩
        · have hit : ((0 : Int) < (i : Int)) = False := eq_false (by omega)
          
          repeat' (first
            | with_reducible refine And.intro ?_ ?_
            | with_reducible intro _
            | with_reducible refine AWp_seq ?_
            | with_reducible refine AWp_block ?_
            | (with_reducible refine hKv _ _ (AWp_nop ?_); clear hKv Kv)
            | (with_reducible refine hKv _ _ ?_; clear hKv Kv; simp (dsimp := false) only [go_sem, Nat.reduceAdd, Nat.reduceBEq, Nat.reduceEqDiff, Nat.reduceLT, Nat.reduceLeDiff, Nat.reduceMul, Int.reduceToNat, reduceCtorEq, ↓reduceIte, Tryd.ntmps39, Tryd.results39, ks_39, mu_39, nd_39, ti_ag3, ti_ag9, ti_fl100_0, ti_fl100_1, ti_fl100_2, ti_hb28, ti_hb30, ti_sb22, ti_sb49, ti_sl22, ti_sl49, evD, evV, h1, Int.reduceEq, decide_true, decide_false, Bool.not_true, Bool.not_false, not_true_eq_false, not_false_eq_true, true_implies, false_implies, and_true, true_and, hx, hin', List.length_map, hit])
            | (with_reducible refine hKA ?_; clear hKA hKB KA KB)
            | (with_reducible refine hKB ?_; clear hKA hKB KA KB)
            | ((first | with_reducible refine AWp_regC mu_39 ks_39 ?_ | with_reducible refine AWp_draw nd_39 mu_39 ks_39 ti_mixed (by kernel_rfl) ?_); intro Kv hKv; simp (dsimp := false) only [go_sem, Nat.reduceAdd, Nat.reduceBEq, Nat.reduceEqDiff, Nat.reduceLT, Nat.reduceLeDiff, Nat.reduceMul, Int.reduceToNat, reduceCtorEq, ↓reduceIte, Tryd.ntmps39, Tryd.results39, ks_39, mu_39, nd_39, ti_ag3, ti_ag9, ti_fl100_0, ti_fl100_1, ti_fl100_2, ti_hb28, ti_hb30, ti_sb22, ti_sb49, ti_sl22, ti_sl49, evD, evV, h1, Int.reduceEq, decide_true, decide_false, Bool.not_true, Bool.not_false, not_true_eq_false, not_false_eq_true, true_implies, false_implies, and_true, true_and, hx, hin', List.length_map, hit])
            | with_reducible refine AWp_skipN ?_
            | with_reducible refine AWp_exitO (by repeat (first | with_reducible exact Out.hit | with_reducible apply Out.thenA | with_reducible apply Out.out rfl)) ?_
            | (with_reducible refine AWp_retR ?_; simp (dsimp := false) only [go_sem, Nat.reduceAdd, Nat.reduceBEq, Nat.reduceEqDiff, Nat.reduceLT, Nat.reduceLeDiff, Nat.reduceMul, Int.reduceToNat, reduceCtorEq, ↓reduceIte, Tryd.ntmps39, Tryd.results39, ks_39, mu_39, nd_39, ti_ag3, ti_ag9, ti_fl100_0, ti_fl100_1, ti_fl100_2, ti_hb28, ti_hb30, ti_sb22, ti_sb49, ti_sl22, ti_sl49, evD, evV, h1, Int.reduceEq, decide_true, decide_false, Bool.not_true, Bool.not_false, not_true_eq_false, not_false_eq_true, true_implies, false_implies, and_true, true_and, hx, hin', List.length_map, hit])
            | ((first | with_reducible refine AWp_regE mu_39 ks_39 ?_ | with_reducible refine AWp_drawE nd_39 mu_39 ks_39 ti_mixed (by kernel_rfl) ?_); intro Kv hKv; simp (dsimp := false) only [go_sem, Nat.reduceAdd, Nat.reduceBEq, Nat.reduceEqDiff, Nat.reduceLT, Nat.reduceLeDiff, Nat.reduceMul, Int.reduceToNat, reduceCtorEq, ↓reduceIte, Tryd.ntmps39, Tryd.results39, ks_39, mu_39, nd_39, ti_ag3, ti_ag9, ti_fl100_0, ti_fl100_1, ti_fl100_2, ti_hb28, ti_hb30, ti_sb22, ti_sb49, ti_sl22, ti_sl49, evD, evV, h1, Int.reduceEq, decide_true, decide_false, Bool.not_true, Bool.not_false, not_true_eq_false, not_false_eq_true, true_implies, false_implies, and_true, true_and, hx, hin', List.length_map, hit])
            | (refine AWp_condC rfl ?_; intro KA KB hKA hKB; try simp only [onB_true, onB_false, onB_dec, onB_ndec, onB_not, onB_and, onB_or])
            | (refine AWp_condA rfl ?_ ?_)
            | ((first | refine escaped_A x.vl (by omega) _ _ ?_ | refine QCall_of (escaped_A x.vl (by omega) _ _ (Two_intro _ _)) ?_); try simp (dsimp := false) only [go_sem, Nat.reduceAdd, Nat.reduceBEq, Nat.reduceEqDiff, Nat.reduceLT, Nat.reduceLeDiff, Nat.reduceMul, Int.reduceToNat, reduceCtorEq, ↓reduceIte, Tryd.ntmps39, Tryd.results39, ks_39, mu_39, nd_39, ti_ag3, ti_ag9, ti_fl100_0, ti_fl100_1, ti_fl100_2, ti_hb28, ti_hb30, ti_sb22, ti_sb49, ti_sl22, ti_sl49, evD, evV, h1, Int.reduceEq, decide_true, decide_false, Bool.not_true, Bool.not_false, not_true_eq_false, not_false_eq_true, true_implies, false_implies, and_true, true_and, hx, hin', List.length_map, hit])
            | with_reducible refine onB_of ?_ ?_
            | with_reducible rfl
            | omega)
          all_goals first
            | omega
            | exact hcl
            | (simp; omega)
            | exact ⟨⟨i + 1, evS s x, b⟩, hst, by show l.length - (i + 1) < l.length - i; omega, by simp [hsu, swStep, h1, strC], by rw [hsu]; simp [swStep, swPre, swTxt, h1, List.append_assoc]; omega⟩
            | exact ⟨⟨i + 1, evS s x, b⟩, hst, by show l.length - (i + 1) < l.length - i; omega, by simp [hsu, swStep, h1, strC], by rw [hsu]; simp [swStep, swPre, swTxt, h1, List.append_assoc]⟩
        · have hit : ((0 : Int) < (i : Int)) = True := eq_true (by omega)
          have hge := hge hi0
          
          repeat' (first
            | with_reducible refine And.intro ?_ ?_
            | with_reducible intro _
            | with_reducible refine AWp_seq ?_
            | with_reducible refine AWp_block ?_
            | (with_reducible refine hKv _ _ (AWp_nop ?_); clear hKv Kv)
            | (with_reducible refine hKv _ _ ?_; clear hKv Kv; simp (dsimp := false) only [go_sem, Nat.reduceAdd, Nat.reduceBEq, Nat.reduceEqDiff, Nat.reduceLT, Nat.reduceLeDiff, Nat.reduceMul, Int.reduceToNat, reduceCtorEq, ↓reduceIte, Tryd.ntmps39, Tryd.results39, ks_39, mu_39, nd_39, ti_ag3, ti_ag9, ti_fl100_0, ti_fl100_1, ti_fl100_2, ti_hb28, ti_hb30, ti_sb22, ti_sb49, ti_sl22, ti_sl49, evD, evV, h1, Int.reduceEq, decide_true, decide_false, Bool.not_true, Bool.not_false, not_true_eq_false, not_false_eq_true, true_implies, false_implies, and_true, true_and, hx, hin', List.length_map, hit, hge, hlt, hz, z1])
            | (with_reducible refine hKA ?_; clear hKA hKB KA KB)
            | (with_reducible refine hKB ?_; clear hKA hKB KA KB)
            | ((first | with_reducible refine AWp_regC mu_39 ks_39 ?_ | with_reducible refine AWp_draw nd_39 mu_39 ks_39 ti_mixed (by kernel_rfl) ?_); intro Kv hKv; simp (dsimp := false) only [go_sem, Nat.reduceAdd, Nat.reduceBEq, Nat.reduceEqDiff, Nat.reduceLT, Nat.reduceLeDiff, Nat.reduceMul, Int.reduceToNat, reduceCtorEq, ↓reduceIte, Tryd.ntmps39, Tryd.results39, ks_39, mu_39, nd_39, ti_ag3, ti_ag9, ti_fl100_0, ti_fl100_1, ti_fl100_2, ti_hb28, ti_hb30, ti_sb22, ti_sb49, ti_sl22, ti_sl49, evD, evV, h1, Int.reduceEq, decide_true, decide_false, Bool.not_true, Bool.not_false, not_true_eq_false, not_false_eq_true, true_implies, false_implies, and_true, true_and, hx, hin', List.length_map, hit, hge, hlt, hz, z1])
            | with_reducible refine AWp_skipN ?_
            | with_reducible refine AWp_exitO (by repeat (first | with_reducible exact Out.hit | with_reducible apply Out.thenA | with_reducible apply Out.out rfl)) ?_
            | (with_reducible refine AWp_retR ?_; simp (dsimp := false) only [go_sem, Nat.reduceAdd, Nat.reduceBEq, Nat.reduceEqDiff, Nat.reduceLT, Nat.reduceLeDiff, Nat.reduceMul, Int.reduceToNat, reduceCtorEq, ↓reduceIte, Tryd.ntmps39, Tryd.results39, ks_39, mu_39, nd_39, ti_ag3, ti_ag9, ti_fl100_0, ti_fl100_1, ti_fl100_2, ti_hb28, ti_hb30, ti_sb22, ti_sb49, ti_sl22, ti_sl49, evD, evV, h1, Int.reduceEq, decide_true, decide_false, Bool.not_true, Bool.not_false, not_true_eq_false, not_false_eq_true, true_implies, false_implies, and_true, true_and, hx, hin', List.length_map, hit, hge, hlt, hz, z1])
            | ((first | with_reducible refine AWp_regE mu_39 ks_39 ?_ | with_reducible refine AWp_drawE nd_39 mu_39 ks_39 ti_mixed (by kernel_rfl) ?_); intro Kv hKv; simp (dsimp := false) only [go_sem, Nat.reduceAdd, Nat.reduceBEq, Nat.reduceEqDiff, Nat.reduceLT, Nat.reduceLeDiff, Nat.reduceMul, Int.reduceToNat, reduceCtorEq, ↓reduceIte, Tryd.ntmps39, Tryd.results39, ks_39, mu_39, nd_39, ti_ag3, ti_ag9, ti_fl100_0, ti_fl100_1, ti_fl100_2, ti_hb28, ti_hb30, ti_sb22, ti_sb49, ti_sl22, ti_sl49, evD, evV, h1, Int.reduceEq, decide_true, decide_false, Bool.not_true, Bool.not_false, not_true_eq_false, not_false_eq_true, true_implies, false_implies, and_true, true_and, hx, hin', List.length_map, hit, hge, hlt, hz, z1])
            | (refine AWp_condC rfl ?_; intro KA KB hKA hKB; try simp only [onB_true, onB_false, onB_dec, onB_ndec, onB_not, onB_and, onB_or])
            | (refine AWp_condA rfl ?_ ?_)
            | ((first | refine escaped_A x.vl (by omega) _ _ ?_ | refine QCall_of (escaped_A x.vl (by omega) _ _ (Two_intro _ _)) ?_); try simp (dsimp := false) only [go_sem, Nat.reduceAdd, Nat.reduceBEq, Nat.reduceEqDiff, Nat.reduceLT, Nat.reduceLeDiff, Nat.reduceMul, Int.reduceToNat, reduceCtorEq, ↓reduceIte, Tryd.ntmps39, Tryd.results39, ks_39, mu_39, nd_39, ti_ag3, ti_ag9, ti_fl100_0, ti_fl100_1, ti_fl100_2, ti_hb28, ti_hb30, ti_sb22, ti_sb49, ti_sl22, ti_sl49, evD, evV, h1, Int.reduceEq, decide_true, decide_false, Bool.not_true, Bool.not_false, not_true_eq_false, not_false_eq_true, true_implies, false_implies, and_true, true_and, hx, hin', List.length_map, hit, hge, hlt, hz, z1])
            | with_reducible refine onB_of ?_ ?_
            | with_reducible rfl
            | omega)
          all_goals first
            | omega
            | exact hcl
            | (simp; omega)
            | exact ⟨⟨i + 1, evS s x, b⟩, hst, by show l.length - (i + 1) < l.length - i; omega, by simp [hsu, swStep, h1, strC], by rw [hsu]; simp [swStep, swPre, swTxt, h1, List.append_assoc]; omega⟩
            | exact ⟨⟨i + 1, evS s x, b⟩, hst, by show l.length - (i + 1) < l.length - i; omega, by simp [hsu, swStep, h1, strC], by rw [hsu]; simp [swStep, swPre, swTxt, h1, List.append_assoc]⟩
        · have hit : ((0 : Int) < (i : Int)) = True := eq_true (by omega)
          have hge := hge hi0
          
          repeat' (first
            | with_reducible refine And.intro ?_ ?_
            | with_reducible intro _
            | with_reducible refine AWp_seq ?_
            | with_reducible refine AWp_block ?_
            | (with_reducible refine hKv _ _ (AWp_nop ?_); clear hKv Kv)
            | (with_reducible refine hKv _ _ ?_; clear hKv Kv; simp (dsimp := false) only [go_sem, Nat.reduceAdd, Nat.reduceBEq, Nat.reduceEqDiff, Nat.reduceLT, Nat.reduceLeDiff, Nat.reduceMul, Int.reduceToNat, reduceCtorEq, ↓reduceIte, Tryd.ntmps39, Tryd.results39, ks_39, mu_39, nd_39, ti_ag3, ti_ag9, ti_fl100_0, ti_fl100_1, ti_fl100_2, ti_hb28, ti_hb30, ti_sb22, ti_sb49, ti_sl22, ti_sl49, evD, evV, h1, Int.reduceEq, decide_true, decide_false, Bool.not_true, Bool.not_false, not_true_eq_false, not_false_eq_true, true_implies, false_implies, and_true, true_and, hx, hin', List.length_map, hit, hge, hlt, hz, z2])
            | (with_reducible refine hKA ?_; clear hKA hKB KA KB)
            | (with_reducible refine hKB ?_; clear hKA hKB KA KB)
            | ((first | with_reducible refine AWp_regC mu_39 ks_39 ?_ | with_reducible refine AWp_draw nd_39 mu_39 ks_39 ti_mixed (by kernel_rfl) ?_); intro Kv hKv; simp (dsimp := false) only [go_sem, Nat.reduceAdd, Nat.reduceBEq, Nat.reduceEqDiff, Nat.reduceLT, Nat.reduceLeDiff, Nat.reduceMul, Int.reduceToNat, reduceCtorEq, ↓reduceIte, Tryd.ntmps39, Tryd.results39, ks_39, mu_39, nd_39, ti_ag3, ti_ag9, ti_fl100_0, ti_fl100_1, ti_fl100_2, ti_hb28, ti_hb30, ti_sb22, ti_sb49, ti_sl22, ti_sl49, evD, evV, h1, Int.reduceEq, decide_true, decide_false, Bool.not_true, Bool.not_false, not_true_eq_false, not_false_eq_true, true_implies, false_implies, and_true, true_and, hx, hin', List.length_map, hit, hge, hlt, hz, z2])
            | with_reducible refine AWp_skipN ?_
            | with_reducible refine AWp_exitO (by repeat (first | with_reducible exact Out.hit | with_reducible apply Out.thenA | with_reducible apply Out.out rfl)) ?_
            | (with_reducible refine AWp_retR ?_; simp (dsimp := false) only [go_sem, Nat.reduceAdd, Nat.reduceBEq, Nat.reduceEqDiff, Nat.reduceLT, Nat.reduceLeDiff, Nat.reduceMul, Int.reduceToNat, reduceCtorEq, ↓reduceIte, Tryd.ntmps39, Tryd.results39, ks_39, mu_39, nd_39, ti_ag3, ti_ag9, ti_fl100_0, ti_fl100_1, ti_fl100_2, ti_hb28, ti_hb30, ti_sb22, ti_sb49, ti_sl22, ti_sl49, evD, evV, h1, Int.reduceEq, decide_true, decide_false, Bool.not_true, Bool.not_false, not_true_eq_false, not_false_eq_true, true_implies, false_implies, and_true, true_and, hx, hin', List.length_map, hit, hge, hlt, hz, z2])
            | ((first | with_reducible refine AWp_regE mu_39 ks_39 ?_ | with_reducible refine AWp_drawE nd_39 mu_39 ks_39 ti_mixed (by kernel_rfl) ?_); intro Kv hKv; simp (dsimp := false) only [go_sem, Nat.reduceAdd, Nat.reduceBEq, Nat.reduceEqDiff, Nat.reduceLT, Nat.reduceLeDiff, Nat.reduceMul, Int.reduceToNat, reduceCtorEq, ↓reduceIte, Tryd.ntmps39, Tryd.results39, ks_39, mu_39, nd_39, ti_ag3, ti_ag9, ti_fl100_0, ti_fl100_1, ti_fl100_2, ti_hb28, ti_hb30, ti_sb22, ti_sb49, ti_sl22, ti_sl49, evD, evV, h1, Int.reduceEq, decide_true, decide_false, Bool.not_true, Bool.not_false, not_true_eq_false, not_false_eq_true, true_implies, false_implies, and_true, true_and, hx, hin', List.length_map, hit, hge, hlt, hz, z2])
            | (refine AWp_condC rfl ?_; intro KA KB hKA hKB; try simp only [onB_true, onB_false, onB_dec, onB_ndec, onB_not, onB_and, onB_or])
            | (refine AWp_condA rfl ?_ ?_)
            | ((first | refine escaped_A x.vl (by omega) _ _ ?_ | refine QCall_of (escaped_A x.vl (by omega) _ _ (Two_intro _ _)) ?_); try simp (dsimp := false) only [go_sem, Nat.reduceAdd, Nat.reduceBEq, Nat.reduceEqDiff, Nat.reduceLT, Nat.reduceLeDiff, Nat.reduceMul, Int.reduceToNat, reduceCtorEq, ↓reduceIte, Tryd.ntmps39, Tryd.results39, ks_39, mu_39, nd_39, ti_ag3, ti_ag9, ti_fl100_0, ti_fl100_1, ti_fl100_2, ti_hb28, ti_hb30, ti_sb22, ti_sb49, ti_sl22, ti_sl49, evD, evV, h1, Int.reduceEq, decide_true, decide_false, Bool.not_true, Bool.not_false, not_true_eq_false, not_false_eq_true, true_implies, false_implies, and_true, true_and, hx, hin', List.length_map, hit, hge, hlt, hz, z2])
            | with_reducible refine onB_of ?_ ?_
            | with_reducible rfl
            | omega)
          all_goals first
            | omega
            | exact hcl
            | (simp; omega)
            | exact ⟨⟨i + 1, evS s x, b⟩, hst, by show l.length - (i + 1) < l.length - i; omega, by simp [hsu, swStep, h1, strC], by rw [hsu]; simp [swStep, swPre, swTxt, h1, List.append_assoc]; omega⟩
            | exact ⟨⟨i + 1, evS s x, b⟩, hst, by show l.length - (i + 1) < l.length - i; omega, by simp [hsu, swStep, h1, strC], by rw [hsu]; simp [swStep, swPre, swTxt, h1, List.append_assoc]⟩
        · have hit : ((0 : Int) < (i : Int)) = True := eq_true (by omega)
          have hge := hge hi0
          have z1f : (z.k = 1) = False := eq_false z1
          have z2f : (z.k = 2) = False := eq_false z2
          
          repeat' (first
            | with_reducible refine And.intro ?_ ?_
            | with_reducible intro _
            | with_reducible refine AWp_seq ?_
            | with_reducible refine AWp_block ?_
            | (with_reducible refine hKv _ _ (AWp_nop ?_); clear hKv Kv)
            | (with_reducible refine hKv _ _ ?_; clear hKv Kv; simp (dsimp := false) only [go_sem, Nat.reduceAdd, Nat.reduceBEq, Nat.reduceEqDiff, Nat.reduceLT, Nat.reduceLeDiff, Nat.reduceMul, Int.reduceToNat, reduceCtorEq, ↓reduceIte, Tryd.ntmps39, Tryd.results39, ks_39, mu_39, nd_39, ti_ag3, ti_ag9, ti_fl100_0, ti_fl100_1, ti_fl100_2, ti_hb28, ti_hb30, ti_sb22, ti_sb49, ti_sl22, ti_sl49, evD, evV, h1, Int.reduceEq, decide_true, decide_false, Bool.not_true, Bool.not_false, not_true_eq_false, not_false_eq_true, true_implies, false_implies, and_true, true_and, hx, hin', List.length_map, hit, hge, hlt, hz, z1f, z2f])
            | (with_reducible refine hKA ?_; clear hKA hKB KA KB)
            | (with_reducible refine hKB ?_; clear hKA hKB KA KB)
            | ((first | with_reducible refine AWp_regC mu_39 ks_39 ?_ | with_reducible refine AWp_draw nd_39 mu_39 ks_39 ti_mixed (by kernel_rfl) ?_); intro Kv hKv; simp (dsimp := false) only [go_sem, Nat.reduceAdd, Nat.reduceBEq, Nat.reduceEqDiff, Nat.reduceLT, Nat.reduceLeDiff, Nat.reduceMul, Int.reduceToNat, reduceCtorEq, ↓reduceIte, Tryd.ntmps39, Tryd.results39, ks_39, mu_39, nd_39, ti_ag3, ti_ag9, ti_fl100_0, ti_fl100_1, ti_fl100_2, ti_hb28, ti_hb30, ti_sb22, ti_sb49, ti_sl22, ti_sl49, evD, evV, h1, Int.reduceEq, decide_true, decide_false, Bool.not_true, Bool.not_false, not_true_eq_false, not_false_eq_true, true_implies, false_implies, and_true, true_and, hx, hin', List.length_map, hit, hge, hlt, hz, z1f, z2f])
            | with_reducible refine AWp_skipN ?_
            | with_reducible refine AWp_exitO (by repeat (first | with_reducible exact Out.hit | with_reducible apply Out.thenA | with_reducible apply Out.out rfl)) ?_
            | (with_reducible refine AWp_retR ?_; simp (dsimp := false) only [go_sem, Nat.reduceAdd, Nat.reduceBEq, Nat.reduceEqDiff, Nat.reduceLT, Nat.reduceLeDiff, Nat.reduceMul, Int.reduceToNat, reduceCtorEq, ↓reduceIte, Tryd.ntmps39, Tryd.results39, ks_39, mu_39, nd_39, ti_ag3, ti_ag9, ti_fl100_0, ti_fl100_1, ti_fl100_2, ti_hb28, ti_hb30, ti_sb22, ti_sb49, ti_sl22, ti_sl49, evD, evV, h1, Int.reduceEq, decide_true, decide_false, Bool.not_true, Bool.not_false, not_true_eq_false, not_false_eq_true, true_implies, false_implies, and_true, true_and, hx, hin', List.length_map, hit, hge, hlt, hz, z1f, z2f])
            | ((first | with_reducible refine AWp_regE mu_39 ks_39 ?_ | with_reducible refine AWp_drawE nd_39 mu_39 ks_39 ti_mixed (by kernel_rfl) ?_); intro Kv hKv; simp (dsimp := false) only [go_sem, Nat.reduceAdd, Nat.reduceBEq, Nat.reduceEqDiff, Nat.reduceLT, Nat.reduceLeDiff, Nat.reduceMul, Int.reduceToNat, reduceCtorEq, ↓reduceIte, Tryd.ntmps39, Tryd.results39, ks_39, mu_39, nd_39, ti_ag3, ti_ag9, ti_fl100_0, ti_fl100_1, ti_fl100_2, ti_hb28, ti_hb30, ti_sb22, ti_sb49, ti_sl22, ti_sl49, evD, evV, h1, Int.reduceEq, decide_true, decide_false, Bool.not_true, Bool.not_false, not_true_eq_false, not_false_eq_true, true_implies, false_implies, and_true, true_and, hx, hin', List.length_map, hit, hge, hlt, hz, z1f, z2f])
            | (refine AWp_condC rfl ?_; intro KA KB hKA hKB; try simp only [onB_true, onB_false, onB_dec, onB_ndec, onB_not, onB_and, onB_or])
            | (refine AWp_condA rfl ?_ ?_)
            | ((first | refine escaped_A x.vl (by omega) _ _ ?_ | refine QCall_of (escaped_A x.vl (by omega) _ _ (Two_intro _ _)) ?_); try simp (dsimp := false) only [go_sem, Nat.reduceAdd, Nat.reduceBEq, Nat.reduceEqDiff, Nat.reduceLT, Nat.reduceLeDiff, Nat.reduceMul, Int.reduceToNat, reduceCtorEq, ↓reduceIte, Tryd.ntmps39, Tryd.results39, ks_39, mu_39, nd_39, ti_ag3, ti_ag9, ti_fl100_0, ti_fl100_1, ti_fl100_2, ti_hb28, ti_hb30, ti_sb22, ti_sb49, ti_sl22, ti_sl49, evD, evV, h1, Int.reduceEq, decide_true, decide_false, Bool.not_true, Bool.not_false, not_true_eq_false, not_false_eq_true, true_implies, false_implies, and_true, true_and, hx, hin', List.length_map, hit, hge, hlt, hz, z1f, z2f])
            | with_reducible refine onB_of ?_ ?_
            | with_reducible rfl
            | omega)
          all_goals first
            | omega
            | exact hcl
            | (simp; omega)
            | exact ⟨⟨i + 1, evS s x, b⟩, hst, by show l.length - (i + 1) < l.length - i; omega, by simp [hsu, swStep, h1, strC], by rw [hsu]; simp [swStep, swPre, swTxt, h1, List.append_assoc]; omega⟩
            | exact ⟨⟨i + 1, evS s x, b⟩, hst, by show l.length - (i + 1) < l.length - i; omega, by simp [hsu, swStep, h1, strC], by rw [hsu]; simp [swStep, swPre, swTxt, h1, List.append_assoc]⟩
      · skip
        rcases ways with ⟨rfl, hi0⟩ | ⟨z, hi0, hz, ⟨rfl, z1⟩ | ⟨rfl, z2⟩ | ⟨rfl, z1, z2⟩⟩
        · have hit : ((0 : Int) < (i : Int)) = False := eq_false (by omega)
          
          repeat' (first
            | with_reducible refine And.intro ?_ ?_
            | with_reducible intro _
            | with_reducible refine AWp_seq ?_
            | with_reducible refine AWp_block ?_
            | (with_reducible refine hKv _ _ (AWp_nop ?_); clear hKv Kv)
            | (with_reducible refine hKv _ _ ?_; clear hKv Kv; simp (dsimp := false) only [go_sem, Nat.reduceAdd, Nat.reduceBEq, Nat.reduceEqDiff, Nat.reduceLT, Nat.reduceLeDiff, Nat.reduceMul, Int.reduceToNat, reduceCtorEq, ↓reduceIte, Tryd.ntmps39, Tryd.results39, ks_39, mu_39, nd_39, ti_ag3, ti_ag9, ti_fl100_0, ti_fl100_1, ti_fl100_2, ti_hb28, ti_hb30, ti_sb22, ti_sb49, ti_sl22, ti_sl49, evD, evV, h1, Int.reduceEq, decide_true, decide_false, Bool.not_true, Bool.not_false, not_true_eq_false, not_false_eq_true, true_implies, false_implies, and_true, true_and, hx, hin', List.length_map, hit])
            | (with_reducible refine hKA ?_; clear hKA hKB KA KB)
            | (with_reducible refine hKB ?_; clear hKA hKB KA KB)
            | ((first | with_reducible refine AWp_regC mu_39 ks_39 ?_ | with_reducible refine AWp_draw nd_39 mu_39 ks_39 ti_mixed (by kernel_rfl) ?_); intro Kv hKv; simp (dsimp := false) only [go_sem, Nat.reduceAdd, Nat.reduceBEq, Nat.reduceEqDiff, Nat.reduceLT, Nat.reduceLeDiff, Nat.reduceMul, Int.reduceToNat, reduceCtorEq, ↓reduceIte, Tryd.ntmps39, Tryd.results39, ks_39, mu_39, nd_39, ti_ag3, ti_ag9, ti_fl100_0, ti_fl100_1, ti_fl100_2, ti_hb28, ti_hb30, ti_sb22, ti_sb49, ti_sl22, ti_sl49, evD, evV, h1, Int.reduceEq, decide_true, decide_false, Bool.not_true, Bool.not_false, not_true_eq_false, not_false_eq_true, true_implies, false_implies, and_true, true_and, hx, hin', List.length_map, hit])
            | with_reducible refine AWp_skipN ?_
            | with_reducible refine AWp_exitO (by repeat (first | with_reducible exact Out.hit | with_reducible apply Out.thenA | with_reducible apply Out.out rfl)) ?_
            | (with_reducible refine AWp_retR ?_; simp (dsimp := false) only [go_sem, Nat.reduceAdd, Nat.reduceBEq, Nat.reduceEqDiff, Nat.reduceLT, Nat.reduceLeDiff, Nat.reduceMul, Int.reduceToNat, reduceCtorEq, ↓reduceIte, Tryd.ntmps39, Tryd.results39, ks_39, mu_39, nd_39, ti_ag3, ti_ag9, ti_fl100_0, ti_fl100_1, ti_fl100_2, ti_hb28, ti_hb30, ti_sb22, ti_sb49, ti_sl22, ti_sl49, evD, evV, h1, Int.reduceEq, decide_true, decide_false, Bool.not_true, Bool.not_false, not_true_eq_false, not_false_eq_true, true_implies, false_implies, and_true, true_and, hx, hin', List.length_map, hit])
            | ((first | with_reducible refine AWp_regE mu_39 ks_39 ?_ | with_reducible refine AWp_drawE nd_39 mu_39 ks_39 ti_mixed (by kernel_rfl) ?_); intro Kv hKv; simp (dsimp := false) only [go_sem, Nat.reduceAdd, Nat.reduceBEq, Nat.reduceEqDiff, Nat.reduceLT, Nat.reduceLeDiff, Nat.reduceMul, Int.reduceToNat, reduceCtorEq, ↓reduceIte, Tryd.ntmps39, Tryd.results39, ks_39, mu_39, nd_39, ti_ag3, ti_ag9, ti_fl100_0, ti_fl100_1, ti_fl100_2, ti_hb28, ti_hb30, ti_sb22, ti_sb49, ti_sl22, ti_sl49, evD, evV, h1, Int.reduceEq, decide_true, decide_false, Bool.not_true, Bool.not_false, not_true_eq_false, not_false_eq_true, true_implies, false_implies, and_true, true_and, hx, hin', List.length_map, hit])
            | (refine AWp_condC rfl ?_; intro KA KB hKA hKB; try simp only [onB_true, onB_false, onB_dec, onB_ndec, onB_not, onB_and, onB_or])
            | (refine AWp_condA rfl ?_ ?_)
            | ((first | refine escaped_A x.vl (by omega) _ _ ?_ | refine QCall_of (escaped_A x.vl (by omega) _ _ (Two_intro _ _)) ?_); try simp (dsimp := false) only [go_sem, Nat.reduceAdd, Nat.reduceBEq, Nat.reduceEqDiff, Nat.reduceLT, Nat.reduceLeDiff, Nat.reduceMul, Int.reduceToNat, reduceCtorEq, ↓reduceIte, Tryd.ntmps39, Tryd.results39, ks_39, mu_39, nd_39, ti_ag3, ti_ag9, ti_fl100_0, ti_fl100_1, ti_fl100_2, ti_hb28, ti_hb30, ti_sb22, ti_sb49, ti_sl22, ti_sl49, evD, evV, h1, Int.reduceEq, decide_true, decide_false, Bool.not_true, Bool.not_false, not_true_eq_false, not_false_eq_true, true_implies, false_implies, and_true, true_and, hx, hin', List.length_map, hit])
            | with_reducible refine onB_of ?_ ?_
            | with_reducible rfl
            | omega)
          all_goals first
            | omega
            | exact hcl
            | (simp; omega)
            | exact ⟨⟨i + 1, evS s x, b⟩, hst, by show l.length - (i + 1) < l.length - i; omega, by simp [hsu, swStep, h1, strC], by rw [hsu]; simp [swStep, swPre, swTxt, h1, List.append_assoc]; omega⟩
            | exact ⟨⟨i + 1, evS s x, b⟩, hst, by show l.length - (i + 1) < l.length - i; omega, by simp [hsu, swStep, h1, strC], by rw [hsu]; simp [swStep, swPre, swTxt, h1, List.append_assoc]⟩
        · have hit : ((0 : Int) < (i : Int)) = True := eq_true (by omega)
          have hge := hge hi0
          
          repeat' (first
            | with_reducible refine And.intro ?_ ?_
            | with_reducible intro _
            | with_reducible refine AWp_seq ?_
            | with_reducible refine AWp_block ?_
            | (with_reducible refine hKv _ _ (AWp_nop ?_); clear hKv Kv)
            | (with_reducible refine hKv _ _ ?_; clear hKv Kv; simp (dsimp := false) only [go_sem, Nat.reduceAdd, Nat.reduceBEq, Nat.reduceEqDiff, Nat.reduceLT, Nat.reduceLeDiff, Nat.reduceMul, Int.reduceToNat, reduceCtorEq, ↓reduceIte, Tryd.ntmps39, Tryd.results39, ks_39, mu_39, nd_39, ti_ag3, ti_ag9, ti_fl100_0, ti_fl100_1, ti_fl100_2, ti_hb28, ti_hb30, ti_sb22, ti_sb49, ti_sl22, ti_sl49, evD, evV, h1, Int.reduceEq, decide_true, decide_false, Bool.not_true, Bool.not_false, not_true_eq_false, not_false_eq_true, true_implies, false_implies, and_true, true_and, hx, hin', List.length_map, hit, hge, hlt, hz, z1])
            | (with_reducible refine hKA ?_; clear hKA hKB KA KB)
            | (with_reducible refine hKB ?_; clear hKA hKB KA KB)
            | ((first | with_reducible refine AWp_regC mu_39 ks_39 ?_ | with_reducible refine AWp_draw nd_39 mu_39 ks_39 ti_mixed (by kernel_rfl) ?_); intro Kv hKv; simp (dsimp := false) only [go_sem, Nat.reduceAdd, Nat.reduceBEq, Nat.reduceEqDiff, Nat.reduceLT, Nat.reduceLeDiff, Nat.reduceMul, Int.reduceToNat, reduceCtorEq, ↓reduceIte, Tryd.ntmps39, Tryd.results39, ks_39, mu_39, nd_39, ti_ag3, ti_ag9, ti_fl100_0, ti_fl100_1, ti_fl100_2, ti_hb28, ti_hb30, ti_sb22, ti_sb49, ti_sl22, ti_sl49, evD, evV, h1, Int.reduceEq, decide_true, decide_false, Bool.not_true, Bool.not_false, not_true_eq_false, not_false_eq_true, true_implies, false_implies, and_true, true_and, hx, hin', List.length_map, hit, hge, hlt, hz, z1])
            | with_reducible refine AWp_skipN ?_
            | with_reducible refine AWp_exitO (by repeat (first | with_reducible exact Out.hit | with_reducible apply Out.thenA | with_reducible apply Out.out rfl)) ?_
            | (with_reducible refine AWp_retR ?_; simp (dsimp := false) only [go_sem, Nat.reduceAdd, Nat.reduceBEq, Nat.reduceEqDiff, Nat.reduceLT, Nat.reduceLeDiff, Nat.reduceMul, Int.reduceToNat, reduceCtorEq, ↓reduceIte, Tryd.ntmps39, Tryd.results39, ks_39, mu_39, nd_39, ti_ag3, ti_ag9, ti_fl100_0, ti_fl100_1, ti_fl100_2, ti_hb28, ti_hb30, ti_sb22, ti_sb49, ti_sl22, ti_sl49, evD, evV, h1, Int.reduceEq, decide_true, decide_false, Bool.not_true, Bool.not_false, not_true_eq_false, not_false_eq_true, true_implies, false_implies, and_true, true_and, hx, hin', List.length_map, hit, hge, hlt, hz, z1])
            | ((first | with_reducible refine AWp_regE mu_39 ks_39 ?_ | with_reducible refine AWp_drawE nd_39 mu_39 ks_39 ti_mixed (by kernel_rfl) ?_); intro Kv hKv; simp (dsimp := false) only [go_sem, Nat.reduceAdd, Nat.reduceBEq, Nat.reduceEqDiff, Nat.reduceLT, Nat.reduceLeDiff, Nat.reduceMul, Int.reduceToNat, reduceCtorEq, ↓reduceIte, Tryd.ntmps39, Tryd.results39, ks_39, mu_39, nd_39, ti_ag3, ti_ag9, ti_fl100_0, ti_fl100_1, ti_fl100_2, ti_hb28, ti_hb30, ti_sb22, ti_sb49, ti_sl22, ti_sl49, evD, evV, h1, Int.reduceEq, decide_true, decide_false, Bool.not_true, Bool.not_false, not_true_eq_false, not_false_eq_true, true_implies, false_implies, and_true, true_and, hx, hin', List.length_map, hit, hge, hlt, hz, z1])
            | (refine AWp_condC rfl ?_; intro KA KB hKA hKB; try simp only [onB_true, onB_false, onB_dec, onB_ndec, onB_not, onB_and, onB_or])
            | (refine AWp_condA rfl ?_ ?_)
            | ((first | refine escaped_A x.vl (by omega) _ _ ?_ | refine QCall_of (escaped_A x.vl (by omega) _ _ (Two_intro _ _)) ?_); try simp (dsimp := false) only [go_sem, Nat.reduceAdd, Nat.reduceBEq, Nat.reduceEqDiff, Nat.reduceLT, Nat.reduceLeDiff, Nat.reduceMul, Int.reduceToNat, reduceCtorEq, ↓reduceIte, Tryd.ntmps39, Tryd.results39, ks_39, mu_39, nd_39, ti_ag3, ti_ag9, ti_fl100_0, ti_fl100_1, ti_fl100_2, ti_hb28, ti_hb30, ti_sb22, ti_sb49, ti_sl22, ti_sl49, evD, evV, h1, Int.reduceEq, decide_true, decide_false, Bool.not_true, Bool.not_false, not_true_eq_false, not_false_eq_true, true_implies, false_implies, and_true, true_and, hx, hin', List.length_map, hit, hge, hlt, hz, z1])
            | with_reducible refine onB_of ?_ ?_
            | with_reducible rfl
            | omega)
          all_goals first
            | omega
            | exact hcl
            | (simp; omega)
            | exact ⟨⟨i + 1, evS s x, b⟩, hst, by show l.length - (i + 1) < l.length - i; omega, by simp [hsu, swStep, h1, strC], by rw [hsu]; simp [swStep, swPre, swTxt, h1, List.append_assoc]; omega⟩
            | exact ⟨⟨i + 1, evS s x, b⟩, hst, by show l.length - (i + 1) < l.length - i; omega, by simp [hsu, swStep, h1, strC], by rw [hsu]; simp [swStep, swPre, swTxt, h1, List.append_assoc]⟩
        · have hit : ((0 : Int) < (i : Int)) = True := eq_true (by omega)
          have hge := hge hi0
          
          repeat' (first
            | with_reducible refine And.intro ?_ ?_
            | with_reducible intro _
            | with_reducible refine AWp_seq ?_
            | with_reducible refine AWp_block ?_
            | (with_reducible refine hKv _ _ (AWp_nop ?_); clear hKv Kv)
            | (with_reducible refine hKv _ _ ?_; clear hKv Kv; simp (dsimp := false) only [go_sem, Nat.reduceAdd, Nat.reduceBEq, Nat.reduceEqDiff, Nat.reduceLT, Nat.reduceLeDiff, Nat.reduceMul, Int.reduceToNat, reduceCtorEq, ↓reduceIte, Tryd.ntmps39, Tryd.results39, ks_39, mu_39, nd_39, ti_ag3, ti_ag9, ti_fl100_0, ti_fl100_1, ti_fl100_2, ti_hb28, ti_hb30, ti_sb22, ti_sb49, ti_sl22, ti_sl49, evD, evV, h1, Int.reduceEq, decide_true, decide_false, Bool.not_true, Bool.not_false, not_true_eq_false, not_false_eq_true, true_implies, false_implies, and_true, true_and, hx, hin', List.length_map, hit, hge, hlt, hz, z2])
            | (with_reducible refine hKA ?_; clear hKA hKB KA KB)
            | (with_reducible refine hKB ?_; clear hKA hKB KA KB)
            | ((first | with_reducible refine AWp_regC mu_39 ks_39 ?_ | with_reducible refine AWp_draw nd_39 mu_39 ks_39 ti_mixed (by kernel_rfl) ?_); intro Kv hKv; simp (dsimp := false) only [go_sem, Nat.reduceAdd, Nat.reduceBEq, Nat.reduceEqDiff, Nat.reduceLT, Nat.reduceLeDiff, Nat.reduceMul, Int.reduceToNat, reduceCtorEq, ↓reduceIte, Tryd.ntmps39, Tryd.results39, ks_39, mu_39, nd_39, ti_ag3, ti_ag9, ti_fl100_0, ti_fl100_1, ti_fl100_2, ti_hb28, ti_hb30, ti_sb22, ti_sb49, ti_sl22, ti_sl49, evD, evV, h1, Int.reduceEq, decide_true, decide_false, Bool.not_true, Bool.not_false, not_true_eq_false, not_false_eq_true, true_implies, false_implies, and_true, true_and, hx, hin', List.length_map, hit, hge, hlt, hz, z2])
            | with_reducible refine AWp_skipN ?_
            | with_reducible refine AWp_exitO (by repeat (first | with_reducible exact Out.hit | with_reducible apply Out.thenA | with_reducible apply Out.out rfl)) ?_
            | (with_reducible refine AWp_retR ?_; simp (dsimp := false) only [go_sem, Nat.reduceAdd, Nat.reduceBEq, Nat.reduceEqDiff, Nat.reduceLT, Nat.reduceLeDiff, Nat.reduceMul, Int.reduceToNat, reduceCtorEq, ↓reduceIte, Tryd.ntmps39, Tryd.results39, ks_39, mu_39, nd_39, ti_ag3, ti_ag9, ti_fl100_0, ti_fl100_1, ti_fl100_2, ti_hb28, ti_hb30, ti_sb22, ti_sb49, ti_sl22, ti_sl49, evD, evV, h1, Int.reduceEq, decide_true, decide_false, Bool.not_true, Bool.not_false, not_true_eq_false, not_false_eq_true, true_implies, false_implies, and_true, true_and, hx, hin', List.length_map, hit, hge, hlt, hz, z2])
            | ((first | with_reducible refine AWp_regE mu_39 ks_39 ?_ | with_reducible refine AWp_drawE nd_39 mu_39 ks_39 ti_mixed (by kernel_rfl) ?_); intro Kv hKv; simp (dsimp := false) only [go_sem, Nat.reduceAdd, Nat.reduceBEq, Nat.reduceEqDiff, Nat.reduceLT, Nat.reduceLeDiff, Nat.reduceMul, Int.reduceToNat, reduceCtorEq, ↓reduceIte, Tryd.ntmps39, Tryd.results39, ks_39, mu_39, nd_39, ti_ag3, ti_ag9, ti_fl100_0, ti_fl100_1, ti_fl100_2, ti_hb28, ti_hb30, ti_sb22, ti_sb49, ti_sl22, ti_sl49, evD, evV, h1, Int.reduceEq, decide_true, decide_false, Bool.not_true, Bool.not_false, not_true_eq_false, not_false_eq_true, true_implies, false_implies, and_true, true_and, hx, hin', List.length_map, hit, hge, hlt, hz, z2])
            | (refine AWp_condC rfl ?_; intro KA KB hKA hKB; try simp only [onB_true, onB_false, onB_dec, onB_ndec, onB_not, onB_and, onB_or])
            | (refine AWp_condA rfl ?_ ?_)
            | ((first | refine escaped_A x.vl (by omega) _ _ ?_ | refine QCall_of (escaped_A x.vl (by omega) _ _ (Two_intro _ _)) ?_); try simp (dsimp := false) only [go_sem, Nat.reduceAdd, Nat.reduceBEq, Nat.reduceEqDiff, Nat.reduceLT, Nat.reduceLeDiff, Nat.reduceMul, Int.reduceToNat, reduceCtorEq, ↓reduceIte, Tryd.ntmps39, Tryd.results39, ks_39, mu_39, nd_39, ti_ag3, ti_ag9, ti_fl100_0, ti_fl100_1, ti_fl100_2, ti_hb28, ti_hb30, ti_sb22, ti_sb49, ti_sl22, ti_sl49, evD, evV, h1, Int.reduceEq, decide_true, decide_false, Bool.not_true, Bool.not_false, not_true_eq_false, not_false_eq_true, true_implies, false_implies, and_true, true_and, hx, hin', List.length_map, hit, hge, hlt, hz, z2])
            | with_reducible refine onB_of ?_ ?_
            | with_reducible rfl
            | omega)
          all_goals first
            | omega
            | exact hcl
            | (simp; omega)
            | exact ⟨⟨i + 1, evS s x, b⟩, hst, by show l.length - (i + 1) < l.length - i; omega, by simp [hsu, swStep, h1, strC], by rw [hsu]; simp [swStep, swPre, swTxt, h1, List.append_assoc]; omega⟩
            | exact ⟨⟨i + 1, evS s x, b⟩, hst, by show l.length - (i + 1) < l.length - i; omega, by simp [hsu, swStep, h1, strC], by rw [hsu]; simp [swStep, swPre, swTxt, h1, List.append_assoc]⟩
        · have hit : ((0 : Int) < (i : Int)) = True := eq_true (by omega)
          have hge := hge hi0
          have z1f : (z.k = 1) = False := eq_false z1
          have z2f : (z.k = 2) = False := eq_false z2
          
          repeat' (first
            | with_reducible refine And.intro ?_ ?_
            | with_reducible intro _
            | with_reducible refine AWp_seq ?_
            | with_reducible refine AWp_block ?_
            | (with_reducible refine hKv _ _ (AWp_nop ?_); clear hKv Kv)
            | (with_reducible refine hKv _ _ ?_; clear hKv Kv; simp (dsimp := false) only [go_sem, Nat.reduceAdd, Nat.reduceBEq, Nat.reduceEqDiff, Nat.reduceLT, Nat.reduceLeDiff, Nat.reduceMul, Int.reduceToNat, reduceCtorEq, ↓reduceIte, Tryd.ntmps39, Tryd.results39, ks_39, mu_39, nd_39, ti_ag3, ti_ag9, ti_fl100_0, ti_fl100_1, ti_fl100_2, ti_hb28, ti_hb30, ti_sb22, ti_sb49, ti_sl22, ti_sl49, evD, evV, h1, Int.reduceEq, decide_true, decide_false, Bool.not_true, Bool.not_false, not_true_eq_false, not_false_eq_true, true_implies, false_implies, and_true, true_and, hx, hin', List.length_map, hit, hge, hlt, hz, z1f, z2f])
            | (with_reducible refine hKA ?_; clear hKA hKB KA KB)
            | (with_reducible refine hKB ?_; clear hKA hKB KA KB)
            | ((first | with_reducible refine AWp_regC mu_39 ks_39 ?_ | with_reducible refine AWp_draw nd_39 mu_39 ks_39 ti_mixed (by kernel_rfl) ?_); intro Kv hKv; simp (dsimp := false) only [go_sem, Nat.reduceAdd, Nat.reduceBEq, Nat.reduceEqDiff, Nat.reduceLT, Nat.reduceLeDiff, Nat.reduceMul, Int.reduceToNat, reduceCtorEq, ↓reduceIte, Tryd.ntmps39, Tryd.results39, ks_39, mu_39, nd_39, ti_ag3, ti_ag9, ti_fl100_0, ti_fl100_1, ti_fl100_2, ti_hb28, ti_hb30, ti_sb22, ti_sb49, ti_sl22, ti_sl49, evD, evV, h1, Int.reduceEq, decide_true, decide_false, Bool.not_true, Bool.not_false, not_true_eq_false, not_false_eq_true, true_implies, false_implies, and_true, true_and, hx, hin', List.length_map, hit, hge, hlt, hz, z1f, z2f])
            | with_reducible refine AWp_skipN ?_
            | with_reducible refine AWp_exitO (by repeat (first | with_reducible exact Out.hit | with_reducible apply Out.thenA | with_reducible apply Out.out rfl)) ?_
            | (with_reducible refine AWp_retR ?_; simp (dsimp := false) only [go_sem, Nat.reduceAdd, Nat.reduceBEq, Nat.reduceEqDiff, Nat.reduceLT, Nat.reduceLeDiff, Nat.reduceMul, Int.reduceToNat, reduceCtorEq, ↓reduceIte, Tryd.ntmps39, Tryd.results39, ks_39, mu_39, nd_39, ti_ag3, ti_ag9, ti_fl100_0, ti_fl100_1, ti_fl100_2, ti_hb28, ti_hb30, ti_sb22, ti_sb49, ti_sl22, ti_sl49, evD, evV, h1, Int.reduceEq, decide_true, decide_false, Bool.not_true, Bool.not_false, not_true_eq_false, not_false_eq_true, true_implies, false_implies, and_true, true_and, hx, hin', List.length_map, hit, hge, hlt, hz, z1f, z2f])
            | ((first | with_reducible refine AWp_regE mu_39 ks_39 ?_ | with_reducible refine AWp_drawE nd_39 mu_39 ks_39 ti_mixed (by kernel_rfl) ?_); intro Kv hKv; simp (dsimp := false) only [go_sem, Nat.reduceAdd, Nat.reduceBEq, Nat.reduceEqDiff, Nat.reduceLT, Nat.reduceLeDiff, Nat.reduceMul, Int.reduceToNat, reduceCtorEq, ↓reduceIte, Tryd.ntmps39, Tryd.results39, ks_39, mu_39, nd_39, ti_ag3, ti_ag9, ti_fl100_0, ti_fl100_1, ti_fl100_2, ti_hb28, ti_hb30, ti_sb22, ti_sb49, ti_sl22, ti_sl49, evD, evV, h1, Int.reduceEq, decide_true, decide_false, Bool.not_true, Bool.not_false, not_true_eq_false, not_false_eq_true, true_implies, false_implies, and_true, true_and, hx, hin', List.length_map, hit, hge, hlt, hz, z1f, z2f])
            | (refine AWp_condC rfl ?_; intro KA KB hKA hKB; try simp only [onB_true, onB_false, onB_dec, onB_ndec, onB_not, onB_and, onB_or])
            | (refine AWp_condA rfl ?_ ?_)
            | ((first | refine escaped_A x.vl (by omega) _ _ ?_ | refine QCall_of (escaped_A x.vl (by omega) _ _ (Two_intro _ _)) ?_); try simp (dsimp := false) only [go_sem, Nat.reduceAdd, Nat.reduceBEq, Nat.reduceEqDiff, Nat.reduceLT, Nat.reduceLeDiff, Nat.reduceMul, Int.reduceToNat, reduceCtorEq, ↓reduceIte, Tryd.ntmps39, Tryd.results39, ks_39, mu_39, nd_39, ti_ag3, ti_ag9, ti_fl100_0, ti_fl100_1, ti_fl100_2, ti_hb28, ti_hb30, ti_sb22, ti_sb49, ti_sl22, ti_sl49, evD, evV, h1, Int.reduceEq, decide_true, decide_false, Bool.not_true, Bool.not_false, not_true_eq_false, not_false_eq_true, true_implies, false_implies, and_true, true_and, hx, hin', List.length_map, hit, hge, hlt, hz, z1f, z2f])
            | with_reducible refine onB_of ?_ ?_
            | with_reducible rfl
            | omega)
          all_goals first
            | omega
            | exact hcl
            | (simp; omega)
            | exact ⟨⟨i + 1, evS s x, b⟩, hst, by show l.length - (i + 1) < l.length - i; omega, by simp [hsu, swStep, h1, strC], by rw [hsu]; simp [swStep, swPre, swTxt, h1, List.append_assoc]; omega⟩
            | exact ⟨⟨i + 1, evS s x, b⟩, hst, by show l.length - (i + 1) < l.length - i; omega, by simp [hsu, swStep, h1, strC], by rw [hsu]; simp [swStep, swPre, swTxt, h1, List.append_assoc]⟩
      · skip
        rcases ways with ⟨rfl, hi0⟩ | ⟨z, hi0, hz, ⟨rfl, z1⟩ | ⟨rfl, z2⟩ | ⟨rfl, z1, z2⟩⟩
        · have hit : ((0 : Int) < (i : Int)) = False := eq_false (by omega)
          
          repeat' (first
            | with_reducible refine And.intro ?_ ?_
            | with_reducible intro _
            | with_reducible refine AWp_seq ?_
            | with_reducible refine AWp_block ?_
            | (with_reducible refine hKv _ _ (AWp_nop ?_); clear hKv Kv)
            | (with_reducible refine hKv _ _ ?_; clear hKv Kv; simp (dsimp := false) only [go_sem, Nat.reduceAdd, Nat.reduceBEq, Nat.reduceEqDiff, Nat.reduceLT, Nat.reduceLeDiff, Nat.reduceMul, Int.reduceToNat, reduceCtorEq, ↓reduceIte, Tryd.ntmps39, Tryd.results39, ks_39, mu_39, nd_39, ti_ag3, ti_ag9, ti_fl100_0, ti_fl100_1, ti_fl100_2, ti_hb28, ti_hb30, ti_sb22, ti_sb49, ti_sl22, ti_sl49, evD, evV, h1, Int.reduceEq, decide_true, decide_false, Bool.not_true, Bool.not_false, not_true_eq_false, not_false_eq_true, true_implies, false_implies, and_true, true_and, hx, hin', List.length_map, hit])
            | (with_reducible refine hKA ?_; clear hKA hKB KA KB)
            | (with_reducible refine hKB ?_; clear hKA hKB KA KB)
            | ((first | with_reducible refine AWp_regC mu_39 ks_39 ?_ | with_reducible refine AWp_draw nd_39 mu_39 ks_39 ti_mixed (by kernel_rfl) ?_); intro Kv hKv; simp (dsimp := false) only [go_sem, Nat.reduceAdd, Nat.reduceBEq, Nat.reduceEqDiff, Nat.reduceLT, Nat.reduceLeDiff, Nat.reduceMul, Int.reduceToNat, reduceCtorEq, ↓reduceIte, Tryd.ntmps39, Tryd.results39, ks_39, mu_39, nd_39, ti_ag3, ti_ag9, ti_fl100_0, ti_fl100_1, ti_fl100_2, ti_hb28, ti_hb30, ti_sb22, ti_sb49, ti_sl22, ti_sl49, evD, evV, h1, Int.reduceEq, decide_true, decide_false, Bool.not_true, Bool.not_false, not_true_eq_false, not_false_eq_true, true_implies, false_implies, and_true, true_and, hx, hin', List.length_map, hit])
            | with_reducible refine AWp_skipN ?_
            | with_reducible refine AWp_exitO (by repeat (first | with_reducible exact Out.hit | with_reducible apply Out.thenA | with_reducible apply Out.out rfl)) ?_
            | (with_reducible refine AWp_retR ?_; simp (dsimp := false) only [go_sem, Nat.reduceAdd, Nat.reduceBEq, Nat.reduceEqDiff, Nat.reduceLT, Nat.reduceLeDiff, Nat.reduceMul, Int.reduceToNat, reduceCtorEq, ↓reduceIte, Tryd.ntmps39, Tryd.results39, ks_39, mu_39, nd_39, ti_ag3, ti_ag9, ti_fl100_0, ti_fl100_1, ti_fl100_2, ti_hb28, ti_hb30, ti_sb22, ti_sb49, ti_sl22, ti_sl49, evD, evV, h1, Int.reduceEq, decide_true, decide_false, Bool.not_true, Bool.not_false, not_true_eq_false, not_false_eq_true, true_implies, false_implies, and_true, true_and, hx, hin', List.length_map, hit])
            | ((first | with_reducible refine AWp_regE mu_39 ks_39 ?_ | with_reducible refine AWp_drawE nd_39 mu_39 ks_39 ti_mixed (by kernel_rfl) ?_); intro Kv hKv; simp (dsimp := false) only [go_sem, Nat.reduceAdd, Nat.reduceBEq, Nat.reduceEqDiff, Nat.reduceLT, Nat.reduceLeDiff, Nat.reduceMul, Int.reduceToNat, reduceCtorEq, ↓reduceIte, Tryd.ntmps39, Tryd.results39, ks_39, mu_39, nd_39, ti_ag3, ti_ag9, ti_fl100_0, ti_fl100_1, ti_fl100_2, ti_hb28, ti_hb30, ti_sb22, ti_sb49, ti_sl22, ti_sl49, evD, evV, h1, Int.reduceEq, decide_true, decide_false, Bool.not_true, Bool.not_false, not_true_eq_false, not_false_eq_true, true_implies, false_implies, and_true, true_and, hx, hin', List.length_map, hit])
            | (refine AWp_condC rfl ?_; intro KA KB hKA hKB; try simp only [onB_true, onB_false, onB_dec, onB_ndec, onB_not, onB_and, onB_or])
            | (refine AWp_condA rfl ?_ ?_)
            | with_reducible refine onB_of ?_ ?_
            | with_reducible rfl
            | omega)
          all_goals first
            | omega
            | exact hcl
            | (simp; omega)
            | exact ⟨⟨i + 1, evS s x, b⟩, hst, by show l.length - (i + 1) < l.length - i; omega, by simp [hsu, swStep, h1, strC], by rw [hsu]; simp [swStep, swPre, swTxt, h1, List.append_assoc]; omega⟩
            | exact ⟨⟨i + 1, evS s x, b⟩, hst, by show l.length - (i + 1) < l.length - i; omega, by simp [hsu, swStep, h1, strC], by rw [hsu]; simp [swStep, swPre, swTxt, h1, List.append_assoc]⟩
        · have hit : ((0 : Int) < (i : Int)) = True := eq_true (by omega)
          have hge := hge hi0
          
          repeat' (first
            | with_reducible refine And.intro ?_ ?_
            | with_reducible intro _
            | with_reducible refine AWp_seq ?_
            | with_reducible refine AWp_block ?_
            | (with_reducible refine hKv _ _ (AWp_nop ?_); clear hKv Kv)
            | (with_reducible refine hKv _ _ ?_; clear hKv Kv; simp (dsimp := false) only [go_sem, Nat.reduceAdd, Nat.reduceBEq, Nat.reduceEqDiff, Nat.reduceLT, Nat.reduceLeDiff, Nat.reduceMul, Int.reduceToNat, reduceCtorEq, ↓reduceIte, Tryd.ntmps39, Tryd.results39, ks_39, mu_39, nd_39, ti_ag3, ti_ag9, ti_fl100_0, ti_fl100_1, ti_fl100_2, ti_hb28, ti_hb30, ti_sb22, ti_sb49, ti_sl22, ti_sl49, evD, evV, h1, Int.reduceEq, decide_true, decide_false, Bool.not_true, Bool.not_false, not_true_eq_false, not_false_eq_true, true_implies, false_implies, and_true, true_and, hx, hin', List.length_map, hit, hge, hlt, hz, z1])
            | (with_reducible refine hKA ?_; clear hKA hKB KA KB)
            | (with_reducible refine hKB ?_; clear hKA hKB KA KB)
            | ((first | with_reducible refine AWp_regC mu_39 ks_39 ?_ | with_reducible refine AWp_draw nd_39 mu_39 ks_39 ti_mixed (by kernel_rfl) ?_); intro Kv hKv; simp (dsimp := false) only [go_sem, Nat.reduceAdd, Nat.reduceBEq, Nat.reduceEqDiff, Nat.reduceLT, Nat.reduceLeDiff, Nat.reduceMul, Int.reduceToNat, reduceCtorEq, ↓reduceIte, Tryd.ntmps39, Tryd.results39, ks_39, mu_39, nd_39, ti_ag3, ti_ag9, ti_fl100_0, ti_fl100_1, ti_fl100_2, ti_hb28, ti_hb30, ti_sb22, ti_sb49, ti_sl22, ti_sl49, evD, evV, h1, Int.reduceEq, decide_true, decide_false, Bool.not_true, Bool.not_false, not_true_eq_false, not_false_eq_true, true_implies, false_implies, and_true, true_and, hx, hin', List.length_map, hit, hge, hlt, hz, z1])
            | with_reducible refine AWp_skipN ?_
            | with_reducible refine AWp_exitO (by repeat (first | with_reducible exact Out.hit | with_reducible apply Out.thenA | with_reducible apply Out.out rfl)) ?_
            | (with_reducible refine AWp_retR ?_; simp (dsimp := false) only [go_sem, Nat.reduceAdd, Nat.reduceBEq, Nat.reduceEqDiff, Nat.reduceLT, Nat.reduceLeDiff, Nat.reduceMul, Int.reduceToNat, reduceCtorEq, ↓reduceIte, Tryd.ntmps39, Tryd.results39, ks_39, mu_39, nd_39, ti_ag3, ti_ag9, ti_fl100_0, ti_fl100_1, ti_fl100_2, ti_hb28, ti_hb30, ti_sb22, ti_sb49, ti_sl22, ti_sl49, evD, evV, h1, Int.reduceEq, decide_true, decide_false, Bool.not_true, Bool.not_false, not_true_eq_false, not_false_eq_true, true_implies, false_implies, and_true, true_and, hx, hin', List.length_map, hit, hge, hlt, hz, z1])
            | ((first | with_reducible refine AWp_regE mu_39 ks_39 ?_ | with_reducible refine AWp_drawE nd_39 mu_39 ks_39 ti_mixed (by kernel_rfl) ?_); intro Kv hKv; simp (dsimp := false) only [go_sem, Nat.reduceAdd, Nat.reduceBEq, Nat.reduceEqDiff, Nat.reduceLT, Nat.reduceLeDiff, Nat.reduceMul, Int.reduceToNat, reduceCtorEq, ↓reduceIte, Tryd.ntmps39, Tryd.results39, ks_39, mu_39, nd_39, ti_ag3, ti_ag9, ti_fl100_0, ti_fl100_1, ti_fl100_2, ti_hb28, ti_hb30, ti_sb22, ti_sb49, ti_sl22, ti_sl49, evD, evV, h1, Int.reduceEq, decide_true, decide_false, Bool.not_true, Bool.not_false, not_true_eq_false, not_false_eq_true, true_implies, false_implies, and_true, true_and, hx, hin', List.length_map, hit, hge, hlt, hz, z1])
            | (refine AWp_condC rfl ?_; intro KA KB hKA hKB; try simp only [onB_true, onB_false, onB_dec, onB_ndec, onB_not, onB_and, onB_or])
            | (refine AWp_condA rfl ?_ ?_)
            | with_reducible refine onB_of ?_ ?_
            | with_reducible rfl
            | omega)
          all_goals first
            | omega
            | exact hcl
            | (simp; omega)
            | exact ⟨⟨i + 1, evS s x, b⟩, hst, by show l.length - (i + 1) < l.length - i; omega, by simp [hsu, swStep, h1, strC], by rw [hsu]; simp [swStep, swPre, swTxt, h1, List.append_assoc]; omega⟩
            | exact ⟨⟨i + 1, evS s x, b⟩, hst, by show l.length - (i + 1) < l.length - i; omega, by simp [hsu, swStep, h1, strC], by rw [hsu]; simp [swStep, swPre, swTxt, h1, List.append_assoc]⟩
        · have hit : ((0 : Int) < (i : Int)) = True := eq_true (by omega)
          have hge := hge hi0
          
          repeat' (first
            | with_reducible refine And.intro ?_ ?_
            | with_reducible intro _
            | with_reducible refine AWp_seq ?_
            | with_reducible refine AWp_block ?_
            | (with_reducible refine hKv _ _ (AWp_nop ?_); clear hKv Kv)
            | (with_reducible refine hKv _ _ ?_; clear hKv Kv; simp (dsimp := false) only [go_sem, Nat.reduceAdd, Nat.reduceBEq, Nat.reduceEqDiff, Nat.reduceLT, Nat.reduceLeDiff, Nat.reduceMul, Int.reduceToNat, reduceCtorEq, ↓reduceIte, Tryd.ntmps39, Tryd.results39, ks_39, mu_39, nd_39, ti_ag3, ti_ag9, ti_fl100_0, ti_fl100_1, ti_fl100_2, ti_hb28, ti_hb30, ti_sb22, ti_sb49, ti_sl22, ti_sl49, evD, evV, h1, Int.reduceEq, decide_true, decide_false, Bool.not_true, Bool.not_false, not_true_eq_false, not_false_eq_true, true_implies, false_implies, and_true, true_and, hx, hin', List.length_map, hit, hge, hlt, hz, z2])
            | (with_reducible refine hKA ?_; clear hKA hKB KA KB)
            | (with_reducible refine hKB ?_; clear hKA hKB KA KB)
            | ((first | with_reducible refine AWp_regC mu_39 ks_39 ?_ | with_reducible refine AWp_draw nd_39 mu_39 ks_39 ti_mixed (by kernel_rfl) ?_); intro Kv hKv; simp (dsimp := false) only [go_sem, Nat.reduceAdd, Nat.reduceBEq, Nat.reduceEqDiff, Nat.reduceLT, Nat.reduceLeDiff, Nat.reduceMul, Int.reduceToNat, reduceCtorEq, ↓reduceIte, Tryd.ntmps39, Tryd.results39, ks_39, mu_39, nd_39, ti_ag3, ti_ag9, ti_fl100_0, ti_fl100_1, ti_fl100_2, ti_hb28, ti_hb30, ti_sb22, ti_sb49, ti_sl22, ti_sl49, evD, evV, h1, Int.reduceEq, decide_true, decide_false, Bool.not_true, Bool.not_false, not_true_eq_false, not_false_eq_true, true_implies, false_implies, and_true, true_and, hx, hin', List.length_map, hit, hge, hlt, hz, z2])
            | with_reducible refine AWp_skipN ?_
            | with_reducible refine AWp_exitO (by repeat (first | with_reducible exact Out.hit | with_reducible apply Out.thenA | with_reducible apply Out.out rfl)) ?_
            | (with_reducible refine AWp_retR ?_; simp (dsimp := false) only [go_sem, Nat.reduceAdd, Nat.reduceBEq, Nat.reduceEqDiff, Nat.reduceLT, Nat.reduceLeDiff, Nat.reduceMul, Int.reduceToNat, reduceCtorEq, ↓reduceIte, Tryd.ntmps39, Tryd.results39, ks_39, mu_39, nd_39, ti_ag3, ti_ag9, ti_fl100_0, ti_fl100_1, ti_fl100_2, ti_hb28, ti_hb30, ti_sb22, ti_sb49, ti_sl22, ti_sl49, evD, evV, h1, Int.reduceEq, decide_true, decide_false, Bool.not_true, Bool.not_false, not_true_eq_false, not_false_eq_true, true_implies, false_implies, and_true, true_and, hx, hin', List.length_map, hit, hge, hlt, hz, z2])
            | ((first | with_reducible refine AWp_regE mu_39 ks_39 ?_ | with_reducible refine AWp_drawE nd_39 mu_39 ks_39 ti_mixed (by kernel_rfl) ?_); intro Kv hKv; simp (dsimp := false) only [go_sem, Nat.reduceAdd, Nat.reduceBEq, Nat.reduceEqDiff, Nat.reduceLT, Nat.reduceLeDiff, Nat.reduceMul, Int.reduceToNat, reduceCtorEq, ↓reduceIte, Tryd.ntmps39, Tryd.results39, ks_39, mu_39, nd_39, ti_ag3, ti_ag9, ti_fl100_0, ti_fl100_1, ti_fl100_2, ti_hb28, ti_hb30, ti_sb22, ti_sb49, ti_sl22, ti_sl49, evD, evV, h1, Int.reduceEq, decide_true, decide_false, Bool.not_true, Bool.not_false, not_true_eq_false, not_false_eq_true, true_implies, false_implies, and_true, true_and, hx, hin', List.length_map, hit, hge, hlt, hz, z2])
            | (refine AWp_condC rfl ?_; intro KA KB hKA hKB; try simp only [onB_true, onB_false, onB_dec, onB_ndec, onB_not, onB_and, onB_or])
            | (refine AWp_condA rfl ?_ ?_)
            | with_reducible refine onB_of ?_ ?_
            | with_reducible rfl
            | omega)
          all_goals first
            | omega
            | exact hcl
            | (simp; omega)
            | exact ⟨⟨i + 1, evS s x, b⟩, hst, by show l.length - (i + 1) < l.length - i; omega, by simp [hsu, swStep, h1, strC], by rw [hsu]; simp [swStep, swPre, swTxt, h1, List.append_assoc]; omega⟩
            | exact ⟨⟨i + 1, evS s x, b⟩, hst, by show l.length - (i + 1) < l.length - i; omega, by simp [hsu, swStep, h1, strC], by rw [hsu]; simp [swStep, swPre, swTxt, h1, List.append_assoc]⟩
        · have hit : ((0 : Int) < (i : Int)) = True := eq_true (by omega)
          have hge := hge hi0
          have z1f : (z.k = 1) = False := eq_false z1
          have z2f : (z.k = 2) = False := eq_false z2
          
          repeat' (first
            | with_reducible refine And.intro ?_ ?_
            | with_reducible intro _
            | with_reducible refine AWp_seq ?_
            | with_reducible refine AWp_block ?_
            | (with_reducible refine hKv _ _ (AWp_nop ?_); clear hKv Kv)
            | (with_reducible refine hKv _ _ ?_; clear hKv Kv; simp (dsimp := false) only [go_sem, Nat.reduceAdd, Nat.reduceBEq, Nat.reduceEqDiff, Nat.reduceLT, Nat.reduceLeDiff, Nat.reduceMul, Int.reduceToNat, reduceCtorEq, ↓reduceIte, Tryd.ntmps39, Tryd.results39, ks_39, mu_39, nd_39, ti_ag3, ti_ag9, ti_fl100_0, ti_fl100_1, ti_fl100_2, ti_hb28, ti_hb30, ti_sb22, ti_sb49, ti_sl22, ti_sl49, evD, evV, h1, Int.reduceEq, decide_true, decide_false, Bool.not_true, Bool.not_false, not_true_eq_false, not_false_eq_true, true_implies, false_implies, and_true, true_and, hx, hin', List.length_map, hit, hge, hlt, hz, z1f, z2f])
            | (with_reducible refine hKA ?_; clear hKA hKB KA KB)
            | (with_reducible refine hKB ?_; clear hKA hKB KA KB)
            | ((first | with_reducible refine AWp_regC mu_39 ks_39 ?_ | with_reducible refine AWp_draw nd_39 mu_39 ks_39 ti_mixed (by kernel_rfl) ?_); intro Kv hKv; simp (dsimp := false) only [go_sem, Nat.reduceAdd, Nat.reduceBEq, Nat.reduceEqDiff, Nat.reduceLT, Nat.reduceLeDiff, Nat.reduceMul, Int.reduceToNat, reduceCtorEq, ↓reduceIte, Tryd.ntmps39, Tryd.results39, ks_39, mu_39, nd_39, ti_ag3, ti_ag9, ti_fl100_0, ti_fl100_1, ti_fl100_2, ti_hb28, ti_hb30, ti_sb22, ti_sb49, ti_sl22, ti_sl49, evD, evV, h1, Int.reduceEq, decide_true, decide_false, Bool.not_true, Bool.not_false, not_true_eq_false, not_false_eq_true, true_implies, false_implies, and_true, true_and, hx, hin', List.length_map, hit, hge, hlt, hz, z1f, z2f])
            | with_reducible refine AWp_skipN ?_
            | with_reducible refine AWp_exitO (by repeat (first | with_reducible exact Out.hit | with_reducible apply Out.thenA | with_reducible apply Out.out rfl)) ?_
            | (with_reducible refine AWp_retR ?_; simp (dsimp := false) only [go_sem, Nat.reduceAdd, Nat.reduceBEq, Nat.reduceEqDiff, Nat.reduceLT, Nat.reduceLeDiff, Nat.reduceMul, Int.reduceToNat, reduceCtorEq, ↓reduceIte, Tryd.ntmps39, Tryd.results39, ks_39, mu_39, nd_39, ti_ag3, ti_ag9, ti_fl100_0, ti_fl100_1, ti_fl100_2, ti_hb28, ti_hb30, ti_sb22, ti_sb49, ti_sl22, ti_sl49, evD, evV, h1, Int.reduceEq, decide_true, decide_false, Bool.not_true, Bool.not_false, not_true_eq_false, not_false_eq_true, true_implies, false_implies, and_true, true_and, hx, hin', List.length_map, hit, hge, hlt, hz, z1f, z2f])
            | ((first | with_reducible refine AWp_regE mu_39 ks_39 ?_ | with_reducible refine AWp_drawE nd_39 mu_39 ks_39 ti_mixed (by kernel_rfl) ?_); intro Kv hKv; simp (dsimp := false) only [go_sem, Nat.reduceAdd, Nat.reduceBEq, Nat.reduceEqDiff, Nat.reduceLT, Nat.reduceLeDiff, Nat.reduceMul, Int.reduceToNat, reduceCtorEq, ↓reduceIte, Tryd.ntmps39, Tryd.results39, ks_39, mu_39, nd_39, ti_ag3, ti_ag9, ti_fl100_0, ti_fl100_1, ti_fl100_2, ti_hb28, ti_hb30, ti_sb22, ti_sb49, ti_sl22, ti_sl49, evD, evV, h1, Int.reduceEq, decide_true, decide_false, Bool.not_true, Bool.not_false, not_true_eq_false, not_false_eq_true, true_implies, false_implies, and_true, true_and, hx, hin', List.length_map, hit, hge, hlt, hz, z1f, z2f])
            | (refine AWp_condC rfl ?_; intro KA KB hKA hKB; try simp only [onB_true, onB_false, onB_dec, onB_ndec, onB_not, onB_and, onB_or])
            | (refine AWp_condA rfl ?_ ?_)
            | with_reducible refine onB_of ?_ ?_
            | with_reducible rfl
            | omega)
          all_goals first
            | omega
            | exact hcl
            | (simp; omega)
            | exact ⟨⟨i + 1, evS s x, b⟩, hst, by show l.length - (i + 1) < l.length - i; omega, by simp [hsu, swStep, h1, strC], by rw [hsu]; simp [swStep, swPre, swTxt, h1, List.append_assoc]; omega⟩
            | exact ⟨⟨i + 1, evS s x, b⟩, hst, by show l.length - (i + 1) < l.length - i; omega, by simp [hsu, swStep, h1, strC], by rw [hsu]; simp [swStep, swPre, swTxt, h1, List.append_assoc]⟩
      · have hn0 := evF1_n1 h1 q3
        obtain ⟨r, nm, hro⟩ : ∃ r nm, names = r ++ [nm] := by
          rcases names.eq_nil_or_concat with h0 | ⟨r, o, h0⟩
          · rw [h0] at hnn; exact absurd hnn.symm hn0
          · exact ⟨r, o, by rw [h0, List.concat_eq_append]⟩
        subst hro
        have hnl : (r ++ [nm]).length = r.length + 1 := by simp
        have hnx : (r ++ [nm])[(((r.length + 1 : Nat) : Int) - 1).toNat]? = some nm := by
          rw [show (((r.length + 1 : Nat) : Int) - 1).toNat = r.length by omega, List.getElem?_append_right (Nat.le_refl _), Nat.sub_self]; rfl
        have hnt : ((r ++ [nm]).map strC).take (((r.length + 1 : Nat) : Int) - 1).toNat = r.map strC := by
          rw [List.map_append, List.take_left' (by rw [List.length_map]; omega)]
        have hg1 : ((0 : Int) ≤ ((r.length + 1 : Nat) : Int) - 1) = True := eq_true (by omega)
        have hg2 : (((r.length + 1 : Nat) : Int) - 1 < ((r.length + 1 : Nat) : Int)) = True := eq_true (by omega)
        have hnml := hnb nm (by simp)
        have hr20 : r.length ≤ 20 := by simp at hnn; omega
        rcases ways with ⟨rfl, hi0⟩ | ⟨z, hi0, hz, ⟨rfl, z1⟩ | ⟨rfl, z2⟩ | ⟨rfl, z1, z2⟩⟩
        · have hit : ((0 : Int) < (i : Int)) = False := eq_false (by omega)
          
          repeat' (first
            | with_reducible refine And.intro ?_ ?_
            | with_reducible intro _
            | with_reducible refine AWp_seq ?_
            | with_reducible refine AWp_block ?_
            | (with_reducible refine hKv _ _ (AWp_nop ?_); clear hKv Kv)
            | (with_reducible refine hKv _ _ ?_; clear hKv Kv; simp (dsimp := false) only [go_sem, Nat.reduceAdd, Nat.reduceBEq, Nat.reduceEqDiff, Nat.reduceLT, Nat.reduceLeDiff, Nat.reduceMul, Int.reduceToNat, reduceCtorEq, ↓reduceIte, Tryd.ntmps39, Tryd.results39, ks_39, mu_39, nd_39, ti_ag3, ti_ag9, ti_fl100_0, ti_fl100_1, ti_fl100_2, ti_hb28, ti_hb30, ti_sb22, ti_sb49, ti_sl22, ti_sl49, evD, evV, h1, Int.reduceEq, decide_true, decide_false, Bool.not_true, Bool.not_false, not_true_eq_false, not_false_eq_true, true_implies, false_implies, and_true, true_and, hx, hin', List.length_map, hnl, hnx, hnt, hg1, hg2, strC, List.getElem?_map, Option.map_some, hit])
            | (with_reducible refine hKA ?_; clear hKA hKB KA KB)
            | (with_reducible refine hKB ?_; clear hKA hKB KA KB)
            | ((first | with_reducible refine AWp_regC mu_39 ks_39 ?_ | with_reducible refine AWp_draw nd_39 mu_39 ks_39 ti_mixed (by kernel_rfl) ?_); intro Kv hKv; simp (dsimp := false) only [go_sem, Nat.reduceAdd, Nat.reduceBEq, Nat.reduceEqDiff, Nat.reduceLT, Nat.reduceLeDiff, Nat.reduceMul, Int.reduceToNat, reduceCtorEq, ↓reduceIte, Tryd.ntmps39, Tryd.results39, ks_39, mu_39, nd_39, ti_ag3, ti_ag9, ti_fl100_0, ti_fl100_1, ti_fl100_2, ti_hb28, ti_hb30, ti_sb22, ti_sb49, ti_sl22, ti_sl49, evD, evV, h1, Int.reduceEq, decide_true, decide_false, Bool.not_true, Bool.not_false, not_true_eq_false, not_false_eq_true, true_implies, false_implies, and_true, true_and, hx, hin', List.length_map, hnl, hnx, hnt, hg1, hg2, strC, List.getElem?_map, Option.map_some, hit])
            | with_reducible refine AWp_skipN ?_
            | with_reducible refine AWp_exitO (by repeat (first | with_reducible exact Out.hit | with_reducible apply Out.thenA | with_reducible apply Out.out rfl)) ?_
            | (with_reducible refine AWp_retR ?_; simp (dsimp := false) only [go_sem, Nat.reduceAdd, Nat.reduceBEq, Nat.reduceEqDiff, Nat.reduceLT, Nat.reduceLeDiff, Nat.reduceMul, Int.reduceToNat, reduceCtorEq, ↓reduceIte, Tryd.ntmps39, Tryd.results39, ks_39, mu_39, nd_39, ti_ag3, ti_ag9, ti_fl100_0, ti_fl100_1, ti_fl100_2, ti_hb28, ti_hb30, ti_sb22, ti_sb49, ti_sl22, ti_sl49, evD, evV, h1, Int.reduceEq, decide_true, decide_false, Bool.not_true, Bool.not_false, not_true_eq_false, not_false_eq_true, true_implies, false_implies, and_true, true_and, hx, hin', List.length_map, hnl, hnx, hnt, hg1, hg2, strC, List.getElem?_map, Option.map_some, hit])
            | ((first | with_reducible refine AWp_regE mu_39 ks_39 ?_ | with_reducible refine AWp_drawE nd_39 mu_39 ks_39 ti_mixed (by kernel_rfl) ?_); intro Kv hKv; simp (dsimp := false) only [go_sem, Nat.reduceAdd, Nat.reduceBEq, Nat.reduceEqDiff, Nat.reduceLT, Nat.reduceLeDiff, Nat.reduceMul, Int.reduceToNat, reduceCtorEq, ↓reduceIte, Tryd.ntmps39, Tryd.results39, ks_39, mu_39, nd_39, ti_ag3, ti_ag9, ti_fl100_0, ti_fl100_1, ti_fl100_2, ti_hb28, ti_hb30, ti_sb22, ti_sb49, ti_sl22, ti_sl49, evD, evV, h1, Int.reduceEq, decide_true, decide_false, Bool.not_true, Bool.not_false, not_true_eq_false, not_false_eq_true, true_implies, false_implies, and_true, true_and, hx, hin', List.length_map, hnl, hnx, hnt, hg1, hg2, strC, List.getElem?_map, Option.map_some, hit])
            | (refine AWp_condC rfl ?_; intro KA KB hKA hKB; try simp only [onB_true, onB_false, onB_dec, onB_ndec, onB_not, onB_and, onB_or])
            | (refine AWp_condA rfl ?_ ?_)
            | with_reducible refine onB_of ?_ ?_
            | with_reducible rfl
            | omega)
          all_goals first
            | omega
            | exact hcl
            | (simp; omega)
            | exact ⟨⟨i + 1, evS s x, b + 1⟩, hst, by show l.length - (i + 1) < l.length - i; omega, by simp [hsu, swStep, h1, strC], by rw [hsu]; simp [swStep, swPre, swTxt, h1, List.append_assoc]; omega⟩
            | exact ⟨⟨i + 1, evS s x, b + 1⟩, hst, by show l.length - (i + 1) < l.length - i; omega, by simp [hsu, swStep, h1, strC], by rw [hsu]; simp [swStep, swPre, swTxt, h1, List.append_assoc]⟩
        · have hit : ((0 : Int) < (i : Int)) = True := eq_true (by omega)
          have hge := hge hi0
          
          repeat' (first
            | with_reducible refine And.intro ?_ ?_
            | with_reducible intro _
            | with_reducible refine AWp_seq ?_
            | with_reducible refine AWp_block ?_
            | (with_reducible refine hKv _ _ (AWp_nop ?_); clear hKv Kv)
            | (with_reducible refine hKv _ _ ?_; clear hKv Kv; simp (dsimp := false) only [go_sem, Nat.reduceAdd, Nat.reduceBEq, Nat.reduceEqDiff, Nat.reduceLT, Nat.reduceLeDiff, Nat.reduceMul, Int.reduceToNat, reduceCtorEq, ↓reduceIte, Tryd.ntmps39, Tryd.results39, ks_39, mu_39, nd_39, ti_ag3, ti_ag9, ti_fl100_0, ti_fl100_1, ti_fl100_2, ti_hb28, ti_hb30, ti_sb22, ti_sb49, ti_sl22, ti_sl49, evD, evV, h1, Int.reduceEq, decide_true, decide_false, Bool.not_true, Bool.not_false, not_true_eq_false, not_false_eq_true, true_implies, false_implies, and_true, true_and, hx, hin', List.length_map, hnl, hnx, hnt, hg1, hg2, strC, List.getElem?_map, Option.map_some, hit, hge, hlt, hz, z1])
            | (with_reducible refine hKA ?_; clear hKA hKB KA KB)
            | (with_reducible refine hKB ?_; clear hKA hKB KA KB)
            | ((first | with_reducible refine AWp_regC mu_39 ks_39 ?_ | with_reducible refine AWp_draw nd_39 mu_39 ks_39 ti_mixed (by kernel_rfl) ?_); intro Kv hKv; simp (dsimp := false) only [go_sem, Nat.reduceAdd, Nat.reduceBEq, Nat.reduceEqDiff, Nat.reduceLT, Nat.reduceLeDiff, Nat.reduceMul, Int.reduceToNat, reduceCtorEq, ↓reduceIte, Tryd.ntmps39, Tryd.results39, ks_39, mu_39, nd_39, ti_ag3, ti_ag9, ti_fl100_0, ti_fl100_1, ti_fl100_2, ti_hb28, ti_hb30, ti_sb22, ti_sb49, ti_sl22, ti_sl49, evD, evV, h1, Int.reduceEq, decide_true, decide_false, Bool.not_true, Bool.not_false, not_true_eq_false, not_false_eq_true, true_implies, false_implies, and_true, true_and, hx, hin', List.length_map, hnl, hnx, hnt, hg1, hg2, strC, List.getElem?_map, Option.map_some, hit, hge, hlt, hz, z1])
            | with_reducible refine AWp_skipN ?_
            | with_reducible refine AWp_exitO (by repeat (first | with_reducible exact Out.hit | with_reducible apply Out.thenA | with_reducible apply Out.out rfl)) ?_
            | (with_reducible refine AWp_retR ?_; simp (dsimp := false) only [go_sem, Nat.reduceAdd, Nat.reduceBEq, Nat.reduceEqDiff, Nat.reduceLT, Nat.reduceLeDiff, Nat.reduceMul, Int.reduceToNat, reduceCtorEq, ↓reduceIte, Tryd.ntmps39, Tryd.results39, ks_39, mu_39, nd_39, ti_ag3, ti_ag9, ti_fl100_0, ti_fl100_1, ti_fl100_2, ti_hb28, ti_hb30, ti_sb22, ti_sb49, ti_sl22, ti_sl49, evD, evV, h1, Int.reduceEq, decide_true, decide_false, Bool.not_true, Bool.not_false, not_true_eq_false, not_false_eq_true, true_implies, false_implies, and_true, true_and, hx, hin', List.length_map, hnl, hnx, hnt, hg1, hg2, strC, List.getElem?_map, Option.map_some, hit, hge, hlt, hz, z1])
            | ((first | with_reducible refine AWp_regE mu_39 ks_39 ?_ | with_reducible refine AWp_drawE nd_39 mu_39 ks_39 ti_mixed (by kernel_rfl) ?_); intro Kv hKv; simp (dsimp := false) only [go_sem, Nat.reduceAdd, Nat.reduceBEq, Nat.reduceEqDiff, Nat.reduceLT, Nat.reduceLeDiff, Nat.reduceMul, Int.reduceToNat, reduceCtorEq, ↓reduceIte, Tryd.ntmps39, Tryd.results39, ks_39, mu_39, nd_39, ti_ag3, ti_ag9, ti_fl100_0, ti_fl100_1, ti_fl100_2, ti_hb28, ti_hb30, ti_sb22, ti_sb49, ti_sl22, ti_sl49, evD, evV, h1, Int.reduceEq, decide_true, decide_false, Bool.not_true, Bool.not_false, not_true_eq_false, not_false_eq_true, true_implies, false_implies, and_true, true_and, hx, hin', List.length_map, hnl, hnx, hnt, hg1, hg2, strC, List.getElem?_map, Option.map_some, hit, hge, hlt, hz, z1])
            | (refine AWp_condC rfl ?_; intro KA KB hKA hKB; try simp only [onB_true, onB_false, onB_dec, onB_ndec, onB_not, onB_and, onB_or])
            | (refine AWp_condA rfl ?_ ?_)
            | with_reducible refine onB_of ?_ ?_
            | with_reducible rfl
            | omega)
          all_goals first
            | omega
            | exact hcl
            | (simp; omega)
            | exact ⟨⟨i + 1, evS s x, b + 1⟩, hst, by show l.length - (i + 1) < l.length - i; omega, by simp [hsu, swStep, h1, strC], by rw [hsu]; simp [swStep, swPre, swTxt, h1, List.append_assoc]; omega⟩
            | exact ⟨⟨i + 1, evS s x, b + 1⟩, hst, by show l.length - (i + 1) < l.length - i; omega, by simp [hsu, swStep, h1, strC], by rw [hsu]; simp [swStep, swPre, swTxt, h1, List.append_assoc]⟩
        · have hit : ((0 : Int) < (i : Int)) = True := eq_true (by omega)
          have hge := hge hi0
          
          repeat' (first
            | with_reducible refine And.intro ?_ ?_
            | with_reducible intro _
            | with_reducible refine AWp_seq ?_
            | with_reducible refine AWp_block ?_
            | (with_reducible refine hKv _ _ (AWp_nop ?_); clear hKv Kv)
            | (with_reducible refine hKv _ _ ?_; clear hKv Kv; simp (dsimp := false) only [go_sem, Nat.reduceAdd, Nat.reduceBEq, Nat.reduceEqDiff, Nat.reduceLT, Nat.reduceLeDiff, Nat.reduceMul, Int.reduceToNat, reduceCtorEq, ↓reduceIte, Tryd.ntmps39, Tryd.results39, ks_39, mu_39, nd_39, ti_ag3, ti_ag9, ti_fl100_0, ti_fl100_1, ti_fl100_2, ti_hb28, ti_hb30, ti_sb22, ti_sb49, ti_sl22, ti_sl49, evD, evV, h1, Int.reduceEq, decide_true, decide_false, Bool.not_true, Bool.not_false, not_true_eq_false, not_false_eq_true, true_implies, false_implies, and_true, true_and, hx, hin', List.length_map, hnl, hnx, hnt, hg1, hg2, strC, List.getElem?_map, Option.map_some, hit, hge, hlt, hz, z2])
            | (with_reducible refine hKA ?_; clear hKA hKB KA KB)
            | (with_reducible refine hKB ?_; clear hKA hKB KA KB)
            | ((first | with_reducible refine AWp_regC mu_39 ks_39 ?_ | with_reducible refine AWp_draw nd_39 mu_39 ks_39 ti_mixed (by kernel_rfl) ?_); intro Kv hKv; simp (dsimp := false) only [go_sem, Nat.reduceAdd, Nat.reduceBEq, Nat.reduceEqDiff, Nat.reduceLT, Nat.reduceLeDiff, Nat.reduceMul, Int.reduceToNat, reduceCtorEq, ↓reduceIte, Tryd.ntmps39, Tryd.results39, ks_39, mu_39, nd_39, ti_ag3, ti_ag9, ti_fl100_0, ti_fl100_1, ti_fl100_2, ti_hb28, ti_hb30, ti_sb22, ti_sb49, ti_sl22, ti_sl49, evD, evV, h1, Int.reduceEq, decide_true, decide_false, Bool.not_true, Bool.not_false, not_true_eq_false, not_false_eq_true, true_implies, false_implies, and_true, true_and, hx, hin', List.length_map, hnl, hnx, hnt, hg1, hg2, strC, List.getElem?_map, Option.map_some, hit, hge, hlt, hz, z2])
            | with_reducible refine AWp_skipN ?_
            | with_reducible refine AWp_exitO (by repeat (first | with_reducible exact Out.hit | with_reducible apply Out.thenA | with_reducible apply Out.out rfl)) ?_
            | (with_reducible refine AWp_retR ?_; simp (dsimp := false) only [go_sem, Nat.reduceAdd, Nat.reduceBEq, Nat.reduceEqDiff, Nat.reduceLT, Nat.reduceLeDiff, Nat.reduceMul, Int.reduceToNat, reduceCtorEq, ↓reduceIte, Tryd.ntmps39, Tryd.results39, ks_39, mu_39, nd_39, ti_ag3, ti_ag9, ti_fl100_0, ti_fl100_1, ti_fl100_2, ti_hb28, ti_hb30, ti_sb22, ti_sb49, ti_sl22, ti_sl49, evD, evV, h1, Int.reduceEq, decide_true, decide_false, Bool.not_true, Bool.not_false, not_true_eq_false, not_false_eq_true, true_implies, false_implies, and_true, true_and, hx, hin', List.length_map, hnl, hnx, hnt, hg1, hg2, strC, List.getElem?_map, Option.map_some, hit, hge, hlt, hz, z2])
            | ((first | with_reducible refine AWp_regE mu_39 ks_39 ?_ | with_reducible refine AWp_drawE nd_39 mu_39 ks_39 ti_mixed (by kernel_rfl) ?_); intro Kv hKv; simp (dsimp := false) only [go_sem, Nat.reduceAdd, Nat.reduceBEq, Nat.reduceEqDiff, Nat.reduceLT, Nat.reduceLeDiff, Nat.reduceMul, Int.reduceToNat, reduceCtorEq, ↓reduceIte, Tryd.ntmps39, Tryd.results39, ks_39, mu_39, nd_39, ti_ag3, ti_ag9, ti_fl100_0, ti_fl100_1, ti_fl100_2, ti_hb28, ti_hb30, ti_sb22, ti_sb49, ti_sl22, ti_sl49, evD, evV, h1, Int.reduceEq, decide_true, decide_false, Bool.not_true, Bool.not_false, not_true_eq_false, not_false_eq_true, true_implies, false_implies, and_true, true_and, hx, hin', List.length_map, hnl, hnx, hnt, hg1, hg2, strC, List.getElem?_map, Option.map_some, hit, hge, hlt, hz, z2])
            | (refine AWp_condC rfl ?_; intro KA KB hKA hKB; try simp only [onB_true, onB_false, onB_dec, onB_ndec, onB_not, onB_and, onB_or])
            | (refine AWp_condA rfl ?_ ?_)
            | with_reducible refine onB_of ?_ ?_
            | with_reducible rfl
            | omega)
          all_goals first
            | omega
            | exact hcl
            | (simp; omega)
            | exact ⟨⟨i + 1, evS s x, b + 1⟩, hst, by show l.length - (i + 1) < l.length - i; omega, by simp [hsu, swStep, h1, strC], by rw [hsu]; simp [swStep, swPre, swTxt, h1, List.append_assoc]; omega⟩
            | exact ⟨⟨i + 1, evS s x, b + 1⟩, hst, by show l.length - (i + 1) < l.length - i; omega, by simp [hsu, swStep, h1, strC], by rw [hsu]; simp [swStep, swPre, swTxt, h1, List.append_assoc]⟩
        · have hit : ((0 : Int) < (i : Int)) = True := eq_true (by omega)
          have hge := hge hi0
          have z1f : (z.k = 1) = False := eq_false z1
          have z2f : (z.k = 2) = False := eq_false z2
          
          repeat' (first
            | with_reducible refine And.intro ?_ ?_
            | with_reducible intro _
            | with_reducible refine AWp_seq ?_
            | with_reducible refine AWp_block ?_
            | (with_reducible refine hKv _ _ (AWp_nop ?_); clear hKv Kv)
            | (with_reducible refine hKv _ _ ?_; clear hKv Kv; simp (dsimp := false) only [go_sem, Nat.reduceAdd, Nat.reduceBEq, Nat.reduceEqDiff, Nat.reduceLT, Nat.reduceLeDiff, Nat.reduceMul, Int.reduceToNat, reduceCtorEq, ↓reduceIte, Tryd.ntmps39, Tryd.results39, ks_39, mu_39, nd_39, ti_ag3, ti_ag9, ti_fl100_0, ti_fl100_1, ti_fl100_2, ti_hb28, ti_hb30, ti_sb22, ti_sb49, ti_sl22, ti_sl49, evD, evV, h1, Int.reduceEq, decide_true, decide_false, Bool.not_true, Bool.not_false, not_true_eq_false, not_false_eq_true, true_implies, false_implies, and_true, true_and, hx, hin', List.length_map, hnl, hnx, hnt, hg1, hg2, strC, List.getElem?_map, Option.map_some, hit, hge, hlt, hz, z1f, z2f])
            | (with_reducible refine hKA ?_; clear hKA hKB KA KB)
            | (with_reducible refine hKB ?_; clear hKA hKB KA KB)
            | ((first | with_reducible refine AWp_regC mu_39 ks_39 ?_ | with_reducible refine AWp_draw nd_39 mu_39 ks_39 ti_mixed (by kernel_rfl) ?_); intro Kv hKv; simp (dsimp := false) only [go_sem, Nat.reduceAdd, Nat.reduceBEq, Nat.reduceEqDiff, Nat.reduceLT, Nat.reduceLeDiff, Nat.reduceMul, Int.reduceToNat, reduceCtorEq, ↓reduceIte, Tryd.ntmps39, Tryd.results39, ks_39, mu_39, nd_39, ti_ag3, ti_ag9, ti_fl100_0, ti_fl100_1, ti_fl100_2, ti_hb28, ti_hb30, ti_sb22, ti_sb49, ti_sl22, ti_sl49, evD, evV, h1, Int.reduceEq, decide_true, decide_false, Bool.not_true, Bool.not_false, not_true_eq_false, not_false_eq_true, true_implies, false_implies, and_true, true_and, hx, hin', List.length_map, hnl, hnx, hnt, hg1, hg2, strC, List.getElem?_map, Option.map_some, hit, hge, hlt, hz, z1f, z2f])
            | with_reducible refine AWp_skipN ?_
            | with_reducible refine AWp_exitO (by repeat (first | with_reducible exact Out.hit | with_reducible apply Out.thenA | with_reducible apply Out.out rfl)) ?_
            | (with_reducible refine AWp_retR ?_; simp (dsimp := false) only [go_sem, Nat.reduceAdd, Nat.reduceBEq, Nat.reduceEqDiff, Nat.reduceLT, Nat.reduceLeDiff, Nat.reduceMul, Int.reduceToNat, reduceCtorEq, ↓reduceIte, Tryd.ntmps39, Tryd.results39, ks_39, mu_39, nd_39, ti_ag3, ti_ag9, ti_fl100_0, ti_fl100_1, ti_fl100_2, ti_hb28, ti_hb30, ti_sb22, ti_sb49, ti_sl22, ti_sl49, evD, evV, h1, Int.reduceEq, decide_true, decide_false, Bool.not_true, Bool.not_false, not_true_eq_false, not_false_eq_true, true_implies, false_implies, and_true, true_and, hx, hin', List.length_map, hnl, hnx, hnt, hg1, hg2, strC, List.getElem?_map, Option.map_some, hit, hge, hlt, hz, z1f, z2f])
            | ((first | with_reducible refine AWp_regE mu_39 ks_39 ?_ | with_reducible refine AWp_drawE nd_39 mu_39 ks_39 ti_mixed (by kernel_rfl) ?_); intro Kv hKv; simp (dsimp := false) only [go_sem, Nat.reduceAdd, Nat.reduceBEq, Nat.reduceEqDiff, Nat.reduceLT, Nat.reduceLeDiff, Nat.reduceMul, Int.reduceToNat, reduceCtorEq, ↓reduceIte, Tryd.ntmps39, Tryd.results39, ks_39, mu_39, nd_39, ti_ag3, ti_ag9, ti_fl100_0, ti_fl100_1, ti_fl100_2, ti_hb28, ti_hb30, ti_sb22, ti_sb49, ti_sl22, ti_sl49, evD, evV, h1, Int.reduceEq, decide_true, decide_false, Bool.not_true, Bool.not_false, not_true_eq_false, not_false_eq_true, true_implies, false_implies, and_true, true_and, hx, hin', List.length_map, hnl, hnx, hnt, hg1, hg2, strC, List.getElem?_map, Option.map_some, hit, hge, hlt, hz, z1f, z2f])
            | (refine AWp_condC rfl ?_; intro KA KB hKA hKB; try simp only [onB_true, onB_false, onB_dec, onB_ndec, onB_not, onB_and, onB_or])
            | (refine AWp_condA rfl ?_ ?_)
            | with_reducible refine onB_of ?_ ?_
            | with_reducible rfl
            | omega)
          all_goals first
            | omega
            | exact hcl
            | (simp; omega)
            | exact ⟨⟨i + 1, evS s x, b + 1⟩, hst, by show l.length - (i + 1) < l.length - i; omega, by simp [hsu, swStep, h1, strC], by rw [hsu]; simp [swStep, swPre, swTxt, h1, List.append_assoc]; omega⟩
            | exact ⟨⟨i + 1, evS s x, b + 1⟩, hst, by show l.length - (i + 1) < l.length - i; omega, by simp [hsu, swStep, h1, strC], by rw [hsu]; simp [swStep, swPre, swTxt, h1, List.append_assoc]⟩
    · have e : i = l.length := by omega
      have hin' : ((i : Int) < (l.length : Int)) = False := eq_false (by omega)
      rw [← e] at hk
      
      repeat' (first
        | with_reducible refine And.intro ?_ ?_
        | with_reducible intro _
        | with_reducible refine AWp_seq ?_
        | with_reducible refine AWp_block ?_
        | (with_reducible refine hKv _ _ (AWp_nop ?_); clear hKv Kv)
        | (with_reducible refine hKv _ _ ?_; clear hKv Kv; simp (dsimp := false) only [go_sem, Nat.reduceAdd, Nat.reduceBEq, Nat.reduceEqDiff, Nat.reduceLT, Nat.reduceLeDiff, Nat.reduceMul, Int.reduceToNat, reduceCtorEq, ↓reduceIte, Tryd.ntmps39, Tryd.results39, ks_39, mu_39, nd_39, ti_ag3, ti_ag9, ti_fl100_0, ti_fl100_1, ti_fl100_2, ti_hb28, ti_hb30, ti_sb22, ti_sb49, ti_sl22, ti_sl49, evD, evV, hin'])
        | (with_reducible refine hKA ?_; clear hKA hKB KA KB)
        | (with_reducible refine hKB ?_; clear hKA hKB KA KB)
        | ((first | with_reducible refine AWp_regC mu_39 ks_39 ?_ | with_reducible refine AWp_draw nd_39 mu_39 ks_39 ti_mixed (by kernel_rfl) ?_); intro Kv hKv; simp (dsimp := false) only [go_sem, Nat.reduceAdd, Nat.reduceBEq, Nat.reduceEqDiff, Nat.reduceLT, Nat.reduceLeDiff, Nat.reduceMul, Int.reduceToNat, reduceCtorEq, ↓reduceIte, Tryd.ntmps39, Tryd.results39, ks_39, mu_39, nd_39, ti_ag3, ti_ag9, ti_fl100_0, ti_fl100_1, ti_fl100_2, ti_hb28, ti_hb30, ti_sb22, ti_sb49, ti_sl22, ti_sl49, evD, evV, hin'])
        | with_reducible refine AWp_skipN ?_
        | with_reducible refine AWp_exitO (by repeat (first | with_reducible exact Out.hit | with_reducible apply Out.thenA | with_reducible apply Out.out rfl)) ?_
        | (with_reducible refine AWp_retR ?_; simp (dsimp := false) only [go_sem, Nat.reduceAdd, Nat.reduceBEq, Nat.reduceEqDiff, Nat.reduceLT, Nat.reduceLeDiff, Nat.reduceMul, Int.reduceToNat, reduceCtorEq, ↓reduceIte, Tryd.ntmps39, Tryd.results39, ks_39, mu_39, nd_39, ti_ag3, ti_ag9, ti_fl100_0, ti_fl100_1, ti_fl100_2, ti_hb28, ti_hb30, ti_sb22, ti_sb49, ti_sl22, ti_sl49, evD, evV, hin'])
        | ((first | with_reducible refine AWp_regE mu_39 ks_39 ?_ | with_reducible refine AWp_drawE nd_39 mu_39 ks_39 ti_mixed (by kernel_rfl) ?_); intro Kv hKv; simp (dsimp := false) only [go_sem, Nat.reduceAdd, Nat.reduceBEq, Nat.reduceEqDiff, Nat.reduceLT, Nat.reduceLeDiff, Nat.reduceMul, Int.reduceToNat, reduceCtorEq, ↓reduceIte, Tryd.ntmps39, Tryd.results39, ks_39, mu_39, nd_39, ti_ag3, ti_ag9, ti_fl100_0, ti_fl100_1, ti_fl100_2, ti_hb28, ti_hb30, ti_sb22, ti_sb49, ti_sl22, ti_sl49, evD, evV, hin'])
        | (refine AWp_condC rfl ?_; intro KA KB hKA hKB; try simp only [onB_true, onB_false, onB_dec, onB_ndec, onB_not, onB_and, onB_or])
        | (refine AWp_condA rfl ?_ ?_)
        | with_reducible refine onB_of ?_ ?_
        | with_reducible rfl
        | omega)
      all_goals first
        | omega
        | exact hcl
        | exact dropK hk (by simp [Bel_tu, Bel_d]) rfl
  · rw [shown, if_neg hf] at hk
    have hf' : (eventsFault l = 0) = False := eq_false hf
    
    refine ACalls_of Tryd.func39 rfl in_39 (Nat.le_of_ble_eq_true rfl) ?_
    intro F hF
    simp (dsimp := false) only [go_sem, Nat.reduceAdd, Nat.reduceBEq, Nat.reduceEqDiff, Nat.reduceLT, Nat.reduceLeDiff, Nat.reduceMul, Int.reduceToNat, reduceCtorEq, ↓reduceIte, Tryd.ntmps39, Tryd.results39, ks_39, mu_39, nd_39, ti_ag3, ti_ag9, ti_fl100_0, ti_fl100_1, ti_fl100_2, ti_hb28, ti_hb30, ti_sb22, ti_sb49, ti_sl22, ti_sl49, evD, evV, hf', in_39] at hF
    subst hF
    repeat' (first
      | with_reducible refine And.intro ?_ ?_
      | with_reducible intro _
      | with_reducible refine AWp_seq ?_
      | with_reducible refine AWp_block ?_
      | (with_reducible refine hKv _ _ (AWp_nop ?_); clear hKv Kv)
      | (with_reducible refine hKv _ _ ?_; clear hKv Kv; simp (dsimp := false) only [go_sem, Nat.reduceAdd, Nat.reduceBEq, Nat.reduceEqDiff, Nat.reduceLT, Nat.reduceLeDiff, Nat.reduceMul, Int.reduceToNat, reduceCtorEq, ↓reduceIte, Tryd.ntmps39, Tryd.results39, ks_39, mu_39, nd_39, ti_ag3, ti_ag9, ti_fl100_0, ti_fl100_1, ti_fl100_2, ti_hb28, ti_hb30, ti_sb22, ti_sb49, ti_sl22, ti_sl49, evD, evV, hf'])
      | (with_reducible refine hKA ?_; clear hKA hKB KA KB)
      | (with_reducible refine hKB ?_; clear hKA hKB KA KB)
      | ((first | with_reducible refine AWp_regC mu_39 ks_39 ?_ | with_reducible refine AWp_draw nd_39 mu_39 ks_39 ti_mixed (by kernel_rfl) ?_); intro Kv hKv; simp (dsimp := false) only [go_sem, Nat.reduceAdd, Nat.reduceBEq, Nat.reduceEqDiff, Nat.reduceLT, Nat.reduceLeDiff, Nat.reduceMul, Int.reduceToNat, reduceCtorEq, ↓reduceIte, Tryd.ntmps39, Tryd.results39, ks_39, mu_39, nd_39, ti_ag3, ti_ag9, ti_fl100_0, ti_fl100_1, ti_fl100_2, ti_hb28, ti_hb30, ti_sb22, ti_sb49, ti_sl22, ti_sl49, evD, evV, hf'])
      | with_reducible refine AWp_skipN ?_
      | with_reducible refine AWp_exitO (by repeat (first | with_reducible exact Out.hit | with_reducible apply Out.thenA | with_reducible apply Out.out rfl)) ?_
      | (with_reducible refine AWp_retR ?_; simp (dsimp := false) only [go_sem, Nat.reduceAdd, Nat.reduceBEq, Nat.reduceEqDiff, Nat.reduceLT, Nat.reduceLeDiff, Nat.reduceMul, Int.reduceToNat, reduceCtorEq, ↓reduceIte, Tryd.ntmps39, Tryd.results39, ks_39, mu_39, nd_39, ti_ag3, ti_ag9, ti_fl100_0, ti_fl100_1, ti_fl100_2, ti_hb28, ti_hb30, ti_sb22, ti_sb49, ti_sl22, ti_sl49, evD, evV, hf'])
      | ((first | with_reducible refine AWp_regE mu_39 ks_39 ?_ | with_reducible refine AWp_drawE nd_39 mu_39 ks_39 ti_mixed (by kernel_rfl) ?_); intro Kv hKv; simp (dsimp := false) only [go_sem, Nat.reduceAdd, Nat.reduceBEq, Nat.reduceEqDiff, Nat.reduceLT, Nat.reduceLeDiff, Nat.reduceMul, Int.reduceToNat, reduceCtorEq, ↓reduceIte, Tryd.ntmps39, Tryd.results39, ks_39, mu_39, nd_39, ti_ag3, ti_ag9, ti_fl100_0, ti_fl100_1, ti_fl100_2, ti_hb28, ti_hb30, ti_sb22, ti_sb49, ti_sl22, ti_sl49, evD, evV, hf'])
      | (refine AWp_condC rfl ?_; intro KA KB hKA hKB; try simp only [onB_true, onB_false, onB_dec, onB_ndec, onB_not, onB_and, onB_or])
      | (refine AWp_condA rfl ?_ ?_)
      | ((first | refine eventsFault_A l hS _ _ ?_ | refine QCall_of (eventsFault_A l hS _ _ (Two_intro _ _)) ?_); try simp (dsimp := false) only [go_sem, Nat.reduceAdd, Nat.reduceBEq, Nat.reduceEqDiff, Nat.reduceLT, Nat.reduceLeDiff, Nat.reduceMul, Int.reduceToNat, reduceCtorEq, ↓reduceIte, Tryd.ntmps39, Tryd.results39, ks_39, mu_39, nd_39, ti_ag3, ti_ag9, ti_fl100_0, ti_fl100_1, ti_fl100_2, ti_hb28, ti_hb30, ti_sb22, ti_sb49, ti_sl22, ti_sl49, evD, evV, hf'])
      | with_reducible refine onB_of ?_ ?_
      | with_reducible rfl
      | omega)
    all_goals first
      | exact keepK hk (by simp [Bel_tu, Bel_d]) rfl
end Go.Proofs.YtafbojmnmadlpaaDoor
