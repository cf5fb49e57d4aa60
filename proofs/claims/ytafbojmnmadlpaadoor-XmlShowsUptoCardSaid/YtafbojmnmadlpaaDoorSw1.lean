/- Events as text: what the program makes. No condition but that the tables of package unicode/utf8 and of marks, and what package bytealg calls its greatest length, are there. -/
import Derived.Test.YtafbojmnmadlpaaDoorEc4
import Derived.Test.YtafbojmnmadlpaaDoorSw0
import Derived.Test.YtafbojmnmadlpaaDoorEs1
import Derived.Test.YtafbojmnmadlpaaDoorKb
import Derived.Test.YtafbojmnmadlpaaDoorEcN
set_option linter.all false
set_option linter.unusedSimpArgs false
set_option linter.unusedVariables false
namespace Go.Proofs.YtafbojmnmadlpaaDoor
open Go Go.Proofs.YtafbojmnmadlpaaDoor.Ab
variable [Glo] [U8] [Ml] [Ec]
set_option maxHeartbeats 8000000
set_option maxRecDepth 20000
/-- What is known ahead of an event. -/
structure Ws where
  i : Nat
  s : Es
  u : Bool
  k : Nat
  b : Nat
def wsFr (l : List Ev) (H : Heap) (y : Ws) : Ab.Frame := [(5, .pt H.length 0 0 0), (6, .os (H.length + 1) y.b), (7, .d (.b (swAt l y.i).bare)), (16, .d (.sl 3 (l.map evD))), (17, .d (.i .i64 l.length)), (18, .d (.i .i64 y.i))]
def wsHp (l : List Ev) (H : Heap) (y : Ws) : Heap := [bldC y.u H.length 0 (.os (H.length + 2) y.k), Ob.row y.b 9 1 ((swAt l y.i).names.map strC), bufC y.k (swAt l y.i).acc]
theorem wsHp_bel (l : List Ev) (H : Heap) (y : Ws) (n : Nat) (h : H.length + 2 < n) : ∀ ob, ob ∈ wsHp l H y → ObBel n ob := fun ob hob => by
  simp only [wsHp, List.mem_cons, List.not_mem_nil, or_false] at hob
  rcases hob with rfl | rfl | rfl
  · exact obBel_bld _ _ _ _ (by omega) (by omega)
  · exact obBel_str _ _ _ _
  · exact obBel_bytes _ _ _

/- the live slots of pleacher/xml.Show -/
def ks_38 : Nat → List Nat
  | 0 => [0]
  | 1 => [0, 4]
  | 2 => [0, 4, 14]
  | 3 => [2, 3]
  | 4 => [0, 5]
  | 5 => [0, 5, 6]
  | 6 => [0, 5, 6, 7]
  | 7 => [5, 6, 7, 16, 17, 18]
  | 8 => [5, 6, 7, 16, 17, 18, 19]
  | 9 => [5, 6, 7, 9, 16, 17, 18]
  | 10 => [5, 6, 7, 9, 16, 17, 18, 32]
  | 11 => [5, 6, 9, 16, 17, 18]
  | 12 => [5, 6, 7, 9, 16, 17, 18]
  | 13 => [5, 6, 7, 9, 16, 17, 18, 35]
  | 14 => [5, 6, 7, 10, 16, 17, 18]
  | 15 => [5, 6, 10, 16, 17, 18, 39]
  | 16 => [5, 6, 10, 16, 17, 18]
  | 17 => [5, 6, 10, 16, 17, 18]
  | 18 => [5, 6, 7, 16, 17, 18]
  | 19 => [5, 6, 7, 9, 16, 17, 18, 35, 51]
  | 20 => [5, 6, 9, 16, 17, 18]
  | 21 => [5, 6, 16, 17, 18]
  | 22 => [5, 6, 7, 16, 17, 18]
  | 23 => [5, 6, 7, 9, 16, 17, 18, 35, 62]
  | 24 => [5, 6, 7, 16, 17, 18]
  | 25 => [5, 6, 7, 9, 16, 17, 18, 35, 74]
  | 26 => [5, 6, 7, 16, 17, 18]
  | 27 => [5, 6, 7, 9, 16, 17, 18, 80]
  | 28 => [5, 6, 7, 16, 17, 18]
  | 29 => [5, 6, 7, 16, 17, 18]
  | 30 => [2, 3]
  | _ => []
def mu_38 : List Nat := [6]
def in_38 : List Nat := [0]
def ro_38 : Nat → List Nat
  | 9 => [9]
  | _ => []
def nd_38 : Nat → Nat
  | 24 => 9
  | _ => 0
theorem show_A (l : List Ev) (hS : EvSh l) (H : Heap) (K : V → Heap → Prop) (hk : K (.tu [.d (.s (shown l)), .d (.i .i64 (eventsFault l))]) H) :
    ACalls Tryd.prog 38 [.d (.sl 3 (l.map evD))] H K := by
  have hS1 := hS.1
  by_cases hf : eventsFault l = 0
  · have hN : l.length ≤ 400 := by
      by_cases h : l.length ≤ 400
      · exact h
      · rw [eventsFault_big h] at hf; cases hf
    have hgo := hf
    rw [eventsFault_go hN] at hgo
    rw [shown, if_pos hf, hf] at hk
    
    refine ACalls_of Tryd.func38 rfl in_38 (Nat.le_of_ble_eq_true rfl) ?_
    intro F hF
    simp (dsimp := false) only [go_sem, Nat.reduceAdd, Nat.reduceBEq, Nat.reduceEqDiff, Nat.reduceLT, Nat.reduceLeDiff, Nat.reduceMul, Int.reduceToNat, reduceCtorEq, ↓reduceIte, Tryd.ntmps38, Tryd.results38, ks_38, mu_38, nd_38, ro_38, ti_ag3, ti_ag9, ti_ag100, ti_fl100_0, ti_fl100_1, ti_fl100_2, ti_hb27, ti_hb29, ti_hb83, ti_hb84, ti_hb85, ti_sb22, ti_sb49, ti_sl22, ti_sl49, ti_sz100, ti_zr100, ti_zr117, evD, evV, hf, in_38] at hF
    subst hF
    repeat' (first
      | with_reducible refine And.intro ?_ ?_
      | with_reducible intro _
      | with_reducible refine AWp_seq ?_
      | with_reducible refine AWp_block ?_
      | (with_reducible refine hKv _ _ (AWp_nop ?_); clear hKv Kv)
      | (with_reducible refine hKv _ _ ?_; clear hKv Kv; simp (dsimp := false) only [go_sem, Nat.reduceAdd, Nat.reduceBEq, Nat.reduceEqDiff, Nat.reduceLT, Nat.reduceLeDiff, Nat.reduceMul, Int.reduceToNat, reduceCtorEq, ↓reduceIte, Tryd.ntmps38, Tryd.results38, ks_38, mu_38, nd_38, ro_38, ti_ag3, ti_ag9, ti_ag100, ti_fl100_0, ti_fl100_1, ti_fl100_2, ti_hb27, ti_hb29, ti_hb83, ti_hb84, ti_hb85, ti_sb22, ti_sb49, ti_sl22, ti_sl49, ti_sz100, ti_zr100, ti_zr117, evD, evV, hf])
      | (with_reducible refine hKA ?_; clear hKA hKB KA KB)
      | (with_reducible refine hKB ?_; clear hKA hKB KA KB)
      | ((first | with_reducible refine AWp_regro mu_38 ks_38 ro_38 ?_ | with_reducible refine AWp_regC mu_38 ks_38 ?_ | with_reducible refine AWp_draw nd_38 mu_38 ks_38 ti_mixed (by kernel_rfl) ?_); intro Kv hKv; simp (dsimp := false) only [go_sem, Nat.reduceAdd, Nat.reduceBEq, Nat.reduceEqDiff, Nat.reduceLT, Nat.reduceLeDiff, Nat.reduceMul, Int.reduceToNat, reduceCtorEq, ↓reduceIte, Tryd.ntmps38, Tryd.results38, ks_38, mu_38, nd_38, ro_38, ti_ag3, ti_ag9, ti_ag100, ti_fl100_0, ti_fl100_1, ti_fl100_2, ti_hb27, ti_hb29, ti_hb83, ti_hb84, ti_hb85, ti_sb22, ti_sb49, ti_sl22, ti_sl49, ti_sz100, ti_zr100, ti_zr117, evD, evV, hf])
      | with_reducible refine AWp_skipN ?_
      | with_reducible refine AWp_exitO (by repeat (first | with_reducible exact Out.hit | with_reducible apply Out.thenA | with_reducible apply Out.out rfl)) ?_
      | (with_reducible refine AWp_retR ?_; simp (dsimp := false) only [go_sem, Nat.reduceAdd, Nat.reduceBEq, Nat.reduceEqDiff, Nat.reduceLT, Nat.reduceLeDiff, Nat.reduceMul, Int.reduceToNat, reduceCtorEq, ↓reduceIte, Tryd.ntmps38, Tryd.results38, ks_38, mu_38, nd_38, ro_38, ti_ag3, ti_ag9, ti_ag100, ti_fl100_0, ti_fl100_1, ti_fl100_2, ti_hb27, ti_hb29, ti_hb83, ti_hb84, ti_hb85, ti_sb22, ti_sb49, ti_sl22, ti_sl49, ti_sz100, ti_zr100, ti_zr117, evD, evV, hf])
      | ((first | with_reducible refine AWp_regE mu_38 ks_38 ?_ | with_reducible refine AWp_drawE nd_38 mu_38 ks_38 ti_mixed (by kernel_rfl) ?_); intro Kv hKv; simp (dsimp := false) only [go_sem, Nat.reduceAdd, Nat.reduceBEq, Nat.reduceEqDiff, Nat.reduceLT, Nat.reduceLeDiff, Nat.reduceMul, Int.reduceToNat, reduceCtorEq, ↓reduceIte, Tryd.ntmps38, Tryd.results38, ks_38, mu_38, nd_38, ro_38, ti_ag3, ti_ag9, ti_ag100, ti_fl100_0, ti_fl100_1, ti_fl100_2, ti_hb27, ti_hb29, ti_hb83, ti_hb84, ti_hb85, ti_sb22, ti_sb49, ti_sl22, ti_sl49, ti_sz100, ti_zr100, ti_zr117, evD, evV, hf])
      | (refine AWp_condC rfl ?_; intro KA KB hKA hKB; try simp only [onB_true, onB_false, onB_dec, onB_ndec, onB_not, onB_and, onB_or])
      | (refine AWp_condA rfl ?_ ?_)
      | ((first | refine xmlCheck_A l hS _ _ ?_ | refine QCall_of (xmlCheck_A l hS _ _ (Two_intro _ _)) ?_); try simp (dsimp := false) only [go_sem, Nat.reduceAdd, Nat.reduceBEq, Nat.reduceEqDiff, Nat.reduceLT, Nat.reduceLeDiff, Nat.reduceMul, Int.reduceToNat, reduceCtorEq, ↓reduceIte, Tryd.ntmps38, Tryd.results38, ks_38, mu_38, nd_38, ro_38, ti_ag3, ti_ag9, ti_ag100, ti_fl100_0, ti_fl100_1, ti_fl100_2, ti_hb27, ti_hb29, ti_hb83, ti_hb84, ti_hb85, ti_sb22, ti_sb49, ti_sl22, ti_sl49, ti_sz100, ti_zr100, ti_zr117, evD, evV, hf])
      | with_reducible refine onB_of ?_ ?_
      | with_reducible rfl
      | omega)
    refine AWp_prm H.length 0 1 5 1 ((get_app0 _ _).trans rfl) rfl rfl (h := ?_)
    refine AWp_whileH (fun y : Ws => SwOk l y.i y.s) (wsFr l H) (wsHp l H) (fun y => l.length - y.i) ⟨0, evSt, false, 0, 0⟩ (SwOk.zero hgo) ?_ ?_ ?_ ?_
    · first | rfl | (simp [wsHp, bldC, bufC, selfV, swAt]; done)
    · simp only [wsFr]
      simp (dsimp := false) only [go_sem, Nat.reduceAdd, Nat.reduceBEq, Nat.reduceEqDiff, Nat.reduceLT, Nat.reduceLeDiff, Nat.reduceMul, Int.reduceToNat, reduceCtorEq, ↓reduceIte, Tryd.ntmps38, Tryd.results38, ks_38, mu_38, nd_38, ro_38, ti_ag3, ti_ag9, ti_ag100, ti_fl100_0, ti_fl100_1, ti_fl100_2, ti_hb27, ti_hb29, ti_hb83, ti_hb84, ti_hb85, ti_sb22, ti_sb49, ti_sl22, ti_sl49, ti_sz100, ti_zr100, ti_zr117, evD, evV, hf]
      first | done | (simp [swAt]; done)
    · rintro y _ ob hob
      exact wsHp_bel l H y _ (by simp [wsHp]) ob hob
    rintro y hy
    have hcl : Closed H (H ++ wsHp l H y) := closed_app (wsHp_bel l H y _ (by simp [wsHp]))
    obtain ⟨i, s, u, k, b⟩ := y
    simp only [wsFr, wsHp] at hcl hy ⊢
    have hyi := hy.hi
    have hab := hy.ab
    by_cases hin : i < l.length
    · obtain ⟨x, hx⟩ : ∃ x, l[i]? = some x := ⟨l[i], List.getElem?_eq_getElem hin⟩
      have hxs := hS.2 x (List.mem_of_getElem? hx)
      have hin' : ((i : Int) < (l.length : Int)) = True := eq_true (by omega)
      obtain ⟨q1, q2, q3, q4⟩ := evGo_ok1 hx hy.ev
      have hst := hy.step hS hx
      have hsu := swAt_succ hx
      have hnb := hy.nb
      have hnn := hy.n
      have hn20 := hy.n20
      have hel := escT_len x.vl
      generalize swAt l i = Y at hcl hab hsu hnb hnn ⊢
      obtain ⟨acc, names, bare⟩ := Y
      simp only [] at hcl hab hsu hnb hnn ⊢
      obtain h1 | h1 | h1 | h1 | h1 : x.k = 1 ∨ x.k = 2 ∨ x.k = 3 ∨ x.k = 4 ∨ x.k = 5 := by omega
      · cases bare
        · skip
          
          repeat' (first
            | with_reducible refine And.intro ?_ ?_
            | with_reducible intro _
            | with_reducible refine AWp_seq ?_
            | with_reducible refine AWp_block ?_
            | (with_reducible refine hKv _ _ (AWp_nop ?_); clear hKv Kv)
            | (with_reducible refine hKv _ _ ?_; clear hKv Kv; simp (dsimp := false) only [go_sem, Nat.reduceAdd, Nat.reduceBEq, Nat.reduceEqDiff, Nat.reduceLT, Nat.reduceLeDiff, Nat.reduceMul, Int.reduceToNat, reduceCtorEq, ↓reduceIte, Tryd.ntmps38, Tryd.results38, ks_38, mu_38, nd_38, ro_38, ti_ag3, ti_ag9, ti_ag100, ti_fl100_0, ti_fl100_1, ti_fl100_2, ti_hb27, ti_hb29, ti_hb83, ti_hb84, ti_hb85, ti_sb22, ti_sb49, ti_sl22, ti_sl49, ti_sz100, ti_zr100, ti_zr117, evD, evV, h1, Int.reduceEq, decide_true, decide_false, Bool.not_true, Bool.not_false, not_true_eq_false, not_false_eq_true, true_implies, false_implies, and_true, true_and, hx, hin', List.length_map])
            | (with_reducible refine hKA ?_; clear hKA hKB KA KB)
            | (with_reducible refine hKB ?_; clear hKA hKB KA KB)
            | ((first | with_reducible refine AWp_regro mu_38 ks_38 ro_38 ?_ | with_reducible refine AWp_regC mu_38 ks_38 ?_ | with_reducible refine AWp_draw nd_38 mu_38 ks_38 ti_mixed (by kernel_rfl) ?_); intro Kv hKv; simp (dsimp := false) only [go_sem, Nat.reduceAdd, Nat.reduceBEq, Nat.reduceEqDiff, Nat.reduceLT, Nat.reduceLeDiff, Nat.reduceMul, Int.reduceToNat, reduceCtorEq, ↓reduceIte, Tryd.ntmps38, Tryd.results38, ks_38, mu_38, nd_38, ro_38, ti_ag3, ti_ag9, ti_ag100, ti_fl100_0, ti_fl100_1, ti_fl100_2, ti_hb27, ti_hb29, ti_hb83, ti_hb84, ti_hb85, ti_sb22, ti_sb49, ti_sl22, ti_sl49, ti_sz100, ti_zr100, ti_zr117, evD, evV, h1, Int.reduceEq, decide_true, decide_false, Bool.not_true, Bool.not_false, not_true_eq_false, not_false_eq_true, true_implies, false_implies, and_true, true_and, hx, hin', List.length_map])
            | with_reducible refine AWp_skipN ?_
            | with_reducible refine AWp_exitO (by repeat (first | with_reducible exact Out.hit | with_reducible apply Out.thenA | with_reducible apply Out.out rfl)) ?_
            | (with_reducible refine AWp_retR ?_; simp (dsimp := false) only [go_sem, Nat.reduceAdd, Nat.reduceBEq, Nat.reduceEqDiff, Nat.reduceLT, Nat.reduceLeDiff, Nat.reduceMul, Int.reduceToNat, reduceCtorEq, ↓reduceIte, Tryd.ntmps38, Tryd.results38, ks_38, mu_38, nd_38, ro_38, ti_ag3, ti_ag9, ti_ag100, ti_fl100_0, ti_fl100_1, ti_fl100_2, ti_hb27, ti_hb29, ti_hb83, ti_hb84, ti_hb85, ti_sb22, ti_sb49, ti_sl22, ti_sl49, ti_sz100, ti_zr100, ti_zr117, evD, evV, h1, Int.reduceEq, decide_true, decide_false, Bool.not_true, Bool.not_false, not_true_eq_false, not_false_eq_true, true_implies, false_implies, and_true, true_and, hx, hin', List.length_map])
            | ((first | with_reducible refine AWp_regE mu_38 ks_38 ?_ | with_reducible refine AWp_drawE nd_38 mu_38 ks_38 ti_mixed (by kernel_rfl) ?_); intro Kv hKv; simp (dsimp := false) only [go_sem, Nat.reduceAdd, Nat.reduceBEq, Nat.reduceEqDiff, Nat.reduceLT, Nat.reduceLeDiff, Nat.reduceMul, Int.reduceToNat, reduceCtorEq, ↓reduceIte, Tryd.ntmps38, Tryd.results38, ks_38, mu_38, nd_38, ro_38, ti_ag3, ti_ag9, ti_ag100, ti_fl100_0, ti_fl100_1, ti_fl100_2, ti_hb27, ti_hb29, ti_hb83, ti_hb84, ti_hb85, ti_sb22, ti_sb49, ti_sl22, ti_sl49, ti_sz100, ti_zr100, ti_zr117, evD, evV, h1, Int.reduceEq, decide_true, decide_false, Bool.not_true, Bool.not_false, not_true_eq_false, not_false_eq_true, true_implies, false_implies, and_true, true_and, hx, hin', List.length_map])
            | (refine AWp_condC rfl ?_; intro KA KB hKA hKB; try simp only [onB_true, onB_false, onB_dec, onB_ndec, onB_not, onB_and, onB_or])
            | (refine AWp_condA rfl ?_ ?_)
            | ((first | refine writeString_A H.length (H.length + 2) (k) u acc _ (by omega) (by (try simp only [List.length_cons, List.length_append, List.length_nil]); omega) _ _ ((get_app0 _ _).trans rfl) ((get_appk _ _ 2).trans rfl) ?_ | refine QCall_of (writeString_A H.length (H.length + 2) (k) u acc _ (by omega) (by (try simp only [List.length_cons, List.length_append, List.length_nil]); omega) _ _ ((get_app0 _ _).trans rfl) ((get_appk _ _ 2).trans rfl) (Two_intro _ _)) ?_); try simp (dsimp := false) only [go_sem, Nat.reduceAdd, Nat.reduceBEq, Nat.reduceEqDiff, Nat.reduceLT, Nat.reduceLeDiff, Nat.reduceMul, Int.reduceToNat, reduceCtorEq, ↓reduceIte, Tryd.ntmps38, Tryd.results38, ks_38, mu_38, nd_38, ro_38, ti_ag3, ti_ag9, ti_ag100, ti_fl100_0, ti_fl100_1, ti_fl100_2, ti_hb27, ti_hb29, ti_hb83, ti_hb84, ti_hb85, ti_sb22, ti_sb49, ti_sl22, ti_sl49, ti_sz100, ti_zr100, ti_zr117, evD, evV, h1, Int.reduceEq, decide_true, decide_false, Bool.not_true, Bool.not_false, not_true_eq_false, not_false_eq_true, true_implies, false_implies, and_true, true_and, hx, hin', List.length_map])
            | with_reducible refine onB_of ?_ ?_
            | with_reducible rfl
            | omega)
          all_goals first
            | omega
            | exact hcl
            | (simp; omega)
            | exact ⟨⟨i + 1, evS s x, true, k + 1, b + 1⟩, hst, by show l.length - (i + 1) < l.length - i; omega, by simp [hsu, swStep, swPre, swTxt, h1, strC, bldC, bufC, selfV, List.append_assoc], by rw [hsu]; simp [swStep, h1]; omega⟩
            | exact ⟨⟨i + 1, evS s x, true, k + 1, b + 1⟩, hst, by show l.length - (i + 1) < l.length - i; omega, by simp [hsu, swStep, swPre, swTxt, h1, strC, bldC, bufC, selfV, List.append_assoc], by rw [hsu]; simp [swStep, h1]⟩
        · skip
          
          repeat' (first
            | with_reducible refine And.intro ?_ ?_
            | with_reducible intro _
            | with_reducible refine AWp_seq ?_
            | with_reducible refine AWp_block ?_
            | (with_reducible refine hKv _ _ (AWp_nop ?_); clear hKv Kv)
            | (with_reducible refine hKv _ _ ?_; clear hKv Kv; simp (dsimp := false) only [go_sem, Nat.reduceAdd, Nat.reduceBEq, Nat.reduceEqDiff, Nat.reduceLT, Nat.reduceLeDiff, Nat.reduceMul, Int.reduceToNat, reduceCtorEq, ↓reduceIte, Tryd.ntmps38, Tryd.results38, ks_38, mu_38, nd_38, ro_38, ti_ag3, ti_ag9, ti_ag100, ti_fl100_0, ti_fl100_1, ti_fl100_2, ti_hb27, ti_hb29, ti_hb83, ti_hb84, ti_hb85, ti_sb22, ti_sb49, ti_sl22, ti_sl49, ti_sz100, ti_zr100, ti_zr117, evD, evV, h1, Int.reduceEq, decide_true, decide_false, Bool.not_true, Bool.not_false, not_true_eq_false, not_false_eq_true, true_implies, false_implies, and_true, true_and, hx, hin', List.length_map])
            | (with_reducible refine hKA ?_; clear hKA hKB KA KB)
            | (with_reducible refine hKB ?_; clear hKA hKB KA KB)
            | ((first | with_reducible refine AWp_regro mu_38 ks_38 ro_38 ?_ | with_reducible refine AWp_regC mu_38 ks_38 ?_ | with_reducible refine AWp_draw nd_38 mu_38 ks_38 ti_mixed (by kernel_rfl) ?_); intro Kv hKv; simp (dsimp := false) only [go_sem, Nat.reduceAdd, Nat.reduceBEq, Nat.reduceEqDiff, Nat.reduceLT, Nat.reduceLeDiff, Nat.reduceMul, Int.reduceToNat, reduceCtorEq, ↓reduceIte, Tryd.ntmps38, Tryd.results38, ks_38, mu_38, nd_38, ro_38, ti_ag3, ti_ag9, ti_ag100, ti_fl100_0, ti_fl100_1, ti_fl100_2, ti_hb27, ti_hb29, ti_hb83, ti_hb84, ti_hb85, ti_sb22, ti_sb49, ti_sl22, ti_sl49, ti_sz100, ti_zr100, ti_zr117, evD, evV, h1, Int.reduceEq, decide_true, decide_false, Bool.not_true, Bool.not_false, not_true_eq_false, not_false_eq_true, true_implies, false_implies, and_true, true_and, hx, hin', List.length_map])
            | with_reducible refine AWp_skipN ?_
            | with_reducible refine AWp_exitO (by repeat (first | with_reducible exact Out.hit | with_reducible apply Out.thenA | with_reducible apply Out.out rfl)) ?_
            | (with_reducible refine AWp_retR ?_; simp (dsimp := false) only [go_sem, Nat.reduceAdd, Nat.reduceBEq, Nat.reduceEqDiff, Nat.reduceLT, Nat.reduceLeDiff, Nat.reduceMul, Int.reduceToNat, reduceCtorEq, ↓reduceIte, Tryd.ntmps38, Tryd.results38, ks_38, mu_38, nd_38, ro_38, ti_ag3, ti_ag9, ti_ag100, ti_fl100_0, ti_fl100_1, ti_fl100_2, ti_hb27, ti_hb29, ti_hb83, ti_hb84, ti_hb85, ti_sb22, ti_sb49, ti_sl22, ti_sl49, ti_sz100, ti_zr100, ti_zr117, evD, evV, h1, Int.reduceEq, decide_true, decide_false, Bool.not_true, Bool.not_false, not_true_eq_false, not_false_eq_true, true_implies, false_implies, and_true, true_and, hx, hin', List.length_map])
            | ((first | with_reducible refine AWp_regE mu_38 ks_38 ?_ | with_reducible refine AWp_drawE nd_38 mu_38 ks_38 ti_mixed (by kernel_rfl) ?_); intro Kv hKv; simp (dsimp := false) only [go_sem, Nat.reduceAdd, Nat.reduceBEq, Nat.reduceEqDiff, Nat.reduceLT, Nat.reduceLeDiff, Nat.reduceMul, Int.reduceToNat, reduceCtorEq, ↓reduceIte, Tryd.ntmps38, Tryd.results38, ks_38, mu_38, nd_38, ro_38, ti_ag3, ti_ag9, ti_ag100, ti_fl100_0, ti_fl100_1, ti_fl100_2, ti_hb27, ti_hb29, ti_hb83, ti_hb84, ti_hb85, ti_sb22, ti_sb49, ti_sl22, ti_sl49, ti_sz100, ti_zr100, ti_zr117, evD, evV, h1, Int.reduceEq, decide_true, decide_false, Bool.not_true, Bool.not_false, not_true_eq_false, not_false_eq_true, true_implies, false_implies, and_true, true_and, hx, hin', List.length_map])
            | (refine AWp_condC rfl ?_; intro KA KB hKA hKB; try simp only [onB_true, onB_false, onB_dec, onB_ndec, onB_not, onB_and, onB_or])
            | (refine AWp_condA rfl ?_ ?_)
            | ((first | refine writeByte_A H.length (H.length + 2) k u acc _ 62 rfl (by omega) (by omega) _ _ ((get_app0 _ _).trans rfl) ((get_appk _ _ 2).trans rfl) ?_ | refine QCall_of (writeByte_A H.length (H.length + 2) k u acc _ 62 rfl (by omega) (by omega) _ _ ((get_app0 _ _).trans rfl) ((get_appk _ _ 2).trans rfl) (Two_intro _ _)) ?_ | refine writeString_A H.length (H.length + 2) (k + 1) true (acc ++ [62]) _ (by omega) (by (try simp only [List.length_cons, List.length_append, List.length_nil]); omega) _ _ ((get_app0 _ _).trans rfl) ((get_appk _ _ 2).trans rfl) ?_ | refine QCall_of (writeString_A H.length (H.length + 2) (k + 1) true (acc ++ [62]) _ (by omega) (by (try simp only [List.length_cons, List.length_append, List.length_nil]); omega) _ _ ((get_app0 _ _).trans rfl) ((get_appk _ _ 2).trans rfl) (Two_intro _ _)) ?_); try simp (dsimp := false) only [go_sem, Nat.reduceAdd, Nat.reduceBEq, Nat.reduceEqDiff, Nat.reduceLT, Nat.reduceLeDiff, Nat.reduceMul, Int.reduceToNat, reduceCtorEq, ↓reduceIte, Tryd.ntmps38, Tryd.results38, ks_38, mu_38, nd_38, ro_38, ti_ag3, ti_ag9, ti_ag100, ti_fl100_0, ti_fl100_1, ti_fl100_2, ti_hb27, ti_hb29, ti_hb83, ti_hb84, ti_hb85, ti_sb22, ti_sb49, ti_sl22, ti_sl49, ti_sz100, ti_zr100, ti_zr117, evD, evV, h1, Int.reduceEq, decide_true, decide_false, Bool.not_true, Bool.not_false, not_true_eq_false, not_false_eq_true, true_implies, false_implies, and_true, true_and, hx, hin', List.length_map])
            | with_reducible refine onB_of ?_ ?_
            | with_reducible rfl
            | omega)
          all_goals first
            | omega
            | exact hcl
            | (simp; omega)
            | exact ⟨⟨i + 1, evS s x, true, k + 2, b + 1⟩, hst, by show l.length - (i + 1) < l.length - i; omega, by simp [hsu, swStep, swPre, swTxt, h1, strC, bldC, bufC, selfV, List.append_assoc], by rw [hsu]; simp [swStep, h1]; omega⟩
            | exact ⟨⟨i + 1, evS s x, true, k + 2, b + 1⟩, hst, by show l.length - (i + 1) < l.length - i; omega, by simp [hsu, swStep, swPre, swTxt, h1, strC, bldC, bufC, selfV, List.append_assoc], by rw [hsu]; simp [swStep, h1]⟩
      · skip
        
        repeat' (first
          | with_reducible refine And.intro ?_ ?_
          | with_reducible intro _
          | with_reducible refine AWp_seq ?_
          | with_reducible refine AWp_block ?_
          | (with_reducible refine hKv _ _ (AWp_nop ?_); clear hKv Kv)
          | (with_reducible refine hKv _ _ ?_; clear hKv Kv; simp (dsimp := false) only [go_sem, Nat.reduceAdd, Nat.reduceBEq, Nat.reduceEqDiff, Nat.reduceLT, Nat.reduceLeDiff, Nat.reduceMul, Int.reduceToNat, reduceCtorEq, ↓reduceIte, Tryd.ntmps38, Tryd.results38, ks_38, mu_38, nd_38, ro_38, ti_ag3, ti_ag9, ti_ag100, ti_fl100_0, ti_fl100_1, ti_fl100_2, ti_hb27, ti_hb29, ti_hb83, ti_hb84, ti_hb85, ti_sb22, ti_sb49, ti_sl22, ti_sl49, ti_sz100, ti_zr100, ti_zr117, evD, evV, h1, Int.reduceEq, decide_true, decide_false, Bool.not_true, Bool.not_false, not_true_eq_false, not_false_eq_true, true_implies, false_implies, and_true, true_and, hx, hin', List.length_map])
          | (with_reducible refine hKA ?_; clear hKA hKB KA KB)
          | (with_reducible refine hKB ?_; clear hKA hKB KA KB)
          | ((first | with_reducible refine AWp_regro mu_38 ks_38 ro_38 ?_ | with_reducible refine AWp_regC mu_38 ks_38 ?_ | with_reducible refine AWp_draw nd_38 mu_38 ks_38 ti_mixed (by kernel_rfl) ?_); intro Kv hKv; simp (dsimp := false) only [go_sem, Nat.reduceAdd, Nat.reduceBEq, Nat.reduceEqDiff, Nat.reduceLT, Nat.reduceLeDiff, Nat.reduceMul, Int.reduceToNat, reduceCtorEq, ↓reduceIte, Tryd.ntmps38, Tryd.results38, ks_38, mu_38, nd_38, ro_38, ti_ag3, ti_ag9, ti_ag100, ti_fl100_0, ti_fl100_1, ti_fl100_2, ti_hb27, ti_hb29, ti_hb83, ti_hb84, ti_hb85, ti_sb22, ti_sb49, ti_sl22, ti_sl49, ti_sz100, ti_zr100, ti_zr117, evD, evV, h1, Int.reduceEq, decide_true, decide_false, Bool.not_true, Bool.not_false, not_true_eq_false, not_false_eq_true, true_implies, false_implies, and_true, true_and, hx, hin', List.length_map])
          | with_reducible refine AWp_skipN ?_
          | with_reducible refine AWp_exitO (by repeat (first | with_reducible exact Out.hit | with_reducible apply Out.thenA | with_reducible apply Out.out rfl)) ?_
          | (with_reducible refine AWp_retR ?_; simp (dsimp := false) only [go_sem, Nat.reduceAdd, Nat.reduceBEq, Nat.reduceEqDiff, Nat.reduceLT, Nat.reduceLeDiff, Nat.reduceMul, Int.reduceToNat, reduceCtorEq, ↓reduceIte, Tryd.ntmps38, Tryd.results38, ks_38, mu_38, nd_38, ro_38, ti_ag3, ti_ag9, ti_ag100, ti_fl100_0, ti_fl100_1, ti_fl100_2, ti_hb27, ti_hb29, ti_hb83, ti_hb84, ti_hb85, ti_sb22, ti_sb49, ti_sl22, ti_sl49, ti_sz100, ti_zr100, ti_zr117, evD, evV, h1, Int.reduceEq, decide_true, decide_false, Bool.not_true, Bool.not_false, not_true_eq_false, not_false_eq_true, true_implies, false_implies, and_true, true_and, hx, hin', List.length_map])
          | ((first | with_reducible refine AWp_regE mu_38 ks_38 ?_ | with_reducible refine AWp_drawE nd_38 mu_38 ks_38 ti_mixed (by kernel_rfl) ?_); intro Kv hKv; simp (dsimp := false) only [go_sem, Nat.reduceAdd, Nat.reduceBEq, Nat.reduceEqDiff, Nat.reduceLT, Nat.reduceLeDiff, Nat.reduceMul, Int.reduceToNat, reduceCtorEq, ↓reduceIte, Tryd.ntmps38, Tryd.results38, ks_38, mu_38, nd_38, ro_38, ti_ag3, ti_ag9, ti_ag100, ti_fl100_0, ti_fl100_1, ti_fl100_2, ti_hb27, ti_hb29, ti_hb83, ti_hb84, ti_hb85, ti_sb22, ti_sb49, ti_sl22, ti_sl49, ti_sz100, ti_zr100, ti_zr117, evD, evV, h1, Int.reduceEq, decide_true, decide_false, Bool.not_true, Bool.not_false, not_true_eq_false, not_false_eq_true, true_implies, false_implies, and_true, true_and, hx, hin', List.length_map])
          | (refine AWp_condC rfl ?_; intro KA KB hKA hKB; try simp only [onB_true, onB_false, onB_dec, onB_ndec, onB_not, onB_and, onB_or])
          | (refine AWp_condA rfl ?_ ?_)
          | ((first | refine escape_A x.vl (by omega) _ _ ?_ | refine QCall_of (escape_A x.vl (by omega) _ _ (Two_intro _ _)) ?_ | refine writeString_A H.length (H.length + 2) (k) u acc _ (by omega) (by (try simp only [List.length_cons, List.length_append, List.length_nil]); omega) _ _ ((get_app0 _ _).trans rfl) ((get_appk _ _ 2).trans rfl) ?_ | refine QCall_of (writeString_A H.length (H.length + 2) (k) u acc _ (by omega) (by (try simp only [List.length_cons, List.length_append, List.length_nil]); omega) _ _ ((get_app0 _ _).trans rfl) ((get_appk _ _ 2).trans rfl) (Two_intro _ _)) ?_); try simp (dsimp := false) only [go_sem, Nat.reduceAdd, Nat.reduceBEq, Nat.reduceEqDiff, Nat.reduceLT, Nat.reduceLeDiff, Nat.reduceMul, Int.reduceToNat, reduceCtorEq, ↓reduceIte, Tryd.ntmps38, Tryd.results38, ks_38, mu_38, nd_38, ro_38, ti_ag3, ti_ag9, ti_ag100, ti_fl100_0, ti_fl100_1, ti_fl100_2, ti_hb27, ti_hb29, ti_hb83, ti_hb84, ti_hb85, ti_sb22, ti_sb49, ti_sl22, ti_sl49, ti_sz100, ti_zr100, ti_zr117, evD, evV, h1, Int.reduceEq, decide_true, decide_false, Bool.not_true, Bool.not_false, not_true_eq_false, not_false_eq_true, true_implies, false_implies, and_true, true_and, hx, hin', List.length_map])
          | with_reducible refine onB_of ?_ ?_
          | with_reducible rfl
          | omega)
        all_goals first
          | omega
          | exact hcl
          | (simp; omega)
          | exact ⟨⟨i + 1, evS s x, true, k + 1, b⟩, hst, by show l.length - (i + 1) < l.length - i; omega, by simp [hsu, swStep, swPre, swTxt, h1, strC, bldC, bufC, selfV, List.append_assoc], by rw [hsu]; simp [swStep, h1]; omega⟩
          | exact ⟨⟨i + 1, evS s x, true, k + 1, b⟩, hst, by show l.length - (i + 1) < l.length - i; omega, by simp [hsu, swStep, swPre, swTxt, h1, strC, bldC, bufC, selfV, List.append_assoc], by rw [hsu]; simp [swStep, h1]⟩
      · cases bare
        · skip
          
          repeat' (first
            | with_reducible refine And.intro ?_ ?_
            | with_reducible intro _
            | with_reducible refine AWp_seq ?_
            | with_reducible refine AWp_block ?_
            | (with_reducible refine hKv _ _ (AWp_nop ?_); clear hKv Kv)
            | (with_reducible refine hKv _ _ ?_; clear hKv Kv; simp (dsimp := false) only [go_sem, Nat.reduceAdd, Nat.reduceBEq, Nat.reduceEqDiff, Nat.reduceLT, Nat.reduceLeDiff, Nat.reduceMul, Int.reduceToNat, reduceCtorEq, ↓reduceIte, Tryd.ntmps38, Tryd.results38, ks_38, mu_38, nd_38, ro_38, ti_ag3, ti_ag9, ti_ag100, ti_fl100_0, ti_fl100_1, ti_fl100_2, ti_hb27, ti_hb29, ti_hb83, ti_hb84, ti_hb85, ti_sb22, ti_sb49, ti_sl22, ti_sl49, ti_sz100, ti_zr100, ti_zr117, evD, evV, h1, Int.reduceEq, decide_true, decide_false, Bool.not_true, Bool.not_false, not_true_eq_false, not_false_eq_true, true_implies, false_implies, and_true, true_and, hx, hin', List.length_map])
            | (with_reducible refine hKA ?_; clear hKA hKB KA KB)
            | (with_reducible refine hKB ?_; clear hKA hKB KA KB)
            | ((first | with_reducible refine AWp_regro mu_38 ks_38 ro_38 ?_ | with_reducible refine AWp_regC mu_38 ks_38 ?_ | with_reducible refine AWp_draw nd_38 mu_38 ks_38 ti_mixed (by kernel_rfl) ?_); intro Kv hKv; simp (dsimp := false) only [go_sem, Nat.reduceAdd, Nat.reduceBEq, Nat.reduceEqDiff, Nat.reduceLT, Nat.reduceLeDiff, Nat.reduceMul, Int.reduceToNat, reduceCtorEq, ↓reduceIte, Tryd.ntmps38, Tryd.results38, ks_38, mu_38, nd_38, ro_38, ti_ag3, ti_ag9, ti_ag100, ti_fl100_0, ti_fl100_1, ti_fl100_2, ti_hb27, ti_hb29, ti_hb83, ti_hb84, ti_hb85, ti_sb22, ti_sb49, ti_sl22, ti_sl49, ti_sz100, ti_zr100, ti_zr117, evD, evV, h1, Int.reduceEq, decide_true, decide_false, Bool.not_true, Bool.not_false, not_true_eq_false, not_false_eq_true, true_implies, false_implies, and_true, true_and, hx, hin', List.length_map])
            | with_reducible refine AWp_skipN ?_
            | with_reducible refine AWp_exitO (by repeat (first | with_reducible exact Out.hit | with_reducible apply Out.thenA | with_reducible apply Out.out rfl)) ?_
            | (with_reducible refine AWp_retR ?_; simp (dsimp := false) only [go_sem, Nat.reduceAdd, Nat.reduceBEq, Nat.reduceEqDiff, Nat.reduceLT, Nat.reduceLeDiff, Nat.reduceMul, Int.reduceToNat, reduceCtorEq, ↓reduceIte, Tryd.ntmps38, Tryd.results38, ks_38, mu_38, nd_38, ro_38, ti_ag3, ti_ag9, ti_ag100, ti_fl100_0, ti_fl100_1, ti_fl100_2, ti_hb27, ti_hb29, ti_hb83, ti_hb84, ti_hb85, ti_sb22, ti_sb49, ti_sl22, ti_sl49, ti_sz100, ti_zr100, ti_zr117, evD, evV, h1, Int.reduceEq, decide_true, decide_false, Bool.not_true, Bool.not_false, not_true_eq_false, not_false_eq_true, true_implies, false_implies, and_true, true_and, hx, hin', List.length_map])
            | ((first | with_reducible refine AWp_regE mu_38 ks_38 ?_ | with_reducible refine AWp_drawE nd_38 mu_38 ks_38 ti_mixed (by kernel_rfl) ?_); intro Kv hKv; simp (dsimp := false) only [go_sem, Nat.reduceAdd, Nat.reduceBEq, Nat.reduceEqDiff, Nat.reduceLT, Nat.reduceLeDiff, Nat.reduceMul, Int.reduceToNat, reduceCtorEq, ↓reduceIte, Tryd.ntmps38, Tryd.results38, ks_38, mu_38, nd_38, ro_38, ti_ag3, ti_ag9, ti_ag100, ti_fl100_0, ti_fl100_1, ti_fl100_2, ti_hb27, ti_hb29, ti_hb83, ti_hb84, ti_hb85, ti_sb22, ti_sb49, ti_sl22, ti_sl49, ti_sz100, ti_zr100, ti_zr117, evD, evV, h1, Int.reduceEq, decide_true, decide_false, Bool.not_true, Bool.not_false, not_true_eq_false, not_false_eq_true, true_implies, false_implies, and_true, true_and, hx, hin', List.length_map])
            | (refine AWp_condC rfl ?_; intro KA KB hKA hKB; try simp only [onB_true, onB_false, onB_dec, onB_ndec, onB_not, onB_and, onB_or])
            | (refine AWp_condA rfl ?_ ?_)
            | ((first | refine escape_A x.vl (by omega) _ _ ?_ | refine QCall_of (escape_A x.vl (by omega) _ _ (Two_intro _ _)) ?_ | refine writeString_A H.length (H.length + 2) (k) u acc _ (by omega) (by (try simp only [List.length_cons, List.length_append, List.length_nil]); omega) _ _ ((get_app0 _ _).trans rfl) ((get_appk _ _ 2).trans rfl) ?_ | refine QCall_of (writeString_A H.length (H.length + 2) (k) u acc _ (by omega) (by (try simp only [List.length_cons, List.length_append, List.length_nil]); omega) _ _ ((get_app0 _ _).trans rfl) ((get_appk _ _ 2).trans rfl) (Two_intro _ _)) ?_); try simp (dsimp := false) only [go_sem, Nat.reduceAdd, Nat.reduceBEq, Nat.reduceEqDiff, Nat.reduceLT, Nat.reduceLeDiff, Nat.reduceMul, Int.reduceToNat, reduceCtorEq, ↓reduceIte, Tryd.ntmps38, Tryd.results38, ks_38, mu_38, nd_38, ro_38, ti_ag3, ti_ag9, ti_ag100, ti_fl100_0, ti_fl100_1, ti_fl100_2, ti_hb27, ti_hb29, ti_hb83, ti_hb84, ti_hb85, ti_sb22, ti_sb49, ti_sl22, ti_sl49, ti_sz100, ti_zr100, ti_zr117, evD, evV, h1, Int.reduceEq, decide_true, decide_false, Bool.not_true, Bool.not_false, not_true_eq_false, not_false_eq_true, true_implies, false_implies, and_true, true_and, hx, hin', List.length_map])
            | with_reducible refine onB_of ?_ ?_
            | with_reducible rfl
            | omega)
          all_goals first
            | omega
            | exact hcl
            | (simp; omega)
            | exact ⟨⟨i + 1, evS s x, true, k + 1, b⟩, hst, by show l.length - (i + 1) < l.length - i; omega, by simp [hsu, swStep, swPre, swTxt, h1, strC, bldC, bufC, selfV, List.append_assoc], by rw [hsu]; simp [swStep, h1]; omega⟩
            | exact ⟨⟨i + 1, evS s x, true, k + 1, b⟩, hst, by show l.length - (i + 1) < l.length - i; omega, by simp [hsu, swStep, swPre, swTxt, h1, strC, bldC, bufC, selfV, List.append_assoc], by rw [hsu]; simp [swStep, h1]⟩
        · skip
          
          repeat' (first
            | with_reducible refine And.intro ?_ ?_
            | with_reducible intro _
            | with_reducible refine AWp_seq ?_
            | with_reducible refine AWp_block ?_
            | (with_reducible refine hKv _ _ (AWp_nop ?_); clear hKv Kv)
            | (with_reducible refine hKv _ _ ?_; clear hKv Kv; simp (dsimp := false) only [go_sem, Nat.reduceAdd, Nat.reduceBEq, Nat.reduceEqDiff, Nat.reduceLT, Nat.reduceLeDiff, Nat.reduceMul, Int.reduceToNat, reduceCtorEq, ↓reduceIte, Tryd.ntmps38, Tryd.results38, ks_38, mu_38, nd_38, ro_38, ti_ag3, ti_ag9, ti_ag100, ti_fl100_0, ti_fl100_1, ti_fl100_2, ti_hb27, ti_hb29, ti_hb83, ti_hb84, ti_hb85, ti_sb22, ti_sb49, ti_sl22, ti_sl49, ti_sz100, ti_zr100, ti_zr117, evD, evV, h1, Int.reduceEq, decide_true, decide_false, Bool.not_true, Bool.not_false, not_true_eq_false, not_false_eq_true, true_implies, false_implies, and_true, true_and, hx, hin', List.length_map])
            | (with_reducible refine hKA ?_; clear hKA hKB KA KB)
            | (with_reducible refine hKB ?_; clear hKA hKB KA KB)
            | ((first | with_reducible refine AWp_regro mu_38 ks_38 ro_38 ?_ | with_reducible refine AWp_regC mu_38 ks_38 ?_ | with_reducible refine AWp_draw nd_38 mu_38 ks_38 ti_mixed (by kernel_rfl) ?_); intro Kv hKv; simp (dsimp := false) only [go_sem, Nat.reduceAdd, Nat.reduceBEq, Nat.reduceEqDiff, Nat.reduceLT, Nat.reduceLeDiff, Nat.reduceMul, Int.reduceToNat, reduceCtorEq, ↓reduceIte, Tryd.ntmps38, Tryd.results38, ks_38, mu_38, nd_38, ro_38, ti_ag3, ti_ag9, ti_ag100, ti_fl100_0, ti_fl100_1, ti_fl100_2, ti_hb27, ti_hb29, ti_hb83, ti_hb84, ti_hb85, ti_sb22, ti_sb49, ti_sl22, ti_sl49, ti_sz100, ti_zr100, ti_zr117, evD, evV, h1, Int.reduceEq, decide_true, decide_false, Bool.not_true, Bool.not_false, not_true_eq_false, not_false_eq_true, true_implies, false_implies, and_true, true_and, hx, hin', List.length_map])
            | with_reducible refine AWp_skipN ?_
            | with_reducible refine AWp_exitO (by repeat (first | with_reducible exact Out.hit | with_reducible apply Out.thenA | with_reducible apply Out.out rfl)) ?_
            | (with_reducible refine AWp_retR ?_; simp (dsimp := false) only [go_sem, Nat.reduceAdd, Nat.reduceBEq, Nat.reduceEqDiff, Nat.reduceLT, Nat.reduceLeDiff, Nat.reduceMul, Int.reduceToNat, reduceCtorEq, ↓reduceIte, Tryd.ntmps38, Tryd.results38, ks_38, mu_38, nd_38, ro_38, ti_ag3, ti_ag9, ti_ag100, ti_fl100_0, ti_fl100_1, ti_fl100_2, ti_hb27, ti_hb29, ti_hb83, ti_hb84, ti_hb85, ti_sb22, ti_sb49, ti_sl22, ti_sl49, ti_sz100, ti_zr100, ti_zr117, evD, evV, h1, Int.reduceEq, decide_true, decide_false, Bool.not_true, Bool.not_false, not_true_eq_false, not_false_eq_true, true_implies, false_implies, and_true, true_and, hx, hin', List.length_map])
            | ((first | with_reducible refine AWp_regE mu_38 ks_38 ?_ | with_reducible refine AWp_drawE nd_38 mu_38 ks_38 ti_mixed (by kernel_rfl) ?_); intro Kv hKv; simp (dsimp := false) only [go_sem, Nat.reduceAdd, Nat.reduceBEq, Nat.reduceEqDiff, Nat.reduceLT, Nat.reduceLeDiff, Nat.reduceMul, Int.reduceToNat, reduceCtorEq, ↓reduceIte, Tryd.ntmps38, Tryd.results38, ks_38, mu_38, nd_38, ro_38, ti_ag3, ti_ag9, ti_ag100, ti_fl100_0, ti_fl100_1, ti_fl100_2, ti_hb27, ti_hb29, ti_hb83, ti_hb84, ti_hb85, ti_sb22, ti_sb49, ti_sl22, ti_sl49, ti_sz100, ti_zr100, ti_zr117, evD, evV, h1, Int.reduceEq, decide_true, decide_false, Bool.not_true, Bool.not_false, not_true_eq_false, not_false_eq_true, true_implies, false_implies, and_true, true_and, hx, hin', List.length_map])
            | (refine AWp_condC rfl ?_; intro KA KB hKA hKB; try simp only [onB_true, onB_false, onB_dec, onB_ndec, onB_not, onB_and, onB_or])
            | (refine AWp_condA rfl ?_ ?_)
            | ((first | refine writeByte_A H.length (H.length + 2) k u acc _ 62 rfl (by omega) (by omega) _ _ ((get_app0 _ _).trans rfl) ((get_appk _ _ 2).trans rfl) ?_ | refine QCall_of (writeByte_A H.length (H.length + 2) k u acc _ 62 rfl (by omega) (by omega) _ _ ((get_app0 _ _).trans rfl) ((get_appk _ _ 2).trans rfl) (Two_intro _ _)) ?_ | refine escape_A x.vl (by omega) _ _ ?_ | refine QCall_of (escape_A x.vl (by omega) _ _ (Two_intro _ _)) ?_ | refine writeString_A H.length (H.length + 2) (k + 1) true (acc ++ [62]) _ (by omega) (by (try simp only [List.length_cons, List.length_append, List.length_nil]); omega) _ _ ((get_app0 _ _).trans rfl) ((get_appk _ _ 2).trans rfl) ?_ | refine QCall_of (writeString_A H.length (H.length + 2) (k + 1) true (acc ++ [62]) _ (by omega) (by (try simp only [List.length_cons, List.length_append, List.length_nil]); omega) _ _ ((get_app0 _ _).trans rfl) ((get_appk _ _ 2).trans rfl) (Two_intro _ _)) ?_); try simp (dsimp := false) only [go_sem, Nat.reduceAdd, Nat.reduceBEq, Nat.reduceEqDiff, Nat.reduceLT, Nat.reduceLeDiff, Nat.reduceMul, Int.reduceToNat, reduceCtorEq, ↓reduceIte, Tryd.ntmps38, Tryd.results38, ks_38, mu_38, nd_38, ro_38, ti_ag3, ti_ag9, ti_ag100, ti_fl100_0, ti_fl100_1, ti_fl100_2, ti_hb27, ti_hb29, ti_hb83, ti_hb84, ti_hb85, ti_sb22, ti_sb49, ti_sl22, ti_sl49, ti_sz100, ti_zr100, ti_zr117, evD, evV, h1, Int.reduceEq, decide_true, decide_false, Bool.not_true, Bool.not_false, not_true_eq_false, not_false_eq_true, true_implies, false_implies, and_true, true_and, hx, hin', List.length_map])
            | with_reducible refine onB_of ?_ ?_
            | with_reducible rfl
            | omega)
          all_goals first
            | omega
            | exact hcl
            | (simp; omega)
            | exact ⟨⟨i + 1, evS s x, true, k + 2, b⟩, hst, by show l.length - (i + 1) < l.length - i; omega, by simp [hsu, swStep, swPre, swTxt, h1, strC, bldC, bufC, selfV, List.append_assoc], by rw [hsu]; simp [swStep, h1]; omega⟩
            | exact ⟨⟨i + 1, evS s x, true, k + 2, b⟩, hst, by show l.length - (i + 1) < l.length - i; omega, by simp [hsu, swStep, swPre, swTxt, h1, strC, bldC, bufC, selfV, List.append_assoc], by rw [hsu]; simp [swStep, h1]⟩
      · cases bare
        · skip
          
          repeat' (first
            | with_reducible refine And.intro ?_ ?_
            | with_reducible intro _
            | with_reducible refine AWp_seq ?_
            | with_reducible refine AWp_block ?_
            | (with_reducible refine hKv _ _ (AWp_nop ?_); clear hKv Kv)
            | (with_reducible refine hKv _ _ ?_; clear hKv Kv; simp (dsimp := false) only [go_sem, Nat.reduceAdd, Nat.reduceBEq, Nat.reduceEqDiff, Nat.reduceLT, Nat.reduceLeDiff, Nat.reduceMul, Int.reduceToNat, reduceCtorEq, ↓reduceIte, Tryd.ntmps38, Tryd.results38, ks_38, mu_38, nd_38, ro_38, ti_ag3, ti_ag9, ti_ag100, ti_fl100_0, ti_fl100_1, ti_fl100_2, ti_hb27, ti_hb29, ti_hb83, ti_hb84, ti_hb85, ti_sb22, ti_sb49, ti_sl22, ti_sl49, ti_sz100, ti_zr100, ti_zr117, evD, evV, h1, Int.reduceEq, decide_true, decide_false, Bool.not_true, Bool.not_false, not_true_eq_false, not_false_eq_true, true_implies, false_implies, and_true, true_and, hx, hin', List.length_map])
            | (with_reducible refine hKA ?_; clear hKA hKB KA KB)
            | (with_reducible refine hKB ?_; clear hKA hKB KA KB)
            | ((first | with_reducible refine AWp_regro mu_38 ks_38 ro_38 ?_ | with_reducible refine AWp_regC mu_38 ks_38 ?_ | with_reducible refine AWp_draw nd_38 mu_38 ks_38 ti_mixed (by kernel_rfl) ?_); intro Kv hKv; simp (dsimp := false) only [go_sem, Nat.reduceAdd, Nat.reduceBEq, Nat.reduceEqDiff, Nat.reduceLT, Nat.reduceLeDiff, Nat.reduceMul, Int.reduceToNat, reduceCtorEq, ↓reduceIte, Tryd.ntmps38, Tryd.results38, ks_38, mu_38, nd_38, ro_38, ti_ag3, ti_ag9, ti_ag100, ti_fl100_0, ti_fl100_1, ti_fl100_2, ti_hb27, ti_hb29, ti_hb83, ti_hb84, ti_hb85, ti_sb22, ti_sb49, ti_sl22, ti_sl49, ti_sz100, ti_zr100, ti_zr117, evD, evV, h1, Int.reduceEq, decide_true, decide_false, Bool.not_true, Bool.not_false, not_true_eq_false, not_false_eq_true, true_implies, false_implies, and_true, true_and, hx, hin', List.length_map])
            | with_reducible refine AWp_skipN ?_
            | with_reducible refine AWp_exitO (by repeat (first | with_reducible exact Out.hit | with_reducible apply Out.thenA | with_reducible apply Out.out rfl)) ?_
            | (with_reducible refine AWp_retR ?_; simp (dsimp := false) only [go_sem, Nat.reduceAdd, Nat.reduceBEq, Nat.reduceEqDiff, Nat.reduceLT, Nat.reduceLeDiff, Nat.reduceMul, Int.reduceToNat, reduceCtorEq, ↓reduceIte, Tryd.ntmps38, Tryd.results38, ks_38, mu_38, nd_38, ro_38, ti_ag3, ti_ag9, ti_ag100, ti_fl100_0, ti_fl100_1, ti_fl100_2, ti_hb27, ti_hb29, ti_hb83, ti_hb84, ti_hb85, ti_sb22, ti_sb49, ti_sl22, ti_sl49, ti_sz100, ti_zr100, ti_zr117, evD, evV, h1, Int.reduceEq, decide_true, decide_false, Bool.not_true, Bool.not_false, not_true_eq_false, not_false_eq_true, true_implies, false_implies, and_true, true_and, hx, hin', List.length_map])
            | ((first | with_reducible refine AWp_regE mu_38 ks_38 ?_ | with_reducible refine AWp_drawE nd_38 mu_38 ks_38 ti_mixed (by kernel_rfl) ?_); intro Kv hKv; simp (dsimp := false) only [go_sem, Nat.reduceAdd, Nat.reduceBEq, Nat.reduceEqDiff, Nat.reduceLT, Nat.reduceLeDiff, Nat.reduceMul, Int.reduceToNat, reduceCtorEq, ↓reduceIte, Tryd.ntmps38, Tryd.results38, ks_38, mu_38, nd_38, ro_38, ti_ag3, ti_ag9, ti_ag100, ti_fl100_0, ti_fl100_1, ti_fl100_2, ti_hb27, ti_hb29, ti_hb83, ti_hb84, ti_hb85, ti_sb22, ti_sb49, ti_sl22, ti_sl49, ti_sz100, ti_zr100, ti_zr117, evD, evV, h1, Int.reduceEq, decide_true, decide_false, Bool.not_true, Bool.not_false, not_true_eq_false, not_false_eq_true, true_implies, false_implies, and_true, true_and, hx, hin', List.length_map])
            | (refine AWp_condC rfl ?_; intro KA KB hKA hKB; try simp only [onB_true, onB_false, onB_dec, onB_ndec, onB_not, onB_and, onB_or])
            | (refine AWp_condA rfl ?_ ?_)
            | ((first | refine writeString_A H.length (H.length + 2) (k) u acc _ (by omega) (by (try simp only [List.length_cons, List.length_append, List.length_nil]); omega) _ _ ((get_app0 _ _).trans rfl) ((get_appk _ _ 2).trans rfl) ?_ | refine QCall_of (writeString_A H.length (H.length + 2) (k) u acc _ (by omega) (by (try simp only [List.length_cons, List.length_append, List.length_nil]); omega) _ _ ((get_app0 _ _).trans rfl) ((get_appk _ _ 2).trans rfl) (Two_intro _ _)) ?_); try simp (dsimp := false) only [go_sem, Nat.reduceAdd, Nat.reduceBEq, Nat.reduceEqDiff, Nat.reduceLT, Nat.reduceLeDiff, Nat.reduceMul, Int.reduceToNat, reduceCtorEq, ↓reduceIte, Tryd.ntmps38, Tryd.results38, ks_38, mu_38, nd_38, ro_38, ti_ag3, ti_ag9, ti_ag100, ti_fl100_0, ti_fl100_1, ti_fl100_2, ti_hb27, ti_hb29, ti_hb83, ti_hb84, ti_hb85, ti_sb22, ti_sb49, ti_sl22, ti_sl49, ti_sz100, ti_zr100, ti_zr117, evD, evV, h1, Int.reduceEq, decide_true, decide_false, Bool.not_true, Bool.not_false, not_true_eq_false, not_false_eq_true, true_implies, false_implies, and_true, true_and, hx, hin', List.length_map])
            | with_reducible refine onB_of ?_ ?_
            | with_reducible rfl
            | omega)
          all_goals first
            | omega
            | exact hcl
            | (simp; omega)
            | exact ⟨⟨i + 1, evS s x, true, k + 1, b⟩, hst, by show l.length - (i + 1) < l.length - i; omega, by simp [hsu, swStep, swPre, swTxt, h1, strC, bldC, bufC, selfV, List.append_assoc], by rw [hsu]; simp [swStep, h1]; omega⟩
            | exact ⟨⟨i + 1, evS s x, true, k + 1, b⟩, hst, by show l.length - (i + 1) < l.length - i; omega, by simp [hsu, swStep, swPre, swTxt, h1, strC, bldC, bufC, selfV, List.append_assoc], by rw [hsu]; simp [swStep, h1]⟩
        · skip
          
          repeat' (first
            | with_reducible refine And.intro ?_ ?_
            | with_reducible intro _
            | with_reducible refine AWp_seq ?_
            | with_reducible refine AWp_block ?_
            | (with_reducible refine hKv _ _ (AWp_nop ?_); clear hKv Kv)
            | (with_reducible refine hKv _ _ ?_; clear hKv Kv; simp (dsimp := false) only [go_sem, Nat.reduceAdd, Nat.reduceBEq, Nat.reduceEqDiff, Nat.reduceLT, Nat.reduceLeDiff, Nat.reduceMul, Int.reduceToNat, reduceCtorEq, ↓reduceIte, Tryd.ntmps38, Tryd.results38, ks_38, mu_38, nd_38, ro_38, ti_ag3, ti_ag9, ti_ag100, ti_fl100_0, ti_fl100_1, ti_fl100_2, ti_hb27, ti_hb29, ti_hb83, ti_hb84, ti_hb85, ti_sb22, ti_sb49, ti_sl22, ti_sl49, ti_sz100, ti_zr100, ti_zr117, evD, evV, h1, Int.reduceEq, decide_true, decide_false, Bool.not_true, Bool.not_false, not_true_eq_false, not_false_eq_true, true_implies, false_implies, and_true, true_and, hx, hin', List.length_map])
            | (with_reducible refine hKA ?_; clear hKA hKB KA KB)
            | (with_reducible refine hKB ?_; clear hKA hKB KA KB)
            | ((first | with_reducible refine AWp_regro mu_38 ks_38 ro_38 ?_ | with_reducible refine AWp_regC mu_38 ks_38 ?_ | with_reducible refine AWp_draw nd_38 mu_38 ks_38 ti_mixed (by kernel_rfl) ?_); intro Kv hKv; simp (dsimp := false) only [go_sem, Nat.reduceAdd, Nat.reduceBEq, Nat.reduceEqDiff, Nat.reduceLT, Nat.reduceLeDiff, Nat.reduceMul, Int.reduceToNat, reduceCtorEq, ↓reduceIte, Tryd.ntmps38, Tryd.results38, ks_38, mu_38, nd_38, ro_38, ti_ag3, ti_ag9, ti_ag100, ti_fl100_0, ti_fl100_1, ti_fl100_2, ti_hb27, ti_hb29, ti_hb83, ti_hb84, ti_hb85, ti_sb22, ti_sb49, ti_sl22, ti_sl49, ti_sz100, ti_zr100, ti_zr117, evD, evV, h1, Int.reduceEq, decide_true, decide_false, Bool.not_true, Bool.not_false, not_true_eq_false, not_false_eq_true, true_implies, false_implies, and_true, true_and, hx, hin', List.length_map])
            | with_reducible refine AWp_skipN ?_
            | with_reducible refine AWp_exitO (by repeat (first | with_reducible exact Out.hit | with_reducible apply Out.thenA | with_reducible apply Out.out rfl)) ?_
            | (with_reducible refine AWp_retR ?_; simp (dsimp := false) only [go_sem, Nat.reduceAdd, Nat.reduceBEq, Nat.reduceEqDiff, Nat.reduceLT, Nat.reduceLeDiff, Nat.reduceMul, Int.reduceToNat, reduceCtorEq, ↓reduceIte, Tryd.ntmps38, Tryd.results38, ks_38, mu_38, nd_38, ro_38, ti_ag3, ti_ag9, ti_ag100, ti_fl100_0, ti_fl100_1, ti_fl100_2, ti_hb27, ti_hb29, ti_hb83, ti_hb84, ti_hb85, ti_sb22, ti_sb49, ti_sl22, ti_sl49, ti_sz100, ti_zr100, ti_zr117, evD, evV, h1, Int.reduceEq, decide_true, decide_false, Bool.not_true, Bool.not_false, not_true_eq_false, not_false_eq_true, true_implies, false_implies, and_true, true_and, hx, hin', List.length_map])
            | ((first | with_reducible refine AWp_regE mu_38 ks_38 ?_ | with_reducible refine AWp_drawE nd_38 mu_38 ks_38 ti_mixed (by kernel_rfl) ?_); intro Kv hKv; simp (dsimp := false) only [go_sem, Nat.reduceAdd, Nat.reduceBEq, Nat.reduceEqDiff, Nat.reduceLT, Nat.reduceLeDiff, Nat.reduceMul, Int.reduceToNat, reduceCtorEq, ↓reduceIte, Tryd.ntmps38, Tryd.results38, ks_38, mu_38, nd_38, ro_38, ti_ag3, ti_ag9, ti_ag100, ti_fl100_0, ti_fl100_1, ti_fl100_2, ti_hb27, ti_hb29, ti_hb83, ti_hb84, ti_hb85, ti_sb22, ti_sb49, ti_sl22, ti_sl49, ti_sz100, ti_zr100, ti_zr117, evD, evV, h1, Int.reduceEq, decide_true, decide_false, Bool.not_true, Bool.not_false, not_true_eq_false, not_false_eq_true, true_implies, false_implies, and_true, true_and, hx, hin', List.length_map])
            | (refine AWp_condC rfl ?_; intro KA KB hKA hKB; try simp only [onB_true, onB_false, onB_dec, onB_ndec, onB_not, onB_and, onB_or])
            | (refine AWp_condA rfl ?_ ?_)
            | ((first | refine writeByte_A H.length (H.length + 2) k u acc _ 62 rfl (by omega) (by omega) _ _ ((get_app0 _ _).trans rfl) ((get_appk _ _ 2).trans rfl) ?_ | refine QCall_of (writeByte_A H.length (H.length + 2) k u acc _ 62 rfl (by omega) (by omega) _ _ ((get_app0 _ _).trans rfl) ((get_appk _ _ 2).trans rfl) (Two_intro _ _)) ?_ | refine writeString_A H.length (H.length + 2) (k + 1) true (acc ++ [62]) _ (by omega) (by (try simp only [List.length_cons, List.length_append, List.length_nil]); omega) _ _ ((get_app0 _ _).trans rfl) ((get_appk _ _ 2).trans rfl) ?_ | refine QCall_of (writeString_A H.length (H.length + 2) (k + 1) true (acc ++ [62]) _ (by omega) (by (try simp only [List.length_cons, List.length_append, List.length_nil]); omega) _ _ ((get_app0 _ _).trans rfl) ((get_appk _ _ 2).trans rfl) (Two_intro _ _)) ?_); try simp (dsimp := false) only [go_sem, Nat.reduceAdd, Nat.reduceBEq, Nat.reduceEqDiff, Nat.reduceLT, Nat.reduceLeDiff, Nat.reduceMul, Int.reduceToNat, reduceCtorEq, ↓reduceIte, Tryd.ntmps38, Tryd.results38, ks_38, mu_38, nd_38, ro_38, ti_ag3, ti_ag9, ti_ag100, ti_fl100_0, ti_fl100_1, ti_fl100_2, ti_hb27, ti_hb29, ti_hb83, ti_hb84, ti_hb85, ti_sb22, ti_sb49, ti_sl22, ti_sl49, ti_sz100, ti_zr100, ti_zr117, evD, evV, h1, Int.reduceEq, decide_true, decide_false, Bool.not_true, Bool.not_false, not_true_eq_false, not_false_eq_true, true_implies, false_implies, and_true, true_and, hx, hin', List.length_map])
            | with_reducible refine onB_of ?_ ?_
            | with_reducible rfl
            | omega)
          all_goals first
            | omega
            | exact hcl
            | (simp; omega)
            | exact ⟨⟨i + 1, evS s x, true, k + 2, b⟩, hst, by show l.length - (i + 1) < l.length - i; omega, by simp [hsu, swStep, swPre, swTxt, h1, strC, bldC, bufC, selfV, List.append_assoc], by rw [hsu]; simp [swStep, h1]; omega⟩
            | exact ⟨⟨i + 1, evS s x, true, k + 2, b⟩, hst, by show l.length - (i + 1) < l.length - i; omega, by simp [hsu, swStep, swPre, swTxt, h1, strC, bldC, bufC, selfV, List.append_assoc], by rw [hsu]; simp [swStep, h1]⟩
      · have hn0 := evF1_n1 h1 q3
        obtain ⟨r, nm, hro⟩ : ∃ r nm, names = r ++ [nm] := by
          rcases names.eq_nil_or_concat with h0 | ⟨r, o, h0⟩
          · rw [h0] at hnn; exact absurd hnn.symm hn0
          · exact ⟨r, o, by rw [h0, List.concat_eq_append]⟩
        subst hro
        have hnl : (r ++ [nm]).length = r.length + 1 := by simp
        have hnx : (r ++ [nm])[(((r.length + 1 : Nat) : Int) - 1).toNat]? = some nm := by
          rw [show (((r.length + 1 : Nat) : Int) - 1).toNat = r.length by omega, List.getElem?_append_right (Nat.le_refl _), Nat.sub_self]; rfl
        have hnt : ((r ++ [nm]).map strC).take (((r.length + 1 : Nat) : Int) - 1).toNat = r.map strC := by
          rw [List.map_append, List.take_left' (by rw [List.length_map]; omega)]
        have hg1 : ((0 : Int) ≤ ((r.length + 1 : Nat) : Int) - 1) = True := eq_true (by omega)
        have hg2 : (((r.length + 1 : Nat) : Int) - 1 < ((r.length + 1 : Nat) : Int)) = True := eq_true (by omega)
        have hnml := hnb nm (by simp)
        have hr20 : r.length ≤ 20 := by simp at hnn; omega
        cases bare
        · skip
          
          repeat' (first
            | with_reducible refine And.intro ?_ ?_
            | with_reducible intro _
            | with_reducible refine AWp_seq ?_
            | with_reducible refine AWp_block ?_
            | (with_reducible refine hKv _ _ (AWp_nop ?_); clear hKv Kv)
            | (with_reducible refine hKv _ _ ?_; clear hKv Kv; simp (dsimp := false) only [go_sem, Nat.reduceAdd, Nat.reduceBEq, Nat.reduceEqDiff, Nat.reduceLT, Nat.reduceLeDiff, Nat.reduceMul, Int.reduceToNat, reduceCtorEq, ↓reduceIte, Tryd.ntmps38, Tryd.results38, ks_38, mu_38, nd_38, ro_38, ti_ag3, ti_ag9, ti_ag100, ti_fl100_0, ti_fl100_1, ti_fl100_2, ti_hb27, ti_hb29, ti_hb83, ti_hb84, ti_hb85, ti_sb22, ti_sb49, ti_sl22, ti_sl49, ti_sz100, ti_zr100, ti_zr117, evD, evV, h1, Int.reduceEq, decide_true, decide_false, Bool.not_true, Bool.not_false, not_true_eq_false, not_false_eq_true, true_implies, false_implies, and_true, true_and, hx, hin', List.length_map, hnl, hnx, hnt, hg1, hg2, strC, List.getElem?_map, Option.map_some])
            | (with_reducible refine hKA ?_; clear hKA hKB KA KB)
            | (with_reducible refine hKB ?_; clear hKA hKB KA KB)
            | ((first | with_reducible refine AWp_regro mu_38 ks_38 ro_38 ?_ | with_reducible refine AWp_regC mu_38 ks_38 ?_ | with_reducible refine AWp_draw nd_38 mu_38 ks_38 ti_mixed (by kernel_rfl) ?_); intro Kv hKv; simp (dsimp := false) only [go_sem, Nat.reduceAdd, Nat.reduceBEq, Nat.reduceEqDiff, Nat.reduceLT, Nat.reduceLeDiff, Nat.reduceMul, Int.reduceToNat, reduceCtorEq, ↓reduceIte, Tryd.ntmps38, Tryd.results38, ks_38, mu_38, nd_38, ro_38, ti_ag3, ti_ag9, ti_ag100, ti_fl100_0, ti_fl100_1, ti_fl100_2, ti_hb27, ti_hb29, ti_hb83, ti_hb84, ti_hb85, ti_sb22, ti_sb49, ti_sl22, ti_sl49, ti_sz100, ti_zr100, ti_zr117, evD, evV, h1, Int.reduceEq, decide_true, decide_false, Bool.not_true, Bool.not_false, not_true_eq_false, not_false_eq_true, true_implies, false_implies, and_true, true_and, hx, hin', List.length_map, hnl, hnx, hnt, hg1, hg2, strC, List.getElem?_map, Option.map_some])
            | with_reducible refine AWp_skipN ?_
            | with_reducible refine AWp_exitO (by repeat (first | with_reducible exact Out.hit | with_reducible apply Out.thenA | with_reducible apply Out.out rfl)) ?_
            | (with_reducible refine AWp_retR ?_; simp (dsimp := false) only [go_sem, Nat.reduceAdd, Nat.reduceBEq, Nat.reduceEqDiff, Nat.reduceLT, Nat.reduceLeDiff, Nat.reduceMul, Int.reduceToNat, reduceCtorEq, ↓reduceIte, Tryd.ntmps38, Tryd.results38, ks_38, mu_38, nd_38, ro_38, ti_ag3, ti_ag9, ti_ag100, ti_fl100_0, ti_fl100_1, ti_fl100_2, ti_hb27, ti_hb29, ti_hb83, ti_hb84, ti_hb85, ti_sb22, ti_sb49, ti_sl22, ti_sl49, ti_sz100, ti_zr100, ti_zr117, evD, evV, h1, Int.reduceEq, decide_true, decide_false, Bool.not_true, Bool.not_false, not_true_eq_false, not_false_eq_true, true_implies, false_implies, and_true, true_and, hx, hin', List.length_map, hnl, hnx, hnt, hg1, hg2, strC, List.getElem?_map, Option.map_some])
            | ((first | with_reducible refine AWp_regE mu_38 ks_38 ?_ | with_reducible refine AWp_drawE nd_38 mu_38 ks_38 ti_mixed (by kernel_rfl) ?_); intro Kv hKv; simp (dsimp := false) only [go_sem, Nat.reduceAdd, Nat.reduceBEq, Nat.reduceEqDiff, Nat.reduceLT, Nat.reduceLeDiff, Nat.reduceMul, Int.reduceToNat, reduceCtorEq, ↓reduceIte, Tryd.ntmps38, Tryd.results38, ks_38, mu_38, nd_38, ro_38, ti_ag3, ti_ag9, ti_ag100, ti_fl100_0, ti_fl100_1, ti_fl100_2, ti_hb27, ti_hb29, ti_hb83, ti_hb84, ti_hb85, ti_sb22, ti_sb49, ti_sl22, ti_sl49, ti_sz100, ti_zr100, ti_zr117, evD, evV, h1, Int.reduceEq, decide_true, decide_false, Bool.not_true, Bool.not_false, not_true_eq_false, not_false_eq_true, true_implies, false_implies, and_true, true_and, hx, hin', List.length_map, hnl, hnx, hnt, hg1, hg2, strC, List.getElem?_map, Option.map_some])
            | (refine AWp_condC rfl ?_; intro KA KB hKA hKB; try simp only [onB_true, onB_false, onB_dec, onB_ndec, onB_not, onB_and, onB_or])
            | (refine AWp_condA rfl ?_ ?_)
            | ((first | refine writeString_A H.length (H.length + 2) (k) u acc _ (by omega) (by (try simp only [List.length_cons, List.length_append, List.length_nil]); omega) _ _ ((get_app0 _ _).trans rfl) ((get_appk _ _ 2).trans rfl) ?_ | refine QCall_of (writeString_A H.length (H.length + 2) (k) u acc _ (by omega) (by (try simp only [List.length_cons, List.length_append, List.length_nil]); omega) _ _ ((get_app0 _ _).trans rfl) ((get_appk _ _ 2).trans rfl) (Two_intro _ _)) ?_); try simp (dsimp := false) only [go_sem, Nat.reduceAdd, Nat.reduceBEq, Nat.reduceEqDiff, Nat.reduceLT, Nat.reduceLeDiff, Nat.reduceMul, Int.reduceToNat, reduceCtorEq, ↓reduceIte, Tryd.ntmps38, Tryd.results38, ks_38, mu_38, nd_38, ro_38, ti_ag3, ti_ag9, ti_ag100, ti_fl100_0, ti_fl100_1, ti_fl100_2, ti_hb27, ti_hb29, ti_hb83, ti_hb84, ti_hb85, ti_sb22, ti_sb49, ti_sl22, ti_sl49, ti_sz100, ti_zr100, ti_zr117, evD, evV, h1, Int.reduceEq, decide_true, decide_false, Bool.not_true, Bool.not_false, not_true_eq_false, not_false_eq_true, true_implies, false_implies, and_true, true_and, hx, hin', List.length_map, hnl, hnx, hnt, hg1, hg2, strC, List.getElem?_map, Option.map_some])
            | with_reducible refine onB_of ?_ ?_
            | with_reducible rfl
            | omega)
          all_goals first
            | omega
            | exact hcl
            | (simp; omega)
            | exact ⟨⟨i + 1, evS s x, true, k + 1, b + 1⟩, hst, by show l.length - (i + 1) < l.length - i; omega, by simp [hsu, swStep, swPre, swTxt, h1, strC, bldC, bufC, selfV, List.append_assoc], by rw [hsu]; simp [swStep, h1]; omega⟩
            | exact ⟨⟨i + 1, evS s x, true, k + 1, b + 1⟩, hst, by show l.length - (i + 1) < l.length - i; omega, by simp [hsu, swStep, swPre, swTxt, h1, strC, bldC, bufC, selfV, List.append_assoc], by rw [hsu]; simp [swStep, h1]⟩
        · skip
          
          repeat' (first
            | with_reducible refine And.intro ?_ ?_
            | with_reducible intro _
            | with_reducible refine AWp_seq ?_
            | with_reducible refine AWp_block ?_
            | (with_reducible refine hKv _ _ (AWp_nop ?_); clear hKv Kv)
            | (with_reducible refine hKv _ _ ?_; clear hKv Kv; simp (dsimp := false) only [go_sem, Nat.reduceAdd, Nat.reduceBEq, Nat.reduceEqDiff, Nat.reduceLT, Nat.reduceLeDiff, Nat.reduceMul, Int.reduceToNat, reduceCtorEq, ↓reduceIte, Tryd.ntmps38, Tryd.results38, ks_38, mu_38, nd_38, ro_38, ti_ag3, ti_ag9, ti_ag100, ti_fl100_0, ti_fl100_1, ti_fl100_2, ti_hb27, ti_hb29, ti_hb83, ti_hb84, ti_hb85, ti_sb22, ti_sb49, ti_sl22, ti_sl49, ti_sz100, ti_zr100, ti_zr117, evD, evV, h1, Int.reduceEq, decide_true, decide_false, Bool.not_true, Bool.not_false, not_true_eq_false, not_false_eq_true, true_implies, false_implies, and_true, true_and, hx, hin', List.length_map, hnl, hnx, hnt, hg1, hg2, strC, List.getElem?_map, Option.map_some])
            | (with_reducible refine hKA ?_; clear hKA hKB KA KB)
            | (with_reducible refine hKB ?_; clear hKA hKB KA KB)
            | ((first | with_reducible refine AWp_regro mu_38 ks_38 ro_38 ?_ | with_reducible refine AWp_regC mu_38 ks_38 ?_ | with_reducible refine AWp_draw nd_38 mu_38 ks_38 ti_mixed (by kernel_rfl) ?_); intro Kv hKv; simp (dsimp := false) only [go_sem, Nat.reduceAdd, Nat.reduceBEq, Nat.reduceEqDiff, Nat.reduceLT, Nat.reduceLeDiff, Nat.reduceMul, Int.reduceToNat, reduceCtorEq, ↓reduceIte, Tryd.ntmps38, Tryd.results38, ks_38, mu_38, nd_38, ro_38, ti_ag3, ti_ag9, ti_ag100, ti_fl100_0, ti_fl100_1, ti_fl100_2, ti_hb27, ti_hb29, ti_hb83, ti_hb84, ti_hb85, ti_sb22, ti_sb49, ti_sl22, ti_sl49, ti_sz100, ti_zr100, ti_zr117, evD, evV, h1, Int.reduceEq, decide_true, decide_false, Bool.not_true, Bool.not_false, not_true_eq_false, not_false_eq_true, true_implies, false_implies, and_true, true_and, hx, hin', List.length_map, hnl, hnx, hnt, hg1, hg2, strC, List.getElem?_map, Option.map_some])
            | with_reducible refine AWp_skipN ?_
            | with_reducible refine AWp_exitO (by repeat (first | with_reducible exact Out.hit | with_reducible apply Out.thenA | with_reducible apply Out.out rfl)) ?_
            | (with_reducible refine AWp_retR ?_; simp (dsimp := false) only [go_sem, Nat.reduceAdd, Nat.reduceBEq, Nat.reduceEqDiff, Nat.reduceLT, Nat.reduceLeDiff, Nat.reduceMul, Int.reduceToNat, reduceCtorEq, ↓reduceIte, Tryd.ntmps38, Tryd.results38, ks_38, mu_38, nd_38, ro_38, ti_ag3, ti_ag9, ti_ag100, ti_fl100_0, ti_fl100_1, ti_fl100_2, ti_hb27, ti_hb29, ti_hb83, ti_hb84, ti_hb85, ti_sb22, ti_sb49, ti_sl22, ti_sl49, ti_sz100, ti_zr100, ti_zr117, evD, evV, h1, Int.reduceEq, decide_true, decide_false, Bool.not_true, Bool.not_false, not_true_eq_false, not_false_eq_true, true_implies, false_implies, and_true, true_and, hx, hin', List.length_map, hnl, hnx, hnt, hg1, hg2, strC, List.getElem?_map, Option.map_some])
            | ((first | with_reducible refine AWp_regE mu_38 ks_38 ?_ | with_reducible refine AWp_drawE nd_38 mu_38 ks_38 ti_mixed (by kernel_rfl) ?_); intro Kv hKv; simp (dsimp := false) only [go_sem, Nat.reduceAdd, Nat.reduceBEq, Nat.reduceEqDiff, Nat.reduceLT, Nat.reduceLeDiff, Nat.reduceMul, Int.reduceToNat, reduceCtorEq, ↓reduceIte, Tryd.ntmps38, Tryd.results38, ks_38, mu_38, nd_38, ro_38, ti_ag3, ti_ag9, ti_ag100, ti_fl100_0, ti_fl100_1, ti_fl100_2, ti_hb27, ti_hb29, ti_hb83, ti_hb84, ti_hb85, ti_sb22, ti_sb49, ti_sl22, ti_sl49, ti_sz100, ti_zr100, ti_zr117, evD, evV, h1, Int.reduceEq, decide_true, decide_false, Bool.not_true, Bool.not_false, not_true_eq_false, not_false_eq_true, true_implies, false_implies, and_true, true_and, hx, hin', List.length_map, hnl, hnx, hnt, hg1, hg2, strC, List.getElem?_map, Option.map_some])
            | (refine AWp_condC rfl ?_; intro KA KB hKA hKB; try simp only [onB_true, onB_false, onB_dec, onB_ndec, onB_not, onB_and, onB_or])
            | (refine AWp_condA rfl ?_ ?_)
            | ((first | refine writeString_A H.length (H.length + 2) (k) u acc _ (by omega) (by (try simp only [List.length_cons, List.length_append, List.length_nil]); omega) _ _ ((get_app0 _ _).trans rfl) ((get_appk _ _ 2).trans rfl) ?_ | refine QCall_of (writeString_A H.length (H.length + 2) (k) u acc _ (by omega) (by (try simp only [List.length_cons, List.length_append, List.length_nil]); omega) _ _ ((get_app0 _ _).trans rfl) ((get_appk _ _ 2).trans rfl) (Two_intro _ _)) ?_); try simp (dsimp := false) only [go_sem, Nat.reduceAdd, Nat.reduceBEq, Nat.reduceEqDiff, Nat.reduceLT, Nat.reduceLeDiff, Nat.reduceMul, Int.reduceToNat, reduceCtorEq, ↓reduceIte, Tryd.ntmps38, Tryd.results38, ks_38, mu_38, nd_38, ro_38, ti_ag3, ti_ag9, ti_ag100, ti_fl100_0, ti_fl100_1, ti_fl100_2, ti_hb27, ti_hb29, ti_hb83, ti_hb84, ti_hb85, ti_sb22, ti_sb49, ti_sl22, ti_sl49, ti_sz100, ti_zr100, ti_zr117, evD, evV, h1, Int.reduceEq, decide_true, decide_false, Bool.not_true, Bool.not_false, not_true_eq_false, not_false_eq_true, true_implies, false_implies, and_true, true_and, hx, hin', List.length_map, hnl, hnx, hnt, hg1, hg2, strC, List.getElem?_map, Option.map_some])
            | with_reducible refine onB_of ?_ ?_
            | with_reducible rfl
            | omega)
          all_goals first
            | omega
            | exact hcl
            | (simp; omega)
            | exact ⟨⟨i + 1, evS s x, true, k + 1, b + 1⟩, hst, by show l.length - (i + 1) < l.length - i; omega, by simp [hsu, swStep, swPre, swTxt, h1, strC, bldC, bufC, selfV, List.append_assoc], by rw [hsu]; simp [swStep, h1]; omega⟩
            | exact ⟨⟨i + 1, evS s x, true, k + 1, b + 1⟩, hst, by show l.length - (i + 1) < l.length - i; omega, by simp [hsu, swStep, swPre, swTxt, h1, strC, bldC, bufC, selfV, List.append_assoc], by rw [hsu]; simp [swStep, h1]⟩
    · have e : i = l.length := by omega
      have hin' : ((i : Int) < (l.length : Int)) = False := eq_false (by omega)
      rw [← e] at hk
      
      repeat' (first
        | with_reducible refine And.intro ?_ ?_
        | with_reducible intro _
        | with_reducible refine AWp_seq ?_
        | with_reducible refine AWp_block ?_
        | (with_reducible refine hKv _ _ (AWp_nop ?_); clear hKv Kv)
        | (with_reducible refine hKv _ _ ?_; clear hKv Kv; simp (dsimp := false) only [go_sem, Nat.reduceAdd, Nat.reduceBEq, Nat.reduceEqDiff, Nat.reduceLT, Nat.reduceLeDiff, Nat.reduceMul, Int.reduceToNat, reduceCtorEq, ↓reduceIte, Tryd.ntmps38, Tryd.results38, ks_38, mu_38, nd_38, ro_38, ti_ag3, ti_ag9, ti_ag100, ti_fl100_0, ti_fl100_1, ti_fl100_2, ti_hb27, ti_hb29, ti_hb83, ti_hb84, ti_hb85, ti_sb22, ti_sb49, ti_sl22, ti_sl49, ti_sz100, ti_zr100, ti_zr117, evD, evV, hin'])
        | (with_reducible refine hKA ?_; clear hKA hKB KA KB)
        | (with_reducible refine hKB ?_; clear hKA hKB KA KB)
        | ((first | with_reducible refine AWp_regro mu_38 ks_38 ro_38 ?_ | with_reducible refine AWp_regC mu_38 ks_38 ?_ | with_reducible refine AWp_draw nd_38 mu_38 ks_38 ti_mixed (by kernel_rfl) ?_); intro Kv hKv; simp (dsimp := false) only [go_sem, Nat.reduceAdd, Nat.reduceBEq, Nat.reduceEqDiff, Nat.reduceLT, Nat.reduceLeDiff, Nat.reduceMul, Int.reduceToNat, reduceCtorEq, ↓reduceIte, Tryd.ntmps38, Tryd.results38, ks_38, mu_38, nd_38, ro_38, ti_ag3, ti_ag9, ti_ag100, ti_fl100_0, ti_fl100_1, ti_fl100_2, ti_hb27, ti_hb29, ti_hb83, ti_hb84, ti_hb85, ti_sb22, ti_sb49, ti_sl22, ti_sl49, ti_sz100, ti_zr100, ti_zr117, evD, evV, hin'])
        | with_reducible refine AWp_skipN ?_
        | with_reducible refine AWp_exitO (by repeat (first | with_reducible exact Out.hit | with_reducible apply Out.thenA | with_reducible apply Out.out rfl)) ?_
        | (with_reducible refine AWp_retR ?_; simp (dsimp := false) only [go_sem, Nat.reduceAdd, Nat.reduceBEq, Nat.reduceEqDiff, Nat.reduceLT, Nat.reduceLeDiff, Nat.reduceMul, Int.reduceToNat, reduceCtorEq, ↓reduceIte, Tryd.ntmps38, Tryd.results38, ks_38, mu_38, nd_38, ro_38, ti_ag3, ti_ag9, ti_ag100, ti_fl100_0, ti_fl100_1, ti_fl100_2, ti_hb27, ti_hb29, ti_hb83, ti_hb84, ti_hb85, ti_sb22, ti_sb49, ti_sl22, ti_sl49, ti_sz100, ti_zr100, ti_zr117, evD, evV, hin'])
        | ((first | with_reducible refine AWp_regE mu_38 ks_38 ?_ | with_reducible refine AWp_drawE nd_38 mu_38 ks_38 ti_mixed (by kernel_rfl) ?_); intro Kv hKv; simp (dsimp := false) only [go_sem, Nat.reduceAdd, Nat.reduceBEq, Nat.reduceEqDiff, Nat.reduceLT, Nat.reduceLeDiff, Nat.reduceMul, Int.reduceToNat, reduceCtorEq, ↓reduceIte, Tryd.ntmps38, Tryd.results38, ks_38, mu_38, nd_38, ro_38, ti_ag3, ti_ag9, ti_ag100, ti_fl100_0, ti_fl100_1, ti_fl100_2, ti_hb27, ti_hb29, ti_hb83, ti_hb84, ti_hb85, ti_sb22, ti_sb49, ti_sl22, ti_sl49, ti_sz100, ti_zr100, ti_zr117, evD, evV, hin'])
        | (refine AWp_condC rfl ?_; intro KA KB hKA hKB; try simp only [onB_true, onB_false, onB_dec, onB_ndec, onB_not, onB_and, onB_or])
        | (refine AWp_condA rfl ?_ ?_)
        | ((first | refine bldString_A H.length (H.length + 2) k 0 _ _ (by omega) _ _ ((get_app0 _ _).trans rfl) ((get_appk _ _ 2).trans rfl) ?_ | refine QCall_of (bldString_A H.length (H.length + 2) k 0 _ _ (by omega) _ _ ((get_app0 _ _).trans rfl) ((get_appk _ _ 2).trans rfl) (Two_intro _ _)) ?_); try simp (dsimp := false) only [go_sem, Nat.reduceAdd, Nat.reduceBEq, Nat.reduceEqDiff, Nat.reduceLT, Nat.reduceLeDiff, Nat.reduceMul, Int.reduceToNat, reduceCtorEq, ↓reduceIte, Tryd.ntmps38, Tryd.results38, ks_38, mu_38, nd_38, ro_38, ti_ag3, ti_ag9, ti_ag100, ti_fl100_0, ti_fl100_1, ti_fl100_2, ti_hb27, ti_hb29, ti_hb83, ti_hb84, ti_hb85, ti_sb22, ti_sb49, ti_sl22, ti_sl49, ti_sz100, ti_zr100, ti_zr117, evD, evV, hin'])
        | with_reducible refine onB_of ?_ ?_
        | with_reducible rfl
        | omega)
      all_goals first
        | omega
        | exact hcl
        | exact dropK hk (by simp [Bel_tu, Bel_d]) rfl
  · rw [shown, if_neg hf] at hk
    have hf' : (eventsFault l = 0) = False := eq_false hf
    
    refine ACalls_of Tryd.func38 rfl in_38 (Nat.le_of_ble_eq_true rfl) ?_
    intro F hF
    simp (dsimp := false) only [go_sem, Nat.reduceAdd, Nat.reduceBEq, Nat.reduceEqDiff, Nat.reduceLT, Nat.reduceLeDiff, Nat.reduceMul, Int.reduceToNat, reduceCtorEq, ↓reduceIte, Tryd.ntmps38, Tryd.results38, ks_38, mu_38, nd_38, ro_38, ti_ag3, ti_ag9, ti_ag100, ti_fl100_0, ti_fl100_1, ti_fl100_2, ti_hb27, ti_hb29, ti_hb83, ti_hb84, ti_hb85, ti_sb22, ti_sb49, ti_sl22, ti_sl49, ti_sz100, ti_zr100, ti_zr117, evD, evV, hf', in_38] at hF
    subst hF
    repeat' (first
      | with_reducible refine And.intro ?_ ?_
      | with_reducible intro _
      | with_reducible refine AWp_seq ?_
      | with_reducible refine AWp_block ?_
      | (with_reducible refine hKv _ _ (AWp_nop ?_); clear hKv Kv)
      | (with_reducible refine hKv _ _ ?_; clear hKv Kv; simp (dsimp := false) only [go_sem, Nat.reduceAdd, Nat.reduceBEq, Nat.reduceEqDiff, Nat.reduceLT, Nat.reduceLeDiff, Nat.reduceMul, Int.reduceToNat, reduceCtorEq, ↓reduceIte, Tryd.ntmps38, Tryd.results38, ks_38, mu_38, nd_38, ro_38, ti_ag3, ti_ag9, ti_ag100, ti_fl100_0, ti_fl100_1, ti_fl100_2, ti_hb27, ti_hb29, ti_hb83, ti_hb84, ti_hb85, ti_sb22, ti_sb49, ti_sl22, ti_sl49, ti_sz100, ti_zr100, ti_zr117, evD, evV, hf'])
      | (with_reducible refine hKA ?_; clear hKA hKB KA KB)
      | (with_reducible refine hKB ?_; clear hKA hKB KA KB)
      | ((first | with_reducible refine AWp_regro mu_38 ks_38 ro_38 ?_ | with_reducible refine AWp_regC mu_38 ks_38 ?_ | with_reducible refine AWp_draw nd_38 mu_38 ks_38 ti_mixed (by kernel_rfl) ?_); intro Kv hKv; simp (dsimp := false) only [go_sem, Nat.reduceAdd, Nat.reduceBEq, Nat.reduceEqDiff, Nat.reduceLT, Nat.reduceLeDiff, Nat.reduceMul, Int.reduceToNat, reduceCtorEq, ↓reduceIte, Tryd.ntmps38, Tryd.results38, ks_38, mu_38, nd_38, ro_38, ti_ag3, ti_ag9, ti_ag100, ti_fl100_0, ti_fl100_1, ti_fl100_2, ti_hb27, ti_hb29, ti_hb83, ti_hb84, ti_hb85, ti_sb22, ti_sb49, ti_sl22, ti_sl49, ti_sz100, ti_zr100, ti_zr117, evD, evV, hf'])
      | with_reducible refine AWp_skipN ?_
      | with_reducible refine AWp_exitO (by repeat (first | with_reducible exact Out.hit | with_reducible apply Out.thenA | with_reducible apply Out.out rfl)) ?_
      | (with_reducible refine AWp_retR ?_; simp (dsimp := false) only [go_sem, Nat.reduceAdd, Nat.reduceBEq, Nat.reduceEqDiff, Nat.reduceLT, Nat.reduceLeDiff, Nat.reduceMul, Int.reduceToNat, reduceCtorEq, ↓reduceIte, Tryd.ntmps38, Tryd.results38, ks_38, mu_38, nd_38, ro_38, ti_ag3, ti_ag9, ti_ag100, ti_fl100_0, ti_fl100_1, ti_fl100_2, ti_hb27, ti_hb29, ti_hb83, ti_hb84, ti_hb85, ti_sb22, ti_sb49, ti_sl22, ti_sl49, ti_sz100, ti_zr100, ti_zr117, evD, evV, hf'])
      | ((first | with_reducible refine AWp_regE mu_38 ks_38 ?_ | with_reducible refine AWp_drawE nd_38 mu_38 ks_38 ti_mixed (by kernel_rfl) ?_); intro Kv hKv; simp (dsimp := false) only [go_sem, Nat.reduceAdd, Nat.reduceBEq, Nat.reduceEqDiff, Nat.reduceLT, Nat.reduceLeDiff, Nat.reduceMul, Int.reduceToNat, reduceCtorEq, ↓reduceIte, Tryd.ntmps38, Tryd.results38, ks_38, mu_38, nd_38, ro_38, ti_ag3, ti_ag9, ti_ag100, ti_fl100_0, ti_fl100_1, ti_fl100_2, ti_hb27, ti_hb29, ti_hb83, ti_hb84, ti_hb85, ti_sb22, ti_sb49, ti_sl22, ti_sl49, ti_sz100, ti_zr100, ti_zr117, evD, evV, hf'])
      | (refine AWp_condC rfl ?_; intro KA KB hKA hKB; try simp only [onB_true, onB_false, onB_dec, onB_ndec, onB_not, onB_and, onB_or])
      | (refine AWp_condA rfl ?_ ?_)
      | ((first | refine xmlCheck_A l hS _ _ ?_ | refine QCall_of (xmlCheck_A l hS _ _ (Two_intro _ _)) ?_); try simp (dsimp := false) only [go_sem, Nat.reduceAdd, Nat.reduceBEq, Nat.reduceEqDiff, Nat.reduceLT, Nat.reduceLeDiff, Nat.reduceMul, Int.reduceToNat, reduceCtorEq, ↓reduceIte, Tryd.ntmps38, Tryd.results38, ks_38, mu_38, nd_38, ro_38, ti_ag3, ti_ag9, ti_ag100, ti_fl100_0, ti_fl100_1, ti_fl100_2, ti_hb27, ti_hb29, ti_hb83, ti_hb84, ti_hb85, ti_sb22, ti_sb49, ti_sl22, ti_sl49, ti_sz100, ti_zr100, ti_zr117, evD, evV, hf'])
      | with_reducible refine onB_of ?_ ?_
      | with_reducible rfl
      | omega)
    all_goals first
      | exact keepK hk (by simp [Bel_tu, Bel_d]) rfl
end Go.Proofs.YtafbojmnmadlpaaDoor
