/- Whether events are a document: what the reference makes. No condition but that the tables of package unicode/utf8 and what package bytealg calls its greatest length, are there. -/
import Derived.Test.YtjghnaohlfgloaaDoorJ20
import Derived.Test.YtjghnaohlfgloaaDoorJ35
import Derived.Test.YtjghnaohlfgloaaDoorJ18
import Derived.Test.YtjghnaohlfgloaaDoorJ41
set_option linter.all false
set_option linter.unusedSimpArgs false
set_option linter.unusedVariables false
namespace Go.Proofs.YtjghnaohlfgloaaDoor
open Go Go.Proofs.YtjghnaohlfgloaaDoor.Ab
variable [Glo] [U8] [Ml]
set_option maxHeartbeats 8000000
set_option maxRecDepth 20000
structure Rs where
  i : Nat
  v : Nat
  s : Es
  os : List Nat
structure RsOk (l : List Ev) (y : Rs) : Prop where
  hi : y.i ≤ l.length
  inv : EvInv l y.i y.s y.os
  n20 : y.s.n ≤ 20
  go : evGo l evSt true = evGo (l.drop y.i) y.s (decide (y.i = 0))
def rsFr (l : List Ev) (H : Heap) (y : Rs) : Ab.Frame := [(0, .d (.sl 3 (l.map evD))), (3, .os H.length y.v), (4, .d (.i .i64 y.i))]
def ks_61 : Nat → List Nat
  | 0 => [0]
  | 1 => [0, 13]
  | 2 => [2]
  | 3 => [0, 3]
  | 4 => [0, 3, 4]
  | 5 => [0, 3, 4, 17]
  | 6 => [0, 3, 4]
  | 7 => [0, 3, 4, 5]
  | 8 => [0, 3, 4, 5, 27]
  | 9 => [2]
  | 10 => [0, 3, 4, 5, 39]
  | 11 => [2]
  | 12 => [0, 3, 4, 5, 47]
  | 13 => [0, 3, 4, 5, 6]
  | 14 => [0, 3, 4, 5, 6, 52]
  | 15 => [2]
  | 16 => [0, 3, 4, 5, 56]
  | 17 => [2]
  | 18 => [0, 3, 4, 5, 64]
  | 19 => [0, 3, 4, 5, 67]
  | 20 => [2]
  | 21 => [0, 3, 4, 5, 7]
  | 22 => [0, 3, 4, 5, 7, 72]
  | 23 => [2]
  | 24 => [0, 3, 4, 5, 75]
  | 25 => [0, 3, 4]
  | 26 => [0, 3, 4, 5, 75, 81]
  | 27 => [0, 3, 4, 85]
  | 28 => [2]
  | 29 => [0, 3, 4]
  | 30 => [0, 3, 4, 5, 75, 90]
  | 31 => [0, 3, 4, 5, 107]
  | 32 => [2]
  | 33 => [0, 3, 4, 5, 8]
  | 34 => [0, 3, 4, 5, 8, 117]
  | 35 => [0, 3, 4, 5, 8]
  | 36 => [0, 3, 4, 5, 8, 127]
  | 37 => [2]
  | 38 => [0, 3, 4, 5, 75, 128]
  | 39 => [0, 3, 4, 141]
  | 40 => [2]
  | 41 => [0, 3, 4, 5, 142]
  | 42 => [0, 3, 4, 5, 9]
  | 43 => [0, 3, 4, 5, 9, 10]
  | 44 => [0, 3, 4, 5, 9, 10, 149]
  | 45 => [0, 3, 4, 5, 9, 10]
  | 46 => [0, 3, 4, 5, 9, 10, 170]
  | 47 => [2]
  | 48 => [178]
  | 49 => [2]
  | 50 => [2]
  | _ => []
def mu_61 : List Nat := [3]
def in_61 : List Nat := [0]
def ro_61 : Nat → List Nat
  | 7 => [5]
  | _ => []
def nd_61 : Nat → Nat
  | 36 => 7
  | _ => 0
theorem eventsFault_A (l : List Ev) (hS : EvSh l) (H : Heap) (K : V → Heap → Prop) (hk : K (.d (.i .i64 (eventsFault l))) H) :
    ACalls Tryd.prog 61 [.d (.sl 3 (l.map evD))] H K := by
  have hS1 := hS.1
  by_cases hN : l.length ≤ 400
  · rw [eventsFault_go hN] at hk
    have hN' : (400 < (l.length : Int)) = False := eq_false (by omega)
    refine ACalls_of Tryd.func61 rfl in_61 (Nat.le_of_ble_eq_true rfl) ?_
    intro F hF
    simp (dsimp := false) only [go_sem, Nat.reduceAdd, Nat.reduceBEq, Nat.reduceEqDiff, Nat.reduceLT, Nat.reduceLeDiff, Nat.reduceMul, Int.reduceToNat, reduceCtorEq, ↓reduceIte, Tryd.ntmps61, Tryd.results61, ks_61, mu_61, nd_61, ro_61, ti_ag3, ti_ag9, ti_ag97, ti_fl97_0, ti_fl97_1, ti_fl97_2, ti_hb77, ti_hb114, ti_hb115, ti_sb43, ti_sb49, ti_sl43, ti_sl49, ti_st9, ti_sz97, ti_zr97, evD, evV, hN', in_61] at hF
    subst hF
    repeat' (first | with_reducible (first | refine And.intro ?_ ?_ | intro _ | refine AWp_seq ?_ | refine AWp_block ?_ | (refine hKv _ _ (AWp_nop ?_); clear hKv Kv) | (refine hKA ?_; clear hKA hKB KA KB) | (refine hKB ?_; clear hKA hKB KA KB) | refine AWp_skipN ?_ | refine AWp_exitO (by repeat (first | exact Out.hit | apply Out.thenA | apply Out.out rfl)) ?_) | (with_reducible (first | (refine hKv _ _ ?_; clear hKv Kv) | ((first | refine AWp_regro mu_61 ks_61 ro_61 ?_ | refine AWp_regC mu_61 ks_61 ?_ | refine AWp_draw nd_61 mu_61 ks_61 ti_mixed (by kernel_rfl) ?_ | refine AWp_regE mu_61 ks_61 ?_ | refine AWp_drawE nd_61 mu_61 ks_61 ti_mixed (by kernel_rfl) ?_); intro Kv hKv) | refine AWp_retR ?_); try simp (dsimp := false) only [go_sem, Nat.reduceAdd, Nat.reduceBEq, Nat.reduceEqDiff, Nat.reduceLT, Nat.reduceLeDiff, Nat.reduceMul, Int.reduceToNat, reduceCtorEq, ↓reduceIte, Tryd.ntmps61, Tryd.results61, ks_61, mu_61, nd_61, ro_61, ti_ag3, ti_ag9, ti_ag97, ti_fl97_0, ti_fl97_1, ti_fl97_2, ti_hb77, ti_hb114, ti_hb115, ti_sb43, ti_sb49, ti_sl43, ti_sl49, ti_st9, ti_sz97, ti_zr97, evD, evV, hN']) | (refine AWp_condC rfl ?_; intro KA KB hKA hKB; try simp only [onB_true, onB_false, onB_dec, onB_ndec, onB_not, onB_and, onB_or]) | (refine AWp_condA rfl ?_ ?_) | with_reducible (first | refine onB_of ?_ ?_ | rfl) | omega)
    refine AWp_whileH (RsOk l) (rsFr l H) (fun y => [.row y.v 3 1 (y.os.map natCells)]) (fun y => l.length - y.i) ⟨0, 0, evSt, []⟩ ⟨Nat.zero_le _, EvInv.zero l, by decide, rfl⟩ ?_ ?_ ?_ ?_
    · first | rfl
    · simp only [rsFr]
      simp (dsimp := false) only [go_sem, Nat.reduceAdd, Nat.reduceBEq, Nat.reduceEqDiff, Nat.reduceLT, Nat.reduceLeDiff, Nat.reduceMul, Int.reduceToNat, reduceCtorEq, ↓reduceIte, Tryd.ntmps61, Tryd.results61, ks_61, mu_61, nd_61, ro_61, ti_ag3, ti_ag9, ti_ag97, ti_fl97_0, ti_fl97_1, ti_fl97_2, ti_hb77, ti_hb114, ti_hb115, ti_sb43, ti_sb49, ti_sl43, ti_sl49, ti_st9, ti_sz97, ti_zr97, evD, evV, hN']
      first | done | (simp; done)
    · rintro y _ ob hob
      simp only [List.mem_cons, List.not_mem_nil, or_false] at hob
      subst hob
      exact obBel_nat _ _ _ _ _
    rintro ⟨i, v, s, os⟩ ⟨hi, hinv, hn20, hgo⟩
    simp only [rsFr] at hi hinv hn20 hgo ⊢
    have hlm : (os.map natCells).length = os.length := List.length_map _
    have hlen := hinv.len
    have hcl : Closed H (H ++ [Ob.row v 3 1 (os.map natCells)]) := closed_app fun ob hob => by
      simp only [List.mem_cons, List.not_mem_nil, or_false] at hob
      subst hob
      exact obBel_nat _ _ _ _ _
    by_cases hil : i < l.length
    · obtain ⟨x, hx⟩ : ∃ x, l[i]? = some x := ⟨l[i], List.getElem?_eq_getElem hil⟩
      have hxs := hS.2 x (List.mem_of_getElem? hx)
      have hin : ((i : Int) < (l.length : Int)) = True := eq_true (by omega)
      rw [evGo_step hx] at hgo
      by_cases hkb : x.k < 1 ∨ 5 < x.k
      · rw [hgo, if_pos hkb] at hk
        have hkb' : ((1 : Int) ≤ x.k ∧ x.k ≤ 5) = False := eq_false (by omega)
        repeat' (first | with_reducible (first | refine And.intro ?_ ?_ | intro _ | refine AWp_seq ?_ | refine AWp_block ?_ | (refine hKv _ _ (AWp_nop ?_); clear hKv Kv) | (refine hKA ?_; clear hKA hKB KA KB) | (refine hKB ?_; clear hKA hKB KA KB) | refine AWp_skipN ?_ | refine AWp_exitO (by repeat (first | exact Out.hit | apply Out.thenA | apply Out.out rfl)) ?_) | ((first | with_reducible (first | (refine hKv _ _ ?_; clear hKv Kv) | ((first | refine AWp_regro mu_61 ks_61 ro_61 ?_ | refine AWp_regC mu_61 ks_61 ?_ | refine AWp_draw nd_61 mu_61 ks_61 ti_mixed (by kernel_rfl) ?_ | refine AWp_regE mu_61 ks_61 ?_ | refine AWp_drawE nd_61 mu_61 ks_61 ti_mixed (by kernel_rfl) ?_); intro Kv hKv) | refine AWp_retR ?_) | refine in_A _ _ _ _ _ ?_ | refine QCall_of (in_A _ _ _ _ _ (Two_intro _ _)) ?_); try simp (dsimp := false) only [go_sem, Nat.reduceAdd, Nat.reduceBEq, Nat.reduceEqDiff, Nat.reduceLT, Nat.reduceLeDiff, Nat.reduceMul, Int.reduceToNat, reduceCtorEq, ↓reduceIte, Tryd.ntmps61, Tryd.results61, ks_61, mu_61, nd_61, ro_61, ti_ag3, ti_ag9, ti_ag97, ti_fl97_0, ti_fl97_1, ti_fl97_2, ti_hb77, ti_hb114, ti_hb115, ti_sb43, ti_sb49, ti_sl43, ti_sl49, ti_st9, ti_sz97, ti_zr97, evD, evV, hx, hin, hkb']) | (refine AWp_condC rfl ?_; intro KA KB hKA hKB; try simp only [onB_true, onB_false, onB_dec, onB_ndec, onB_not, onB_and, onB_or]) | (refine AWp_condA rfl ?_ ?_) | with_reducible (first | refine onB_of ?_ ?_ | rfl) | omega)
        all_goals first
          | omega
          | exact hcl
          | exact dropD hk rfl
      rw [if_neg hkb] at hgo
      obtain h1 | h1 | h1 | h1 | h1 : x.k = 1 ∨ x.k = 2 ∨ x.k = 3 ∨ x.k = 4 ∨ x.k = 5 := by omega
      · have hfv := evF1_1 (s := s) (first := decide (i = 0)) h1
        have h20a : (s.n = 0) → ((20 : Int) ≤ (s.n : Int)) = False := fun h => eq_false (by omega)
        by_cases h0 : s.n = 0
        · rw [if_pos h0] at hfv
          have h0t : ((s.n : Int) = 0) = True := eq_true (by first | exact h0 | omega)
          have h20a := h20a h0
          by_cases hi0 : i = 0
          · rw [if_pos (decide_eq_true hi0)] at hfv
            have hi0t : ((0 : Int) < (i : Int)) = False := eq_false (by omega)
            by_cases hnf : nameFault x.nm = 0
            · rw [if_pos hnf] at hfv
              have hnft : (nameFault x.nm = 0) = True := eq_true (by first | exact hnf | omega)
              by_cases hv : x.vl = []
              · rw [if_pos hv] at hfv
                have hvt : (x.vl = []) = True := eq_true (by first | exact hv | omega)
                have hn2 := evS_n hn20 hfv
                rw [hfv, if_pos rfl] at hgo
                repeat' (first | with_reducible (first | refine And.intro ?_ ?_ | intro _ | refine AWp_seq ?_ | refine AWp_block ?_ | (refine hKv _ _ (AWp_nop ?_); clear hKv Kv) | (refine hKA ?_; clear hKA hKB KA KB) | (refine hKB ?_; clear hKA hKB KA KB) | refine AWp_skipN ?_ | refine AWp_exitO (by repeat (first | exact Out.hit | apply Out.thenA | apply Out.out rfl)) ?_) | ((first | with_reducible (first | (refine hKv _ _ ?_; clear hKv Kv) | ((first | refine AWp_regro mu_61 ks_61 ro_61 ?_ | refine AWp_regC mu_61 ks_61 ?_ | refine AWp_draw nd_61 mu_61 ks_61 ti_mixed (by kernel_rfl) ?_ | refine AWp_regE mu_61 ks_61 ?_ | refine AWp_drawE nd_61 mu_61 ks_61 ti_mixed (by kernel_rfl) ?_); intro Kv hKv) | refine AWp_retR ?_) | refine in_A _ _ _ _ _ ?_ | refine QCall_of (in_A _ _ _ _ _ (Two_intro _ _)) ?_ | refine nameFault_A x.nm (by omega) _ _ ?_ | refine QCall_of (nameFault_A x.nm (by omega) _ _ (Two_intro _ _)) ?_ | refine valueFault_A x.vl (by omega) _ _ ?_ | refine QCall_of (valueFault_A x.vl (by omega) _ _ (Two_intro _ _)) ?_); try simp (dsimp := false) only [go_sem, Nat.reduceAdd, Nat.reduceBEq, Nat.reduceEqDiff, Nat.reduceLT, Nat.reduceLeDiff, Nat.reduceMul, Int.reduceToNat, reduceCtorEq, ↓reduceIte, Tryd.ntmps61, Tryd.results61, ks_61, mu_61, nd_61, ro_61, ti_ag3, ti_ag9, ti_ag97, ti_fl97_0, ti_fl97_1, ti_fl97_2, ti_hb77, ti_hb114, ti_hb115, ti_sb43, ti_sb49, ti_sl43, ti_sl49, ti_st9, ti_sz97, ti_zr97, evD, evV, natCells, h1, Int.reduceEq, Int.reduceLT, Int.reduceLE, and_self, hx, hin, hlm, hlen, List.getElem?_map, h0t, hi0t, h20a, hnft, hvt]) | (refine AWp_condC rfl ?_; intro KA KB hKA hKB; try simp only [onB_true, onB_false, onB_dec, onB_ndec, onB_not, onB_and, onB_or]) | (refine AWp_condA rfl ?_ ?_) | with_reducible (first | refine onB_of ?_ ?_ | rfl) | omega)
                all_goals first
                  | omega
                  | exact hcl
                  | exact absurd trivial (by assumption)
                  | exact ⟨⟨i + 1, v + 1, evS s x, os ++ [i]⟩, ⟨by show i + 1 ≤ l.length; omega, hinv.start hx h1, hn2, hgo⟩, by show l.length - (i + 1) < l.length - i; omega, by first | rfl | (simp [natCells]; done), by (repeat' (refine And.intro ?_ ?_)) <;> first | rfl | omega | (simp; done) | (simp; omega) | (simp (dsimp := false) only [go_sem, Nat.reduceAdd, Nat.reduceBEq, Nat.reduceEqDiff, Nat.reduceLT, Nat.reduceLeDiff, Nat.reduceMul, Int.reduceToNat, reduceCtorEq, ↓reduceIte, Tryd.ntmps61, Tryd.results61, ks_61, mu_61, nd_61, ro_61, ti_ag3, ti_ag9, ti_ag97, ti_fl97_0, ti_fl97_1, ti_fl97_2, ti_hb77, ti_hb114, ti_hb115, ti_sb43, ti_sb49, ti_sl43, ti_sl49, ti_st9, ti_sz97, ti_zr97, evD, evV, natCells, h1, Int.reduceEq, Int.reduceLT, Int.reduceLE, and_self, hx, hin, hlm, hlen, List.getElem?_map, h0t, hi0t, h20a, hnft, hvt]; done) | (simp (dsimp := false) only [go_sem, Nat.reduceAdd, Nat.reduceBEq, Nat.reduceEqDiff, Nat.reduceLT, Nat.reduceLeDiff, Nat.reduceMul, Int.reduceToNat, reduceCtorEq, ↓reduceIte, Tryd.ntmps61, Tryd.results61, ks_61, mu_61, nd_61, ro_61, ti_ag3, ti_ag9, ti_ag97, ti_fl97_0, ti_fl97_1, ti_fl97_2, ti_hb77, ti_hb114, ti_hb115, ti_sb43, ti_sb49, ti_sl43, ti_sl49, ti_st9, ti_sz97, ti_zr97, evD, evV, natCells, h1, Int.reduceEq, Int.reduceLT, Int.reduceLE, and_self, hx, hin, hlm, hlen, List.getElem?_map, h0t, hi0t, h20a, hnft, hvt]; omega)⟩
              · rw [if_neg hv] at hfv
                have hvf : (x.vl = []) = False := eq_false (by first | exact hv | omega)
                rw [hgo, hfv, if_neg (by first | decide | assumption)] at hk
                repeat' (first | with_reducible (first | refine And.intro ?_ ?_ | intro _ | refine AWp_seq ?_ | refine AWp_block ?_ | (refine hKv _ _ (AWp_nop ?_); clear hKv Kv) | (refine hKA ?_; clear hKA hKB KA KB) | (refine hKB ?_; clear hKA hKB KA KB) | refine AWp_skipN ?_ | refine AWp_exitO (by repeat (first | exact Out.hit | apply Out.thenA | apply Out.out rfl)) ?_) | ((first | with_reducible (first | (refine hKv _ _ ?_; clear hKv Kv) | ((first | refine AWp_regro mu_61 ks_61 ro_61 ?_ | refine AWp_regC mu_61 ks_61 ?_ | refine AWp_draw nd_61 mu_61 ks_61 ti_mixed (by kernel_rfl) ?_ | refine AWp_regE mu_61 ks_61 ?_ | refine AWp_drawE nd_61 mu_61 ks_61 ti_mixed (by kernel_rfl) ?_); intro Kv hKv) | refine AWp_retR ?_) | refine in_A _ _ _ _ _ ?_ | refine QCall_of (in_A _ _ _ _ _ (Two_intro _ _)) ?_ | refine nameFault_A x.nm (by omega) _ _ ?_ | refine QCall_of (nameFault_A x.nm (by omega) _ _ (Two_intro _ _)) ?_ | refine valueFault_A x.vl (by omega) _ _ ?_ | refine QCall_of (valueFault_A x.vl (by omega) _ _ (Two_intro _ _)) ?_); try simp (dsimp := false) only [go_sem, Nat.reduceAdd, Nat.reduceBEq, Nat.reduceEqDiff, Nat.reduceLT, Nat.reduceLeDiff, Nat.reduceMul, Int.reduceToNat, reduceCtorEq, ↓reduceIte, Tryd.ntmps61, Tryd.results61, ks_61, mu_61, nd_61, ro_61, ti_ag3, ti_ag9, ti_ag97, ti_fl97_0, ti_fl97_1, ti_fl97_2, ti_hb77, ti_hb114, ti_hb115, ti_sb43, ti_sb49, ti_sl43, ti_sl49, ti_st9, ti_sz97, ti_zr97, evD, evV, natCells, h1, Int.reduceEq, Int.reduceLT, Int.reduceLE, and_self, hx, hin, hlm, hlen, List.getElem?_map, h0t, hi0t, h20a, hnft, hvf]) | (refine AWp_condC rfl ?_; intro KA KB hKA hKB; try simp only [onB_true, onB_false, onB_dec, onB_ndec, onB_not, onB_and, onB_or]) | (refine AWp_condA rfl ?_ ?_) | with_reducible (first | refine onB_of ?_ ?_ | rfl) | omega)
                all_goals first
                  | omega
                  | exact hcl
                  | exact absurd trivial (by assumption)
                  | exact dropD hk rfl
            · rw [if_neg hnf] at hfv
              have hnff : (nameFault x.nm = 0) = False := eq_false (by first | exact hnf | omega)
              rw [hgo, hfv, if_neg (by first | decide | assumption)] at hk
              repeat' (first | with_reducible (first | refine And.intro ?_ ?_ | intro _ | refine AWp_seq ?_ | refine AWp_block ?_ | (refine hKv _ _ (AWp_nop ?_); clear hKv Kv) | (refine hKA ?_; clear hKA hKB KA KB) | (refine hKB ?_; clear hKA hKB KA KB) | refine AWp_skipN ?_ | refine AWp_exitO (by repeat (first | exact Out.hit | apply Out.thenA | apply Out.out rfl)) ?_) | ((first | with_reducible (first | (refine hKv _ _ ?_; clear hKv Kv) | ((first | refine AWp_regro mu_61 ks_61 ro_61 ?_ | refine AWp_regC mu_61 ks_61 ?_ | refine AWp_draw nd_61 mu_61 ks_61 ti_mixed (by kernel_rfl) ?_ | refine AWp_regE mu_61 ks_61 ?_ | refine AWp_drawE nd_61 mu_61 ks_61 ti_mixed (by kernel_rfl) ?_); intro Kv hKv) | refine AWp_retR ?_) | refine in_A _ _ _ _ _ ?_ | refine QCall_of (in_A _ _ _ _ _ (Two_intro _ _)) ?_ | refine nameFault_A x.nm (by omega) _ _ ?_ | refine QCall_of (nameFault_A x.nm (by omega) _ _ (Two_intro _ _)) ?_ | refine valueFault_A x.vl (by omega) _ _ ?_ | refine QCall_of (valueFault_A x.vl (by omega) _ _ (Two_intro _ _)) ?_); try simp (dsimp := false) only [go_sem, Nat.reduceAdd, Nat.reduceBEq, Nat.reduceEqDiff, Nat.reduceLT, Nat.reduceLeDiff, Nat.reduceMul, Int.reduceToNat, reduceCtorEq, ↓reduceIte, Tryd.ntmps61, Tryd.results61, ks_61, mu_61, nd_61, ro_61, ti_ag3, ti_ag9, ti_ag97, ti_fl97_0, ti_fl97_1, ti_fl97_2, ti_hb77, ti_hb114, ti_hb115, ti_sb43, ti_sb49, ti_sl43, ti_sl49, ti_st9, ti_sz97, ti_zr97, evD, evV, natCells, h1, Int.reduceEq, Int.reduceLT, Int.reduceLE, and_self, hx, hin, hlm, hlen, List.getElem?_map, h0t, hi0t, h20a, hnff]) | (refine AWp_condC rfl ?_; intro KA KB hKA hKB; try simp only [onB_true, onB_false, onB_dec, onB_ndec, onB_not, onB_and, onB_or]) | (refine AWp_condA rfl ?_ ?_) | with_reducible (first | refine onB_of ?_ ?_ | rfl) | omega)
              all_goals first
                | omega
                | exact hcl
                | exact absurd trivial (by assumption)
                | exact dropD hk rfl
          · rw [if_neg (by simpa using hi0)] at hfv
            have hi0t : ((0 : Int) < (i : Int)) = True := eq_true (by omega)
            rw [hgo, hfv, if_neg (by first | decide | assumption)] at hk
            repeat' (first | with_reducible (first | refine And.intro ?_ ?_ | intro _ | refine AWp_seq ?_ | refine AWp_block ?_ | (refine hKv _ _ (AWp_nop ?_); clear hKv Kv) | (refine hKA ?_; clear hKA hKB KA KB) | (refine hKB ?_; clear hKA hKB KA KB) | refine AWp_skipN ?_ | refine AWp_exitO (by repeat (first | exact Out.hit | apply Out.thenA | apply Out.out rfl)) ?_) | ((first | with_reducible (first | (refine hKv _ _ ?_; clear hKv Kv) | ((first | refine AWp_regro mu_61 ks_61 ro_61 ?_ | refine AWp_regC mu_61 ks_61 ?_ | refine AWp_draw nd_61 mu_61 ks_61 ti_mixed (by kernel_rfl) ?_ | refine AWp_regE mu_61 ks_61 ?_ | refine AWp_drawE nd_61 mu_61 ks_61 ti_mixed (by kernel_rfl) ?_); intro Kv hKv) | refine AWp_retR ?_) | refine in_A _ _ _ _ _ ?_ | refine QCall_of (in_A _ _ _ _ _ (Two_intro _ _)) ?_ | refine nameFault_A x.nm (by omega) _ _ ?_ | refine QCall_of (nameFault_A x.nm (by omega) _ _ (Two_intro _ _)) ?_ | refine valueFault_A x.vl (by omega) _ _ ?_ | refine QCall_of (valueFault_A x.vl (by omega) _ _ (Two_intro _ _)) ?_); try simp (dsimp := false) only [go_sem, Nat.reduceAdd, Nat.reduceBEq, Nat.reduceEqDiff, Nat.reduceLT, Nat.reduceLeDiff, Nat.reduceMul, Int.reduceToNat, reduceCtorEq, ↓reduceIte, Tryd.ntmps61, Tryd.results61, ks_61, mu_61, nd_61, ro_61, ti_ag3, ti_ag9, ti_ag97, ti_fl97_0, ti_fl97_1, ti_fl97_2, ti_hb77, ti_hb114, ti_hb115, ti_sb43, ti_sb49, ti_sl43, ti_sl49, ti_st9, ti_sz97, ti_zr97, evD, evV, natCells, h1, Int.reduceEq, Int.reduceLT, Int.reduceLE, and_self, hx, hin, hlm, hlen, List.getElem?_map, h0t, hi0t]) | (refine AWp_condC rfl ?_; intro KA KB hKA hKB; try simp only [onB_true, onB_false, onB_dec, onB_ndec, onB_not, onB_and, onB_or]) | (refine AWp_condA rfl ?_ ?_) | with_reducible (first | refine onB_of ?_ ?_ | rfl) | omega)
            all_goals first
              | omega
              | exact hcl
              | exact absurd trivial (by assumption)
              | exact dropD hk rfl
        · rw [if_neg h0] at hfv
          have h0f : ((s.n : Int) = 0) = False := eq_false (by first | exact h0 | omega)
          by_cases hnf : nameFault x.nm = 0
          · rw [if_pos hnf] at hfv
            have hnft : (nameFault x.nm = 0) = True := eq_true (by first | exact hnf | omega)
            by_cases hv : x.vl = []
            · rw [if_pos hv] at hfv
              have hvt : (x.vl = []) = True := eq_true (by first | exact hv | omega)
              by_cases h20 : s.n = 20
              · rw [if_pos h20] at hfv
                have h20t : ((20 : Int) ≤ (s.n : Int)) = True := eq_true (by first | exact h20 | omega)
                rw [hgo, hfv, if_neg (by first | decide | assumption)] at hk
                repeat' (first | with_reducible (first | refine And.intro ?_ ?_ | intro _ | refine AWp_seq ?_ | refine AWp_block ?_ | (refine hKv _ _ (AWp_nop ?_); clear hKv Kv) | (refine hKA ?_; clear hKA hKB KA KB) | (refine hKB ?_; clear hKA hKB KA KB) | refine AWp_skipN ?_ | refine AWp_exitO (by repeat (first | exact Out.hit | apply Out.thenA | apply Out.out rfl)) ?_) | ((first | with_reducible (first | (refine hKv _ _ ?_; clear hKv Kv) | ((first | refine AWp_regro mu_61 ks_61 ro_61 ?_ | refine AWp_regC mu_61 ks_61 ?_ | refine AWp_draw nd_61 mu_61 ks_61 ti_mixed (by kernel_rfl) ?_ | refine AWp_regE mu_61 ks_61 ?_ | refine AWp_drawE nd_61 mu_61 ks_61 ti_mixed (by kernel_rfl) ?_); intro Kv hKv) | refine AWp_retR ?_) | refine in_A _ _ _ _ _ ?_ | refine QCall_of (in_A _ _ _ _ _ (Two_intro _ _)) ?_ | refine nameFault_A x.nm (by omega) _ _ ?_ | refine QCall_of (nameFault_A x.nm (by omega) _ _ (Two_intro _ _)) ?_ | refine valueFault_A x.vl (by omega) _ _ ?_ | refine QCall_of (valueFault_A x.vl (by omega) _ _ (Two_intro _ _)) ?_); try simp (dsimp := false) only [go_sem, Nat.reduceAdd, Nat.reduceBEq, Nat.reduceEqDiff, Nat.reduceLT, Nat.reduceLeDiff, Nat.reduceMul, Int.reduceToNat, reduceCtorEq, ↓reduceIte, Tryd.ntmps61, Tryd.results61, ks_61, mu_61, nd_61, ro_61, ti_ag3, ti_ag9, ti_ag97, ti_fl97_0, ti_fl97_1, ti_fl97_2, ti_hb77, ti_hb114, ti_hb115, ti_sb43, ti_sb49, ti_sl43, ti_sl49, ti_st9, ti_sz97, ti_zr97, evD, evV, natCells, h1, Int.reduceEq, Int.reduceLT, Int.reduceLE, and_self, hx, hin, hlm, hlen, List.getElem?_map, h0f, hnft, hvt, h20t]) | (refine AWp_condC rfl ?_; intro KA KB hKA hKB; try simp only [onB_true, onB_false, onB_dec, onB_ndec, onB_not, onB_and, onB_or]) | (refine AWp_condA rfl ?_ ?_) | with_reducible (first | refine onB_of ?_ ?_ | rfl) | omega)
                all_goals first
                  | omega
                  | exact hcl
                  | exact absurd trivial (by assumption)
                  | exact dropD hk rfl
              · rw [if_neg h20] at hfv
                have h20f : ((20 : Int) ≤ (s.n : Int)) = False := eq_false (by first | exact h20 | omega)
                have hn2 := evS_n hn20 hfv
                rw [hfv, if_pos rfl] at hgo
                repeat' (first | with_reducible (first | refine And.intro ?_ ?_ | intro _ | refine AWp_seq ?_ | refine AWp_block ?_ | (refine hKv _ _ (AWp_nop ?_); clear hKv Kv) | (refine hKA ?_; clear hKA hKB KA KB) | (refine hKB ?_; clear hKA hKB KA KB) | refine AWp_skipN ?_ | refine AWp_exitO (by repeat (first | exact Out.hit | apply Out.thenA | apply Out.out rfl)) ?_) | ((first | with_reducible (first | (refine hKv _ _ ?_; clear hKv Kv) | ((first | refine AWp_regro mu_61 ks_61 ro_61 ?_ | refine AWp_regC mu_61 ks_61 ?_ | refine AWp_draw nd_61 mu_61 ks_61 ti_mixed (by kernel_rfl) ?_ | refine AWp_regE mu_61 ks_61 ?_ | refine AWp_drawE nd_61 mu_61 ks_61 ti_mixed (by kernel_rfl) ?_); intro Kv hKv) | refine AWp_retR ?_) | refine in_A _ _ _ _ _ ?_ | refine QCall_of (in_A _ _ _ _ _ (Two_intro _ _)) ?_ | refine nameFault_A x.nm (by omega) _ _ ?_ | refine QCall_of (nameFault_A x.nm (by omega) _ _ (Two_intro _ _)) ?_ | refine valueFault_A x.vl (by omega) _ _ ?_ | refine QCall_of (valueFault_A x.vl (by omega) _ _ (Two_intro _ _)) ?_); try simp (dsimp := false) only [go_sem, Nat.reduceAdd, Nat.reduceBEq, Nat.reduceEqDiff, Nat.reduceLT, Nat.reduceLeDiff, Nat.reduceMul, Int.reduceToNat, reduceCtorEq, ↓reduceIte, Tryd.ntmps61, Tryd.results61, ks_61, mu_61, nd_61, ro_61, ti_ag3, ti_ag9, ti_ag97, ti_fl97_0, ti_fl97_1, ti_fl97_2, ti_hb77, ti_hb114, ti_hb115, ti_sb43, ti_sb49, ti_sl43, ti_sl49, ti_st9, ti_sz97, ti_zr97, evD, evV, natCells, h1, Int.reduceEq, Int.reduceLT, Int.reduceLE, and_self, hx, hin, hlm, hlen, List.getElem?_map, h0f, hnft, hvt, h20f]) | (refine AWp_condC rfl ?_; intro KA KB hKA hKB; try simp only [onB_true, onB_false, onB_dec, onB_ndec, onB_not, onB_and, onB_or]) | (refine AWp_condA rfl ?_ ?_) | with_reducible (first | refine onB_of ?_ ?_ | rfl) | omega)
                all_goals first
                  | omega
                  | exact hcl
                  | exact absurd trivial (by assumption)
                  | exact ⟨⟨i + 1, v + 1, evS s x, os ++ [i]⟩, ⟨by show i + 1 ≤ l.length; omega, hinv.start hx h1, hn2, hgo⟩, by show l.length - (i + 1) < l.length - i; omega, by first | rfl | (simp [natCells]; done), by (repeat' (refine And.intro ?_ ?_)) <;> first | rfl | omega | (simp; done) | (simp; omega) | (simp (dsimp := false) only [go_sem, Nat.reduceAdd, Nat.reduceBEq, Nat.reduceEqDiff, Nat.reduceLT, Nat.reduceLeDiff, Nat.reduceMul, Int.reduceToNat, reduceCtorEq, ↓reduceIte, Tryd.ntmps61, Tryd.results61, ks_61, mu_61, nd_61, ro_61, ti_ag3, ti_ag9, ti_ag97, ti_fl97_0, ti_fl97_1, ti_fl97_2, ti_hb77, ti_hb114, ti_hb115, ti_sb43, ti_sb49, ti_sl43, ti_sl49, ti_st9, ti_sz97, ti_zr97, evD, evV, natCells, h1, Int.reduceEq, Int.reduceLT, Int.reduceLE, and_self, hx, hin, hlm, hlen, List.getElem?_map, h0f, hnft, hvt, h20f]; done) | (simp (dsimp := false) only [go_sem, Nat.reduceAdd, Nat.reduceBEq, Nat.reduceEqDiff, Nat.reduceLT, Nat.reduceLeDiff, Nat.reduceMul, Int.reduceToNat, reduceCtorEq, ↓reduceIte, Tryd.ntmps61, Tryd.results61, ks_61, mu_61, nd_61, ro_61, ti_ag3, ti_ag9, ti_ag97, ti_fl97_0, ti_fl97_1, ti_fl97_2, ti_hb77, ti_hb114, ti_hb115, ti_sb43, ti_sb49, ti_sl43, ti_sl49, ti_st9, ti_sz97, ti_zr97, evD, evV, natCells, h1, Int.reduceEq, Int.reduceLT, Int.reduceLE, and_self, hx, hin, hlm, hlen, List.getElem?_map, h0f, hnft, hvt, h20f]; omega)⟩
            · rw [if_neg hv] at hfv
              have hvf : (x.vl = []) = False := eq_false (by first | exact hv | omega)
              rw [hgo, hfv, if_neg (by first | decide | assumption)] at hk
              repeat' (first | with_reducible (first | refine And.intro ?_ ?_ | intro _ | refine AWp_seq ?_ | refine AWp_block ?_ | (refine hKv _ _ (AWp_nop ?_); clear hKv Kv) | (refine hKA ?_; clear hKA hKB KA KB) | (refine hKB ?_; clear hKA hKB KA KB) | refine AWp_skipN ?_ | refine AWp_exitO (by repeat (first | exact Out.hit | apply Out.thenA | apply Out.out rfl)) ?_) | ((first | with_reducible (first | (refine hKv _ _ ?_; clear hKv Kv) | ((first | refine AWp_regro mu_61 ks_61 ro_61 ?_ | refine AWp_regC mu_61 ks_61 ?_ | refine AWp_draw nd_61 mu_61 ks_61 ti_mixed (by kernel_rfl) ?_ | refine AWp_regE mu_61 ks_61 ?_ | refine AWp_drawE nd_61 mu_61 ks_61 ti_mixed (by kernel_rfl) ?_); intro Kv hKv) | refine AWp_retR ?_) | refine in_A _ _ _ _ _ ?_ | refine QCall_of (in_A _ _ _ _ _ (Two_intro _ _)) ?_ | refine nameFault_A x.nm (by omega) _ _ ?_ | refine QCall_of (nameFault_A x.nm (by omega) _ _ (Two_intro _ _)) ?_ | refine valueFault_A x.vl (by omega) _ _ ?_ | refine QCall_of (valueFault_A x.vl (by omega) _ _ (Two_intro _ _)) ?_); try simp (dsimp := false) only [go_sem, Nat.reduceAdd, Nat.reduceBEq, Nat.reduceEqDiff, Nat.reduceLT, Nat.reduceLeDiff, Nat.reduceMul, Int.reduceToNat, reduceCtorEq, ↓reduceIte, Tryd.ntmps61, Tryd.results61, ks_61, mu_61, nd_61, ro_61, ti_ag3, ti_ag9, ti_ag97, ti_fl97_0, ti_fl97_1, ti_fl97_2, ti_hb77, ti_hb114, ti_hb115, ti_sb43, ti_sb49, ti_sl43, ti_sl49, ti_st9, ti_sz97, ti_zr97, evD, evV, natCells, h1, Int.reduceEq, Int.reduceLT, Int.reduceLE, and_self, hx, hin, hlm, hlen, List.getElem?_map, h0f, hnft, hvf]) | (refine AWp_condC rfl ?_; intro KA KB hKA hKB; try simp only [onB_true, onB_false, onB_dec, onB_ndec, onB_not, onB_and, onB_or]) | (refine AWp_condA rfl ?_ ?_) | with_reducible (first | refine onB_of ?_ ?_ | rfl) | omega)
              all_goals first
                | omega
                | exact hcl
                | exact absurd trivial (by assumption)
                | exact dropD hk rfl
          · rw [if_neg hnf] at hfv
            have hnff : (nameFault x.nm = 0) = False := eq_false (by first | exact hnf | omega)
            rw [hgo, hfv, if_neg (by first | decide | assumption)] at hk
            repeat' (first | with_reducible (first | refine And.intro ?_ ?_ | intro _ | refine AWp_seq ?_ | refine AWp_block ?_ | (refine hKv _ _ (AWp_nop ?_); clear hKv Kv) | (refine hKA ?_; clear hKA hKB KA KB) | (refine hKB ?_; clear hKA hKB KA KB) | refine AWp_skipN ?_ | refine AWp_exitO (by repeat (first | exact Out.hit | apply Out.thenA | apply Out.out rfl)) ?_) | ((first | with_reducible (first | (refine hKv _ _ ?_; clear hKv Kv) | ((first | refine AWp_regro mu_61 ks_61 ro_61 ?_ | refine AWp_regC mu_61 ks_61 ?_ | refine AWp_draw nd_61 mu_61 ks_61 ti_mixed (by kernel_rfl) ?_ | refine AWp_regE mu_61 ks_61 ?_ | refine AWp_drawE nd_61 mu_61 ks_61 ti_mixed (by kernel_rfl) ?_); intro Kv hKv) | refine AWp_retR ?_) | refine in_A _ _ _ _ _ ?_ | refine QCall_of (in_A _ _ _ _ _ (Two_intro _ _)) ?_ | refine nameFault_A x.nm (by omega) _ _ ?_ | refine QCall_of (nameFault_A x.nm (by omega) _ _ (Two_intro _ _)) ?_ | refine valueFault_A x.vl (by omega) _ _ ?_ | refine QCall_of (valueFault_A x.vl (by omega) _ _ (Two_intro _ _)) ?_); try simp (dsimp := false) only [go_sem, Nat.reduceAdd, Nat.reduceBEq, Nat.reduceEqDiff, Nat.reduceLT, Nat.reduceLeDiff, Nat.reduceMul, Int.reduceToNat, reduceCtorEq, ↓reduceIte, Tryd.ntmps61, Tryd.results61, ks_61, mu_61, nd_61, ro_61, ti_ag3, ti_ag9, ti_ag97, ti_fl97_0, ti_fl97_1, ti_fl97_2, ti_hb77, ti_hb114, ti_hb115, ti_sb43, ti_sb49, ti_sl43, ti_sl49, ti_st9, ti_sz97, ti_zr97, evD, evV, natCells, h1, Int.reduceEq, Int.reduceLT, Int.reduceLE, and_self, hx, hin, hlm, hlen, List.getElem?_map, h0f, hnff]) | (refine AWp_condC rfl ?_; intro KA KB hKA hKB; try simp only [onB_true, onB_false, onB_dec, onB_ndec, onB_not, onB_and, onB_or]) | (refine AWp_condA rfl ?_ ?_) | with_reducible (first | refine onB_of ?_ ?_ | rfl) | omega)
            all_goals first
              | omega
              | exact hcl
              | exact absurd trivial (by assumption)
              | exact dropD hk rfl
      · have hfv := evF1_2 (s := s) (first := decide (i = 0)) h1
        by_cases h0 : s.n = 0
        · rw [if_pos h0] at hfv
          have h0t : ((s.n : Int) = 0) = True := eq_true (by first | exact h0 | omega)
          rw [hgo, hfv, if_neg (by first | decide | assumption)] at hk
          repeat' (first | with_reducible (first | refine And.intro ?_ ?_ | intro _ | refine AWp_seq ?_ | refine AWp_block ?_ | (refine hKv _ _ (AWp_nop ?_); clear hKv Kv) | (refine hKA ?_; clear hKA hKB KA KB) | (refine hKB ?_; clear hKA hKB KA KB) | refine AWp_skipN ?_ | refine AWp_exitO (by repeat (first | exact Out.hit | apply Out.thenA | apply Out.out rfl)) ?_) | ((first | with_reducible (first | (refine hKv _ _ ?_; clear hKv Kv) | ((first | refine AWp_regro mu_61 ks_61 ro_61 ?_ | refine AWp_regC mu_61 ks_61 ?_ | refine AWp_draw nd_61 mu_61 ks_61 ti_mixed (by kernel_rfl) ?_ | refine AWp_regE mu_61 ks_61 ?_ | refine AWp_drawE nd_61 mu_61 ks_61 ti_mixed (by kernel_rfl) ?_); intro Kv hKv) | refine AWp_retR ?_) | refine in_A _ _ _ _ _ ?_ | refine QCall_of (in_A _ _ _ _ _ (Two_intro _ _)) ?_ | refine nameFault_A x.nm (by omega) _ _ ?_ | refine QCall_of (nameFault_A x.nm (by omega) _ _ (Two_intro _ _)) ?_ | refine valueFault_A x.vl (by omega) _ _ ?_ | refine QCall_of (valueFault_A x.vl (by omega) _ _ (Two_intro _ _)) ?_); try simp (dsimp := false) only [go_sem, Nat.reduceAdd, Nat.reduceBEq, Nat.reduceEqDiff, Nat.reduceLT, Nat.reduceLeDiff, Nat.reduceMul, Int.reduceToNat, reduceCtorEq, ↓reduceIte, Tryd.ntmps61, Tryd.results61, ks_61, mu_61, nd_61, ro_61, ti_ag3, ti_ag9, ti_ag97, ti_fl97_0, ti_fl97_1, ti_fl97_2, ti_hb77, ti_hb114, ti_hb115, ti_sb43, ti_sb49, ti_sl43, ti_sl49, ti_st9, ti_sz97, ti_zr97, evD, evV, natCells, h1, Int.reduceEq, Int.reduceLT, Int.reduceLE, and_self, hx, hin, hlm, hlen, List.getElem?_map, h0t]) | (refine AWp_condC rfl ?_; intro KA KB hKA hKB; try simp only [onB_true, onB_false, onB_dec, onB_ndec, onB_not, onB_and, onB_or]) | (refine AWp_condA rfl ?_ ?_) | with_reducible (first | refine onB_of ?_ ?_ | rfl) | omega)
          all_goals first
            | omega
            | exact hcl
            | exact absurd trivial (by assumption)
            | exact dropD hk rfl
        · rw [if_neg h0] at hfv
          have h0f : ((s.n : Int) = 0) = False := eq_false (by first | exact h0 | omega)
          obtain ⟨r, o, hro⟩ : ∃ r o, os = r ++ [o] := by
            rcases os.eq_nil_or_concat with rfl | ⟨r, o, rfl⟩
            · exact absurd hlen.symm h0
            · exact ⟨r, o, by simp⟩
          obtain ⟨z, hz, z1, z2, z3⟩ := hinv.top r o hro
          have hoi := hinv.lt o (by rw [hro]; simp)
          have hgp : l[((i : Int) - 1).toNat]? = some z := by rw [show ((i : Int) - 1).toNat = i - 1 by omega]; exact hz
          have hge : ((0 : Int) ≤ (i : Int) - 1) = True := eq_true (by omega)
          have hlt : ((i : Int) - 1 < (l.length : Int)) = True := eq_true (by omega)
          have hot : os[((s.n : Int) - 1).toNat]? = some o := by
            have : r.length + 1 = s.n := by rw [← hlen, hro]; simp
            rw [hro, show ((s.n : Int) - 1).toNat = r.length by omega, List.getElem?_append_right (Nat.le_refl _), Nat.sub_self]; rfl
          have hog : ((0 : Int) ≤ (s.n : Int) - 1) = True := eq_true (by omega)
          have hol : ((s.n : Int) - 1 < (s.n : Int)) = True := eq_true (by omega)
          by_cases hnf : nameFault x.nm = 0
          · rw [if_pos hnf] at hfv
            have hnft : (nameFault x.nm = 0) = True := eq_true (by first | exact hnf | omega)
            by_cases htf : textFault x.vl = 0
            · rw [if_pos htf] at hfv
              have htft : (textFault x.vl = 0) = True := eq_true (by first | exact htf | omega)
              by_cases hi : s.ins = true
              · rw [if_pos hi] at hfv
                have hz2 := z2 hi
                have hza : (z.k = 1) = False := eq_false fun h => hz2 (.inl h)
                have hzb : (z.k = 2) = False := eq_false fun h => hz2 (.inr h)
                rw [hgo, hfv, if_neg (by first | decide | assumption)] at hk
                repeat' (first | with_reducible (first | refine And.intro ?_ ?_ | intro _ | refine AWp_seq ?_ | refine AWp_block ?_ | (refine hKv _ _ (AWp_nop ?_); clear hKv Kv) | (refine hKA ?_; clear hKA hKB KA KB) | (refine hKB ?_; clear hKA hKB KA KB) | refine AWp_skipN ?_ | refine AWp_exitO (by repeat (first | exact Out.hit | apply Out.thenA | apply Out.out rfl)) ?_) | ((first | with_reducible (first | (refine hKv _ _ ?_; clear hKv Kv) | ((first | refine AWp_regro mu_61 ks_61 ro_61 ?_ | refine AWp_regC mu_61 ks_61 ?_ | refine AWp_draw nd_61 mu_61 ks_61 ti_mixed (by kernel_rfl) ?_ | refine AWp_regE mu_61 ks_61 ?_ | refine AWp_drawE nd_61 mu_61 ks_61 ti_mixed (by kernel_rfl) ?_); intro Kv hKv) | refine AWp_retR ?_) | refine in_A _ _ _ _ _ ?_ | refine QCall_of (in_A _ _ _ _ _ (Two_intro _ _)) ?_ | refine nameFault_A x.nm (by omega) _ _ ?_ | refine QCall_of (nameFault_A x.nm (by omega) _ _ (Two_intro _ _)) ?_ | refine valueFault_A x.vl (by omega) _ _ ?_ | refine QCall_of (valueFault_A x.vl (by omega) _ _ (Two_intro _ _)) ?_); try simp (dsimp := false) only [go_sem, Nat.reduceAdd, Nat.reduceBEq, Nat.reduceEqDiff, Nat.reduceLT, Nat.reduceLeDiff, Nat.reduceMul, Int.reduceToNat, reduceCtorEq, ↓reduceIte, Tryd.ntmps61, Tryd.results61, ks_61, mu_61, nd_61, ro_61, ti_ag3, ti_ag9, ti_ag97, ti_fl97_0, ti_fl97_1, ti_fl97_2, ti_hb77, ti_hb114, ti_hb115, ti_sb43, ti_sb49, ti_sl43, ti_sl49, ti_st9, ti_sz97, ti_zr97, evD, evV, natCells, h1, Int.reduceEq, Int.reduceLT, Int.reduceLE, and_self, hx, hin, hlm, hlen, List.getElem?_map, h0f, hgp, hge, hlt, hot, hog, hol, hnft, htft, hi, hza, hzb]) | (refine AWp_condC rfl ?_; intro KA KB hKA hKB; try simp only [onB_true, onB_false, onB_dec, onB_ndec, onB_not, onB_and, onB_or]) | (refine AWp_condA rfl ?_ ?_) | with_reducible (first | refine onB_of ?_ ?_ | rfl) | omega)
                all_goals first
                  | omega
                  | exact hcl
                  | exact absurd trivial (by assumption)
                  | exact dropD hk rfl
              · rw [if_neg hi] at hfv
                have hif : s.ins = false := by simpa using hi
                rcases (z1 hif).2 with hzk | hzk
                · skip
                  repeat' (first | with_reducible (first | refine And.intro ?_ ?_ | intro _ | refine AWp_seq ?_ | refine AWp_block ?_ | (refine hKv _ _ (AWp_nop ?_); clear hKv Kv) | (refine hKA ?_; clear hKA hKB KA KB) | (refine hKB ?_; clear hKA hKB KA KB) | refine AWp_skipN ?_ | refine AWp_exitO (by repeat (first | exact Out.hit | apply Out.thenA | apply Out.out rfl)) ?_) | ((first | with_reducible (first | (refine hKv _ _ ?_; clear hKv Kv) | ((first | refine AWp_regro mu_61 ks_61 ro_61 ?_ | refine AWp_regC mu_61 ks_61 ?_ | refine AWp_draw nd_61 mu_61 ks_61 ti_mixed (by kernel_rfl) ?_ | refine AWp_regE mu_61 ks_61 ?_ | refine AWp_drawE nd_61 mu_61 ks_61 ti_mixed (by kernel_rfl) ?_); intro Kv hKv) | refine AWp_retR ?_) | refine in_A _ _ _ _ _ ?_ | refine QCall_of (in_A _ _ _ _ _ (Two_intro _ _)) ?_ | refine nameFault_A x.nm (by omega) _ _ ?_ | refine QCall_of (nameFault_A x.nm (by omega) _ _ (Two_intro _ _)) ?_ | refine valueFault_A x.vl (by omega) _ _ ?_ | refine QCall_of (valueFault_A x.vl (by omega) _ _ (Two_intro _ _)) ?_); try simp (dsimp := false) only [go_sem, Nat.reduceAdd, Nat.reduceBEq, Nat.reduceEqDiff, Nat.reduceLT, Nat.reduceLeDiff, Nat.reduceMul, Int.reduceToNat, reduceCtorEq, ↓reduceIte, Tryd.ntmps61, Tryd.results61, ks_61, mu_61, nd_61, ro_61, ti_ag3, ti_ag9, ti_ag97, ti_fl97_0, ti_fl97_1, ti_fl97_2, ti_hb77, ti_hb114, ti_hb115, ti_sb43, ti_sb49, ti_sl43, ti_sl49, ti_st9, ti_sz97, ti_zr97, evD, evV, natCells, h1, Int.reduceEq, Int.reduceLT, Int.reduceLE, and_self, hx, hin, hlm, hlen, List.getElem?_map, h0f, hgp, hge, hlt, hot, hog, hol, hnft, htft, hif, hzk]) | (refine AWp_condC rfl ?_; intro KA KB hKA hKB; try simp only [onB_true, onB_false, onB_dec, onB_ndec, onB_not, onB_and, onB_or]) | (refine AWp_condA rfl ?_ ?_) | with_reducible (first | refine onB_of ?_ ?_ | rfl) | omega)
                  all_goals try exact absurd trivial (by assumption)
                  have hat := (z1 hif).1
                  refine AWp_whileH (fun k : Nat => o + 1 ≤ k ∧ k ≤ i ∧ (x.nm ∈ s.at_) = (x.nm ∈ ((l.take i).drop k).map (·.nm)))
                    (fun k => [(0, .d (.sl 3 (l.map evD))), (3, .os H.length v), (4, .d (.i .i64 i)), (5, .rp (evD x)), (8, .d (.i .i64 k))])
                    (fun _ => [.row v 3 1 (os.map natCells)]) (fun k => i - k) (o + 1) ⟨Nat.le_refl _, by omega, by rw [hat]⟩ ?_ ?_ ?_ ?_
                  · first | rfl
                  · simp (dsimp := false) only [go_sem, Nat.reduceAdd, Nat.reduceBEq, Nat.reduceEqDiff, Nat.reduceLT, Nat.reduceLeDiff, Nat.reduceMul, Int.reduceToNat, reduceCtorEq, ↓reduceIte, Tryd.ntmps61, Tryd.results61, ks_61, mu_61, nd_61, ro_61, ti_ag3, ti_ag9, ti_ag97, ti_fl97_0, ti_fl97_1, ti_fl97_2, ti_hb77, ti_hb114, ti_hb115, ti_sb43, ti_sb49, ti_sl43, ti_sl49, ti_st9, ti_sz97, ti_zr97, evD, evV, natCells, h1, Int.reduceEq, Int.reduceLT, Int.reduceLE, and_self, hx, hin, hlm, hlen, List.getElem?_map, h0f, hgp, hge, hlt, hot, hog, hol, hnft, htft, hif, hzk]
                    first | done | (simp; done)
                  · intro k _ ob hob
                    simp only [List.mem_cons, List.not_mem_nil, or_false] at hob
                    subst hob
                    exact obBel_nat _ _ _ _ _
                  rintro k ⟨k1, k2, k3⟩
                  by_cases hki : k < i
                  · obtain ⟨y, hy⟩ : ∃ y, l[k]? = some y := ⟨l[k], List.getElem?_eq_getElem (by omega)⟩
                    have hkt : (l.take i)[k]? = some y := by rw [List.getElem?_take_of_lt hki, hy]
                    have hkk : ((k : Int) < (i : Int)) = True := eq_true (by omega)
                    rw [drop_of_get hkt, List.map_cons, List.mem_cons] at k3
                    by_cases hyn : y.nm = x.nm
                    · rw [if_pos (by rw [k3]; exact .inl hyn.symm)] at hfv
                      rw [hgo, hfv, if_neg (by decide)] at hk
                      have hyt : (y.nm = x.nm) = True := eq_true hyn
                      repeat' (first | with_reducible (first | refine And.intro ?_ ?_ | intro _ | refine AWp_seq ?_ | refine AWp_block ?_ | (refine hKv _ _ (AWp_nop ?_); clear hKv Kv) | (refine hKA ?_; clear hKA hKB KA KB) | (refine hKB ?_; clear hKA hKB KA KB) | refine AWp_skipN ?_ | refine AWp_exitO (by repeat (first | exact Out.hit | apply Out.thenA | apply Out.out rfl)) ?_) | (with_reducible (first | (refine hKv _ _ ?_; clear hKv Kv) | ((first | refine AWp_regro mu_61 ks_61 ro_61 ?_ | refine AWp_regC mu_61 ks_61 ?_ | refine AWp_draw nd_61 mu_61 ks_61 ti_mixed (by kernel_rfl) ?_ | refine AWp_regE mu_61 ks_61 ?_ | refine AWp_drawE nd_61 mu_61 ks_61 ti_mixed (by kernel_rfl) ?_); intro Kv hKv) | refine AWp_retR ?_); try simp (dsimp := false) only [go_sem, Nat.reduceAdd, Nat.reduceBEq, Nat.reduceEqDiff, Nat.reduceLT, Nat.reduceLeDiff, Nat.reduceMul, Int.reduceToNat, reduceCtorEq, ↓reduceIte, Tryd.ntmps61, Tryd.results61, ks_61, mu_61, nd_61, ro_61, ti_ag3, ti_ag9, ti_ag97, ti_fl97_0, ti_fl97_1, ti_fl97_2, ti_hb77, ti_hb114, ti_hb115, ti_sb43, ti_sb49, ti_sl43, ti_sl49, ti_st9, ti_sz97, ti_zr97, evD, evV, natCells, h1, Int.reduceEq, Int.reduceLT, Int.reduceLE, and_self, hx, hin, hlm, hlen, List.getElem?_map, h0f, hgp, hge, hlt, hot, hog, hol, hnft, htft, hif, hzk, hy, hkk, hyt]) | (refine AWp_condC rfl ?_; intro KA KB hKA hKB; try simp only [onB_true, onB_false, onB_dec, onB_ndec, onB_not, onB_and, onB_or]) | (refine AWp_condA rfl ?_ ?_) | with_reducible (first | refine onB_of ?_ ?_ | rfl) | omega)
                      all_goals first
                        | omega
                        | exact absurd trivial (by assumption)
                        | exact dropD hk rfl
                    · have hyt : (y.nm = x.nm) = False := eq_false hyn
                      repeat' (first | with_reducible (first | refine And.intro ?_ ?_ | intro _ | refine AWp_seq ?_ | refine AWp_block ?_ | (refine hKv _ _ (AWp_nop ?_); clear hKv Kv) | (refine hKA ?_; clear hKA hKB KA KB) | (refine hKB ?_; clear hKA hKB KA KB) | refine AWp_skipN ?_ | refine AWp_exitO (by repeat (first | exact Out.hit | apply Out.thenA | apply Out.out rfl)) ?_) | (with_reducible (first | (refine hKv _ _ ?_; clear hKv Kv) | ((first | refine AWp_regro mu_61 ks_61 ro_61 ?_ | refine AWp_regC mu_61 ks_61 ?_ | refine AWp_draw nd_61 mu_61 ks_61 ti_mixed (by kernel_rfl) ?_ | refine AWp_regE mu_61 ks_61 ?_ | refine AWp_drawE nd_61 mu_61 ks_61 ti_mixed (by kernel_rfl) ?_); intro Kv hKv) | refine AWp_retR ?_); try simp (dsimp := false) only [go_sem, Nat.reduceAdd, Nat.reduceBEq, Nat.reduceEqDiff, Nat.reduceLT, Nat.reduceLeDiff, Nat.reduceMul, Int.reduceToNat, reduceCtorEq, ↓reduceIte, Tryd.ntmps61, Tryd.results61, ks_61, mu_61, nd_61, ro_61, ti_ag3, ti_ag9, ti_ag97, ti_fl97_0, ti_fl97_1, ti_fl97_2, ti_hb77, ti_hb114, ti_hb115, ti_sb43, ti_sb49, ti_sl43, ti_sl49, ti_st9, ti_sz97, ti_zr97, evD, evV, natCells, h1, Int.reduceEq, Int.reduceLT, Int.reduceLE, and_self, hx, hin, hlm, hlen, List.getElem?_map, h0f, hgp, hge, hlt, hot, hog, hol, hnft, htft, hif, hzk, hy, hkk, hyt]) | (refine AWp_condC rfl ?_; intro KA KB hKA hKB; try simp only [onB_true, onB_false, onB_dec, onB_ndec, onB_not, onB_and, onB_or]) | (refine AWp_condA rfl ?_ ?_) | with_reducible (first | refine onB_of ?_ ?_ | rfl) | omega)
                      all_goals first
                        | omega
                        | exact absurd trivial (by assumption)
                        | exact ⟨k + 1, ⟨by omega, by omega, by rw [k3]; simp [Ne.symm hyn]⟩, by (repeat' (refine And.intro ?_ ?_)) <;> first | rfl | omega | (simp; done) | (simp; omega) | (simp (dsimp := false) only [go_sem, Nat.reduceAdd, Nat.reduceBEq, Nat.reduceEqDiff, Nat.reduceLT, Nat.reduceLeDiff, Nat.reduceMul, Int.reduceToNat, reduceCtorEq, ↓reduceIte, Tryd.ntmps61, Tryd.results61, ks_61, mu_61, nd_61, ro_61, ti_ag3, ti_ag9, ti_ag97, ti_fl97_0, ti_fl97_1, ti_fl97_2, ti_hb77, ti_hb114, ti_hb115, ti_sb43, ti_sb49, ti_sl43, ti_sl49, ti_st9, ti_sz97, ti_zr97, evD, evV, natCells, h1, Int.reduceEq, Int.reduceLT, Int.reduceLE, and_self, hx, hin, hlm, hlen, List.getElem?_map, h0f, hgp, hge, hlt, hot, hog, hol, hnft, htft, hif, hzk, hy, hkk, hyt]; done) | (simp (dsimp := false) only [go_sem, Nat.reduceAdd, Nat.reduceBEq, Nat.reduceEqDiff, Nat.reduceLT, Nat.reduceLeDiff, Nat.reduceMul, Int.reduceToNat, reduceCtorEq, ↓reduceIte, Tryd.ntmps61, Tryd.results61, ks_61, mu_61, nd_61, ro_61, ti_ag3, ti_ag9, ti_ag97, ti_fl97_0, ti_fl97_1, ti_fl97_2, ti_hb77, ti_hb114, ti_hb115, ti_sb43, ti_sb49, ti_sl43, ti_sl49, ti_st9, ti_sz97, ti_zr97, evD, evV, natCells, h1, Int.reduceEq, Int.reduceLT, Int.reduceLE, and_self, hx, hin, hlm, hlen, List.getElem?_map, h0f, hgp, hge, hlt, hot, hog, hol, hnft, htft, hif, hzk, hy, hkk, hyt]; omega)⟩
                  · have e : k = i := by omega
                    subst e
                    have hkk : ((k : Int) < (k : Int)) = False := eq_false (by omega)
                    rw [List.drop_eq_nil_of_le (by rw [List.length_take]; omega)] at k3
                    rw [if_neg (by rw [k3]; simp)] at hfv
                    have hn2 := evS_n hn20 hfv
                    rw [hfv, if_pos rfl] at hgo
                    repeat' (first | with_reducible (first | refine And.intro ?_ ?_ | intro _ | refine AWp_seq ?_ | refine AWp_block ?_ | (refine hKv _ _ (AWp_nop ?_); clear hKv Kv) | (refine hKA ?_; clear hKA hKB KA KB) | (refine hKB ?_; clear hKA hKB KA KB) | refine AWp_skipN ?_ | refine AWp_exitO (by repeat (first | exact Out.hit | apply Out.thenA | apply Out.out rfl)) ?_) | (with_reducible (first | (refine hKv _ _ ?_; clear hKv Kv) | ((first | refine AWp_regro mu_61 ks_61 ro_61 ?_ | refine AWp_regC mu_61 ks_61 ?_ | refine AWp_draw nd_61 mu_61 ks_61 ti_mixed (by kernel_rfl) ?_ | refine AWp_regE mu_61 ks_61 ?_ | refine AWp_drawE nd_61 mu_61 ks_61 ti_mixed (by kernel_rfl) ?_); intro Kv hKv) | refine AWp_retR ?_); try simp (dsimp := false) only [go_sem, Nat.reduceAdd, Nat.reduceBEq, Nat.reduceEqDiff, Nat.reduceLT, Nat.reduceLeDiff, Nat.reduceMul, Int.reduceToNat, reduceCtorEq, ↓reduceIte, Tryd.ntmps61, Tryd.results61, ks_61, mu_61, nd_61, ro_61, ti_ag3, ti_ag9, ti_ag97, ti_fl97_0, ti_fl97_1, ti_fl97_2, ti_hb77, ti_hb114, ti_hb115, ti_sb43, ti_sb49, ti_sl43, ti_sl49, ti_st9, ti_sz97, ti_zr97, evD, evV, natCells, h1, Int.reduceEq, Int.reduceLT, Int.reduceLE, and_self, hx, hin, hlm, hlen, List.getElem?_map, h0f, hgp, hge, hlt, hot, hog, hol, hnft, htft, hif, hzk, hkk]) | (refine AWp_condC rfl ?_; intro KA KB hKA hKB; try simp only [onB_true, onB_false, onB_dec, onB_ndec, onB_not, onB_and, onB_or]) | (refine AWp_condA rfl ?_ ?_) | with_reducible (first | refine onB_of ?_ ?_ | rfl) | omega)
                    all_goals first
                      | omega
                      | exact absurd trivial (by assumption)
                      | exact ⟨⟨k + 1, v, evS s x, os⟩, ⟨by show k + 1 ≤ l.length; omega, hinv.attr hx h1 hif, hn2, hgo⟩, by show l.length - (k + 1) < l.length - k; omega, by first | rfl | (simp [natCells]; done), by (repeat' (refine And.intro ?_ ?_)) <;> first | rfl | omega | (simp; done) | (simp; omega) | (simp (dsimp := false) only [go_sem, Nat.reduceAdd, Nat.reduceBEq, Nat.reduceEqDiff, Nat.reduceLT, Nat.reduceLeDiff, Nat.reduceMul, Int.reduceToNat, reduceCtorEq, ↓reduceIte, Tryd.ntmps61, Tryd.results61, ks_61, mu_61, nd_61, ro_61, ti_ag3, ti_ag9, ti_ag97, ti_fl97_0, ti_fl97_1, ti_fl97_2, ti_hb77, ti_hb114, ti_hb115, ti_sb43, ti_sb49, ti_sl43, ti_sl49, ti_st9, ti_sz97, ti_zr97, evD, evV, natCells, h1, Int.reduceEq, Int.reduceLT, Int.reduceLE, and_self, hx, hin, hlm, hlen, List.getElem?_map, h0f, hgp, hge, hlt, hot, hog, hol, hnft, htft, hif, hzk, hkk]; done) | (simp (dsimp := false) only [go_sem, Nat.reduceAdd, Nat.reduceBEq, Nat.reduceEqDiff, Nat.reduceLT, Nat.reduceLeDiff, Nat.reduceMul, Int.reduceToNat, reduceCtorEq, ↓reduceIte, Tryd.ntmps61, Tryd.results61, ks_61, mu_61, nd_61, ro_61, ti_ag3, ti_ag9, ti_ag97, ti_fl97_0, ti_fl97_1, ti_fl97_2, ti_hb77, ti_hb114, ti_hb115, ti_sb43, ti_sb49, ti_sl43, ti_sl49, ti_st9, ti_sz97, ti_zr97, evD, evV, natCells, h1, Int.reduceEq, Int.reduceLT, Int.reduceLE, and_self, hx, hin, hlm, hlen, List.getElem?_map, h0f, hgp, hge, hlt, hot, hog, hol, hnft, htft, hif, hzk, hkk]; omega)⟩
                · skip
                  repeat' (first | with_reducible (first | refine And.intro ?_ ?_ | intro _ | refine AWp_seq ?_ | refine AWp_block ?_ | (refine hKv _ _ (AWp_nop ?_); clear hKv Kv) | (refine hKA ?_; clear hKA hKB KA KB) | (refine hKB ?_; clear hKA hKB KA KB) | refine AWp_skipN ?_ | refine AWp_exitO (by repeat (first | exact Out.hit | apply Out.thenA | apply Out.out rfl)) ?_) | ((first | with_reducible (first | (refine hKv _ _ ?_; clear hKv Kv) | ((first | refine AWp_regro mu_61 ks_61 ro_61 ?_ | refine AWp_regC mu_61 ks_61 ?_ | refine AWp_draw nd_61 mu_61 ks_61 ti_mixed (by kernel_rfl) ?_ | refine AWp_regE mu_61 ks_61 ?_ | refine AWp_drawE nd_61 mu_61 ks_61 ti_mixed (by kernel_rfl) ?_); intro Kv hKv) | refine AWp_retR ?_) | refine in_A _ _ _ _ _ ?_ | refine QCall_of (in_A _ _ _ _ _ (Two_intro _ _)) ?_ | refine nameFault_A x.nm (by omega) _ _ ?_ | refine QCall_of (nameFault_A x.nm (by omega) _ _ (Two_intro _ _)) ?_ | refine valueFault_A x.vl (by omega) _ _ ?_ | refine QCall_of (valueFault_A x.vl (by omega) _ _ (Two_intro _ _)) ?_); try simp (dsimp := false) only [go_sem, Nat.reduceAdd, Nat.reduceBEq, Nat.reduceEqDiff, Nat.reduceLT, Nat.reduceLeDiff, Nat.reduceMul, Int.reduceToNat, reduceCtorEq, ↓reduceIte, Tryd.ntmps61, Tryd.results61, ks_61, mu_61, nd_61, ro_61, ti_ag3, ti_ag9, ti_ag97, ti_fl97_0, ti_fl97_1, ti_fl97_2, ti_hb77, ti_hb114, ti_hb115, ti_sb43, ti_sb49, ti_sl43, ti_sl49, ti_st9, ti_sz97, ti_zr97, evD, evV, natCells, h1, Int.reduceEq, Int.reduceLT, Int.reduceLE, and_self, hx, hin, hlm, hlen, List.getElem?_map, h0f, hgp, hge, hlt, hot, hog, hol, hnft, htft, hif, hzk]) | (refine AWp_condC rfl ?_; intro KA KB hKA hKB; try simp only [onB_true, onB_false, onB_dec, onB_ndec, onB_not, onB_and, onB_or]) | (refine AWp_condA rfl ?_ ?_) | with_reducible (first | refine onB_of ?_ ?_ | rfl) | omega)
                  all_goals try exact absurd trivial (by assumption)
                  have hat := (z1 hif).1
                  refine AWp_whileH (fun k : Nat => o + 1 ≤ k ∧ k ≤ i ∧ (x.nm ∈ s.at_) = (x.nm ∈ ((l.take i).drop k).map (·.nm)))
                    (fun k => [(0, .d (.sl 3 (l.map evD))), (3, .os H.length v), (4, .d (.i .i64 i)), (5, .rp (evD x)), (8, .d (.i .i64 k))])
                    (fun _ => [.row v 3 1 (os.map natCells)]) (fun k => i - k) (o + 1) ⟨Nat.le_refl _, by omega, by rw [hat]⟩ ?_ ?_ ?_ ?_
                  · first | rfl
                  · simp (dsimp := false) only [go_sem, Nat.reduceAdd, Nat.reduceBEq, Nat.reduceEqDiff, Nat.reduceLT, Nat.reduceLeDiff, Nat.reduceMul, Int.reduceToNat, reduceCtorEq, ↓reduceIte, Tryd.ntmps61, Tryd.results61, ks_61, mu_61, nd_61, ro_61, ti_ag3, ti_ag9, ti_ag97, ti_fl97_0, ti_fl97_1, ti_fl97_2, ti_hb77, ti_hb114, ti_hb115, ti_sb43, ti_sb49, ti_sl43, ti_sl49, ti_st9, ti_sz97, ti_zr97, evD, evV, natCells, h1, Int.reduceEq, Int.reduceLT, Int.reduceLE, and_self, hx, hin, hlm, hlen, List.getElem?_map, h0f, hgp, hge, hlt, hot, hog, hol, hnft, htft, hif, hzk]
                    first | done | (simp; done)
                  · intro k _ ob hob
                    simp only [List.mem_cons, List.not_mem_nil, or_false] at hob
                    subst hob
                    exact obBel_nat _ _ _ _ _
                  rintro k ⟨k1, k2, k3⟩
                  by_cases hki : k < i
                  · obtain ⟨y, hy⟩ : ∃ y, l[k]? = some y := ⟨l[k], List.getElem?_eq_getElem (by omega)⟩
                    have hkt : (l.take i)[k]? = some y := by rw [List.getElem?_take_of_lt hki, hy]
                    have hkk : ((k : Int) < (i : Int)) = True := eq_true (by omega)
                    rw [drop_of_get hkt, List.map_cons, List.mem_cons] at k3
                    by_cases hyn : y.nm = x.nm
                    · rw [if_pos (by rw [k3]; exact .inl hyn.symm)] at hfv
                      rw [hgo, hfv, if_neg (by decide)] at hk
                      have hyt : (y.nm = x.nm) = True := eq_true hyn
                      repeat' (first | with_reducible (first | refine And.intro ?_ ?_ | intro _ | refine AWp_seq ?_ | refine AWp_block ?_ | (refine hKv _ _ (AWp_nop ?_); clear hKv Kv) | (refine hKA ?_; clear hKA hKB KA KB) | (refine hKB ?_; clear hKA hKB KA KB) | refine AWp_skipN ?_ | refine AWp_exitO (by repeat (first | exact Out.hit | apply Out.thenA | apply Out.out rfl)) ?_) | (with_reducible (first | (refine hKv _ _ ?_; clear hKv Kv) | ((first | refine AWp_regro mu_61 ks_61 ro_61 ?_ | refine AWp_regC mu_61 ks_61 ?_ | refine AWp_draw nd_61 mu_61 ks_61 ti_mixed (by kernel_rfl) ?_ | refine AWp_regE mu_61 ks_61 ?_ | refine AWp_drawE nd_61 mu_61 ks_61 ti_mixed (by kernel_rfl) ?_); intro Kv hKv) | refine AWp_retR ?_); try simp (dsimp := false) only [go_sem, Nat.reduceAdd, Nat.reduceBEq, Nat.reduceEqDiff, Nat.reduceLT, Nat.reduceLeDiff, Nat.reduceMul, Int.reduceToNat, reduceCtorEq, ↓reduceIte, Tryd.ntmps61, Tryd.results61, ks_61, mu_61, nd_61, ro_61, ti_ag3, ti_ag9, ti_ag97, ti_fl97_0, ti_fl97_1, ti_fl97_2, ti_hb77, ti_hb114, ti_hb115, ti_sb43, ti_sb49, ti_sl43, ti_sl49, ti_st9, ti_sz97, ti_zr97, evD, evV, natCells, h1, Int.reduceEq, Int.reduceLT, Int.reduceLE, and_self, hx, hin, hlm, hlen, List.getElem?_map, h0f, hgp, hge, hlt, hot, hog, hol, hnft, htft, hif, hzk, hy, hkk, hyt]) | (refine AWp_condC rfl ?_; intro KA KB hKA hKB; try simp only [onB_true, onB_false, onB_dec, onB_ndec, onB_not, onB_and, onB_or]) | (refine AWp_condA rfl ?_ ?_) | with_reducible (first | refine onB_of ?_ ?_ | rfl) | omega)
                      all_goals first
                        | omega
                        | exact absurd trivial (by assumption)
                        | exact dropD hk rfl
                    · have hyt : (y.nm = x.nm) = False := eq_false hyn
                      repeat' (first | with_reducible (first | refine And.intro ?_ ?_ | intro _ | refine AWp_seq ?_ | refine AWp_block ?_ | (refine hKv _ _ (AWp_nop ?_); clear hKv Kv) | (refine hKA ?_; clear hKA hKB KA KB) | (refine hKB ?_; clear hKA hKB KA KB) | refine AWp_skipN ?_ | refine AWp_exitO (by repeat (first | exact Out.hit | apply Out.thenA | apply Out.out rfl)) ?_) | (with_reducible (first | (refine hKv _ _ ?_; clear hKv Kv) | ((first | refine AWp_regro mu_61 ks_61 ro_61 ?_ | refine AWp_regC mu_61 ks_61 ?_ | refine AWp_draw nd_61 mu_61 ks_61 ti_mixed (by kernel_rfl) ?_ | refine AWp_regE mu_61 ks_61 ?_ | refine AWp_drawE nd_61 mu_61 ks_61 ti_mixed (by kernel_rfl) ?_); intro Kv hKv) | refine AWp_retR ?_); try simp (dsimp := false) only [go_sem, Nat.reduceAdd, Nat.reduceBEq, Nat.reduceEqDiff, Nat.reduceLT, Nat.reduceLeDiff, Nat.reduceMul, Int.reduceToNat, reduceCtorEq, ↓reduceIte, Tryd.ntmps61, Tryd.results61, ks_61, mu_61, nd_61, ro_61, ti_ag3, ti_ag9, ti_ag97, ti_fl97_0, ti_fl97_1, ti_fl97_2, ti_hb77, ti_hb114, ti_hb115, ti_sb43, ti_sb49, ti_sl43, ti_sl49, ti_st9, ti_sz97, ti_zr97, evD, evV, natCells, h1, Int.reduceEq, Int.reduceLT, Int.reduceLE, and_self, hx, hin, hlm, hlen, List.getElem?_map, h0f, hgp, hge, hlt, hot, hog, hol, hnft, htft, hif, hzk, hy, hkk, hyt]) | (refine AWp_condC rfl ?_; intro KA KB hKA hKB; try simp only [onB_true, onB_false, onB_dec, onB_ndec, onB_not, onB_and, onB_or]) | (refine AWp_condA rfl ?_ ?_) | with_reducible (first | refine onB_of ?_ ?_ | rfl) | omega)
                      all_goals first
                        | omega
                        | exact absurd trivial (by assumption)
                        | exact ⟨k + 1, ⟨by omega, by omega, by rw [k3]; simp [Ne.symm hyn]⟩, by (repeat' (refine And.intro ?_ ?_)) <;> first | rfl | omega | (simp; done) | (simp; omega) | (simp (dsimp := false) only [go_sem, Nat.reduceAdd, Nat.reduceBEq, Nat.reduceEqDiff, Nat.reduceLT, Nat.reduceLeDiff, Nat.reduceMul, Int.reduceToNat, reduceCtorEq, ↓reduceIte, Tryd.ntmps61, Tryd.results61, ks_61, mu_61, nd_61, ro_61, ti_ag3, ti_ag9, ti_ag97, ti_fl97_0, ti_fl97_1, ti_fl97_2, ti_hb77, ti_hb114, ti_hb115, ti_sb43, ti_sb49, ti_sl43, ti_sl49, ti_st9, ti_sz97, ti_zr97, evD, evV, natCells, h1, Int.reduceEq, Int.reduceLT, Int.reduceLE, and_self, hx, hin, hlm, hlen, List.getElem?_map, h0f, hgp, hge, hlt, hot, hog, hol, hnft, htft, hif, hzk, hy, hkk, hyt]; done) | (simp (dsimp := false) only [go_sem, Nat.reduceAdd, Nat.reduceBEq, Nat.reduceEqDiff, Nat.reduceLT, Nat.reduceLeDiff, Nat.reduceMul, Int.reduceToNat, reduceCtorEq, ↓reduceIte, Tryd.ntmps61, Tryd.results61, ks_61, mu_61, nd_61, ro_61, ti_ag3, ti_ag9, ti_ag97, ti_fl97_0, ti_fl97_1, ti_fl97_2, ti_hb77, ti_hb114, ti_hb115, ti_sb43, ti_sb49, ti_sl43, ti_sl49, ti_st9, ti_sz97, ti_zr97, evD, evV, natCells, h1, Int.reduceEq, Int.reduceLT, Int.reduceLE, and_self, hx, hin, hlm, hlen, List.getElem?_map, h0f, hgp, hge, hlt, hot, hog, hol, hnft, htft, hif, hzk, hy, hkk, hyt]; omega)⟩
                  · have e : k = i := by omega
                    subst e
                    have hkk : ((k : Int) < (k : Int)) = False := eq_false (by omega)
                    rw [List.drop_eq_nil_of_le (by rw [List.length_take]; omega)] at k3
                    rw [if_neg (by rw [k3]; simp)] at hfv
                    have hn2 := evS_n hn20 hfv
                    rw [hfv, if_pos rfl] at hgo
                    repeat' (first | with_reducible (first | refine And.intro ?_ ?_ | intro _ | refine AWp_seq ?_ | refine AWp_block ?_ | (refine hKv _ _ (AWp_nop ?_); clear hKv Kv) | (refine hKA ?_; clear hKA hKB KA KB) | (refine hKB ?_; clear hKA hKB KA KB) | refine AWp_skipN ?_ | refine AWp_exitO (by repeat (first | exact Out.hit | apply Out.thenA | apply Out.out rfl)) ?_) | (with_reducible (first | (refine hKv _ _ ?_; clear hKv Kv) | ((first | refine AWp_regro mu_61 ks_61 ro_61 ?_ | refine AWp_regC mu_61 ks_61 ?_ | refine AWp_draw nd_61 mu_61 ks_61 ti_mixed (by kernel_rfl) ?_ | refine AWp_regE mu_61 ks_61 ?_ | refine AWp_drawE nd_61 mu_61 ks_61 ti_mixed (by kernel_rfl) ?_); intro Kv hKv) | refine AWp_retR ?_); try simp (dsimp := false) only [go_sem, Nat.reduceAdd, Nat.reduceBEq, Nat.reduceEqDiff, Nat.reduceLT, Nat.reduceLeDiff, Nat.reduceMul, Int.reduceToNat, reduceCtorEq, ↓reduceIte, Tryd.ntmps61, Tryd.results61, ks_61, mu_61, nd_61, ro_61, ti_ag3, ti_ag9, ti_ag97, ti_fl97_0, ti_fl97_1, ti_fl97_2, ti_hb77, ti_hb114, ti_hb115, ti_sb43, ti_sb49, ti_sl43, ti_sl49, ti_st9, ti_sz97, ti_zr97, evD, evV, natCells, h1, Int.reduceEq, Int.reduceLT, Int.reduceLE, and_self, hx, hin, hlm, hlen, List.getElem?_map, h0f, hgp, hge, hlt, hot, hog, hol, hnft, htft, hif, hzk, hkk]) | (refine AWp_condC rfl ?_; intro KA KB hKA hKB; try simp only [onB_true, onB_false, onB_dec, onB_ndec, onB_not, onB_and, onB_or]) | (refine AWp_condA rfl ?_ ?_) | with_reducible (first | refine onB_of ?_ ?_ | rfl) | omega)
                    all_goals first
                      | omega
                      | exact absurd trivial (by assumption)
                      | exact ⟨⟨k + 1, v, evS s x, os⟩, ⟨by show k + 1 ≤ l.length; omega, hinv.attr hx h1 hif, hn2, hgo⟩, by show l.length - (k + 1) < l.length - k; omega, by first | rfl | (simp [natCells]; done), by (repeat' (refine And.intro ?_ ?_)) <;> first | rfl | omega | (simp; done) | (simp; omega) | (simp (dsimp := false) only [go_sem, Nat.reduceAdd, Nat.reduceBEq, Nat.reduceEqDiff, Nat.reduceLT, Nat.reduceLeDiff, Nat.reduceMul, Int.reduceToNat, reduceCtorEq, ↓reduceIte, Tryd.ntmps61, Tryd.results61, ks_61, mu_61, nd_61, ro_61, ti_ag3, ti_ag9, ti_ag97, ti_fl97_0, ti_fl97_1, ti_fl97_2, ti_hb77, ti_hb114, ti_hb115, ti_sb43, ti_sb49, ti_sl43, ti_sl49, ti_st9, ti_sz97, ti_zr97, evD, evV, natCells, h1, Int.reduceEq, Int.reduceLT, Int.reduceLE, and_self, hx, hin, hlm, hlen, List.getElem?_map, h0f, hgp, hge, hlt, hot, hog, hol, hnft, htft, hif, hzk, hkk]; done) | (simp (dsimp := false) only [go_sem, Nat.reduceAdd, Nat.reduceBEq, Nat.reduceEqDiff, Nat.reduceLT, Nat.reduceLeDiff, Nat.reduceMul, Int.reduceToNat, reduceCtorEq, ↓reduceIte, Tryd.ntmps61, Tryd.results61, ks_61, mu_61, nd_61, ro_61, ti_ag3, ti_ag9, ti_ag97, ti_fl97_0, ti_fl97_1, ti_fl97_2, ti_hb77, ti_hb114, ti_hb115, ti_sb43, ti_sb49, ti_sl43, ti_sl49, ti_st9, ti_sz97, ti_zr97, evD, evV, natCells, h1, Int.reduceEq, Int.reduceLT, Int.reduceLE, and_self, hx, hin, hlm, hlen, List.getElem?_map, h0f, hgp, hge, hlt, hot, hog, hol, hnft, htft, hif, hzk, hkk]; omega)⟩
            · rw [if_neg htf] at hfv
              have htff : (textFault x.vl = 0) = False := eq_false (by first | exact htf | omega)
              rw [hgo, hfv, if_neg (by first | decide | assumption)] at hk
              repeat' (first | with_reducible (first | refine And.intro ?_ ?_ | intro _ | refine AWp_seq ?_ | refine AWp_block ?_ | (refine hKv _ _ (AWp_nop ?_); clear hKv Kv) | (refine hKA ?_; clear hKA hKB KA KB) | (refine hKB ?_; clear hKA hKB KA KB) | refine AWp_skipN ?_ | refine AWp_exitO (by repeat (first | exact Out.hit | apply Out.thenA | apply Out.out rfl)) ?_) | ((first | with_reducible (first | (refine hKv _ _ ?_; clear hKv Kv) | ((first | refine AWp_regro mu_61 ks_61 ro_61 ?_ | refine AWp_regC mu_61 ks_61 ?_ | refine AWp_draw nd_61 mu_61 ks_61 ti_mixed (by kernel_rfl) ?_ | refine AWp_regE mu_61 ks_61 ?_ | refine AWp_drawE nd_61 mu_61 ks_61 ti_mixed (by kernel_rfl) ?_); intro Kv hKv) | refine AWp_retR ?_) | refine in_A _ _ _ _ _ ?_ | refine QCall_of (in_A _ _ _ _ _ (Two_intro _ _)) ?_ | refine nameFault_A x.nm (by omega) _ _ ?_ | refine QCall_of (nameFault_A x.nm (by omega) _ _ (Two_intro _ _)) ?_ | refine valueFault_A x.vl (by omega) _ _ ?_ | refine QCall_of (valueFault_A x.vl (by omega) _ _ (Two_intro _ _)) ?_); try simp (dsimp := false) only [go_sem, Nat.reduceAdd, Nat.reduceBEq, Nat.reduceEqDiff, Nat.reduceLT, Nat.reduceLeDiff, Nat.reduceMul, Int.reduceToNat, reduceCtorEq, ↓reduceIte, Tryd.ntmps61, Tryd.results61, ks_61, mu_61, nd_61, ro_61, ti_ag3, ti_ag9, ti_ag97, ti_fl97_0, ti_fl97_1, ti_fl97_2, ti_hb77, ti_hb114, ti_hb115, ti_sb43, ti_sb49, ti_sl43, ti_sl49, ti_st9, ti_sz97, ti_zr97, evD, evV, natCells, h1, Int.reduceEq, Int.reduceLT, Int.reduceLE, and_self, hx, hin, hlm, hlen, List.getElem?_map, h0f, hgp, hge, hlt, hot, hog, hol, hnft, htff]) | (refine AWp_condC rfl ?_; intro KA KB hKA hKB; try simp only [onB_true, onB_false, onB_dec, onB_ndec, onB_not, onB_and, onB_or]) | (refine AWp_condA rfl ?_ ?_) | with_reducible (first | refine onB_of ?_ ?_ | rfl) | omega)
              all_goals first
                | omega
                | exact hcl
                | exact absurd trivial (by assumption)
                | exact dropD hk rfl
          · rw [if_neg hnf] at hfv
            have hnff : (nameFault x.nm = 0) = False := eq_false (by first | exact hnf | omega)
            rw [hgo, hfv, if_neg (by first | decide | assumption)] at hk
            repeat' (first | with_reducible (first | refine And.intro ?_ ?_ | intro _ | refine AWp_seq ?_ | refine AWp_block ?_ | (refine hKv _ _ (AWp_nop ?_); clear hKv Kv) | (refine hKA ?_; clear hKA hKB KA KB) | (refine hKB ?_; clear hKA hKB KA KB) | refine AWp_skipN ?_ | refine AWp_exitO (by repeat (first | exact Out.hit | apply Out.thenA | apply Out.out rfl)) ?_) | ((first | with_reducible (first | (refine hKv _ _ ?_; clear hKv Kv) | ((first | refine AWp_regro mu_61 ks_61 ro_61 ?_ | refine AWp_regC mu_61 ks_61 ?_ | refine AWp_draw nd_61 mu_61 ks_61 ti_mixed (by kernel_rfl) ?_ | refine AWp_regE mu_61 ks_61 ?_ | refine AWp_drawE nd_61 mu_61 ks_61 ti_mixed (by kernel_rfl) ?_); intro Kv hKv) | refine AWp_retR ?_) | refine in_A _ _ _ _ _ ?_ | refine QCall_of (in_A _ _ _ _ _ (Two_intro _ _)) ?_ | refine nameFault_A x.nm (by omega) _ _ ?_ | refine QCall_of (nameFault_A x.nm (by omega) _ _ (Two_intro _ _)) ?_ | refine valueFault_A x.vl (by omega) _ _ ?_ | refine QCall_of (valueFault_A x.vl (by omega) _ _ (Two_intro _ _)) ?_); try simp (dsimp := false) only [go_sem, Nat.reduceAdd, Nat.reduceBEq, Nat.reduceEqDiff, Nat.reduceLT, Nat.reduceLeDiff, Nat.reduceMul, Int.reduceToNat, reduceCtorEq, ↓reduceIte, Tryd.ntmps61, Tryd.results61, ks_61, mu_61, nd_61, ro_61, ti_ag3, ti_ag9, ti_ag97, ti_fl97_0, ti_fl97_1, ti_fl97_2, ti_hb77, ti_hb114, ti_hb115, ti_sb43, ti_sb49, ti_sl43, ti_sl49, ti_st9, ti_sz97, ti_zr97, evD, evV, natCells, h1, Int.reduceEq, Int.reduceLT, Int.reduceLE, and_self, hx, hin, hlm, hlen, List.getElem?_map, h0f, hgp, hge, hlt, hot, hog, hol, hnff]) | (refine AWp_condC rfl ?_; intro KA KB hKA hKB; try simp only [onB_true, onB_false, onB_dec, onB_ndec, onB_not, onB_and, onB_or]) | (refine AWp_condA rfl ?_ ?_) | with_reducible (first | refine onB_of ?_ ?_ | rfl) | omega)
            all_goals first
              | omega
              | exact hcl
              | exact absurd trivial (by assumption)
              | exact dropD hk rfl
      · have hfv := evF1_3 (s := s) (first := decide (i = 0)) h1
        by_cases h0 : s.n = 0
        · rw [if_pos h0] at hfv
          have h0t : ((s.n : Int) = 0) = True := eq_true (by first | exact h0 | omega)
          rw [hgo, hfv, if_neg (by first | decide | assumption)] at hk
          repeat' (first | with_reducible (first | refine And.intro ?_ ?_ | intro _ | refine AWp_seq ?_ | refine AWp_block ?_ | (refine hKv _ _ (AWp_nop ?_); clear hKv Kv) | (refine hKA ?_; clear hKA hKB KA KB) | (refine hKB ?_; clear hKA hKB KA KB) | refine AWp_skipN ?_ | refine AWp_exitO (by repeat (first | exact Out.hit | apply Out.thenA | apply Out.out rfl)) ?_) | ((first | with_reducible (first | (refine hKv _ _ ?_; clear hKv Kv) | ((first | refine AWp_regro mu_61 ks_61 ro_61 ?_ | refine AWp_regC mu_61 ks_61 ?_ | refine AWp_draw nd_61 mu_61 ks_61 ti_mixed (by kernel_rfl) ?_ | refine AWp_regE mu_61 ks_61 ?_ | refine AWp_drawE nd_61 mu_61 ks_61 ti_mixed (by kernel_rfl) ?_); intro Kv hKv) | refine AWp_retR ?_) | refine in_A _ _ _ _ _ ?_ | refine QCall_of (in_A _ _ _ _ _ (Two_intro _ _)) ?_ | refine nameFault_A x.nm (by omega) _ _ ?_ | refine QCall_of (nameFault_A x.nm (by omega) _ _ (Two_intro _ _)) ?_ | refine valueFault_A x.vl (by omega) _ _ ?_ | refine QCall_of (valueFault_A x.vl (by omega) _ _ (Two_intro _ _)) ?_); try simp (dsimp := false) only [go_sem, Nat.reduceAdd, Nat.reduceBEq, Nat.reduceEqDiff, Nat.reduceLT, Nat.reduceLeDiff, Nat.reduceMul, Int.reduceToNat, reduceCtorEq, ↓reduceIte, Tryd.ntmps61, Tryd.results61, ks_61, mu_61, nd_61, ro_61, ti_ag3, ti_ag9, ti_ag97, ti_fl97_0, ti_fl97_1, ti_fl97_2, ti_hb77, ti_hb114, ti_hb115, ti_sb43, ti_sb49, ti_sl43, ti_sl49, ti_st9, ti_sz97, ti_zr97, evD, evV, natCells, h1, Int.reduceEq, Int.reduceLT, Int.reduceLE, and_self, hx, hin, hlm, hlen, List.getElem?_map, h0t]) | (refine AWp_condC rfl ?_; intro KA KB hKA hKB; try simp only [onB_true, onB_false, onB_dec, onB_ndec, onB_not, onB_and, onB_or]) | (refine AWp_condA rfl ?_ ?_) | with_reducible (first | refine onB_of ?_ ?_ | rfl) | omega)
          all_goals first
            | omega
            | exact hcl
            | exact absurd trivial (by assumption)
            | exact dropD hk rfl
        · rw [if_neg h0] at hfv
          have h0f : ((s.n : Int) = 0) = False := eq_false (by first | exact h0 | omega)
          obtain ⟨r, o, hro⟩ : ∃ r o, os = r ++ [o] := by
            rcases os.eq_nil_or_concat with rfl | ⟨r, o, rfl⟩
            · exact absurd hlen.symm h0
            · exact ⟨r, o, by simp⟩
          obtain ⟨z, hz, z1, z2, z3⟩ := hinv.top r o hro
          have hoi := hinv.lt o (by rw [hro]; simp)
          have hgp : l[((i : Int) - 1).toNat]? = some z := by rw [show ((i : Int) - 1).toNat = i - 1 by omega]; exact hz
          have hge : ((0 : Int) ≤ (i : Int) - 1) = True := eq_true (by omega)
          have hlt : ((i : Int) - 1 < (l.length : Int)) = True := eq_true (by omega)
          have hot : os[((s.n : Int) - 1).toNat]? = some o := by
            have : r.length + 1 = s.n := by rw [← hlen, hro]; simp
            rw [hro, show ((s.n : Int) - 1).toNat = r.length by omega, List.getElem?_append_right (Nat.le_refl _), Nat.sub_self]; rfl
          have hog : ((0 : Int) ≤ (s.n : Int) - 1) = True := eq_true (by omega)
          have hol : ((s.n : Int) - 1 < (s.n : Int)) = True := eq_true (by omega)
          by_cases hnm : x.nm = []
          · rw [if_pos hnm] at hfv
            have hnmt : (x.nm = []) = True := eq_true (by first | exact hnm | omega)
            by_cases htf : textFault x.vl = 0
            · rw [if_pos htf] at hfv
              have htft : (textFault x.vl = 0) = True := eq_true (by first | exact htf | omega)
              by_cases hv : x.vl = []
              · rw [if_pos hv] at hfv
                have hvt : (x.vl = []) = True := eq_true (by first | exact hv | omega)
                rw [hgo, hfv, if_neg (by first | decide | assumption)] at hk
                repeat' (first | with_reducible (first | refine And.intro ?_ ?_ | intro _ | refine AWp_seq ?_ | refine AWp_block ?_ | (refine hKv _ _ (AWp_nop ?_); clear hKv Kv) | (refine hKA ?_; clear hKA hKB KA KB) | (refine hKB ?_; clear hKA hKB KA KB) | refine AWp_skipN ?_ | refine AWp_exitO (by repeat (first | exact Out.hit | apply Out.thenA | apply Out.out rfl)) ?_) | ((first | with_reducible (first | (refine hKv _ _ ?_; clear hKv Kv) | ((first | refine AWp_regro mu_61 ks_61 ro_61 ?_ | refine AWp_regC mu_61 ks_61 ?_ | refine AWp_draw nd_61 mu_61 ks_61 ti_mixed (by kernel_rfl) ?_ | refine AWp_regE mu_61 ks_61 ?_ | refine AWp_drawE nd_61 mu_61 ks_61 ti_mixed (by kernel_rfl) ?_); intro Kv hKv) | refine AWp_retR ?_) | refine in_A _ _ _ _ _ ?_ | refine QCall_of (in_A _ _ _ _ _ (Two_intro _ _)) ?_ | refine nameFault_A x.nm (by omega) _ _ ?_ | refine QCall_of (nameFault_A x.nm (by omega) _ _ (Two_intro _ _)) ?_ | refine valueFault_A x.vl (by omega) _ _ ?_ | refine QCall_of (valueFault_A x.vl (by omega) _ _ (Two_intro _ _)) ?_); try simp (dsimp := false) only [go_sem, Nat.reduceAdd, Nat.reduceBEq, Nat.reduceEqDiff, Nat.reduceLT, Nat.reduceLeDiff, Nat.reduceMul, Int.reduceToNat, reduceCtorEq, ↓reduceIte, Tryd.ntmps61, Tryd.results61, ks_61, mu_61, nd_61, ro_61, ti_ag3, ti_ag9, ti_ag97, ti_fl97_0, ti_fl97_1, ti_fl97_2, ti_hb77, ti_hb114, ti_hb115, ti_sb43, ti_sb49, ti_sl43, ti_sl49, ti_st9, ti_sz97, ti_zr97, evD, evV, natCells, h1, Int.reduceEq, Int.reduceLT, Int.reduceLE, and_self, hx, hin, hlm, hlen, List.getElem?_map, h0f, hgp, hge, hlt, hot, hog, hol, hnmt, htft, hvt]) | (refine AWp_condC rfl ?_; intro KA KB hKA hKB; try simp only [onB_true, onB_false, onB_dec, onB_ndec, onB_not, onB_and, onB_or]) | (refine AWp_condA rfl ?_ ?_) | with_reducible (first | refine onB_of ?_ ?_ | rfl) | omega)
                all_goals first
                  | omega
                  | exact hcl
                  | exact absurd trivial (by assumption)
                  | exact dropD hk rfl
              · rw [if_neg hv] at hfv
                have hvf : (x.vl = []) = False := eq_false (by first | exact hv | omega)
                by_cases ht : s.txt = true
                · rw [if_pos ht] at hfv
                  have hz3 : (z.k = 3) = True := eq_true (z3.1 ht)
                  rw [hgo, hfv, if_neg (by first | decide | assumption)] at hk
                  repeat' (first | with_reducible (first | refine And.intro ?_ ?_ | intro _ | refine AWp_seq ?_ | refine AWp_block ?_ | (refine hKv _ _ (AWp_nop ?_); clear hKv Kv) | (refine hKA ?_; clear hKA hKB KA KB) | (refine hKB ?_; clear hKA hKB KA KB) | refine AWp_skipN ?_ | refine AWp_exitO (by repeat (first | exact Out.hit | apply Out.thenA | apply Out.out rfl)) ?_) | ((first | with_reducible (first | (refine hKv _ _ ?_; clear hKv Kv) | ((first | refine AWp_regro mu_61 ks_61 ro_61 ?_ | refine AWp_regC mu_61 ks_61 ?_ | refine AWp_draw nd_61 mu_61 ks_61 ti_mixed (by kernel_rfl) ?_ | refine AWp_regE mu_61 ks_61 ?_ | refine AWp_drawE nd_61 mu_61 ks_61 ti_mixed (by kernel_rfl) ?_); intro Kv hKv) | refine AWp_retR ?_) | refine in_A _ _ _ _ _ ?_ | refine QCall_of (in_A _ _ _ _ _ (Two_intro _ _)) ?_ | refine nameFault_A x.nm (by omega) _ _ ?_ | refine QCall_of (nameFault_A x.nm (by omega) _ _ (Two_intro _ _)) ?_ | refine valueFault_A x.vl (by omega) _ _ ?_ | refine QCall_of (valueFault_A x.vl (by omega) _ _ (Two_intro _ _)) ?_); try simp (dsimp := false) only [go_sem, Nat.reduceAdd, Nat.reduceBEq, Nat.reduceEqDiff, Nat.reduceLT, Nat.reduceLeDiff, Nat.reduceMul, Int.reduceToNat, reduceCtorEq, ↓reduceIte, Tryd.ntmps61, Tryd.results61, ks_61, mu_61, nd_61, ro_61, ti_ag3, ti_ag9, ti_ag97, ti_fl97_0, ti_fl97_1, ti_fl97_2, ti_hb77, ti_hb114, ti_hb115, ti_sb43, ti_sb49, ti_sl43, ti_sl49, ti_st9, ti_sz97, ti_zr97, evD, evV, natCells, h1, Int.reduceEq, Int.reduceLT, Int.reduceLE, and_self, hx, hin, hlm, hlen, List.getElem?_map, h0f, hgp, hge, hlt, hot, hog, hol, hnmt, htft, hvf, ht, hz3]) | (refine AWp_condC rfl ?_; intro KA KB hKA hKB; try simp only [onB_true, onB_false, onB_dec, onB_ndec, onB_not, onB_and, onB_or]) | (refine AWp_condA rfl ?_ ?_) | with_reducible (first | refine onB_of ?_ ?_ | rfl) | omega)
                  all_goals first
                    | omega
                    | exact hcl
                    | exact absurd trivial (by assumption)
                    | exact dropD hk rfl
                · rw [if_neg ht] at hfv
                  have htf : s.txt = false := by simpa using ht
                  have hz3 : (z.k = 3) = False := eq_false fun h => ht (z3.2 h)
                  have hn2 := evS_n hn20 hfv
                  rw [hfv, if_pos rfl] at hgo
                  repeat' (first | with_reducible (first | refine And.intro ?_ ?_ | intro _ | refine AWp_seq ?_ | refine AWp_block ?_ | (refine hKv _ _ (AWp_nop ?_); clear hKv Kv) | (refine hKA ?_; clear hKA hKB KA KB) | (refine hKB ?_; clear hKA hKB KA KB) | refine AWp_skipN ?_ | refine AWp_exitO (by repeat (first | exact Out.hit | apply Out.thenA | apply Out.out rfl)) ?_) | ((first | with_reducible (first | (refine hKv _ _ ?_; clear hKv Kv) | ((first | refine AWp_regro mu_61 ks_61 ro_61 ?_ | refine AWp_regC mu_61 ks_61 ?_ | refine AWp_draw nd_61 mu_61 ks_61 ti_mixed (by kernel_rfl) ?_ | refine AWp_regE mu_61 ks_61 ?_ | refine AWp_drawE nd_61 mu_61 ks_61 ti_mixed (by kernel_rfl) ?_); intro Kv hKv) | refine AWp_retR ?_) | refine in_A _ _ _ _ _ ?_ | refine QCall_of (in_A _ _ _ _ _ (Two_intro _ _)) ?_ | refine nameFault_A x.nm (by omega) _ _ ?_ | refine QCall_of (nameFault_A x.nm (by omega) _ _ (Two_intro _ _)) ?_ | refine valueFault_A x.vl (by omega) _ _ ?_ | refine QCall_of (valueFault_A x.vl (by omega) _ _ (Two_intro _ _)) ?_); try simp (dsimp := false) only [go_sem, Nat.reduceAdd, Nat.reduceBEq, Nat.reduceEqDiff, Nat.reduceLT, Nat.reduceLeDiff, Nat.reduceMul, Int.reduceToNat, reduceCtorEq, ↓reduceIte, Tryd.ntmps61, Tryd.results61, ks_61, mu_61, nd_61, ro_61, ti_ag3, ti_ag9, ti_ag97, ti_fl97_0, ti_fl97_1, ti_fl97_2, ti_hb77, ti_hb114, ti_hb115, ti_sb43, ti_sb49, ti_sl43, ti_sl49, ti_st9, ti_sz97, ti_zr97, evD, evV, natCells, h1, Int.reduceEq, Int.reduceLT, Int.reduceLE, and_self, hx, hin, hlm, hlen, List.getElem?_map, h0f, hgp, hge, hlt, hot, hog, hol, hnmt, htft, hvf, htf, hz3]) | (refine AWp_condC rfl ?_; intro KA KB hKA hKB; try simp only [onB_true, onB_false, onB_dec, onB_ndec, onB_not, onB_and, onB_or]) | (refine AWp_condA rfl ?_ ?_) | with_reducible (first | refine onB_of ?_ ?_ | rfl) | omega)
                  all_goals first
                    | omega
                    | exact hcl
                    | exact absurd trivial (by assumption)
                    | exact ⟨⟨i + 1, v, evS s x, os⟩, ⟨by show i + 1 ≤ l.length; omega, hinv.text hx h1, hn2, hgo⟩, by show l.length - (i + 1) < l.length - i; omega, by first | rfl | (simp [natCells]; done), by (repeat' (refine And.intro ?_ ?_)) <;> first | rfl | omega | (simp; done) | (simp; omega) | (simp (dsimp := false) only [go_sem, Nat.reduceAdd, Nat.reduceBEq, Nat.reduceEqDiff, Nat.reduceLT, Nat.reduceLeDiff, Nat.reduceMul, Int.reduceToNat, reduceCtorEq, ↓reduceIte, Tryd.ntmps61, Tryd.results61, ks_61, mu_61, nd_61, ro_61, ti_ag3, ti_ag9, ti_ag97, ti_fl97_0, ti_fl97_1, ti_fl97_2, ti_hb77, ti_hb114, ti_hb115, ti_sb43, ti_sb49, ti_sl43, ti_sl49, ti_st9, ti_sz97, ti_zr97, evD, evV, natCells, h1, Int.reduceEq, Int.reduceLT, Int.reduceLE, and_self, hx, hin, hlm, hlen, List.getElem?_map, h0f, hgp, hge, hlt, hot, hog, hol, hnmt, htft, hvf, htf, hz3]; done) | (simp (dsimp := false) only [go_sem, Nat.reduceAdd, Nat.reduceBEq, Nat.reduceEqDiff, Nat.reduceLT, Nat.reduceLeDiff, Nat.reduceMul, Int.reduceToNat, reduceCtorEq, ↓reduceIte, Tryd.ntmps61, Tryd.results61, ks_61, mu_61, nd_61, ro_61, ti_ag3, ti_ag9, ti_ag97, ti_fl97_0, ti_fl97_1, ti_fl97_2, ti_hb77, ti_hb114, ti_hb115, ti_sb43, ti_sb49, ti_sl43, ti_sl49, ti_st9, ti_sz97, ti_zr97, evD, evV, natCells, h1, Int.reduceEq, Int.reduceLT, Int.reduceLE, and_self, hx, hin, hlm, hlen, List.getElem?_map, h0f, hgp, hge, hlt, hot, hog, hol, hnmt, htft, hvf, htf, hz3]; omega)⟩
            · rw [if_neg htf] at hfv
              have htff : (textFault x.vl = 0) = False := eq_false (by first | exact htf | omega)
              rw [hgo, hfv, if_neg (by first | decide | assumption)] at hk
              repeat' (first | with_reducible (first | refine And.intro ?_ ?_ | intro _ | refine AWp_seq ?_ | refine AWp_block ?_ | (refine hKv _ _ (AWp_nop ?_); clear hKv Kv) | (refine hKA ?_; clear hKA hKB KA KB) | (refine hKB ?_; clear hKA hKB KA KB) | refine AWp_skipN ?_ | refine AWp_exitO (by repeat (first | exact Out.hit | apply Out.thenA | apply Out.out rfl)) ?_) | ((first | with_reducible (first | (refine hKv _ _ ?_; clear hKv Kv) | ((first | refine AWp_regro mu_61 ks_61 ro_61 ?_ | refine AWp_regC mu_61 ks_61 ?_ | refine AWp_draw nd_61 mu_61 ks_61 ti_mixed (by kernel_rfl) ?_ | refine AWp_regE mu_61 ks_61 ?_ | refine AWp_drawE nd_61 mu_61 ks_61 ti_mixed (by kernel_rfl) ?_); intro Kv hKv) | refine AWp_retR ?_) | refine in_A _ _ _ _ _ ?_ | refine QCall_of (in_A _ _ _ _ _ (Two_intro _ _)) ?_ | refine nameFault_A x.nm (by omega) _ _ ?_ | refine QCall_of (nameFault_A x.nm (by omega) _ _ (Two_intro _ _)) ?_ | refine valueFault_A x.vl (by omega) _ _ ?_ | refine QCall_of (valueFault_A x.vl (by omega) _ _ (Two_intro _ _)) ?_); try simp (dsimp := false) only [go_sem, Nat.reduceAdd, Nat.reduceBEq, Nat.reduceEqDiff, Nat.reduceLT, Nat.reduceLeDiff, Nat.reduceMul, Int.reduceToNat, reduceCtorEq, ↓reduceIte, Tryd.ntmps61, Tryd.results61, ks_61, mu_61, nd_61, ro_61, ti_ag3, ti_ag9, ti_ag97, ti_fl97_0, ti_fl97_1, ti_fl97_2, ti_hb77, ti_hb114, ti_hb115, ti_sb43, ti_sb49, ti_sl43, ti_sl49, ti_st9, ti_sz97, ti_zr97, evD, evV, natCells, h1, Int.reduceEq, Int.reduceLT, Int.reduceLE, and_self, hx, hin, hlm, hlen, List.getElem?_map, h0f, hgp, hge, hlt, hot, hog, hol, hnmt, htff]) | (refine AWp_condC rfl ?_; intro KA KB hKA hKB; try simp only [onB_true, onB_false, onB_dec, onB_ndec, onB_not, onB_and, onB_or]) | (refine AWp_condA rfl ?_ ?_) | with_reducible (first | refine onB_of ?_ ?_ | rfl) | omega)
              all_goals first
                | omega
                | exact hcl
                | exact absurd trivial (by assumption)
                | exact dropD hk rfl
          · rw [if_neg hnm] at hfv
            have hnmf : (x.nm = []) = False := eq_false (by first | exact hnm | omega)
            rw [hgo, hfv, if_neg (by first | decide | assumption)] at hk
            repeat' (first | with_reducible (first | refine And.intro ?_ ?_ | intro _ | refine AWp_seq ?_ | refine AWp_block ?_ | (refine hKv _ _ (AWp_nop ?_); clear hKv Kv) | (refine hKA ?_; clear hKA hKB KA KB) | (refine hKB ?_; clear hKA hKB KA KB) | refine AWp_skipN ?_ | refine AWp_exitO (by repeat (first | exact Out.hit | apply Out.thenA | apply Out.out rfl)) ?_) | ((first | with_reducible (first | (refine hKv _ _ ?_; clear hKv Kv) | ((first | refine AWp_regro mu_61 ks_61 ro_61 ?_ | refine AWp_regC mu_61 ks_61 ?_ | refine AWp_draw nd_61 mu_61 ks_61 ti_mixed (by kernel_rfl) ?_ | refine AWp_regE mu_61 ks_61 ?_ | refine AWp_drawE nd_61 mu_61 ks_61 ti_mixed (by kernel_rfl) ?_); intro Kv hKv) | refine AWp_retR ?_) | refine in_A _ _ _ _ _ ?_ | refine QCall_of (in_A _ _ _ _ _ (Two_intro _ _)) ?_ | refine nameFault_A x.nm (by omega) _ _ ?_ | refine QCall_of (nameFault_A x.nm (by omega) _ _ (Two_intro _ _)) ?_ | refine valueFault_A x.vl (by omega) _ _ ?_ | refine QCall_of (valueFault_A x.vl (by omega) _ _ (Two_intro _ _)) ?_); try simp (dsimp := false) only [go_sem, Nat.reduceAdd, Nat.reduceBEq, Nat.reduceEqDiff, Nat.reduceLT, Nat.reduceLeDiff, Nat.reduceMul, Int.reduceToNat, reduceCtorEq, ↓reduceIte, Tryd.ntmps61, Tryd.results61, ks_61, mu_61, nd_61, ro_61, ti_ag3, ti_ag9, ti_ag97, ti_fl97_0, ti_fl97_1, ti_fl97_2, ti_hb77, ti_hb114, ti_hb115, ti_sb43, ti_sb49, ti_sl43, ti_sl49, ti_st9, ti_sz97, ti_zr97, evD, evV, natCells, h1, Int.reduceEq, Int.reduceLT, Int.reduceLE, and_self, hx, hin, hlm, hlen, List.getElem?_map, h0f, hgp, hge, hlt, hot, hog, hol, hnmf]) | (refine AWp_condC rfl ?_; intro KA KB hKA hKB; try simp only [onB_true, onB_false, onB_dec, onB_ndec, onB_not, onB_and, onB_or]) | (refine AWp_condA rfl ?_ ?_) | with_reducible (first | refine onB_of ?_ ?_ | rfl) | omega)
            all_goals first
              | omega
              | exact hcl
              | exact absurd trivial (by assumption)
              | exact dropD hk rfl
      · have hfv := evF1_4 (s := s) (first := decide (i = 0)) h1
        by_cases h0 : s.n = 0
        · rw [if_pos h0] at hfv
          have h0t : ((s.n : Int) = 0) = True := eq_true (by first | exact h0 | omega)
          rw [hgo, hfv, if_neg (by first | decide | assumption)] at hk
          repeat' (first | with_reducible (first | refine And.intro ?_ ?_ | intro _ | refine AWp_seq ?_ | refine AWp_block ?_ | (refine hKv _ _ (AWp_nop ?_); clear hKv Kv) | (refine hKA ?_; clear hKA hKB KA KB) | (refine hKB ?_; clear hKA hKB KA KB) | refine AWp_skipN ?_ | refine AWp_exitO (by repeat (first | exact Out.hit | apply Out.thenA | apply Out.out rfl)) ?_) | ((first | with_reducible (first | (refine hKv _ _ ?_; clear hKv Kv) | ((first | refine AWp_regro mu_61 ks_61 ro_61 ?_ | refine AWp_regC mu_61 ks_61 ?_ | refine AWp_draw nd_61 mu_61 ks_61 ti_mixed (by kernel_rfl) ?_ | refine AWp_regE mu_61 ks_61 ?_ | refine AWp_drawE nd_61 mu_61 ks_61 ti_mixed (by kernel_rfl) ?_); intro Kv hKv) | refine AWp_retR ?_) | refine in_A _ _ _ _ _ ?_ | refine QCall_of (in_A _ _ _ _ _ (Two_intro _ _)) ?_ | refine nameFault_A x.nm (by omega) _ _ ?_ | refine QCall_of (nameFault_A x.nm (by omega) _ _ (Two_intro _ _)) ?_ | refine valueFault_A x.vl (by omega) _ _ ?_ | refine QCall_of (valueFault_A x.vl (by omega) _ _ (Two_intro _ _)) ?_); try simp (dsimp := false) only [go_sem, Nat.reduceAdd, Nat.reduceBEq, Nat.reduceEqDiff, Nat.reduceLT, Nat.reduceLeDiff, Nat.reduceMul, Int.reduceToNat, reduceCtorEq, ↓reduceIte, Tryd.ntmps61, Tryd.results61, ks_61, mu_61, nd_61, ro_61, ti_ag3, ti_ag9, ti_ag97, ti_fl97_0, ti_fl97_1, ti_fl97_2, ti_hb77, ti_hb114, ti_hb115, ti_sb43, ti_sb49, ti_sl43, ti_sl49, ti_st9, ti_sz97, ti_zr97, evD, evV, natCells, h1, Int.reduceEq, Int.reduceLT, Int.reduceLE, and_self, hx, hin, hlm, hlen, List.getElem?_map, h0t]) | (refine AWp_condC rfl ?_; intro KA KB hKA hKB; try simp only [onB_true, onB_false, onB_dec, onB_ndec, onB_not, onB_and, onB_or]) | (refine AWp_condA rfl ?_ ?_) | with_reducible (first | refine onB_of ?_ ?_ | rfl) | omega)
          all_goals first
            | omega
            | exact hcl
            | exact absurd trivial (by assumption)
            | exact dropD hk rfl
        · rw [if_neg h0] at hfv
          have h0f : ((s.n : Int) = 0) = False := eq_false (by first | exact h0 | omega)
          obtain ⟨r, o, hro⟩ : ∃ r o, os = r ++ [o] := by
            rcases os.eq_nil_or_concat with rfl | ⟨r, o, rfl⟩
            · exact absurd hlen.symm h0
            · exact ⟨r, o, by simp⟩
          obtain ⟨z, hz, z1, z2, z3⟩ := hinv.top r o hro
          have hoi := hinv.lt o (by rw [hro]; simp)
          have hgp : l[((i : Int) - 1).toNat]? = some z := by rw [show ((i : Int) - 1).toNat = i - 1 by omega]; exact hz
          have hge : ((0 : Int) ≤ (i : Int) - 1) = True := eq_true (by omega)
          have hlt : ((i : Int) - 1 < (l.length : Int)) = True := eq_true (by omega)
          have hot : os[((s.n : Int) - 1).toNat]? = some o := by
            have : r.length + 1 = s.n := by rw [← hlen, hro]; simp
            rw [hro, show ((s.n : Int) - 1).toNat = r.length by omega, List.getElem?_append_right (Nat.le_refl _), Nat.sub_self]; rfl
          have hog : ((0 : Int) ≤ (s.n : Int) - 1) = True := eq_true (by omega)
          have hol : ((s.n : Int) - 1 < (s.n : Int)) = True := eq_true (by omega)
          by_cases hnm : x.nm = []
          · rw [if_pos hnm] at hfv
            have hnmt : (x.nm = []) = True := eq_true (by first | exact hnm | omega)
            by_cases htf : textFault x.vl = 0
            · rw [if_pos htf] at hfv
              have htft : (textFault x.vl = 0) = True := eq_true (by first | exact htf | omega)
              repeat' (first | with_reducible (first | refine And.intro ?_ ?_ | intro _ | refine AWp_seq ?_ | refine AWp_block ?_ | (refine hKv _ _ (AWp_nop ?_); clear hKv Kv) | (refine hKA ?_; clear hKA hKB KA KB) | (refine hKB ?_; clear hKA hKB KA KB) | refine AWp_skipN ?_ | refine AWp_exitO (by repeat (first | exact Out.hit | apply Out.thenA | apply Out.out rfl)) ?_) | ((first | with_reducible (first | (refine hKv _ _ ?_; clear hKv Kv) | ((first | refine AWp_regro mu_61 ks_61 ro_61 ?_ | refine AWp_regC mu_61 ks_61 ?_ | refine AWp_draw nd_61 mu_61 ks_61 ti_mixed (by kernel_rfl) ?_ | refine AWp_regE mu_61 ks_61 ?_ | refine AWp_drawE nd_61 mu_61 ks_61 ti_mixed (by kernel_rfl) ?_); intro Kv hKv) | refine AWp_retR ?_) | refine in_A _ _ _ _ _ ?_ | refine QCall_of (in_A _ _ _ _ _ (Two_intro _ _)) ?_ | refine nameFault_A x.nm (by omega) _ _ ?_ | refine QCall_of (nameFault_A x.nm (by omega) _ _ (Two_intro _ _)) ?_ | refine valueFault_A x.vl (by omega) _ _ ?_ | refine QCall_of (valueFault_A x.vl (by omega) _ _ (Two_intro _ _)) ?_); try simp (dsimp := false) only [go_sem, Nat.reduceAdd, Nat.reduceBEq, Nat.reduceEqDiff, Nat.reduceLT, Nat.reduceLeDiff, Nat.reduceMul, Int.reduceToNat, reduceCtorEq, ↓reduceIte, Tryd.ntmps61, Tryd.results61, ks_61, mu_61, nd_61, ro_61, ti_ag3, ti_ag9, ti_ag97, ti_fl97_0, ti_fl97_1, ti_fl97_2, ti_hb77, ti_hb114, ti_hb115, ti_sb43, ti_sb49, ti_sl43, ti_sl49, ti_st9, ti_sz97, ti_zr97, evD, evV, natCells, h1, Int.reduceEq, Int.reduceLT, Int.reduceLE, and_self, hx, hin, hlm, hlen, List.getElem?_map, h0f, hgp, hge, hlt, hot, hog, hol, hnmt, htft]) | (refine AWp_condC rfl ?_; intro KA KB hKA hKB; try simp only [onB_true, onB_false, onB_dec, onB_ndec, onB_not, onB_and, onB_or]) | (refine AWp_condA rfl ?_ ?_) | with_reducible (first | refine onB_of ?_ ?_ | rfl) | omega)
              all_goals try exact absurd trivial (by assumption)
              refine AWp_whileH (fun k : Nat => k ≤ x.vl.length ∧ dashB x.vl = dashB (x.vl.drop k))
                (fun k => [(0, .d (.sl 3 (l.map evD))), (3, .os H.length v), (4, .d (.i .i64 i)), (5, .rp (evD x)), (9, .d (.i .i64 x.vl.length)), (10, .d (.i .i64 k))])
                (fun _ => [.row v 3 1 (os.map natCells)]) (fun k => x.vl.length - k) 0 ⟨Nat.zero_le _, by rw [List.drop_zero]⟩ ?_ ?_ ?_ ?_
              · first | rfl
              · simp (dsimp := false) only [go_sem, Nat.reduceAdd, Nat.reduceBEq, Nat.reduceEqDiff, Nat.reduceLT, Nat.reduceLeDiff, Nat.reduceMul, Int.reduceToNat, reduceCtorEq, ↓reduceIte, Tryd.ntmps61, Tryd.results61, ks_61, mu_61, nd_61, ro_61, ti_ag3, ti_ag9, ti_ag97, ti_fl97_0, ti_fl97_1, ti_fl97_2, ti_hb77, ti_hb114, ti_hb115, ti_sb43, ti_sb49, ti_sl43, ti_sl49, ti_st9, ti_sz97, ti_zr97, evD, evV, natCells, h1, Int.reduceEq, Int.reduceLT, Int.reduceLE, and_self, hx, hin, hlm, hlen, List.getElem?_map, h0f, hgp, hge, hlt, hot, hog, hol, hnmt, htft]
                first | done | (simp; done)
              · intro k _ ob hob
                simp only [List.mem_cons, List.not_mem_nil, or_false] at hob
                subst hob
                exact obBel_nat _ _ _ _ _
              rintro k ⟨k2, k3⟩
              by_cases hki : k < x.vl.length
              · obtain ⟨y, hy⟩ : ∃ y, x.vl[k]? = some y := ⟨x.vl[k], List.getElem?_eq_getElem hki⟩
                have hkk : ((k : Int) < (x.vl.length : Int)) = True := eq_true (by omega)
                have hcy : ((y.toNat : Int) = 45 ↔ y = 45) := by rw [← UInt8.toNat_inj]; exact ⟨fun h => by simpa using (by omega : y.toNat = 45), fun h => by rw [h]; rfl⟩
                rw [dashB_step hy] at k3
                by_cases h45 : y = 45
                · have h45t : ((y.toNat : Int) = 45) = True := eq_true (hcy.2 h45)
                  rw [decide_eq_true h45, Bool.true_and] at k3
                  by_cases hke : k = x.vl.length - 1
                  · rw [decide_eq_true hke, Bool.true_or, Bool.true_or] at k3
                    rw [if_pos k3] at hfv
                    rw [hgo, hfv, if_neg (by decide)] at hk
                    have hket : ((k : Int) = (x.vl.length : Int) - 1) = True := eq_true (by omega)
                    repeat' (first | with_reducible (first | refine And.intro ?_ ?_ | intro _ | refine AWp_seq ?_ | refine AWp_block ?_ | (refine hKv _ _ (AWp_nop ?_); clear hKv Kv) | (refine hKA ?_; clear hKA hKB KA KB) | (refine hKB ?_; clear hKA hKB KA KB) | refine AWp_skipN ?_ | refine AWp_exitO (by repeat (first | exact Out.hit | apply Out.thenA | apply Out.out rfl)) ?_) | (with_reducible (first | (refine hKv _ _ ?_; clear hKv Kv) | ((first | refine AWp_regro mu_61 ks_61 ro_61 ?_ | refine AWp_regC mu_61 ks_61 ?_ | refine AWp_draw nd_61 mu_61 ks_61 ti_mixed (by kernel_rfl) ?_ | refine AWp_regE mu_61 ks_61 ?_ | refine AWp_drawE nd_61 mu_61 ks_61 ti_mixed (by kernel_rfl) ?_); intro Kv hKv) | refine AWp_retR ?_); try simp (dsimp := false) only [go_sem, Nat.reduceAdd, Nat.reduceBEq, Nat.reduceEqDiff, Nat.reduceLT, Nat.reduceLeDiff, Nat.reduceMul, Int.reduceToNat, reduceCtorEq, ↓reduceIte, Tryd.ntmps61, Tryd.results61, ks_61, mu_61, nd_61, ro_61, ti_ag3, ti_ag9, ti_ag97, ti_fl97_0, ti_fl97_1, ti_fl97_2, ti_hb77, ti_hb114, ti_hb115, ti_sb43, ti_sb49, ti_sl43, ti_sl49, ti_st9, ti_sz97, ti_zr97, evD, evV, natCells, h1, Int.reduceEq, Int.reduceLT, Int.reduceLE, and_self, hx, hin, hlm, hlen, List.getElem?_map, h0f, hgp, hge, hlt, hot, hog, hol, hnmt, htft, hy, hkk, h45t, hket]) | (refine AWp_condC rfl ?_; intro KA KB hKA hKB; try simp only [onB_true, onB_false, onB_dec, onB_ndec, onB_not, onB_and, onB_or]) | (refine AWp_condA rfl ?_ ?_) | with_reducible (first | refine onB_of ?_ ?_ | rfl) | omega)
                    all_goals first
                      | omega
                      | exact absurd trivial (by assumption)
                      | exact dropD hk rfl
                  · have hket : ((k : Int) = (x.vl.length : Int) - 1) = False := eq_false (by omega)
                    obtain ⟨u, hu⟩ : ∃ u, x.vl[k + 1]? = some u := ⟨x.vl[k + 1]'(by omega), List.getElem?_eq_getElem (by omega)⟩
                    have hu' : x.vl[((k : Int) + 1).toNat]? = some u := by rw [show ((k : Int) + 1).toNat = k + 1 by omega, hu]
                    have hcu : ((u.toNat : Int) = 45 ↔ u = 45) := by rw [← UInt8.toNat_inj]; exact ⟨fun h => by simpa using (by omega : u.toNat = 45), fun h => by rw [h]; rfl⟩
                    have hk1 : ((0 : Int) ≤ (k : Int) + 1) = True := eq_true (by omega)
                    have hk2 : ((k : Int) + 1 < (x.vl.length : Int)) = True := eq_true (by omega)
                    rw [decide_eq_false hke, Bool.false_or, hu] at k3
                    by_cases hu45 : u = 45
                    · have hut : ((u.toNat : Int) = 45) = True := eq_true (hcu.2 hu45)
                      rw [decide_eq_true (by rw [hu45]), Bool.true_or] at k3
                      rw [if_pos k3] at hfv
                      rw [hgo, hfv, if_neg (by decide)] at hk
                      repeat' (first | with_reducible (first | refine And.intro ?_ ?_ | intro _ | refine AWp_seq ?_ | refine AWp_block ?_ | (refine hKv _ _ (AWp_nop ?_); clear hKv Kv) | (refine hKA ?_; clear hKA hKB KA KB) | (refine hKB ?_; clear hKA hKB KA KB) | refine AWp_skipN ?_ | refine AWp_exitO (by repeat (first | exact Out.hit | apply Out.thenA | apply Out.out rfl)) ?_) | (with_reducible (first | (refine hKv _ _ ?_; clear hKv Kv) | ((first | refine AWp_regro mu_61 ks_61 ro_61 ?_ | refine AWp_regC mu_61 ks_61 ?_ | refine AWp_draw nd_61 mu_61 ks_61 ti_mixed (by kernel_rfl) ?_ | refine AWp_regE mu_61 ks_61 ?_ | refine AWp_drawE nd_61 mu_61 ks_61 ti_mixed (by kernel_rfl) ?_); intro Kv hKv) | refine AWp_retR ?_); try simp (dsimp := false) only [go_sem, Nat.reduceAdd, Nat.reduceBEq, Nat.reduceEqDiff, Nat.reduceLT, Nat.reduceLeDiff, Nat.reduceMul, Int.reduceToNat, reduceCtorEq, ↓reduceIte, Tryd.ntmps61, Tryd.results61, ks_61, mu_61, nd_61, ro_61, ti_ag3, ti_ag9, ti_ag97, ti_fl97_0, ti_fl97_1, ti_fl97_2, ti_hb77, ti_hb114, ti_hb115, ti_sb43, ti_sb49, ti_sl43, ti_sl49, ti_st9, ti_sz97, ti_zr97, evD, evV, natCells, h1, Int.reduceEq, Int.reduceLT, Int.reduceLE, and_self, hx, hin, hlm, hlen, List.getElem?_map, h0f, hgp, hge, hlt, hot, hog, hol, hnmt, htft, hy, hkk, h45t, hket, hu', hk1, hk2, hut]) | (refine AWp_condC rfl ?_; intro KA KB hKA hKB; try simp only [onB_true, onB_false, onB_dec, onB_ndec, onB_not, onB_and, onB_or]) | (refine AWp_condA rfl ?_ ?_) | with_reducible (first | refine onB_of ?_ ?_ | rfl) | omega)
                      all_goals first
                        | omega
                        | exact absurd trivial (by assumption)
                        | exact dropD hk rfl
                    · have hut : ((u.toNat : Int) = 45) = False := eq_false fun h => hu45 (hcu.1 h)
                      rw [decide_eq_false (by simpa using hu45), Bool.false_or] at k3
                      repeat' (first | with_reducible (first | refine And.intro ?_ ?_ | intro _ | refine AWp_seq ?_ | refine AWp_block ?_ | (refine hKv _ _ (AWp_nop ?_); clear hKv Kv) | (refine hKA ?_; clear hKA hKB KA KB) | (refine hKB ?_; clear hKA hKB KA KB) | refine AWp_skipN ?_ | refine AWp_exitO (by repeat (first | exact Out.hit | apply Out.thenA | apply Out.out rfl)) ?_) | (with_reducible (first | (refine hKv _ _ ?_; clear hKv Kv) | ((first | refine AWp_regro mu_61 ks_61 ro_61 ?_ | refine AWp_regC mu_61 ks_61 ?_ | refine AWp_draw nd_61 mu_61 ks_61 ti_mixed (by kernel_rfl) ?_ | refine AWp_regE mu_61 ks_61 ?_ | refine AWp_drawE nd_61 mu_61 ks_61 ti_mixed (by kernel_rfl) ?_); intro Kv hKv) | refine AWp_retR ?_); try simp (dsimp := false) only [go_sem, Nat.reduceAdd, Nat.reduceBEq, Nat.reduceEqDiff, Nat.reduceLT, Nat.reduceLeDiff, Nat.reduceMul, Int.reduceToNat, reduceCtorEq, ↓reduceIte, Tryd.ntmps61, Tryd.results61, ks_61, mu_61, nd_61, ro_61, ti_ag3, ti_ag9, ti_ag97, ti_fl97_0, ti_fl97_1, ti_fl97_2, ti_hb77, ti_hb114, ti_hb115, ti_sb43, ti_sb49, ti_sl43, ti_sl49, ti_st9, ti_sz97, ti_zr97, evD, evV, natCells, h1, Int.reduceEq, Int.reduceLT, Int.reduceLE, and_self, hx, hin, hlm, hlen, List.getElem?_map, h0f, hgp, hge, hlt, hot, hog, hol, hnmt, htft, hy, hkk, h45t, hket, hu', hk1, hk2, hut]) | (refine AWp_condC rfl ?_; intro KA KB hKA hKB; try simp only [onB_true, onB_false, onB_dec, onB_ndec, onB_not, onB_and, onB_or]) | (refine AWp_condA rfl ?_ ?_) | with_reducible (first | refine onB_of ?_ ?_ | rfl) | omega)
                      all_goals first
                        | omega
                        | exact absurd trivial (by assumption)
                        | exact ⟨k + 1, ⟨by omega, k3⟩, by (repeat' (refine And.intro ?_ ?_)) <;> first | rfl | omega | (simp; done) | (simp; omega) | (simp (dsimp := false) only [go_sem, Nat.reduceAdd, Nat.reduceBEq, Nat.reduceEqDiff, Nat.reduceLT, Nat.reduceLeDiff, Nat.reduceMul, Int.reduceToNat, reduceCtorEq, ↓reduceIte, Tryd.ntmps61, Tryd.results61, ks_61, mu_61, nd_61, ro_61, ti_ag3, ti_ag9, ti_ag97, ti_fl97_0, ti_fl97_1, ti_fl97_2, ti_hb77, ti_hb114, ti_hb115, ti_sb43, ti_sb49, ti_sl43, ti_sl49, ti_st9, ti_sz97, ti_zr97, evD, evV, natCells, h1, Int.reduceEq, Int.reduceLT, Int.reduceLE, and_self, hx, hin, hlm, hlen, List.getElem?_map, h0f, hgp, hge, hlt, hot, hog, hol, hnmt, htft, hy, hkk, h45t, hket, hu', hk1, hk2, hut]; done) | (simp (dsimp := false) only [go_sem, Nat.reduceAdd, Nat.reduceBEq, Nat.reduceEqDiff, Nat.reduceLT, Nat.reduceLeDiff, Nat.reduceMul, Int.reduceToNat, reduceCtorEq, ↓reduceIte, Tryd.ntmps61, Tryd.results61, ks_61, mu_61, nd_61, ro_61, ti_ag3, ti_ag9, ti_ag97, ti_fl97_0, ti_fl97_1, ti_fl97_2, ti_hb77, ti_hb114, ti_hb115, ti_sb43, ti_sb49, ti_sl43, ti_sl49, ti_st9, ti_sz97, ti_zr97, evD, evV, natCells, h1, Int.reduceEq, Int.reduceLT, Int.reduceLE, and_self, hx, hin, hlm, hlen, List.getElem?_map, h0f, hgp, hge, hlt, hot, hog, hol, hnmt, htft, hy, hkk, h45t, hket, hu', hk1, hk2, hut]; omega)⟩
                · have h45t : ((y.toNat : Int) = 45) = False := eq_false fun h => h45 (hcy.1 h)
                  rw [decide_eq_false h45, Bool.false_and, Bool.false_or] at k3
                  repeat' (first | with_reducible (first | refine And.intro ?_ ?_ | intro _ | refine AWp_seq ?_ | refine AWp_block ?_ | (refine hKv _ _ (AWp_nop ?_); clear hKv Kv) | (refine hKA ?_; clear hKA hKB KA KB) | (refine hKB ?_; clear hKA hKB KA KB) | refine AWp_skipN ?_ | refine AWp_exitO (by repeat (first | exact Out.hit | apply Out.thenA | apply Out.out rfl)) ?_) | (with_reducible (first | (refine hKv _ _ ?_; clear hKv Kv) | ((first | refine AWp_regro mu_61 ks_61 ro_61 ?_ | refine AWp_regC mu_61 ks_61 ?_ | refine AWp_draw nd_61 mu_61 ks_61 ti_mixed (by kernel_rfl) ?_ | refine AWp_regE mu_61 ks_61 ?_ | refine AWp_drawE nd_61 mu_61 ks_61 ti_mixed (by kernel_rfl) ?_); intro Kv hKv) | refine AWp_retR ?_); try simp (dsimp := false) only [go_sem, Nat.reduceAdd, Nat.reduceBEq, Nat.reduceEqDiff, Nat.reduceLT, Nat.reduceLeDiff, Nat.reduceMul, Int.reduceToNat, reduceCtorEq, ↓reduceIte, Tryd.ntmps61, Tryd.results61, ks_61, mu_61, nd_61, ro_61, ti_ag3, ti_ag9, ti_ag97, ti_fl97_0, ti_fl97_1, ti_fl97_2, ti_hb77, ti_hb114, ti_hb115, ti_sb43, ti_sb49, ti_sl43, ti_sl49, ti_st9, ti_sz97, ti_zr97, evD, evV, natCells, h1, Int.reduceEq, Int.reduceLT, Int.reduceLE, and_self, hx, hin, hlm, hlen, List.getElem?_map, h0f, hgp, hge, hlt, hot, hog, hol, hnmt, htft, hy, hkk, h45t]) | (refine AWp_condC rfl ?_; intro KA KB hKA hKB; try simp only [onB_true, onB_false, onB_dec, onB_ndec, onB_not, onB_and, onB_or]) | (refine AWp_condA rfl ?_ ?_) | with_reducible (first | refine onB_of ?_ ?_ | rfl) | omega)
                  all_goals first
                    | omega
                    | exact absurd trivial (by assumption)
                    | exact ⟨k + 1, ⟨by omega, k3⟩, by (repeat' (refine And.intro ?_ ?_)) <;> first | rfl | omega | (simp; done) | (simp; omega) | (simp (dsimp := false) only [go_sem, Nat.reduceAdd, Nat.reduceBEq, Nat.reduceEqDiff, Nat.reduceLT, Nat.reduceLeDiff, Nat.reduceMul, Int.reduceToNat, reduceCtorEq, ↓reduceIte, Tryd.ntmps61, Tryd.results61, ks_61, mu_61, nd_61, ro_61, ti_ag3, ti_ag9, ti_ag97, ti_fl97_0, ti_fl97_1, ti_fl97_2, ti_hb77, ti_hb114, ti_hb115, ti_sb43, ti_sb49, ti_sl43, ti_sl49, ti_st9, ti_sz97, ti_zr97, evD, evV, natCells, h1, Int.reduceEq, Int.reduceLT, Int.reduceLE, and_self, hx, hin, hlm, hlen, List.getElem?_map, h0f, hgp, hge, hlt, hot, hog, hol, hnmt, htft, hy, hkk, h45t]; done) | (simp (dsimp := false) only [go_sem, Nat.reduceAdd, Nat.reduceBEq, Nat.reduceEqDiff, Nat.reduceLT, Nat.reduceLeDiff, Nat.reduceMul, Int.reduceToNat, reduceCtorEq, ↓reduceIte, Tryd.ntmps61, Tryd.results61, ks_61, mu_61, nd_61, ro_61, ti_ag3, ti_ag9, ti_ag97, ti_fl97_0, ti_fl97_1, ti_fl97_2, ti_hb77, ti_hb114, ti_hb115, ti_sb43, ti_sb49, ti_sl43, ti_sl49, ti_st9, ti_sz97, ti_zr97, evD, evV, natCells, h1, Int.reduceEq, Int.reduceLT, Int.reduceLE, and_self, hx, hin, hlm, hlen, List.getElem?_map, h0f, hgp, hge, hlt, hot, hog, hol, hnmt, htft, hy, hkk, h45t]; omega)⟩
              · have e : k = x.vl.length := by omega
                subst e
                have hkk : ((x.vl.length : Int) < (x.vl.length : Int)) = False := eq_false (by omega)
                rw [List.drop_length] at k3
                rw [if_neg (by rw [k3]; simp [dashB])] at hfv
                have hn2 := evS_n hn20 hfv
                rw [hfv, if_pos rfl] at hgo
                repeat' (first | with_reducible (first | refine And.intro ?_ ?_ | intro _ | refine AWp_seq ?_ | refine AWp_block ?_ | (refine hKv _ _ (AWp_nop ?_); clear hKv Kv) | (refine hKA ?_; clear hKA hKB KA KB) | (refine hKB ?_; clear hKA hKB KA KB) | refine AWp_skipN ?_ | refine AWp_exitO (by repeat (first | exact Out.hit | apply Out.thenA | apply Out.out rfl)) ?_) | (with_reducible (first | (refine hKv _ _ ?_; clear hKv Kv) | ((first | refine AWp_regro mu_61 ks_61 ro_61 ?_ | refine AWp_regC mu_61 ks_61 ?_ | refine AWp_draw nd_61 mu_61 ks_61 ti_mixed (by kernel_rfl) ?_ | refine AWp_regE mu_61 ks_61 ?_ | refine AWp_drawE nd_61 mu_61 ks_61 ti_mixed (by kernel_rfl) ?_); intro Kv hKv) | refine AWp_retR ?_); try simp (dsimp := false) only [go_sem, Nat.reduceAdd, Nat.reduceBEq, Nat.reduceEqDiff, Nat.reduceLT, Nat.reduceLeDiff, Nat.reduceMul, Int.reduceToNat, reduceCtorEq, ↓reduceIte, Tryd.ntmps61, Tryd.results61, ks_61, mu_61, nd_61, ro_61, ti_ag3, ti_ag9, ti_ag97, ti_fl97_0, ti_fl97_1, ti_fl97_2, ti_hb77, ti_hb114, ti_hb115, ti_sb43, ti_sb49, ti_sl43, ti_sl49, ti_st9, ti_sz97, ti_zr97, evD, evV, natCells, h1, Int.reduceEq, Int.reduceLT, Int.reduceLE, and_self, hx, hin, hlm, hlen, List.getElem?_map, h0f, hgp, hge, hlt, hot, hog, hol, hnmt, htft, hkk]) | (refine AWp_condC rfl ?_; intro KA KB hKA hKB; try simp only [onB_true, onB_false, onB_dec, onB_ndec, onB_not, onB_and, onB_or]) | (refine AWp_condA rfl ?_ ?_) | with_reducible (first | refine onB_of ?_ ?_ | rfl) | omega)
                all_goals first
                  | omega
                  | exact absurd trivial (by assumption)
                  | exact ⟨⟨i + 1, v, evS s x, os⟩, ⟨by show i + 1 ≤ l.length; omega, hinv.comment hx h1, hn2, hgo⟩, by show l.length - (i + 1) < l.length - i; omega, by first | rfl | (simp [natCells]; done), by (repeat' (refine And.intro ?_ ?_)) <;> first | rfl | omega | (simp; done) | (simp; omega) | (simp (dsimp := false) only [go_sem, Nat.reduceAdd, Nat.reduceBEq, Nat.reduceEqDiff, Nat.reduceLT, Nat.reduceLeDiff, Nat.reduceMul, Int.reduceToNat, reduceCtorEq, ↓reduceIte, Tryd.ntmps61, Tryd.results61, ks_61, mu_61, nd_61, ro_61, ti_ag3, ti_ag9, ti_ag97, ti_fl97_0, ti_fl97_1, ti_fl97_2, ti_hb77, ti_hb114, ti_hb115, ti_sb43, ti_sb49, ti_sl43, ti_sl49, ti_st9, ti_sz97, ti_zr97, evD, evV, natCells, h1, Int.reduceEq, Int.reduceLT, Int.reduceLE, and_self, hx, hin, hlm, hlen, List.getElem?_map, h0f, hgp, hge, hlt, hot, hog, hol, hnmt, htft, hkk]; done) | (simp (dsimp := false) only [go_sem, Nat.reduceAdd, Nat.reduceBEq, Nat.reduceEqDiff, Nat.reduceLT, Nat.reduceLeDiff, Nat.reduceMul, Int.reduceToNat, reduceCtorEq, ↓reduceIte, Tryd.ntmps61, Tryd.results61, ks_61, mu_61, nd_61, ro_61, ti_ag3, ti_ag9, ti_ag97, ti_fl97_0, ti_fl97_1, ti_fl97_2, ti_hb77, ti_hb114, ti_hb115, ti_sb43, ti_sb49, ti_sl43, ti_sl49, ti_st9, ti_sz97, ti_zr97, evD, evV, natCells, h1, Int.reduceEq, Int.reduceLT, Int.reduceLE, and_self, hx, hin, hlm, hlen, List.getElem?_map, h0f, hgp, hge, hlt, hot, hog, hol, hnmt, htft, hkk]; omega)⟩
            · rw [if_neg htf] at hfv
              have htff : (textFault x.vl = 0) = False := eq_false (by first | exact htf | omega)
              rw [hgo, hfv, if_neg (by first | decide | assumption)] at hk
              repeat' (first | with_reducible (first | refine And.intro ?_ ?_ | intro _ | refine AWp_seq ?_ | refine AWp_block ?_ | (refine hKv _ _ (AWp_nop ?_); clear hKv Kv) | (refine hKA ?_; clear hKA hKB KA KB) | (refine hKB ?_; clear hKA hKB KA KB) | refine AWp_skipN ?_ | refine AWp_exitO (by repeat (first | exact Out.hit | apply Out.thenA | apply Out.out rfl)) ?_) | ((first | with_reducible (first | (refine hKv _ _ ?_; clear hKv Kv) | ((first | refine AWp_regro mu_61 ks_61 ro_61 ?_ | refine AWp_regC mu_61 ks_61 ?_ | refine AWp_draw nd_61 mu_61 ks_61 ti_mixed (by kernel_rfl) ?_ | refine AWp_regE mu_61 ks_61 ?_ | refine AWp_drawE nd_61 mu_61 ks_61 ti_mixed (by kernel_rfl) ?_); intro Kv hKv) | refine AWp_retR ?_) | refine in_A _ _ _ _ _ ?_ | refine QCall_of (in_A _ _ _ _ _ (Two_intro _ _)) ?_ | refine nameFault_A x.nm (by omega) _ _ ?_ | refine QCall_of (nameFault_A x.nm (by omega) _ _ (Two_intro _ _)) ?_ | refine valueFault_A x.vl (by omega) _ _ ?_ | refine QCall_of (valueFault_A x.vl (by omega) _ _ (Two_intro _ _)) ?_); try simp (dsimp := false) only [go_sem, Nat.reduceAdd, Nat.reduceBEq, Nat.reduceEqDiff, Nat.reduceLT, Nat.reduceLeDiff, Nat.reduceMul, Int.reduceToNat, reduceCtorEq, ↓reduceIte, Tryd.ntmps61, Tryd.results61, ks_61, mu_61, nd_61, ro_61, ti_ag3, ti_ag9, ti_ag97, ti_fl97_0, ti_fl97_1, ti_fl97_2, ti_hb77, ti_hb114, ti_hb115, ti_sb43, ti_sb49, ti_sl43, ti_sl49, ti_st9, ti_sz97, ti_zr97, evD, evV, natCells, h1, Int.reduceEq, Int.reduceLT, Int.reduceLE, and_self, hx, hin, hlm, hlen, List.getElem?_map, h0f, hgp, hge, hlt, hot, hog, hol, hnmt, htff]) | (refine AWp_condC rfl ?_; intro KA KB hKA hKB; try simp only [onB_true, onB_false, onB_dec, onB_ndec, onB_not, onB_and, onB_or]) | (refine AWp_condA rfl ?_ ?_) | with_reducible (first | refine onB_of ?_ ?_ | rfl) | omega)
              all_goals first
                | omega
                | exact hcl
                | exact absurd trivial (by assumption)
                | exact dropD hk rfl
          · rw [if_neg hnm] at hfv
            have hnmf : (x.nm = []) = False := eq_false (by first | exact hnm | omega)
            rw [hgo, hfv, if_neg (by first | decide | assumption)] at hk
            repeat' (first | with_reducible (first | refine And.intro ?_ ?_ | intro _ | refine AWp_seq ?_ | refine AWp_block ?_ | (refine hKv _ _ (AWp_nop ?_); clear hKv Kv) | (refine hKA ?_; clear hKA hKB KA KB) | (refine hKB ?_; clear hKA hKB KA KB) | refine AWp_skipN ?_ | refine AWp_exitO (by repeat (first | exact Out.hit | apply Out.thenA | apply Out.out rfl)) ?_) | ((first | with_reducible (first | (refine hKv _ _ ?_; clear hKv Kv) | ((first | refine AWp_regro mu_61 ks_61 ro_61 ?_ | refine AWp_regC mu_61 ks_61 ?_ | refine AWp_draw nd_61 mu_61 ks_61 ti_mixed (by kernel_rfl) ?_ | refine AWp_regE mu_61 ks_61 ?_ | refine AWp_drawE nd_61 mu_61 ks_61 ti_mixed (by kernel_rfl) ?_); intro Kv hKv) | refine AWp_retR ?_) | refine in_A _ _ _ _ _ ?_ | refine QCall_of (in_A _ _ _ _ _ (Two_intro _ _)) ?_ | refine nameFault_A x.nm (by omega) _ _ ?_ | refine QCall_of (nameFault_A x.nm (by omega) _ _ (Two_intro _ _)) ?_ | refine valueFault_A x.vl (by omega) _ _ ?_ | refine QCall_of (valueFault_A x.vl (by omega) _ _ (Two_intro _ _)) ?_); try simp (dsimp := false) only [go_sem, Nat.reduceAdd, Nat.reduceBEq, Nat.reduceEqDiff, Nat.reduceLT, Nat.reduceLeDiff, Nat.reduceMul, Int.reduceToNat, reduceCtorEq, ↓reduceIte, Tryd.ntmps61, Tryd.results61, ks_61, mu_61, nd_61, ro_61, ti_ag3, ti_ag9, ti_ag97, ti_fl97_0, ti_fl97_1, ti_fl97_2, ti_hb77, ti_hb114, ti_hb115, ti_sb43, ti_sb49, ti_sl43, ti_sl49, ti_st9, ti_sz97, ti_zr97, evD, evV, natCells, h1, Int.reduceEq, Int.reduceLT, Int.reduceLE, and_self, hx, hin, hlm, hlen, List.getElem?_map, h0f, hgp, hge, hlt, hot, hog, hol, hnmf]) | (refine AWp_condC rfl ?_; intro KA KB hKA hKB; try simp only [onB_true, onB_false, onB_dec, onB_ndec, onB_not, onB_and, onB_or]) | (refine AWp_condA rfl ?_ ?_) | with_reducible (first | refine onB_of ?_ ?_ | rfl) | omega)
            all_goals first
              | omega
              | exact hcl
              | exact absurd trivial (by assumption)
              | exact dropD hk rfl
      · have hfv := evF1_5 (s := s) (first := decide (i = 0)) h1
        by_cases h0 : s.n = 0
        · rw [if_pos h0] at hfv
          have h0t : ((s.n : Int) = 0) = True := eq_true (by first | exact h0 | omega)
          rw [hgo, hfv, if_neg (by first | decide | assumption)] at hk
          repeat' (first | with_reducible (first | refine And.intro ?_ ?_ | intro _ | refine AWp_seq ?_ | refine AWp_block ?_ | (refine hKv _ _ (AWp_nop ?_); clear hKv Kv) | (refine hKA ?_; clear hKA hKB KA KB) | (refine hKB ?_; clear hKA hKB KA KB) | refine AWp_skipN ?_ | refine AWp_exitO (by repeat (first | exact Out.hit | apply Out.thenA | apply Out.out rfl)) ?_) | ((first | with_reducible (first | (refine hKv _ _ ?_; clear hKv Kv) | ((first | refine AWp_regro mu_61 ks_61 ro_61 ?_ | refine AWp_regC mu_61 ks_61 ?_ | refine AWp_draw nd_61 mu_61 ks_61 ti_mixed (by kernel_rfl) ?_ | refine AWp_regE mu_61 ks_61 ?_ | refine AWp_drawE nd_61 mu_61 ks_61 ti_mixed (by kernel_rfl) ?_); intro Kv hKv) | refine AWp_retR ?_) | refine in_A _ _ _ _ _ ?_ | refine QCall_of (in_A _ _ _ _ _ (Two_intro _ _)) ?_ | refine nameFault_A x.nm (by omega) _ _ ?_ | refine QCall_of (nameFault_A x.nm (by omega) _ _ (Two_intro _ _)) ?_ | refine valueFault_A x.vl (by omega) _ _ ?_ | refine QCall_of (valueFault_A x.vl (by omega) _ _ (Two_intro _ _)) ?_); try simp (dsimp := false) only [go_sem, Nat.reduceAdd, Nat.reduceBEq, Nat.reduceEqDiff, Nat.reduceLT, Nat.reduceLeDiff, Nat.reduceMul, Int.reduceToNat, reduceCtorEq, ↓reduceIte, Tryd.ntmps61, Tryd.results61, ks_61, mu_61, nd_61, ro_61, ti_ag3, ti_ag9, ti_ag97, ti_fl97_0, ti_fl97_1, ti_fl97_2, ti_hb77, ti_hb114, ti_hb115, ti_sb43, ti_sb49, ti_sl43, ti_sl49, ti_st9, ti_sz97, ti_zr97, evD, evV, natCells, h1, Int.reduceEq, Int.reduceLT, Int.reduceLE, and_self, hx, hin, hlm, hlen, List.getElem?_map, h0t]) | (refine AWp_condC rfl ?_; intro KA KB hKA hKB; try simp only [onB_true, onB_false, onB_dec, onB_ndec, onB_not, onB_and, onB_or]) | (refine AWp_condA rfl ?_ ?_) | with_reducible (first | refine onB_of ?_ ?_ | rfl) | omega)
          all_goals first
            | omega
            | exact hcl
            | exact absurd trivial (by assumption)
            | exact dropD hk rfl
        · rw [if_neg h0] at hfv
          have h0f : ((s.n : Int) = 0) = False := eq_false (by first | exact h0 | omega)
          obtain ⟨r, o, hro⟩ : ∃ r o, os = r ++ [o] := by
            rcases os.eq_nil_or_concat with rfl | ⟨r, o, rfl⟩
            · exact absurd hlen.symm h0
            · exact ⟨r, o, by simp⟩
          obtain ⟨z, hz, z1, z2, z3⟩ := hinv.top r o hro
          have hoi := hinv.lt o (by rw [hro]; simp)
          have hgp : l[((i : Int) - 1).toNat]? = some z := by rw [show ((i : Int) - 1).toNat = i - 1 by omega]; exact hz
          have hge : ((0 : Int) ≤ (i : Int) - 1) = True := eq_true (by omega)
          have hlt : ((i : Int) - 1 < (l.length : Int)) = True := eq_true (by omega)
          have hot : os[((s.n : Int) - 1).toNat]? = some o := by
            have : r.length + 1 = s.n := by rw [← hlen, hro]; simp
            rw [hro, show ((s.n : Int) - 1).toNat = r.length by omega, List.getElem?_append_right (Nat.le_refl _), Nat.sub_self]; rfl
          have hog : ((0 : Int) ≤ (s.n : Int) - 1) = True := eq_true (by omega)
          have hol : ((s.n : Int) - 1 < (s.n : Int)) = True := eq_true (by omega)
          by_cases hnm : x.nm = []
          · rw [if_pos hnm] at hfv
            have hnmt : (x.nm = []) = True := eq_true (by first | exact hnm | omega)
            by_cases hv : x.vl = []
            · rw [if_pos hv] at hfv
              have hvt : (x.vl = []) = True := eq_true (by first | exact hv | omega)
              have hn2 := evS_n hn20 hfv
              rw [hfv, if_pos rfl] at hgo
              have htk : (os.map natCells).take ((s.n : Int) - 1).toNat = r.map natCells := by
                have : r.length + 1 = s.n := by rw [← hlen, hro]; simp
                rw [hro, List.map_append, List.take_left' (by rw [List.length_map]; omega)]
              repeat' (first | with_reducible (first | refine And.intro ?_ ?_ | intro _ | refine AWp_seq ?_ | refine AWp_block ?_ | (refine hKv _ _ (AWp_nop ?_); clear hKv Kv) | (refine hKA ?_; clear hKA hKB KA KB) | (refine hKB ?_; clear hKA hKB KA KB) | refine AWp_skipN ?_ | refine AWp_exitO (by repeat (first | exact Out.hit | apply Out.thenA | apply Out.out rfl)) ?_) | ((first | with_reducible (first | (refine hKv _ _ ?_; clear hKv Kv) | ((first | refine AWp_regro mu_61 ks_61 ro_61 ?_ | refine AWp_regC mu_61 ks_61 ?_ | refine AWp_draw nd_61 mu_61 ks_61 ti_mixed (by kernel_rfl) ?_ | refine AWp_regE mu_61 ks_61 ?_ | refine AWp_drawE nd_61 mu_61 ks_61 ti_mixed (by kernel_rfl) ?_); intro Kv hKv) | refine AWp_retR ?_) | refine in_A _ _ _ _ _ ?_ | refine QCall_of (in_A _ _ _ _ _ (Two_intro _ _)) ?_ | refine nameFault_A x.nm (by omega) _ _ ?_ | refine QCall_of (nameFault_A x.nm (by omega) _ _ (Two_intro _ _)) ?_ | refine valueFault_A x.vl (by omega) _ _ ?_ | refine QCall_of (valueFault_A x.vl (by omega) _ _ (Two_intro _ _)) ?_); try simp (dsimp := false) only [go_sem, Nat.reduceAdd, Nat.reduceBEq, Nat.reduceEqDiff, Nat.reduceLT, Nat.reduceLeDiff, Nat.reduceMul, Int.reduceToNat, reduceCtorEq, ↓reduceIte, Tryd.ntmps61, Tryd.results61, ks_61, mu_61, nd_61, ro_61, ti_ag3, ti_ag9, ti_ag97, ti_fl97_0, ti_fl97_1, ti_fl97_2, ti_hb77, ti_hb114, ti_hb115, ti_sb43, ti_sb49, ti_sl43, ti_sl49, ti_st9, ti_sz97, ti_zr97, evD, evV, natCells, h1, Int.reduceEq, Int.reduceLT, Int.reduceLE, and_self, hx, hin, hlm, hlen, List.getElem?_map, h0f, hgp, hge, hlt, hot, hog, hol, hnmt, hvt, htk]) | (refine AWp_condC rfl ?_; intro KA KB hKA hKB; try simp only [onB_true, onB_false, onB_dec, onB_ndec, onB_not, onB_and, onB_or]) | (refine AWp_condA rfl ?_ ?_) | with_reducible (first | refine onB_of ?_ ?_ | rfl) | omega)
              all_goals first
                | omega
                | exact hcl
                | exact absurd trivial (by assumption)
                | exact ⟨⟨i + 1, v + 1, evS s x, r⟩, ⟨by show i + 1 ≤ l.length; omega, (hro ▸ hinv).end_ hx h1, hn2, hgo⟩, by show l.length - (i + 1) < l.length - i; omega, by first | rfl | (simp [natCells]; done), by (repeat' (refine And.intro ?_ ?_)) <;> first | rfl | omega | (simp; done) | (simp; omega) | (simp (dsimp := false) only [go_sem, Nat.reduceAdd, Nat.reduceBEq, Nat.reduceEqDiff, Nat.reduceLT, Nat.reduceLeDiff, Nat.reduceMul, Int.reduceToNat, reduceCtorEq, ↓reduceIte, Tryd.ntmps61, Tryd.results61, ks_61, mu_61, nd_61, ro_61, ti_ag3, ti_ag9, ti_ag97, ti_fl97_0, ti_fl97_1, ti_fl97_2, ti_hb77, ti_hb114, ti_hb115, ti_sb43, ti_sb49, ti_sl43, ti_sl49, ti_st9, ti_sz97, ti_zr97, evD, evV, natCells, h1, Int.reduceEq, Int.reduceLT, Int.reduceLE, and_self, hx, hin, hlm, hlen, List.getElem?_map, h0f, hgp, hge, hlt, hot, hog, hol, hnmt, hvt, htk]; done) | (simp (dsimp := false) only [go_sem, Nat.reduceAdd, Nat.reduceBEq, Nat.reduceEqDiff, Nat.reduceLT, Nat.reduceLeDiff, Nat.reduceMul, Int.reduceToNat, reduceCtorEq, ↓reduceIte, Tryd.ntmps61, Tryd.results61, ks_61, mu_61, nd_61, ro_61, ti_ag3, ti_ag9, ti_ag97, ti_fl97_0, ti_fl97_1, ti_fl97_2, ti_hb77, ti_hb114, ti_hb115, ti_sb43, ti_sb49, ti_sl43, ti_sl49, ti_st9, ti_sz97, ti_zr97, evD, evV, natCells, h1, Int.reduceEq, Int.reduceLT, Int.reduceLE, and_self, hx, hin, hlm, hlen, List.getElem?_map, h0f, hgp, hge, hlt, hot, hog, hol, hnmt, hvt, htk]; omega)⟩
            · rw [if_neg hv] at hfv
              have hvf : (x.vl = []) = False := eq_false (by first | exact hv | omega)
              rw [hgo, hfv, if_neg (by first | decide | assumption)] at hk
              repeat' (first | with_reducible (first | refine And.intro ?_ ?_ | intro _ | refine AWp_seq ?_ | refine AWp_block ?_ | (refine hKv _ _ (AWp_nop ?_); clear hKv Kv) | (refine hKA ?_; clear hKA hKB KA KB) | (refine hKB ?_; clear hKA hKB KA KB) | refine AWp_skipN ?_ | refine AWp_exitO (by repeat (first | exact Out.hit | apply Out.thenA | apply Out.out rfl)) ?_) | ((first | with_reducible (first | (refine hKv _ _ ?_; clear hKv Kv) | ((first | refine AWp_regro mu_61 ks_61 ro_61 ?_ | refine AWp_regC mu_61 ks_61 ?_ | refine AWp_draw nd_61 mu_61 ks_61 ti_mixed (by kernel_rfl) ?_ | refine AWp_regE mu_61 ks_61 ?_ | refine AWp_drawE nd_61 mu_61 ks_61 ti_mixed (by kernel_rfl) ?_); intro Kv hKv) | refine AWp_retR ?_) | refine in_A _ _ _ _ _ ?_ | refine QCall_of (in_A _ _ _ _ _ (Two_intro _ _)) ?_ | refine nameFault_A x.nm (by omega) _ _ ?_ | refine QCall_of (nameFault_A x.nm (by omega) _ _ (Two_intro _ _)) ?_ | refine valueFault_A x.vl (by omega) _ _ ?_ | refine QCall_of (valueFault_A x.vl (by omega) _ _ (Two_intro _ _)) ?_); try simp (dsimp := false) only [go_sem, Nat.reduceAdd, Nat.reduceBEq, Nat.reduceEqDiff, Nat.reduceLT, Nat.reduceLeDiff, Nat.reduceMul, Int.reduceToNat, reduceCtorEq, ↓reduceIte, Tryd.ntmps61, Tryd.results61, ks_61, mu_61, nd_61, ro_61, ti_ag3, ti_ag9, ti_ag97, ti_fl97_0, ti_fl97_1, ti_fl97_2, ti_hb77, ti_hb114, ti_hb115, ti_sb43, ti_sb49, ti_sl43, ti_sl49, ti_st9, ti_sz97, ti_zr97, evD, evV, natCells, h1, Int.reduceEq, Int.reduceLT, Int.reduceLE, and_self, hx, hin, hlm, hlen, List.getElem?_map, h0f, hgp, hge, hlt, hot, hog, hol, hnmt, hvf]) | (refine AWp_condC rfl ?_; intro KA KB hKA hKB; try simp only [onB_true, onB_false, onB_dec, onB_ndec, onB_not, onB_and, onB_or]) | (refine AWp_condA rfl ?_ ?_) | with_reducible (first | refine onB_of ?_ ?_ | rfl) | omega)
              all_goals first
                | omega
                | exact hcl
                | exact absurd trivial (by assumption)
                | exact dropD hk rfl
          · rw [if_neg hnm] at hfv
            have hnmf : (x.nm = []) = False := eq_false (by first | exact hnm | omega)
            rw [hgo, hfv, if_neg (by first | decide | assumption)] at hk
            repeat' (first | with_reducible (first | refine And.intro ?_ ?_ | intro _ | refine AWp_seq ?_ | refine AWp_block ?_ | (refine hKv _ _ (AWp_nop ?_); clear hKv Kv) | (refine hKA ?_; clear hKA hKB KA KB) | (refine hKB ?_; clear hKA hKB KA KB) | refine AWp_skipN ?_ | refine AWp_exitO (by repeat (first | exact Out.hit | apply Out.thenA | apply Out.out rfl)) ?_) | ((first | with_reducible (first | (refine hKv _ _ ?_; clear hKv Kv) | ((first | refine AWp_regro mu_61 ks_61 ro_61 ?_ | refine AWp_regC mu_61 ks_61 ?_ | refine AWp_draw nd_61 mu_61 ks_61 ti_mixed (by kernel_rfl) ?_ | refine AWp_regE mu_61 ks_61 ?_ | refine AWp_drawE nd_61 mu_61 ks_61 ti_mixed (by kernel_rfl) ?_); intro Kv hKv) | refine AWp_retR ?_) | refine in_A _ _ _ _ _ ?_ | refine QCall_of (in_A _ _ _ _ _ (Two_intro _ _)) ?_ | refine nameFault_A x.nm (by omega) _ _ ?_ | refine QCall_of (nameFault_A x.nm (by omega) _ _ (Two_intro _ _)) ?_ | refine valueFault_A x.vl (by omega) _ _ ?_ | refine QCall_of (valueFault_A x.vl (by omega) _ _ (Two_intro _ _)) ?_); try simp (dsimp := false) only [go_sem, Nat.reduceAdd, Nat.reduceBEq, Nat.reduceEqDiff, Nat.reduceLT, Nat.reduceLeDiff, Nat.reduceMul, Int.reduceToNat, reduceCtorEq, ↓reduceIte, Tryd.ntmps61, Tryd.results61, ks_61, mu_61, nd_61, ro_61, ti_ag3, ti_ag9, ti_ag97, ti_fl97_0, ti_fl97_1, ti_fl97_2, ti_hb77, ti_hb114, ti_hb115, ti_sb43, ti_sb49, ti_sl43, ti_sl49, ti_st9, ti_sz97, ti_zr97, evD, evV, natCells, h1, Int.reduceEq, Int.reduceLT, Int.reduceLE, and_self, hx, hin, hlm, hlen, List.getElem?_map, h0f, hgp, hge, hlt, hot, hog, hol, hnmf]) | (refine AWp_condC rfl ?_; intro KA KB hKA hKB; try simp only [onB_true, onB_false, onB_dec, onB_ndec, onB_not, onB_and, onB_or]) | (refine AWp_condA rfl ?_ ?_) | with_reducible (first | refine onB_of ?_ ?_ | rfl) | omega)
            all_goals first
              | omega
              | exact hcl
              | exact absurd trivial (by assumption)
              | exact dropD hk rfl
    · have e : i = l.length := by omega
      have hin : ((i : Int) < (l.length : Int)) = False := eq_false (by omega)
      rw [hgo, e, List.drop_length, evGo_end] at hk
      by_cases h0 : l.length = 0
      · rw [if_pos (.inl h0)] at hk
        have h0' : ((l.length : Int) = 0) = True := eq_true (by omega)
        repeat' (first | with_reducible (first | refine And.intro ?_ ?_ | intro _ | refine AWp_seq ?_ | refine AWp_block ?_ | (refine hKv _ _ (AWp_nop ?_); clear hKv Kv) | (refine hKA ?_; clear hKA hKB KA KB) | (refine hKB ?_; clear hKA hKB KA KB) | refine AWp_skipN ?_ | refine AWp_exitO (by repeat (first | exact Out.hit | apply Out.thenA | apply Out.out rfl)) ?_) | (with_reducible (first | (refine hKv _ _ ?_; clear hKv Kv) | ((first | refine AWp_regro mu_61 ks_61 ro_61 ?_ | refine AWp_regC mu_61 ks_61 ?_ | refine AWp_draw nd_61 mu_61 ks_61 ti_mixed (by kernel_rfl) ?_ | refine AWp_regE mu_61 ks_61 ?_ | refine AWp_drawE nd_61 mu_61 ks_61 ti_mixed (by kernel_rfl) ?_); intro Kv hKv) | refine AWp_retR ?_); try simp (dsimp := false) only [go_sem, Nat.reduceAdd, Nat.reduceBEq, Nat.reduceEqDiff, Nat.reduceLT, Nat.reduceLeDiff, Nat.reduceMul, Int.reduceToNat, reduceCtorEq, ↓reduceIte, Tryd.ntmps61, Tryd.results61, ks_61, mu_61, nd_61, ro_61, ti_ag3, ti_ag9, ti_ag97, ti_fl97_0, ti_fl97_1, ti_fl97_2, ti_hb77, ti_hb114, ti_hb115, ti_sb43, ti_sb49, ti_sl43, ti_sl49, ti_st9, ti_sz97, ti_zr97, evD, evV, hin, hlm, hlen, h0']) | (refine AWp_condC rfl ?_; intro KA KB hKA hKB; try simp only [onB_true, onB_false, onB_dec, onB_ndec, onB_not, onB_and, onB_or]) | (refine AWp_condA rfl ?_ ?_) | with_reducible (first | refine onB_of ?_ ?_ | rfl) | omega)
        all_goals first
          | omega
          | exact hcl
          | exact dropD hk rfl
      · have h0' : ((l.length : Int) = 0) = False := eq_false (by omega)
        by_cases hn : 0 < s.n
        · rw [if_pos (.inr hn)] at hk
          have hn' : (0 < (s.n : Int)) = True := eq_true (by omega)
          repeat' (first | with_reducible (first | refine And.intro ?_ ?_ | intro _ | refine AWp_seq ?_ | refine AWp_block ?_ | (refine hKv _ _ (AWp_nop ?_); clear hKv Kv) | (refine hKA ?_; clear hKA hKB KA KB) | (refine hKB ?_; clear hKA hKB KA KB) | refine AWp_skipN ?_ | refine AWp_exitO (by repeat (first | exact Out.hit | apply Out.thenA | apply Out.out rfl)) ?_) | (with_reducible (first | (refine hKv _ _ ?_; clear hKv Kv) | ((first | refine AWp_regro mu_61 ks_61 ro_61 ?_ | refine AWp_regC mu_61 ks_61 ?_ | refine AWp_draw nd_61 mu_61 ks_61 ti_mixed (by kernel_rfl) ?_ | refine AWp_regE mu_61 ks_61 ?_ | refine AWp_drawE nd_61 mu_61 ks_61 ti_mixed (by kernel_rfl) ?_); intro Kv hKv) | refine AWp_retR ?_); try simp (dsimp := false) only [go_sem, Nat.reduceAdd, Nat.reduceBEq, Nat.reduceEqDiff, Nat.reduceLT, Nat.reduceLeDiff, Nat.reduceMul, Int.reduceToNat, reduceCtorEq, ↓reduceIte, Tryd.ntmps61, Tryd.results61, ks_61, mu_61, nd_61, ro_61, ti_ag3, ti_ag9, ti_ag97, ti_fl97_0, ti_fl97_1, ti_fl97_2, ti_hb77, ti_hb114, ti_hb115, ti_sb43, ti_sb49, ti_sl43, ti_sl49, ti_st9, ti_sz97, ti_zr97, evD, evV, hin, hlm, hlen, h0', hn']) | (refine AWp_condC rfl ?_; intro KA KB hKA hKB; try simp only [onB_true, onB_false, onB_dec, onB_ndec, onB_not, onB_and, onB_or]) | (refine AWp_condA rfl ?_ ?_) | with_reducible (first | refine onB_of ?_ ?_ | rfl) | omega)
          all_goals first
            | omega
            | exact dropD hk rfl
        · rw [if_neg (by omega)] at hk
          have hn' : (0 < (s.n : Int)) = False := eq_false (by omega)
          repeat' (first | with_reducible (first | refine And.intro ?_ ?_ | intro _ | refine AWp_seq ?_ | refine AWp_block ?_ | (refine hKv _ _ (AWp_nop ?_); clear hKv Kv) | (refine hKA ?_; clear hKA hKB KA KB) | (refine hKB ?_; clear hKA hKB KA KB) | refine AWp_skipN ?_ | refine AWp_exitO (by repeat (first | exact Out.hit | apply Out.thenA | apply Out.out rfl)) ?_) | (with_reducible (first | (refine hKv _ _ ?_; clear hKv Kv) | ((first | refine AWp_regro mu_61 ks_61 ro_61 ?_ | refine AWp_regC mu_61 ks_61 ?_ | refine AWp_draw nd_61 mu_61 ks_61 ti_mixed (by kernel_rfl) ?_ | refine AWp_regE mu_61 ks_61 ?_ | refine AWp_drawE nd_61 mu_61 ks_61 ti_mixed (by kernel_rfl) ?_); intro Kv hKv) | refine AWp_retR ?_); try simp (dsimp := false) only [go_sem, Nat.reduceAdd, Nat.reduceBEq, Nat.reduceEqDiff, Nat.reduceLT, Nat.reduceLeDiff, Nat.reduceMul, Int.reduceToNat, reduceCtorEq, ↓reduceIte, Tryd.ntmps61, Tryd.results61, ks_61, mu_61, nd_61, ro_61, ti_ag3, ti_ag9, ti_ag97, ti_fl97_0, ti_fl97_1, ti_fl97_2, ti_hb77, ti_hb114, ti_hb115, ti_sb43, ti_sb49, ti_sl43, ti_sl49, ti_st9, ti_sz97, ti_zr97, evD, evV, hin, hlm, hlen, h0', hn']) | (refine AWp_condC rfl ?_; intro KA KB hKA hKB; try simp only [onB_true, onB_false, onB_dec, onB_ndec, onB_not, onB_and, onB_or]) | (refine AWp_condA rfl ?_ ?_) | with_reducible (first | refine onB_of ?_ ?_ | rfl) | omega)
          all_goals first
            | omega
            | exact dropD hk rfl
  · rw [eventsFault_big hN] at hk
    have hN' : (400 < (l.length : Int)) = True := eq_true (by omega)
    refine ACalls_of Tryd.func61 rfl in_61 (Nat.le_of_ble_eq_true rfl) ?_
    intro F hF
    simp (dsimp := false) only [go_sem, Nat.reduceAdd, Nat.reduceBEq, Nat.reduceEqDiff, Nat.reduceLT, Nat.reduceLeDiff, Nat.reduceMul, Int.reduceToNat, reduceCtorEq, ↓reduceIte, Tryd.ntmps61, Tryd.results61, ks_61, mu_61, nd_61, ro_61, ti_ag3, ti_ag9, ti_ag97, ti_fl97_0, ti_fl97_1, ti_fl97_2, ti_hb77, ti_hb114, ti_hb115, ti_sb43, ti_sb49, ti_sl43, ti_sl49, ti_st9, ti_sz97, ti_zr97, evD, evV, hN', in_61] at hF
    subst hF
    repeat' (first | with_reducible (first | refine And.intro ?_ ?_ | intro _ | refine AWp_seq ?_ | refine AWp_block ?_ | (refine hKv _ _ (AWp_nop ?_); clear hKv Kv) | (refine hKA ?_; clear hKA hKB KA KB) | (refine hKB ?_; clear hKA hKB KA KB) | refine AWp_skipN ?_ | refine AWp_exitO (by repeat (first | exact Out.hit | apply Out.thenA | apply Out.out rfl)) ?_) | (with_reducible (first | (refine hKv _ _ ?_; clear hKv Kv) | ((first | refine AWp_regro mu_61 ks_61 ro_61 ?_ | refine AWp_regC mu_61 ks_61 ?_ | refine AWp_draw nd_61 mu_61 ks_61 ti_mixed (by kernel_rfl) ?_ | refine AWp_regE mu_61 ks_61 ?_ | refine AWp_drawE nd_61 mu_61 ks_61 ti_mixed (by kernel_rfl) ?_); intro Kv hKv) | refine AWp_retR ?_); try simp (dsimp := false) only [go_sem, Nat.reduceAdd, Nat.reduceBEq, Nat.reduceEqDiff, Nat.reduceLT, Nat.reduceLeDiff, Nat.reduceMul, Int.reduceToNat, reduceCtorEq, ↓reduceIte, Tryd.ntmps61, Tryd.results61, ks_61, mu_61, nd_61, ro_61, ti_ag3, ti_ag9, ti_ag97, ti_fl97_0, ti_fl97_1, ti_fl97_2, ti_hb77, ti_hb114, ti_hb115, ti_sb43, ti_sb49, ti_sl43, ti_sl49, ti_st9, ti_sz97, ti_zr97, evD, evV, hN']) | (refine AWp_condC rfl ?_; intro KA KB hKA hKB; try simp only [onB_true, onB_false, onB_dec, onB_ndec, onB_not, onB_and, onB_or]) | (refine AWp_condA rfl ?_ ?_) | with_reducible (first | refine onB_of ?_ ?_ | rfl) | omega)
    all_goals first
      | exact keepD hk rfl
end Go.Proofs.YtjghnaohlfgloaaDoor
