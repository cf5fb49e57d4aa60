/- The parser's smaller steps: what they make. No condition. -/
import Derived.Test.YtjghnaohlfgloaaDoorJ20
import Derived.Test.YtjghnaohlfgloaaDoorJ18
set_option linter.all false
set_option linter.unusedSimpArgs false
set_option linter.unusedVariables false
namespace Go.Proofs.YtjghnaohlfgloaaDoor
open Go Go.Proofs.YtjghnaohlfgloaaDoor.Ab
variable [Glo]
set_option maxHeartbeats 4000000
set_option maxRecDepth 20000
theorem prefix_take (p s : List UInt8) : p.isPrefixOf s = (decide (p.length ≤ s.length) && decide (s.take p.length = p)) := by
  rw [Bool.eq_iff_iff, List.isPrefixOf_iff_prefix, List.prefix_iff_eq_take]
  simp only [Bool.and_eq_true, decide_eq_true_eq]
  constructor
  · intro h
    refine ⟨?_, h.symm⟩
    have := congrArg List.length h
    rw [List.length_take] at this
    omega
  · exact fun h => h.2.symm
def ks_141 : Nat → List Nat
  | 0 => [0, 1]
  | 1 => [4]
  | _ => []
def mu_141 : List Nat := []
def in_141 : List Nat := [0, 1]
theorem hasPrefixL_A (s p : List UInt8) (hs : s.length ≤ 1000000000) (hp : p.length ≤ 1000000000) (H : Heap) (K : V → Heap → Prop) (hk : K (.d (.b (p.isPrefixOf s))) H) :
    ACalls Tryd.prog 141 [.d (.s s), .d (.s p)] H K := by
  rw [prefix_take] at hk
  by_cases h : p.length ≤ s.length
  · have h1 : ((p.length : Int) ≤ (s.length : Int)) = True := eq_true (by omega)
    rw [decide_eq_true h, Bool.true_and] at hk
    refine ACalls_of Tryd.func141 rfl in_141 (Nat.le_of_ble_eq_true rfl) ?_
    intro F hF
    simp (dsimp := false) only [go_sem, Nat.reduceAdd, Nat.reduceBEq, Nat.reduceEqDiff, Nat.reduceLT, Nat.reduceLeDiff, Nat.reduceMul, Int.reduceToNat, reduceCtorEq, ↓reduceIte, Tryd.ntmps141, Tryd.results141, ks_141, mu_141, ti_st9, h1, in_141] at hF
    subst hF
    repeat' (first | with_reducible (first | refine And.intro ?_ ?_ | intro _ | refine AWp_seq ?_ | refine AWp_block ?_ | (refine hKv _ _ (AWp_nop ?_); clear hKv Kv) | (refine hKA ?_; clear hKA hKB KA KB) | (refine hKB ?_; clear hKA hKB KA KB) | refine AWp_skipN ?_ | refine AWp_exitO (by repeat (first | exact Out.hit | apply Out.thenA | apply Out.out rfl)) ?_) | (with_reducible (first | (refine hKv _ _ ?_; clear hKv Kv) | ((first | refine AWp_regC mu_141 ks_141 ?_ | refine AWp_regE mu_141 ks_141 ?_); intro Kv hKv) | refine AWp_retR ?_); try simp (dsimp := false) only [go_sem, Nat.reduceAdd, Nat.reduceBEq, Nat.reduceEqDiff, Nat.reduceLT, Nat.reduceLeDiff, Nat.reduceMul, Int.reduceToNat, reduceCtorEq, ↓reduceIte, Tryd.ntmps141, Tryd.results141, ks_141, mu_141, ti_st9, h1]) | (refine AWp_condC rfl ?_; intro KA KB hKA hKB; try simp only [onB_true, onB_false, onB_dec, onB_ndec, onB_not, onB_and, onB_or]) | (refine AWp_condA rfl ?_ ?_) | with_reducible (first | refine onB_of ?_ ?_ | rfl) | omega)
    all_goals first
      | omega
      | exact keepD hk rfl
      | exact keepD hk (by simp)
  · have h1 : ((p.length : Int) ≤ (s.length : Int)) = False := eq_false (by omega)
    rw [decide_eq_false h, Bool.false_and] at hk
    refine ACalls_of Tryd.func141 rfl in_141 (Nat.le_of_ble_eq_true rfl) ?_
    intro F hF
    simp (dsimp := false) only [go_sem, Nat.reduceAdd, Nat.reduceBEq, Nat.reduceEqDiff, Nat.reduceLT, Nat.reduceLeDiff, Nat.reduceMul, Int.reduceToNat, reduceCtorEq, ↓reduceIte, Tryd.ntmps141, Tryd.results141, ks_141, mu_141, ti_st9, h1, in_141] at hF
    subst hF
    repeat' (first | with_reducible (first | refine And.intro ?_ ?_ | intro _ | refine AWp_seq ?_ | refine AWp_block ?_ | (refine hKv _ _ (AWp_nop ?_); clear hKv Kv) | (refine hKA ?_; clear hKA hKB KA KB) | (refine hKB ?_; clear hKA hKB KA KB) | refine AWp_skipN ?_ | refine AWp_exitO (by repeat (first | exact Out.hit | apply Out.thenA | apply Out.out rfl)) ?_) | (with_reducible (first | (refine hKv _ _ ?_; clear hKv Kv) | ((first | refine AWp_regC mu_141 ks_141 ?_ | refine AWp_regE mu_141 ks_141 ?_); intro Kv hKv) | refine AWp_retR ?_); try simp (dsimp := false) only [go_sem, Nat.reduceAdd, Nat.reduceBEq, Nat.reduceEqDiff, Nat.reduceLT, Nat.reduceLeDiff, Nat.reduceMul, Int.reduceToNat, reduceCtorEq, ↓reduceIte, Tryd.ntmps141, Tryd.results141, ks_141, mu_141, ti_st9, h1]) | (refine AWp_condC rfl ?_; intro KA KB hKA hKB; try simp only [onB_true, onB_false, onB_dec, onB_ndec, onB_not, onB_and, onB_or]) | (refine AWp_condA rfl ?_ ?_) | with_reducible (first | refine onB_of ?_ ?_ | rfl) | omega)
    all_goals first
      | omega
      | exact keepD hk rfl
def ks_104 : Nat → List Nat
  | 0 => [0, 1]
  | 1 => [4]
  | _ => []
def mu_104 : List Nat := []
def in_104 : List Nat := [0, 1]
theorem hasPrefix_A (s p : List UInt8) (hs : s.length ≤ 1000000000) (hp : p.length ≤ 1000000000) (H : Heap) (K : V → Heap → Prop) (hk : K (.d (.b (p.isPrefixOf s))) H) :
    ACalls Tryd.prog 104 [.d (.s s), .d (.s p)] H K := by
  refine ACalls_of Tryd.func104 rfl in_104 (Nat.le_of_ble_eq_true rfl) ?_
  intro F hF
  simp (dsimp := false) only [go_sem, Nat.reduceAdd, Nat.reduceBEq, Nat.reduceEqDiff, Nat.reduceLT, Nat.reduceLeDiff, Nat.reduceMul, Int.reduceToNat, reduceCtorEq, ↓reduceIte, Tryd.ntmps104, Tryd.results104, ks_104, mu_104, ti_hb141, in_104] at hF
  subst hF
  repeat' (first | with_reducible (first | refine And.intro ?_ ?_ | intro _ | refine AWp_seq ?_ | refine AWp_block ?_ | (refine hKv _ _ (AWp_nop ?_); clear hKv Kv) | (refine hKA ?_; clear hKA hKB KA KB) | (refine hKB ?_; clear hKA hKB KA KB) | refine AWp_skipN ?_ | refine AWp_exitO (by repeat (first | exact Out.hit | apply Out.thenA | apply Out.out rfl)) ?_) | ((first | with_reducible (first | (refine hKv _ _ ?_; clear hKv Kv) | ((first | refine AWp_regC mu_104 ks_104 ?_ | refine AWp_regE mu_104 ks_104 ?_); intro Kv hKv) | refine AWp_retR ?_) | refine hasPrefixL_A s p hs hp _ _ ?_); try simp (dsimp := false) only [go_sem, Nat.reduceAdd, Nat.reduceBEq, Nat.reduceEqDiff, Nat.reduceLT, Nat.reduceLeDiff, Nat.reduceMul, Int.reduceToNat, reduceCtorEq, ↓reduceIte, Tryd.ntmps104, Tryd.results104, ks_104, mu_104, ti_hb141]) | (refine AWp_condC rfl ?_; intro KA KB hKA hKB; try simp only [onB_true, onB_false, onB_dec, onB_ndec, onB_not, onB_and, onB_or]) | (refine AWp_condA rfl ?_ ?_) | with_reducible (first | refine onB_of ?_ ?_ | rfl) | omega)
  all_goals first
    | exact keepD hk rfl
def prC (s : List UInt8) (at_ : Int) (o : V) (f : Int) : Ob := .row 0 86 4 [[.d (.s s), .d (.i .i64 at_), o, .d (.i .i64 f)]]
theorem prC_bel {m : Nat} {s : List UInt8} {at_ f : Int} {o : V} (h : Bel m o) : ObBel m (prC s at_ o f) := by
  intro row hr v hv
  simp at hr
  subst hr
  simp at hv
  rcases hv with rfl | rfl | rfl | rfl
  · exact .d _
  · exact .d _
  · exact h
  · exact .d _
def ks_105 : Nat → List Nat
  | 0 => [0, 1, 8]
  | 1 => []
  | _ => []
def mu_105 : List Nat := []
def in_105 : List Nat := [0, 1]
theorem stop_A (id : Nat) (s : List UInt8) (at_ f e : Int) (o : V) (H : Heap) (K : V → Heap → Prop) (hr : H[id]? = some (prC s at_ o f)) (ho : Bel H.length o)
    (hk : K (.tu []) (H.set id (prC s at_ o (if f = 0 then e else f)))) :
    ACalls Tryd.prog 105 [.pt id 0 0 0, .d (.i .i64 e)] H K := by
  have hid := lt_of_get hr
  rw [prC] at hr
  by_cases hf : f = 0
  · rw [if_pos hf] at hk
    have h1 : (f = 0) = True := eq_true hf
    refine ACalls_of Tryd.func105 rfl in_105 (Nat.le_of_ble_eq_true rfl) ?_
    intro F hF
    simp (dsimp := false) only [go_sem, Nat.reduceAdd, Nat.reduceBEq, Nat.reduceEqDiff, Nat.reduceLT, Nat.reduceLeDiff, Nat.reduceMul, Int.reduceToNat, reduceCtorEq, ↓reduceIte, Tryd.ntmps105, Tryd.results105, ks_105, mu_105, ti_ag29, ti_fl86_3, ti_sz29, hr, h1, hid, in_105] at hF
    subst hF
    repeat' (first | with_reducible (first | refine And.intro ?_ ?_ | intro _ | refine AWp_seq ?_ | refine AWp_block ?_ | (refine hKv _ _ (AWp_nop ?_); clear hKv Kv) | (refine hKA ?_; clear hKA hKB KA KB) | (refine hKB ?_; clear hKA hKB KA KB) | refine AWp_skipN ?_ | refine AWp_exitO (by repeat (first | exact Out.hit | apply Out.thenA | apply Out.out rfl)) ?_) | (with_reducible (first | (refine hKv _ _ ?_; clear hKv Kv) | ((first | refine AWp_regC mu_105 ks_105 ?_ | refine AWp_regE mu_105 ks_105 ?_); intro Kv hKv) | refine AWp_retR ?_); try simp (dsimp := false) only [go_sem, Nat.reduceAdd, Nat.reduceBEq, Nat.reduceEqDiff, Nat.reduceLT, Nat.reduceLeDiff, Nat.reduceMul, Int.reduceToNat, reduceCtorEq, ↓reduceIte, Tryd.ntmps105, Tryd.results105, ks_105, mu_105, ti_ag29, ti_fl86_3, ti_sz29, hr, h1, hid]) | (refine AWp_condC rfl ?_; intro KA KB hKA hKB; try simp only [onB_true, onB_false, onB_dec, onB_ndec, onB_not, onB_and, onB_or]) | (refine AWp_condA rfl ?_ ?_) | with_reducible (first | refine onB_of ?_ ?_ | rfl) | omega)
    all_goals try (refine AWp_skip ?_; simp (dsimp := false) only [go_sem, Nat.reduceAdd, Nat.reduceBEq, Nat.reduceEqDiff, Nat.reduceLT, Nat.reduceLeDiff, Nat.reduceMul, Int.reduceToNat, reduceCtorEq, ↓reduceIte, Tryd.ntmps105, Tryd.results105, ks_105, mu_105, ti_ag29, ti_fl86_3, ti_sz29, hr, h1, hid])
    all_goals first
      | omega
      | exact keepS hk (by simp) (closed_set (closed_self H) (prC_bel ho)) (by simp [Bel_tu])
  · rw [if_neg hf] at hk
    have h1 : (f = 0) = False := eq_false hf
    rw [show prC s at_ o f = Ob.row 0 86 4 [[.d (.s s), .d (.i .i64 at_), o, .d (.i .i64 f)]] from rfl, set_same hr] at hk
    refine ACalls_of Tryd.func105 rfl in_105 (Nat.le_of_ble_eq_true rfl) ?_
    intro F hF
    simp (dsimp := false) only [go_sem, Nat.reduceAdd, Nat.reduceBEq, Nat.reduceEqDiff, Nat.reduceLT, Nat.reduceLeDiff, Nat.reduceMul, Int.reduceToNat, reduceCtorEq, ↓reduceIte, Tryd.ntmps105, Tryd.results105, ks_105, mu_105, ti_ag29, ti_fl86_3, ti_sz29, hr, h1, hid, in_105] at hF
    subst hF
    repeat' (first | with_reducible (first | refine And.intro ?_ ?_ | intro _ | refine AWp_seq ?_ | refine AWp_block ?_ | (refine hKv _ _ (AWp_nop ?_); clear hKv Kv) | (refine hKA ?_; clear hKA hKB KA KB) | (refine hKB ?_; clear hKA hKB KA KB) | refine AWp_skipN ?_ | refine AWp_exitO (by repeat (first | exact Out.hit | apply Out.thenA | apply Out.out rfl)) ?_) | (with_reducible (first | (refine hKv _ _ ?_; clear hKv Kv) | ((first | refine AWp_regC mu_105 ks_105 ?_ | refine AWp_regE mu_105 ks_105 ?_); intro Kv hKv) | refine AWp_retR ?_); try simp (dsimp := false) only [go_sem, Nat.reduceAdd, Nat.reduceBEq, Nat.reduceEqDiff, Nat.reduceLT, Nat.reduceLeDiff, Nat.reduceMul, Int.reduceToNat, reduceCtorEq, ↓reduceIte, Tryd.ntmps105, Tryd.results105, ks_105, mu_105, ti_ag29, ti_fl86_3, ti_sz29, hr, h1, hid]) | (refine AWp_condC rfl ?_; intro KA KB hKA hKB; try simp only [onB_true, onB_false, onB_dec, onB_ndec, onB_not, onB_and, onB_or]) | (refine AWp_condA rfl ?_ ?_) | with_reducible (first | refine onB_of ?_ ?_ | rfl) | omega)
    all_goals try (refine AWp_skip ?_; simp (dsimp := false) only [go_sem, Nat.reduceAdd, Nat.reduceBEq, Nat.reduceEqDiff, Nat.reduceLT, Nat.reduceLeDiff, Nat.reduceMul, Int.reduceToNat, reduceCtorEq, ↓reduceIte, Tryd.ntmps105, Tryd.results105, ks_105, mu_105, ti_ag29, ti_fl86_3, ti_sz29, hr, h1, hid])
    all_goals first
      | omega
      | exact keepS hk (Nat.le_refl _) (closed_self H) (by simp [Bel_tu])
def ks_103 : Nat → List Nat
  | 0 => [0, 1]
  | 1 => [0, 1, 23]
  | 2 => [4]
  | 3 => []
  | 4 => [4]
  | _ => []
def mu_103 : List Nat := []
def in_103 : List Nat := [0, 1]
def nd_103 : Nat → Nat
  | 1 => 18
  | _ => 0
theorem has_A (id : Nat) (s t : List UInt8) (at_ : Nat) (f : Int) (o : V) (H : Heap) (K : V → Heap → Prop) (hr : H[id]? = some (prC s at_ o f)) (ho : Bel H.length o) (hs : s.length ≤ 1000000) (hat : at_ ≤ s.length) (ht : t.length ≤ 1000000)
    (hk : K (.d (.b (decide (f = 0) && t.isPrefixOf (s.drop at_)))) (if f = 0 ∧ t.isPrefixOf (s.drop at_) = true then H.set id (prC s ((at_ + t.length : Nat) : Int) o f) else H)) :
    ACalls Tryd.prog 103 [.pt id 0 0 0, .d (.s t)] H K := by
  have hid := lt_of_get hr
  rw [prC] at hr
  have h0 : ((0 : Int) ≤ (at_ : Int)) = True := eq_true (by omega)
  have h2 : ((at_ : Int) ≤ (s.length : Int)) = True := eq_true (by omega)
  have hdl : (s.drop at_).length ≤ 1000000000 := by rw [List.length_drop]; omega
  by_cases hf : f = 0
  · have h1 : (f = 0) = True := eq_true hf
    by_cases hp : t.isPrefixOf (s.drop at_) = true
    · rw [decide_eq_true hf, hp, if_pos ⟨hf, rfl⟩] at hk
      refine ACalls_of Tryd.func103 rfl in_103 (Nat.le_of_ble_eq_true rfl) ?_
      intro F hF
      simp (dsimp := false) only [go_sem, Nat.reduceAdd, Nat.reduceBEq, Nat.reduceEqDiff, Nat.reduceLT, Nat.reduceLeDiff, Nat.reduceMul, Int.reduceToNat, reduceCtorEq, ↓reduceIte, Tryd.ntmps103, Tryd.results103, ks_103, mu_103, nd_103, ti_ag3, ti_ag9, ti_ag29, ti_fl86_0, ti_fl86_1, ti_fl86_3, ti_hb104, ti_st9, ti_sz3, hr, h1, hid, h0, h2, hp, List.take_length, in_103] at hF
      subst hF
      repeat' (first | with_reducible (first | refine And.intro ?_ ?_ | intro _ | refine AWp_seq ?_ | refine AWp_block ?_ | (refine hKv _ _ (AWp_nop ?_); clear hKv Kv) | (refine hKA ?_; clear hKA hKB KA KB) | (refine hKB ?_; clear hKA hKB KA KB) | refine AWp_skipN ?_ | refine AWp_exitO (by repeat (first | exact Out.hit | apply Out.thenA | apply Out.out rfl)) ?_) | ((first | with_reducible (first | (refine hKv _ _ ?_; clear hKv Kv) | ((first | refine AWp_regC mu_103 ks_103 ?_ | refine AWp_draw nd_103 mu_103 ks_103 ti_mixed (by kernel_rfl) ?_ | refine AWp_regE mu_103 ks_103 ?_ | refine AWp_drawE nd_103 mu_103 ks_103 ti_mixed (by kernel_rfl) ?_); intro Kv hKv) | refine AWp_retR ?_) | refine hasPrefix_A (s.drop at_) t hdl (by omega) _ _ ?_ | refine QCall_of (hasPrefix_A (s.drop at_) t hdl (by omega) _ _ (Two_intro _ _)) ?_); try simp (dsimp := false) only [go_sem, Nat.reduceAdd, Nat.reduceBEq, Nat.reduceEqDiff, Nat.reduceLT, Nat.reduceLeDiff, Nat.reduceMul, Int.reduceToNat, reduceCtorEq, ↓reduceIte, Tryd.ntmps103, Tryd.results103, ks_103, mu_103, nd_103, ti_ag3, ti_ag9, ti_ag29, ti_fl86_0, ti_fl86_1, ti_fl86_3, ti_hb104, ti_st9, ti_sz3, hr, h1, hid, h0, h2, hp, List.take_length]) | (refine AWp_condC rfl ?_; intro KA KB hKA hKB; try simp only [onB_true, onB_false, onB_dec, onB_ndec, onB_not, onB_and, onB_or]) | (refine AWp_condA rfl ?_ ?_) | with_reducible (first | refine onB_of ?_ ?_ | rfl) | omega)
      all_goals first
        | omega
        | exact keepS hk (by simp) (closed_set (closed_self H) (prC_bel ho)) (.d _)
    · have hpf : t.isPrefixOf (s.drop at_) = false := Bool.eq_false_iff.2 hp
      rw [hpf, Bool.and_false, if_neg (by rintro ⟨_, h⟩; cases h)] at hk
      refine ACalls_of Tryd.func103 rfl in_103 (Nat.le_of_ble_eq_true rfl) ?_
      intro F hF
      simp (dsimp := false) only [go_sem, Nat.reduceAdd, Nat.reduceBEq, Nat.reduceEqDiff, Nat.reduceLT, Nat.reduceLeDiff, Nat.reduceMul, Int.reduceToNat, reduceCtorEq, ↓reduceIte, Tryd.ntmps103, Tryd.results103, ks_103, mu_103, nd_103, ti_ag3, ti_ag9, ti_ag29, ti_fl86_0, ti_fl86_1, ti_fl86_3, ti_hb104, ti_st9, ti_sz3, hr, h1, hid, h0, h2, hpf, List.take_length, in_103] at hF
      subst hF
      repeat' (first | with_reducible (first | refine And.intro ?_ ?_ | intro _ | refine AWp_seq ?_ | refine AWp_block ?_ | (refine hKv _ _ (AWp_nop ?_); clear hKv Kv) | (refine hKA ?_; clear hKA hKB KA KB) | (refine hKB ?_; clear hKA hKB KA KB) | refine AWp_skipN ?_ | refine AWp_exitO (by repeat (first | exact Out.hit | apply Out.thenA | apply Out.out rfl)) ?_) | ((first | with_reducible (first | (refine hKv _ _ ?_; clear hKv Kv) | ((first | refine AWp_regC mu_103 ks_103 ?_ | refine AWp_draw nd_103 mu_103 ks_103 ti_mixed (by kernel_rfl) ?_ | refine AWp_regE mu_103 ks_103 ?_ | refine AWp_drawE nd_103 mu_103 ks_103 ti_mixed (by kernel_rfl) ?_); intro Kv hKv) | refine AWp_retR ?_) | refine hasPrefix_A (s.drop at_) t hdl (by omega) _ _ ?_ | refine QCall_of (hasPrefix_A (s.drop at_) t hdl (by omega) _ _ (Two_intro _ _)) ?_); try simp (dsimp := false) only [go_sem, Nat.reduceAdd, Nat.reduceBEq, Nat.reduceEqDiff, Nat.reduceLT, Nat.reduceLeDiff, Nat.reduceMul, Int.reduceToNat, reduceCtorEq, ↓reduceIte, Tryd.ntmps103, Tryd.results103, ks_103, mu_103, nd_103, ti_ag3, ti_ag9, ti_ag29, ti_fl86_0, ti_fl86_1, ti_fl86_3, ti_hb104, ti_st9, ti_sz3, hr, h1, hid, h0, h2, hpf, List.take_length]) | (refine AWp_condC rfl ?_; intro KA KB hKA hKB; try simp only [onB_true, onB_false, onB_dec, onB_ndec, onB_not, onB_and, onB_or]) | (refine AWp_condA rfl ?_ ?_) | with_reducible (first | refine onB_of ?_ ?_ | rfl) | omega)
      all_goals first
        | omega
        | exact keepD hk rfl
  · have h1 : (f = 0) = False := eq_false hf
    rw [decide_eq_false hf, Bool.false_and, if_neg (fun h => hf h.1)] at hk
    refine ACalls_of Tryd.func103 rfl in_103 (Nat.le_of_ble_eq_true rfl) ?_
    intro F hF
    simp (dsimp := false) only [go_sem, Nat.reduceAdd, Nat.reduceBEq, Nat.reduceEqDiff, Nat.reduceLT, Nat.reduceLeDiff, Nat.reduceMul, Int.reduceToNat, reduceCtorEq, ↓reduceIte, Tryd.ntmps103, Tryd.results103, ks_103, mu_103, nd_103, ti_ag3, ti_ag9, ti_ag29, ti_fl86_0, ti_fl86_1, ti_fl86_3, ti_hb104, ti_st9, ti_sz3, hr, h1, hid, h0, h2, List.take_length, in_103] at hF
    subst hF
    repeat' (first | with_reducible (first | refine And.intro ?_ ?_ | intro _ | refine AWp_seq ?_ | refine AWp_block ?_ | (refine hKv _ _ (AWp_nop ?_); clear hKv Kv) | (refine hKA ?_; clear hKA hKB KA KB) | (refine hKB ?_; clear hKA hKB KA KB) | refine AWp_skipN ?_ | refine AWp_exitO (by repeat (first | exact Out.hit | apply Out.thenA | apply Out.out rfl)) ?_) | ((first | with_reducible (first | (refine hKv _ _ ?_; clear hKv Kv) | ((first | refine AWp_regC mu_103 ks_103 ?_ | refine AWp_draw nd_103 mu_103 ks_103 ti_mixed (by kernel_rfl) ?_ | refine AWp_regE mu_103 ks_103 ?_ | refine AWp_drawE nd_103 mu_103 ks_103 ti_mixed (by kernel_rfl) ?_); intro Kv hKv) | refine AWp_retR ?_) | refine hasPrefix_A (s.drop at_) t hdl (by omega) _ _ ?_ | refine QCall_of (hasPrefix_A (s.drop at_) t hdl (by omega) _ _ (Two_intro _ _)) ?_); try simp (dsimp := false) only [go_sem, Nat.reduceAdd, Nat.reduceBEq, Nat.reduceEqDiff, Nat.reduceLT, Nat.reduceLeDiff, Nat.reduceMul, Int.reduceToNat, reduceCtorEq, ↓reduceIte, Tryd.ntmps103, Tryd.results103, ks_103, mu_103, nd_103, ti_ag3, ti_ag9, ti_ag29, ti_fl86_0, ti_fl86_1, ti_fl86_3, ti_hb104, ti_st9, ti_sz3, hr, h1, hid, h0, h2, List.take_length]) | (refine AWp_condC rfl ?_; intro KA KB hKA hKB; try simp only [onB_true, onB_false, onB_dec, onB_ndec, onB_not, onB_and, onB_or]) | (refine AWp_condA rfl ?_ ?_) | with_reducible (first | refine onB_of ?_ ?_ | rfl) | omega)
    all_goals first
      | omega
      | exact keepD hk rfl
end Go.Proofs.YtjghnaohlfgloaaDoor
namespace Go.Proofs.YtjghnaohlfgloaaDoor
open Go Go.Proofs.YtjghnaohlfgloaaDoor.Ab
variable [Glo]
set_option maxHeartbeats 4000000
set_option maxRecDepth 20000
def mustAt (s : List UInt8) (at_ : Nat) (f : Int) (t : List UInt8) : Nat := if f = 0 ∧ t.isPrefixOf (s.drop at_) = true then at_ + t.length else at_
def mustF (s : List UInt8) (at_ : Nat) (f : Int) (t : List UInt8) : Int := if f = 0 then (if t.isPrefixOf (s.drop at_) = true then 0 else if (s.drop at_).isPrefixOf t = true then 5 else 4) else f
def ks_51 : Nat → List Nat
  | 0 => [0, 1, 14]
  | 1 => [0, 25]
  | 2 => []
  | 3 => []
  | _ => []
def mu_51 : List Nat := []
def in_51 : List Nat := [0, 1]
def nd_51 : Nat → Nat
  | 1 => 10
  | _ => 0
theorem must_A (id : Nat) (s t : List UInt8) (at_ : Nat) (f : Int) (o : V) (H : Heap) (K : V → Heap → Prop) (hr : H[id]? = some (prC s at_ o f)) (ho : Bel H.length o) (hs : s.length ≤ 1000000) (hat : at_ ≤ s.length) (ht : t.length ≤ 1000000)
    (hk : K (.tu []) (H.set id (prC s ((mustAt s at_ f t : Nat) : Int) o (mustF s at_ f t)))) :
    ACalls Tryd.prog 51 [.pt id 0 0 0, .d (.s t)] H K := by
  have hid := lt_of_get hr
  have hr' := hr
  have hss := set_same hr
  rw [prC] at hr'
  have h0 : ((0 : Int) ≤ (at_ : Int)) = True := eq_true (by omega)
  have h2 : ((at_ : Int) ≤ (s.length : Int)) = True := eq_true (by omega)
  have hdl : (s.drop at_).length ≤ 1000000000 := by rw [List.length_drop]; omega
  by_cases hf : f = 0
  · subst hf
    by_cases hp : t.isPrefixOf (s.drop at_) = true
    · rw [mustAt, if_pos ⟨rfl, hp⟩, mustF, if_pos rfl, if_pos hp] at hk
      refine ACalls_of Tryd.func51 rfl in_51 (Nat.le_of_ble_eq_true rfl) ?_
      intro F hF
      simp (dsimp := false) only [go_sem, Nat.reduceAdd, Nat.reduceBEq, Nat.reduceEqDiff, Nat.reduceLT, Nat.reduceLeDiff, Nat.reduceMul, Int.reduceToNat, reduceCtorEq, ↓reduceIte, Tryd.ntmps51, Tryd.results51, ks_51, mu_51, nd_51, ti_ag3, ti_ag9, ti_ag29, ti_fl86_0, ti_fl86_1, ti_fl86_3, ti_hb103, ti_hb104, ti_hb105, ti_st9, hr', hid, h0, h2, hp, Int.reduceEq, Bool.and_true, Bool.true_and, prC, in_51] at hF
      subst hF
      repeat' (first | with_reducible (first | refine And.intro ?_ ?_ | intro _ | refine AWp_seq ?_ | refine AWp_block ?_ | (refine hKv _ _ (AWp_nop ?_); clear hKv Kv) | (refine hKA ?_; clear hKA hKB KA KB) | (refine hKB ?_; clear hKA hKB KA KB) | refine AWp_skipN ?_ | refine AWp_exitO (by repeat (first | exact Out.hit | apply Out.thenA | apply Out.out rfl)) ?_) | ((first | with_reducible (first | (refine hKv _ _ ?_; clear hKv Kv) | ((first | refine AWp_regC mu_51 ks_51 ?_ | refine AWp_draw nd_51 mu_51 ks_51 ti_mixed (by kernel_rfl) ?_ | refine AWp_regE mu_51 ks_51 ?_ | refine AWp_drawE nd_51 mu_51 ks_51 ti_mixed (by kernel_rfl) ?_); intro Kv hKv) | refine AWp_retR ?_) | refine has_A id s t at_ 0 o H _ hr ho hs hat ht ?_ | refine QCall_of (has_A id s t at_ 0 o H _ hr ho hs hat ht (Two_intro _ _)) ?_); try simp (dsimp := false) only [go_sem, Nat.reduceAdd, Nat.reduceBEq, Nat.reduceEqDiff, Nat.reduceLT, Nat.reduceLeDiff, Nat.reduceMul, Int.reduceToNat, reduceCtorEq, ↓reduceIte, Tryd.ntmps51, Tryd.results51, ks_51, mu_51, nd_51, ti_ag3, ti_ag9, ti_ag29, ti_fl86_0, ti_fl86_1, ti_fl86_3, ti_hb103, ti_hb104, ti_hb105, ti_st9, hr', hid, h0, h2, hp, Int.reduceEq, Bool.and_true, Bool.true_and, prC]) | (refine AWp_condC rfl ?_; intro KA KB hKA hKB; try simp only [onB_true, onB_false, onB_dec, onB_ndec, onB_not, onB_and, onB_or]) | (refine AWp_condA rfl ?_ ?_) | with_reducible (first | refine onB_of ?_ ?_ | rfl) | omega)
      all_goals try (refine AWp_skip ?_; simp (dsimp := false) only [go_sem, Nat.reduceAdd, Nat.reduceBEq, Nat.reduceEqDiff, Nat.reduceLT, Nat.reduceLeDiff, Nat.reduceMul, Int.reduceToNat, reduceCtorEq, ↓reduceIte, Tryd.ntmps51, Tryd.results51, ks_51, mu_51, nd_51, ti_ag3, ti_ag9, ti_ag29, ti_fl86_0, ti_fl86_1, ti_fl86_3, ti_hb103, ti_hb104, ti_hb105, ti_st9, hr', hid, h0, h2, hp, Int.reduceEq, Bool.and_true, Bool.true_and, prC])
      all_goals first
        | omega
        | exact keepS hk (by simp) (closed_set (closed_self H) (prC_bel ho)) (by simp [Bel_tu])
    · have hpf : t.isPrefixOf (s.drop at_) = false := Bool.eq_false_iff.2 hp
      rw [mustAt, if_neg (fun h => hp h.2), mustF, if_pos rfl, if_neg hp] at hk
      have hg1 : ((0 : Int) = 0) = True := eq_true rfl
      cases hq : (s.drop at_).isPrefixOf t with
      | true =>
        rw [if_pos hq] at hk
        refine ACalls_of Tryd.func51 rfl in_51 (Nat.le_of_ble_eq_true rfl) ?_
        intro F hF
        simp (dsimp := false) only [go_sem, Nat.reduceAdd, Nat.reduceBEq, Nat.reduceEqDiff, Nat.reduceLT, Nat.reduceLeDiff, Nat.reduceMul, Int.reduceToNat, reduceCtorEq, ↓reduceIte, Tryd.ntmps51, Tryd.results51, ks_51, mu_51, nd_51, ti_ag3, ti_ag9, ti_ag29, ti_fl86_0, ti_fl86_1, ti_fl86_3, ti_hb103, ti_hb104, ti_hb105, ti_st9, hr', hid, h0, h2, hpf, hq, Int.reduceEq, Bool.and_false, and_false, List.take_length, in_51] at hF
        subst hF
        repeat' (first | with_reducible (first | refine And.intro ?_ ?_ | intro _ | refine AWp_seq ?_ | refine AWp_block ?_ | (refine hKv _ _ (AWp_nop ?_); clear hKv Kv) | (refine hKA ?_; clear hKA hKB KA KB) | (refine hKB ?_; clear hKA hKB KA KB) | refine AWp_skipN ?_ | refine AWp_exitO (by repeat (first | exact Out.hit | apply Out.thenA | apply Out.out rfl)) ?_) | ((first | with_reducible (first | (refine hKv _ _ ?_; clear hKv Kv) | ((first | refine AWp_regC mu_51 ks_51 ?_ | refine AWp_draw nd_51 mu_51 ks_51 ti_mixed (by kernel_rfl) ?_ | refine AWp_regE mu_51 ks_51 ?_ | refine AWp_drawE nd_51 mu_51 ks_51 ti_mixed (by kernel_rfl) ?_); intro Kv hKv) | refine AWp_retR ?_) | refine has_A id s t at_ 0 o H _ hr ho hs hat ht ?_ | refine QCall_of (has_A id s t at_ 0 o H _ hr ho hs hat ht (Two_intro _ _)) ?_ | refine hasPrefix_A t (s.drop at_) (by omega) hdl _ _ ?_ | refine QCall_of (hasPrefix_A t (s.drop at_) (by omega) hdl _ _ (Two_intro _ _)) ?_ | refine stop_A id s at_ 0 5 o H _ hr ho ?_ | refine QCall_of (stop_A id s at_ 0 5 o H _ hr ho (Two_intro _ _)) ?_); try simp (dsimp := false) only [go_sem, Nat.reduceAdd, Nat.reduceBEq, Nat.reduceEqDiff, Nat.reduceLT, Nat.reduceLeDiff, Nat.reduceMul, Int.reduceToNat, reduceCtorEq, ↓reduceIte, Tryd.ntmps51, Tryd.results51, ks_51, mu_51, nd_51, ti_ag3, ti_ag9, ti_ag29, ti_fl86_0, ti_fl86_1, ti_fl86_3, ti_hb103, ti_hb104, ti_hb105, ti_st9, hr', hid, h0, h2, hpf, hq, Int.reduceEq, Bool.and_false, and_false, List.take_length]) | (refine AWp_condC rfl ?_; intro KA KB hKA hKB; try simp only [onB_true, onB_false, onB_dec, onB_ndec, onB_not, onB_and, onB_or]) | (refine AWp_condA rfl ?_ ?_) | with_reducible (first | refine onB_of ?_ ?_ | rfl) | omega)
        all_goals try (refine AWp_skip ?_; simp (dsimp := false) only [go_sem, Nat.reduceAdd, Nat.reduceBEq, Nat.reduceEqDiff, Nat.reduceLT, Nat.reduceLeDiff, Nat.reduceMul, Int.reduceToNat, reduceCtorEq, ↓reduceIte, Tryd.ntmps51, Tryd.results51, ks_51, mu_51, nd_51, ti_ag3, ti_ag9, ti_ag29, ti_fl86_0, ti_fl86_1, ti_fl86_3, ti_hb103, ti_hb104, ti_hb105, ti_st9, hr', hid, h0, h2, hpf, hq, Int.reduceEq, Bool.and_false, and_false, List.take_length])
        all_goals first
          | omega
          | exact keepS hk (by simp) (closed_set (closed_self H) (prC_bel ho)) (by simp [Bel_tu])
      | false =>
        rw [if_neg (by rw [hq]; decide)] at hk
        refine ACalls_of Tryd.func51 rfl in_51 (Nat.le_of_ble_eq_true rfl) ?_
        intro F hF
        simp (dsimp := false) only [go_sem, Nat.reduceAdd, Nat.reduceBEq, Nat.reduceEqDiff, Nat.reduceLT, Nat.reduceLeDiff, Nat.reduceMul, Int.reduceToNat, reduceCtorEq, ↓reduceIte, Tryd.ntmps51, Tryd.results51, ks_51, mu_51, nd_51, ti_ag3, ti_ag9, ti_ag29, ti_fl86_0, ti_fl86_1, ti_fl86_3, ti_hb103, ti_hb104, ti_hb105, ti_st9, hr', hid, h0, h2, hpf, hq, Int.reduceEq, Bool.and_false, and_false, List.take_length, in_51] at hF
        subst hF
        repeat' (first | with_reducible (first | refine And.intro ?_ ?_ | intro _ | refine AWp_seq ?_ | refine AWp_block ?_ | (refine hKv _ _ (AWp_nop ?_); clear hKv Kv) | (refine hKA ?_; clear hKA hKB KA KB) | (refine hKB ?_; clear hKA hKB KA KB) | refine AWp_skipN ?_ | refine AWp_exitO (by repeat (first | exact Out.hit | apply Out.thenA | apply Out.out rfl)) ?_) | ((first | with_reducible (first | (refine hKv _ _ ?_; clear hKv Kv) | ((first | refine AWp_regC mu_51 ks_51 ?_ | refine AWp_draw nd_51 mu_51 ks_51 ti_mixed (by kernel_rfl) ?_ | refine AWp_regE mu_51 ks_51 ?_ | refine AWp_drawE nd_51 mu_51 ks_51 ti_mixed (by kernel_rfl) ?_); intro Kv hKv) | refine AWp_retR ?_) | refine has_A id s t at_ 0 o H _ hr ho hs hat ht ?_ | refine QCall_of (has_A id s t at_ 0 o H _ hr ho hs hat ht (Two_intro _ _)) ?_ | refine hasPrefix_A t (s.drop at_) (by omega) hdl _ _ ?_ | refine QCall_of (hasPrefix_A t (s.drop at_) (by omega) hdl _ _ (Two_intro _ _)) ?_ | refine stop_A id s at_ 0 4 o H _ hr ho ?_ | refine QCall_of (stop_A id s at_ 0 4 o H _ hr ho (Two_intro _ _)) ?_); try simp (dsimp := false) only [go_sem, Nat.reduceAdd, Nat.reduceBEq, Nat.reduceEqDiff, Nat.reduceLT, Nat.reduceLeDiff, Nat.reduceMul, Int.reduceToNat, reduceCtorEq, ↓reduceIte, Tryd.ntmps51, Tryd.results51, ks_51, mu_51, nd_51, ti_ag3, ti_ag9, ti_ag29, ti_fl86_0, ti_fl86_1, ti_fl86_3, ti_hb103, ti_hb104, ti_hb105, ti_st9, hr', hid, h0, h2, hpf, hq, Int.reduceEq, Bool.and_false, and_false, List.take_length]) | (refine AWp_condC rfl ?_; intro KA KB hKA hKB; try simp only [onB_true, onB_false, onB_dec, onB_ndec, onB_not, onB_and, onB_or]) | (refine AWp_condA rfl ?_ ?_) | with_reducible (first | refine onB_of ?_ ?_ | rfl) | omega)
        all_goals try (refine AWp_skip ?_; simp (dsimp := false) only [go_sem, Nat.reduceAdd, Nat.reduceBEq, Nat.reduceEqDiff, Nat.reduceLT, Nat.reduceLeDiff, Nat.reduceMul, Int.reduceToNat, reduceCtorEq, ↓reduceIte, Tryd.ntmps51, Tryd.results51, ks_51, mu_51, nd_51, ti_ag3, ti_ag9, ti_ag29, ti_fl86_0, ti_fl86_1, ti_fl86_3, ti_hb103, ti_hb104, ti_hb105, ti_st9, hr', hid, h0, h2, hpf, hq, Int.reduceEq, Bool.and_false, and_false, List.take_length])
        all_goals first
          | omega
          | exact keepS hk (by simp) (closed_set (closed_self H) (prC_bel ho)) (by simp [Bel_tu])
  · have h1 : (f = 0) = False := eq_false hf
    rw [mustAt, if_neg (fun h => hf h.1), mustF, if_neg hf, hss] at hk
    refine ACalls_of Tryd.func51 rfl in_51 (Nat.le_of_ble_eq_true rfl) ?_
    intro F hF
    simp (dsimp := false) only [go_sem, Nat.reduceAdd, Nat.reduceBEq, Nat.reduceEqDiff, Nat.reduceLT, Nat.reduceLeDiff, Nat.reduceMul, Int.reduceToNat, reduceCtorEq, ↓reduceIte, Tryd.ntmps51, Tryd.results51, ks_51, mu_51, nd_51, ti_ag3, ti_ag9, ti_ag29, ti_fl86_0, ti_fl86_1, ti_fl86_3, ti_hb103, ti_hb104, ti_hb105, ti_st9, hr', hid, h0, h2, h1, in_51] at hF
    subst hF
    repeat' (first | with_reducible (first | refine And.intro ?_ ?_ | intro _ | refine AWp_seq ?_ | refine AWp_block ?_ | (refine hKv _ _ (AWp_nop ?_); clear hKv Kv) | (refine hKA ?_; clear hKA hKB KA KB) | (refine hKB ?_; clear hKA hKB KA KB) | refine AWp_skipN ?_ | refine AWp_exitO (by repeat (first | exact Out.hit | apply Out.thenA | apply Out.out rfl)) ?_) | (with_reducible (first | (refine hKv _ _ ?_; clear hKv Kv) | ((first | refine AWp_regC mu_51 ks_51 ?_ | refine AWp_draw nd_51 mu_51 ks_51 ti_mixed (by kernel_rfl) ?_ | refine AWp_regE mu_51 ks_51 ?_ | refine AWp_drawE nd_51 mu_51 ks_51 ti_mixed (by kernel_rfl) ?_); intro Kv hKv) | refine AWp_retR ?_); try simp (dsimp := false) only [go_sem, Nat.reduceAdd, Nat.reduceBEq, Nat.reduceEqDiff, Nat.reduceLT, Nat.reduceLeDiff, Nat.reduceMul, Int.reduceToNat, reduceCtorEq, ↓reduceIte, Tryd.ntmps51, Tryd.results51, ks_51, mu_51, nd_51, ti_ag3, ti_ag9, ti_ag29, ti_fl86_0, ti_fl86_1, ti_fl86_3, ti_hb103, ti_hb104, ti_hb105, ti_st9, hr', hid, h0, h2, h1]) | (refine AWp_condC rfl ?_; intro KA KB hKA hKB; try simp only [onB_true, onB_false, onB_dec, onB_ndec, onB_not, onB_and, onB_or]) | (refine AWp_condA rfl ?_ ?_) | with_reducible (first | refine onB_of ?_ ?_ | rfl) | omega)
    all_goals try (refine AWp_skip ?_; simp (dsimp := false) only [go_sem, Nat.reduceAdd, Nat.reduceBEq, Nat.reduceEqDiff, Nat.reduceLT, Nat.reduceLeDiff, Nat.reduceMul, Int.reduceToNat, reduceCtorEq, ↓reduceIte, Tryd.ntmps51, Tryd.results51, ks_51, mu_51, nd_51, ti_ag3, ti_ag9, ti_ag29, ti_fl86_0, ti_fl86_1, ti_fl86_3, ti_hb103, ti_hb104, ti_hb105, ti_st9, hr', hid, h0, h2, h1])
    all_goals first
      | omega
      | exact keepS hk (Nat.le_refl _) (closed_self H) (by simp [Bel_tu])
end Go.Proofs.YtjghnaohlfgloaaDoor
