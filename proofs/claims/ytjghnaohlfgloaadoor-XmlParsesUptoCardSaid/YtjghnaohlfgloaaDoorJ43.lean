/- The reference reads a whole text. No condition but that the tables of package unicode/utf8 are there. -/
import Derived.Test.YtjghnaohlfgloaaDoorJ40
import Derived.Test.YtjghnaohlfgloaaDoorJ29
import Derived.Test.YtjghnaohlfgloaaDoorJ42
set_option linter.all false
set_option linter.unusedSimpArgs false
set_option linter.unusedVariables false
namespace Go.Proofs.YtjghnaohlfgloaaDoor
open Go Go.Proofs.YtjghnaohlfgloaaDoor.Ab
section
variable [Glo]
theorem tagFrom_ok (s : List UInt8) (at_ : Nat) (hs : s.length ≤ 1000000) (hat : at_ ≤ s.length) (hf : (tgOf s at_ 0).f = 0) (H : Heap) (K : V → Heap → Prop)
    (hk : K (.tu [.d (.sl 3 ((tgOf s at_ 0).evs.map evD)), .d (.i .i64 ((at_ + (tgOf s at_ 0).n : Nat) : Int)), .d (.b (tgOf s at_ 0).c), .d (.i .i64 0)]) H) :
    ACalls Tryd.prog 58 [.d (.s s), .d (.i .i64 at_)] H K := tagFrom_A s at_ hs hat H K (fun _ => hk) (fun h => absurd hf h)
theorem tagFrom_bad (s : List UInt8) (at_ : Nat) (hs : s.length ≤ 1000000) (hat : at_ ≤ s.length) (hf : (tgOf s at_ 0).f ≠ 0) (H : Heap) (K : V → Heap → Prop)
    (hk : ∀ n : Int, K (.tu [.d (.sl 3 []), .d (.i .i64 n), .d (.b false), .d (.i .i64 (tgOf s at_ 0).f)]) H) :
    ACalls Tryd.prog 58 [.d (.s s), .d (.i .i64 at_)] H K := tagFrom_A s at_ hs hat H K (fun h => absurd h hf) (fun _ => hk)
theorem tagFromO_ok (s : List UInt8) (at_ : Nat) (hs : s.length ≤ 1000000) (hat : at_ ≤ s.length) (hf : (tgOf s at_ 0).f = 0) (H : Heap) (K : V → Heap → Prop)
    (hk : ∀ v : Nat, K (.tu [.os H.length v, .d (.i .i64 ((at_ + (tgOf s at_ 0).n : Nat) : Int)), .d (.b (tgOf s at_ 0).c), .d (.i .i64 0)]) (H ++ [.row v 97 3 ((tgOf s at_ 0).evs.map evR)])) :
    ACalls Tryd.prog 58 [.d (.s s), .d (.i .i64 at_)] H K := tagFromO_A s at_ hs hat H K (fun _ => hk) (fun h => absurd hf h)
theorem parseT_tag {s : List UInt8} (hb : ¬ 4000 < s.length) (hp : [60].isPrefixOf s = true) (hf : (tgOf s 1 0).f = 0) :
    parseT s = endT s (1 + (tgOf s 1 0).n + (ctOf (s.length + 1) (if (tgOf s 1 0).c = true then [] else [(s.drop 1).take (nmN s 1 0)]) s (1 + (tgOf s 1 0).n) 0).n) (ctOf (s.length + 1) (if (tgOf s 1 0).c = true then [] else [(s.drop 1).take (nmN s 1 0)]) s (1 + (tgOf s 1 0).n) 0).f ((tgOf s 1 0).evs ++ (ctOf (s.length + 1) (if (tgOf s 1 0).c = true then [] else [(s.drop 1).take (nmN s 1 0)]) s (1 + (tgOf s 1 0).n) 0).evs) := by
  have a3 : tagT (s.drop 1) = tgOf s 1 0 := by rw [tgOf, if_pos rfl]
  have a4 : nameN true (s.drop 1) = nmN s 1 0 := by rw [nmN, if_pos rfl]
  rw [parseT, if_neg hb, if_neg (by rw [hp]; decide), a3, a4, if_neg (by simpa using hf), ctOf, if_pos rfl]
  cases hc : (tgOf s 1 0).c with
  | true => simp only [if_true, endT, contT, List.reverse_nil]
  | false => simp only [Bool.false_eq_true, if_false, endT, List.reverse_cons, List.reverse_nil, List.nil_append]
theorem parseT_bad {s : List UInt8} (hb : ¬ 4000 < s.length) (hp : [60].isPrefixOf s = true) (hf : (tgOf s 1 0).f ≠ 0) : parseT s = ([], (tgOf s 1 0).f) := by
  have a3 : tagT (s.drop 1) = tgOf s 1 0 := by rw [tgOf, if_pos rfl]
  rw [parseT, if_neg hb, if_neg (by rw [hp]; decide), a3, if_pos hf]
theorem en_cases (s : List UInt8) (i : Nat) :
    (nmF s (i + 2) 0 ≠ 0 ∧ enF s i = nmF s (i + 2) 0) ∨
    (nmF s (i + 2) 0 = 0 ∧ [62].isPrefixOf (s.drop (i + 2 + nmN s (i + 2) 0)) = false ∧ enF s i = missF (s.drop (i + 2 + nmN s (i + 2) 0)) [62] ∧ missF (s.drop (i + 2 + nmN s (i + 2) 0)) [62] ≠ 0) ∨
    (nmF s (i + 2) 0 = 0 ∧ [62].isPrefixOf (s.drop (i + 2 + nmN s (i + 2) 0)) = true ∧ enF s i = 0 ∧ enA s i = i + 2 + nmN s (i + 2) 0 + 1) := by
  by_cases h1 : nmF s (i + 2) 0 = 0
  · refine .inr ?_
    cases hq : [62].isPrefixOf (s.drop (i + 2 + nmN s (i + 2) 0)) with
    | false =>
      refine .inl ⟨h1, rfl, ?_, by rw [missF]; split <;> decide⟩
      rw [enF, enF1, enK, h1, mustF, if_pos rfl, if_neg (by rw [hq]; decide), missF]
    | true =>
      refine .inr ⟨h1, rfl, ?_, ?_⟩
      · rw [enF, enF1, enK, h1, mustF, if_pos rfl, if_pos hq]
      · rw [enA, enF1, enK, h1, mustAt, if_pos ⟨rfl, hq⟩]; rfl
  · exact .inl ⟨h1, by rw [enF, enF1, mustF, if_neg h1]⟩
theorem cmt_step {s : List UInt8} {a e : Nat} (h1 : a ≤ e) (h2 : e < s.length) (hp : [45, 45, 62].isPrefixOf (s.drop e) = false) (h : cmtN (s.drop a) = (cmtN (s.drop e)).map (· + (e - a))) : cmtN (s.drop a) = (cmtN (s.drop (e + 1))).map (· + (e + 1 - a)) := by
  have hc : s[e]? = some s[e] := List.getElem?_eq_getElem h2
  rw [h]
  rw [drop_of_get hc] at hp ⊢
  rw [cmtN, if_neg (by rw [hp]; decide), Option.map_map]
  congr 1
  funext x
  simp only [Function.comp]
  omega
theorem evR_data (l : List Ev) : (l.map evD).map (List.map V.d) = l.map evR := by simp [evR, evD]
end
variable [Glo] [U8] [Ml]
set_option maxHeartbeats 4000000
set_option maxRecDepth 20000
def ks_17 : Nat → List Nat
  | 0 => [0]
  | 1 => [0, 21]
  | 2 => [2, 3]
  | 3 => [0, 24]
  | 4 => [2, 3]
  | 5 => [0, 4, 5, 6, 7]
  | 6 => [0, 4, 5, 6, 7, 35]
  | 7 => [2, 3]
  | 8 => [0, 4, 5, 6, 8]
  | 9 => [0, 4, 5, 8, 38]
  | 10 => [0, 4, 5, 8]
  | 11 => [0, 4, 5, 8, 48]
  | 12 => [0, 4, 8, 16, 17, 18]
  | 13 => [0, 4, 8, 16, 17, 18, 57]
  | 14 => [2, 3]
  | 15 => [0, 4, 8, 17]
  | 16 => [0, 4, 5, 8]
  | 17 => [0, 4, 5, 8, 65]
  | 18 => [0, 4, 5, 8, 9]
  | 19 => [0, 4, 5, 8, 9, 80]
  | 20 => [0, 4, 5, 8, 9]
  | 21 => [0, 4, 5, 8, 9, 86]
  | 22 => [2, 3]
  | 23 => [0, 4, 8, 9]
  | 24 => [0, 4, 5, 8]
  | 25 => [0, 4, 5, 8, 98]
  | 26 => [0, 4, 5, 8, 10, 11]
  | 27 => [0, 4, 5, 8, 10, 11, 110]
  | 28 => [2, 3]
  | 29 => [0, 4, 5, 8, 10, 115]
  | 30 => [2, 3]
  | 31 => [0, 4, 8, 10, 130]
  | 32 => [2, 3]
  | 33 => [0, 4, 8, 10]
  | 34 => [0, 4, 8, 10]
  | 35 => [0, 4, 5, 8]
  | 36 => [0, 4, 5, 8, 142]
  | 37 => [0, 4, 8, 12, 13, 14, 15]
  | 38 => [0, 4, 8, 12, 13, 14, 15, 156]
  | 39 => [2, 3]
  | 40 => [0, 4, 8, 12, 13, 159]
  | 41 => [0, 4, 8, 12, 13]
  | 42 => [0, 4, 8, 13]
  | 43 => [0, 4, 5, 8]
  | 44 => [4, 174]
  | 45 => [2, 3]
  | 46 => [4, 7]
  | 47 => [4, 7, 178]
  | 48 => [2, 3]
  | 49 => [2, 3]
  | _ => []
def mu_17 : List Nat := [8]
def in_17 : List Nat := [0]
def nd_17 : Nat → Nat
  | 31 => 11
  | _ => 0
theorem eventsOf_A (s : List UInt8) (H : Heap) (K : V → Heap → Prop) (hs : s.length ≤ 1048576) (hk : K (.tu [.d (.sl 3 ((parseT s).1.map evD)), .d (.i .i64 (parseT s).2)]) H) :
    ACalls Tryd.prog 17 [.d (.s s)] H K := by
  by_cases hbig : 4000 < s.length
  · have hb' : ((4000 : Int) < (s.length : Int)) = True := eq_true (by omega)
    rw [parseT, if_pos hbig] at hk
    refine ACalls_of Tryd.func17 rfl in_17 (Nat.le_of_ble_eq_true rfl) ?_
    intro F hF
    simp (dsimp := false) only [go_sem, Nat.reduceAdd, Nat.reduceBEq, Nat.reduceEqDiff, Nat.reduceLT, Nat.reduceLeDiff, Nat.reduceMul, Int.reduceToNat, reduceCtorEq, ↓reduceIte, Tryd.ntmps17, Tryd.results17, ks_17, mu_17, nd_17, ti_ag9, ti_fl97_1, ti_hb56, ti_hb57, ti_hb58, ti_hb59, ti_hb60, ti_hb61, ti_pl97, ti_sb32, ti_sl32, ti_sl43, ti_st9, ti_zr97, hb', in_17] at hF
    subst hF
    repeat' (first | with_reducible (first | refine And.intro ?_ ?_ | intro _ | refine AWp_seq ?_ | refine AWp_block ?_ | (refine hKv _ _ (AWp_nop ?_); clear hKv Kv) | (refine hKA ?_; clear hKA hKB KA KB) | (refine hKB ?_; clear hKA hKB KA KB) | refine AWp_skipN ?_ | refine AWp_exitO (by repeat (first | exact Out.hit | apply Out.thenA | apply Out.out rfl)) ?_) | (with_reducible (first | (refine hKv _ _ ?_; clear hKv Kv) | ((first | refine AWp_regC mu_17 ks_17 ?_ | refine AWp_draw nd_17 mu_17 ks_17 ti_mixed (by kernel_rfl) ?_ | refine AWp_regE mu_17 ks_17 ?_ | refine AWp_drawE nd_17 mu_17 ks_17 ti_mixed (by kernel_rfl) ?_); intro Kv hKv) | refine AWp_retR ?_); try simp (dsimp := false) only [go_sem, Nat.reduceAdd, Nat.reduceBEq, Nat.reduceEqDiff, Nat.reduceLT, Nat.reduceLeDiff, Nat.reduceMul, Int.reduceToNat, reduceCtorEq, ↓reduceIte, Tryd.ntmps17, Tryd.results17, ks_17, mu_17, nd_17, ti_ag9, ti_fl97_1, ti_hb56, ti_hb57, ti_hb58, ti_hb59, ti_hb60, ti_hb61, ti_pl97, ti_sb32, ti_sl32, ti_sl43, ti_st9, ti_zr97, hb']) | (refine AWp_condC rfl ?_; intro KA KB hKA hKB; try simp only [onB_true, onB_false, onB_dec, onB_ndec, onB_not, onB_and, onB_or]) | (refine AWp_condA rfl ?_ ?_) | with_reducible (first | refine onB_of ?_ ?_ | rfl) | omega)
    all_goals first
      | omega
      | exact keepFz hk (Fz_tu2 (.nil _) (.same _)) (by simp [Bel_tu, Bel_d])
  have hb' : ((4000 : Int) < (s.length : Int)) = False := eq_false (by omega)
  have hs6 : s.length ≤ 1000000 := by omega
  have hd0 : s.drop 0 = s := List.drop_zero
  cases hp : [60].isPrefixOf s with
  | false =>
    have hm := fun K hk => missing_A s [60] 0 hs6 (Nat.zero_le _) (by decide) (by rw [hd0]; exact hp) H K hk
    have hb0 := fun K hk => begins_A s [60] 0 hs6 (Nat.zero_le _) (by decide) H K hk
    rw [parseT, if_neg hbig, if_pos hp] at hk
    rw [hd0] at hm hb0
    rw [hp] at hb0
    refine ACalls_of Tryd.func17 rfl in_17 (Nat.le_of_ble_eq_true rfl) ?_
    intro F hF
    simp (dsimp := false) only [go_sem, Nat.reduceAdd, Nat.reduceBEq, Nat.reduceEqDiff, Nat.reduceLT, Nat.reduceLeDiff, Nat.reduceMul, Int.reduceToNat, reduceCtorEq, ↓reduceIte, Tryd.ntmps17, Tryd.results17, ks_17, mu_17, nd_17, ti_ag9, ti_fl97_1, ti_hb56, ti_hb57, ti_hb58, ti_hb59, ti_hb60, ti_hb61, ti_pl97, ti_sb32, ti_sl32, ti_sl43, ti_st9, ti_zr97, hb', not_true_eq_false, not_false_eq_true, and_self, Bool.true_and, Bool.and_true, Bool.and_false, and_false, Int.reduceEq, Int.reduceLT, Int.reduceLE, Nat.zero_add, in_17] at hF
    subst hF
    repeat' (first | with_reducible (first | refine And.intro ?_ ?_ | intro _ | refine AWp_seq ?_ | refine AWp_block ?_ | (refine hKv _ _ (AWp_nop ?_); clear hKv Kv) | (refine hKA ?_; clear hKA hKB KA KB) | (refine hKB ?_; clear hKA hKB KA KB) | refine AWp_skipN ?_ | refine AWp_exitO (by repeat (first | exact Out.hit | apply Out.thenA | apply Out.out rfl)) ?_) | ((first | with_reducible (first | (refine hKv _ _ ?_; clear hKv Kv) | ((first | refine AWp_regC mu_17 ks_17 ?_ | refine AWp_draw nd_17 mu_17 ks_17 ti_mixed (by kernel_rfl) ?_ | refine AWp_regE mu_17 ks_17 ?_ | refine AWp_drawE nd_17 mu_17 ks_17 ti_mixed (by kernel_rfl) ?_); intro Kv hKv) | refine AWp_retR ?_) | refine hb0 _ ?_ | refine QCall_of (hb0 _ (Two_intro _ _)) ?_ | refine hm _ ?_ | refine QCall_of (hm _ (Two_intro _ _)) ?_); try simp (dsimp := false) only [go_sem, Nat.reduceAdd, Nat.reduceBEq, Nat.reduceEqDiff, Nat.reduceLT, Nat.reduceLeDiff, Nat.reduceMul, Int.reduceToNat, reduceCtorEq, ↓reduceIte, Tryd.ntmps17, Tryd.results17, ks_17, mu_17, nd_17, ti_ag9, ti_fl97_1, ti_hb56, ti_hb57, ti_hb58, ti_hb59, ti_hb60, ti_hb61, ti_pl97, ti_sb32, ti_sl32, ti_sl43, ti_st9, ti_zr97, hb', not_true_eq_false, not_false_eq_true, and_self, Bool.true_and, Bool.and_true, Bool.and_false, and_false, Int.reduceEq, Int.reduceLT, Int.reduceLE, Nat.zero_add]) | (refine AWp_condC rfl ?_; intro KA KB hKA hKB; try simp only [onB_true, onB_false, onB_dec, onB_ndec, onB_not, onB_and, onB_or]) | (refine AWp_condA rfl ?_ ?_) | with_reducible (first | refine onB_of ?_ ?_ | rfl) | omega)
    all_goals first
      | omega
      | exact keepFz hk (Fz_tu2 (.nil _) (.same _)) (by simp [Bel_tu, Bel_d])
  | true =>
    have hb0 := fun K hk => begins_A s [60] 0 hs6 (Nat.zero_le _) (by decide) H K hk
    rw [hd0, hp] at hb0
    have h1 : 1 ≤ s.length := by
      have := (List.isPrefixOf_iff_prefix.1 hp).length_le
      simpa using this
    by_cases hf : (tgOf s 1 0).f = 0
    rotate_left
    · rw [parseT_bad hbig hp hf] at hk
      have hf' : ((tgOf s 1 0).f = 0) = False := eq_false hf
      refine ACalls_of Tryd.func17 rfl in_17 (Nat.le_of_ble_eq_true rfl) ?_
      intro F hF
      simp (dsimp := false) only [go_sem, Nat.reduceAdd, Nat.reduceBEq, Nat.reduceEqDiff, Nat.reduceLT, Nat.reduceLeDiff, Nat.reduceMul, Int.reduceToNat, reduceCtorEq, ↓reduceIte, Tryd.ntmps17, Tryd.results17, ks_17, mu_17, nd_17, ti_ag9, ti_fl97_1, ti_hb56, ti_hb57, ti_hb58, ti_hb59, ti_hb60, ti_hb61, ti_pl97, ti_sb32, ti_sl32, ti_sl43, ti_st9, ti_zr97, hb', hf', not_true_eq_false, not_false_eq_true, and_self, Bool.true_and, Bool.and_true, Bool.and_false, and_false, Int.reduceEq, Int.reduceLT, Int.reduceLE, Nat.zero_add, in_17] at hF
      subst hF
      repeat' (first | with_reducible (first | refine And.intro ?_ ?_ | intro _ | refine AWp_seq ?_ | refine AWp_block ?_ | (refine hKv _ _ (AWp_nop ?_); clear hKv Kv) | (refine hKA ?_; clear hKA hKB KA KB) | (refine hKB ?_; clear hKA hKB KA KB) | refine AWp_skipN ?_ | refine AWp_exitO (by repeat (first | exact Out.hit | apply Out.thenA | apply Out.out rfl)) ?_) | ((first | with_reducible (first | (refine hKv _ _ ?_; clear hKv Kv) | ((first | refine AWp_regC mu_17 ks_17 ?_ | refine AWp_draw nd_17 mu_17 ks_17 ti_mixed (by kernel_rfl) ?_ | refine AWp_regE mu_17 ks_17 ?_ | refine AWp_drawE nd_17 mu_17 ks_17 ti_mixed (by kernel_rfl) ?_); intro Kv hKv) | refine AWp_retR ?_) | refine hb0 _ ?_ | refine QCall_of (hb0 _ (Two_intro _ _)) ?_ | refine tagFrom_bad s 1 hs6 h1 hf _ _ ?_ | refine QCall_of (tagFrom_bad s 1 hs6 h1 hf _ _ (Two_intro _ _)) ?_); try simp (dsimp := false) only [go_sem, Nat.reduceAdd, Nat.reduceBEq, Nat.reduceEqDiff, Nat.reduceLT, Nat.reduceLeDiff, Nat.reduceMul, Int.reduceToNat, reduceCtorEq, ↓reduceIte, Tryd.ntmps17, Tryd.results17, ks_17, mu_17, nd_17, ti_ag9, ti_fl97_1, ti_hb56, ti_hb57, ti_hb58, ti_hb59, ti_hb60, ti_hb61, ti_pl97, ti_sb32, ti_sl32, ti_sl43, ti_st9, ti_zr97, hb', hf', not_true_eq_false, not_false_eq_true, and_self, Bool.true_and, Bool.and_true, Bool.and_false, and_false, Int.reduceEq, Int.reduceLT, Int.reduceLE, Nat.zero_add]) | (refine AWp_condC rfl ?_; intro KA KB hKA hKB; try simp only [onB_true, onB_false, onB_dec, onB_ndec, onB_not, onB_and, onB_or]) | (refine AWp_condA rfl ?_ ?_) | with_reducible (first | refine onB_of ?_ ?_ | rfl) | omega)
      all_goals first
        | omega
        | exact keepFz hk (Fz_tu2 (.nil _) (.same _)) (by simp [Bel_tu, Bel_d])
    rw [parseT_tag hbig hp hf] at hk
    have hB : (s.length + 1) * (s.length + 4) ≤ 500000000 := Nat.le_trans (Nat.mul_le_mul (show s.length + 1 ≤ 4001 by omega) (show s.length + 4 ≤ 4004 by omega)) (by decide)
    obtain ⟨r, r1, r2, r3⟩ := tgOf_evs s 1 0 h1
    have hTn := tgOf_le (f := 0) h1
    have hTf := tgOf_few (s := s) (at_ := 1) (f := 0) hf
    have hTt := tgOf_thin (s := s) (at_ := 1) (f := 0)
    have hTok := fun H K hk => tagFromO_ok s 1 hs6 h1 hf H K hk
    generalize tgOf s 1 0 = T at *
    generalize (s.drop 1).take (nmN s 1 0) = nm at *
    have hCt := ctOf_thin (F := s.length + 1) (ns := if T.c = true then [] else [nm]) (s := s) (at_ := 1 + T.n) (f := 0)
    have hCf := ctOf_few (F := s.length + 1) (ns := if T.c = true then [] else [nm]) (s := s) (at_ := 1 + T.n) (f := 0)
    have hCl := ctOf_le (F := s.length + 1) (ns := if T.c = true then [] else [nm]) (f := 0) hTn
    have hI : CtOk s (ctOf (s.length + 1) (if T.c = true then [] else [nm]) s (1 + T.n) 0) (1 + T.n) 500000000 ⟨1 + T.n, 0, [], if T.c = true then [] else [nm], 0, s.length + 1⟩ := by
      refine ⟨hTn, fun _ => ?_, fun h => absurd rfl h, by simpa using hB, ?_⟩
      · rw [ctOf, if_pos rfl]
        exact ⟨rfl, rfl, rfl, by show s.length - (1 + T.n) < s.length + 1; omega⟩
      · simp only []
        split <;> simp only [List.length_cons, List.length_nil] <;> omega
    generalize hC : ctOf (s.length + 1) (if T.c = true then [] else [nm]) s (1 + T.n) 0 = C at *
    have hTl : T.evs.length ≤ s.length + 4 := by rw [r1, List.length_cons]; omega
    have hln : ∀ l : List Ev, (l.map evR).length = l.length := fun l => List.length_map ..
    have hlnD : ∀ l : List Ev, (l.map evD).length = l.length := fun l => List.length_map ..
    have hbl : ∀ (G : Heap) (v w : Nat) (l : List Ev) (ns : List (List UInt8)), Closed H (H ++ [.row v 97 3 (l.map evR), .row w 9 1 (ns.map strC)]) := fun G v w l ns => closed_app fun ob hob => by
      rcases List.mem_cons.1 hob with rfl | hob
      · exact obBel_evs _ _ _
      · rw [List.mem_singleton.1 hob]
        exact obBel_map (fun s : List UInt8 => [D.s s]) _ _ _ 1 _
    have kE : C.f ≠ 0 → K (.tu [.d (.sl 3 []), .d (.i .i64 C.f)]) H := fun h => by
      rw [endT, if_pos h] at hk
      exact hk
    have loop : ∀ (v w : Nat) (ns : List (List UInt8)), ns = (if T.c = true then [] else [nm]) → CtOk s C (1 + T.n) 500000000 ⟨1 + T.n, 0, [], ns, w, s.length + 1⟩ := fun v w ns h => by
      subst h
      exact ⟨hI.h2, hI.h3, hI.h4, hI.h5, hI.h6⟩
    have hidx : (H.length + 1 = H.length) = False := eq_false (by omega)
    cases hc : T.c with
    | true =>
      have hC0 : C = ⟨[], 0, 0⟩ := by
        rw [← hC, hc, ctOf, if_pos rfl]; rfl
      rw [hC0] at hk
      simp only [List.append_nil, Nat.add_zero] at hk
      have hSh : ¬ 1 + T.n < s.length → EvSh T.evs := fun _ => ⟨by omega, fun x hx => by have := hTt x hx; exact Nat.le_trans (Nat.add_le_add this.1 this.2) (by omega)⟩
      refine ACalls_of Tryd.func17 rfl in_17 (Nat.le_of_ble_eq_true rfl) ?_
      intro F hF
      simp (dsimp := false) only [go_sem, Nat.reduceAdd, Nat.reduceBEq, Nat.reduceEqDiff, Nat.reduceLT, Nat.reduceLeDiff, Nat.reduceMul, Int.reduceToNat, reduceCtorEq, ↓reduceIte, Tryd.ntmps17, Tryd.results17, ks_17, mu_17, nd_17, ti_ag9, ti_fl97_1, ti_hb56, ti_hb57, ti_hb58, ti_hb59, ti_hb60, ti_hb61, ti_pl97, ti_sb32, ti_sl32, ti_sl43, ti_st9, ti_zr97, hln, evR_app, strC_app, not_true_eq_false, not_false_eq_true, and_self, Bool.true_and, Bool.and_true, Bool.and_false, and_false, Int.reduceEq, Int.reduceLT, Int.reduceLE, Nat.zero_add, hb', hf, hc, in_17] at hF
      subst hF
      repeat' (first | with_reducible (first | refine And.intro ?_ ?_ | intro _ | refine AWp_seq ?_ | refine AWp_block ?_ | (refine hKv _ _ (AWp_nop ?_); clear hKv Kv) | (refine hKA ?_; clear hKA hKB KA KB) | (refine hKB ?_; clear hKA hKB KA KB) | refine AWp_skipN ?_ | refine AWp_exitO (by repeat (first | exact Out.hit | apply Out.thenA | apply Out.out rfl)) ?_) | ((first | with_reducible (first | (refine hKv _ _ ?_; clear hKv Kv) | ((first | refine AWp_regC mu_17 ks_17 ?_ | refine AWp_draw nd_17 mu_17 ks_17 ti_mixed (by kernel_rfl) ?_ | refine AWp_regE mu_17 ks_17 ?_ | refine AWp_drawE nd_17 mu_17 ks_17 ti_mixed (by kernel_rfl) ?_); intro Kv hKv) | refine AWp_retR ?_) | refine hb0 _ ?_ | refine QCall_of (hb0 _ (Two_intro _ _)) ?_ | refine hTok _ _ ?_ | refine QCall_of (hTok _ _ (Two_intro _ _)) ?_); try simp (dsimp := false) only [go_sem, Nat.reduceAdd, Nat.reduceBEq, Nat.reduceEqDiff, Nat.reduceLT, Nat.reduceLeDiff, Nat.reduceMul, Int.reduceToNat, reduceCtorEq, ↓reduceIte, Tryd.ntmps17, Tryd.results17, ks_17, mu_17, nd_17, ti_ag9, ti_fl97_1, ti_hb56, ti_hb57, ti_hb58, ti_hb59, ti_hb60, ti_hb61, ti_pl97, ti_sb32, ti_sl32, ti_sl43, ti_st9, ti_zr97, hln, evR_app, strC_app, not_true_eq_false, not_false_eq_true, and_self, Bool.true_and, Bool.and_true, Bool.and_false, and_false, Int.reduceEq, Int.reduceLT, Int.reduceLE, Nat.zero_add, hb', hf, hc]) | (refine AWp_condC rfl ?_; intro KA KB hKA hKB; try simp only [onB_true, onB_false, onB_dec, onB_ndec, onB_not, onB_and, onB_or]) | (refine AWp_condA rfl ?_ ?_) | with_reducible (first | refine onB_of ?_ ?_ | rfl) | omega)
      rename_i v
      refine AWp_whileP (fun _ : Unit => True) (fun _ => [(0, .d (.s s)), (4, .os H.length v), (5, .d (.i .i64 ((1 + T.n : Nat) : Int))), (8, .os (H.length + 1) 0)]) (fun _ => H ++ [.row v 97 3 (T.evs.map evR), .row 0 9 1 []]) (fun _ => 0) () trivial ?_ ?_ ?_ ?_ ?_
      · first | rfl | (simp; done)
      · simp (dsimp := false) only [go_sem, Nat.reduceAdd, Nat.reduceBEq, Nat.reduceEqDiff, Nat.reduceLT, Nat.reduceLeDiff, Nat.reduceMul, Int.reduceToNat, reduceCtorEq, ↓reduceIte, Tryd.ntmps17, Tryd.results17, ks_17, mu_17, nd_17, ti_ag9, ti_fl97_1, ti_hb56, ti_hb57, ti_hb58, ti_hb59, ti_hb60, ti_hb61, ti_pl97, ti_sb32, ti_sl32, ti_sl43, ti_st9, ti_zr97, hln, evR_app, strC_app, not_true_eq_false, not_false_eq_true, and_self, Bool.true_and, Bool.and_true, Bool.and_false, and_false, Int.reduceEq, Int.reduceLT, Int.reduceLE, Nat.zero_add, hb', hf, hc]
        first | done | (simp; done) | (simp; omega)
      · intro y _
        simp
      · intro y _
        exact hbl [] _ _ _ []
      rintro ⟨⟩ _
      have hE := hk
      have hz0 : ((0 : Int) < ((0 : Nat) : Int)) = False := eq_false (by decide)
      by_cases hlt : 1 + T.n < s.length
      · have hlt' : (((1 + T.n : Nat) : Int) < (s.length : Int)) = True := eq_true (by omega)
        rw [endT, if_neg (by decide), if_pos hlt] at hE
        repeat' (first | with_reducible (first | refine And.intro ?_ ?_ | intro _ | refine AWp_seq ?_ | refine AWp_block ?_ | (refine hKv _ _ (AWp_nop ?_); clear hKv Kv) | (refine hKA ?_; clear hKA hKB KA KB) | (refine hKB ?_; clear hKA hKB KA KB) | refine AWp_skipN ?_ | refine AWp_exitO (by repeat (first | exact Out.hit | apply Out.thenA | apply Out.out rfl)) ?_) | (with_reducible (first | (refine hKv _ _ ?_; clear hKv Kv) | ((first | refine AWp_regC mu_17 ks_17 ?_ | refine AWp_draw nd_17 mu_17 ks_17 ti_mixed (by kernel_rfl) ?_ | refine AWp_regE mu_17 ks_17 ?_ | refine AWp_drawE nd_17 mu_17 ks_17 ti_mixed (by kernel_rfl) ?_); intro Kv hKv) | refine AWp_retR ?_); try simp (dsimp := false) only [go_sem, Nat.reduceAdd, Nat.reduceBEq, Nat.reduceEqDiff, Nat.reduceLT, Nat.reduceLeDiff, Nat.reduceMul, Int.reduceToNat, reduceCtorEq, ↓reduceIte, Tryd.ntmps17, Tryd.results17, ks_17, mu_17, nd_17, ti_ag9, ti_fl97_1, ti_hb56, ti_hb57, ti_hb58, ti_hb59, ti_hb60, ti_hb61, ti_pl97, ti_sb32, ti_sl32, ti_sl43, ti_st9, ti_zr97, hln, evR_app, strC_app, not_true_eq_false, not_false_eq_true, and_self, Bool.true_and, Bool.and_true, Bool.and_false, and_false, Int.reduceEq, Int.reduceLT, Int.reduceLE, Nat.zero_add, hz0, Int.lt_irrefl, hlt']) | (refine AWp_condC rfl ?_; intro KA KB hKA hKB; try simp only [onB_true, onB_false, onB_dec, onB_ndec, onB_not, onB_and, onB_or]) | (refine AWp_condA rfl ?_ ?_) | with_reducible (first | refine onB_of ?_ ?_ | rfl) | omega)
        all_goals first
          | omega
          | exact dropF hE (Fz_tu2 (.nil _) (.same _)) (by simp [Bel_tu, Bel_d])
      have hlt' : (((1 + T.n : Nat) : Int) < (s.length : Int)) = False := eq_false (by omega)
      have hS : EvSh (T.evs) := hSh hlt
      by_cases he : eventsFault (T.evs) = 0
      · rw [endT, if_neg (by decide), if_neg hlt, if_neg (by simpa using he)] at hE
        repeat' (first | (refine AWp_frz H.length ((get_app0 _ _).trans rfl) (evs_data (T.evs)) ?_; simp only [frz, frzV, List.map_cons, List.map_nil, set_app0, set_appk, List.set_cons_zero, List.set_cons_succ, and_self, if_true, hidx, false_and, if_false]) | with_reducible (first | refine And.intro ?_ ?_ | intro _ | refine AWp_seq ?_ | refine AWp_block ?_ | (refine hKv _ _ (AWp_nop ?_); clear hKv Kv) | (refine hKA ?_; clear hKA hKB KA KB) | (refine hKB ?_; clear hKA hKB KA KB) | refine AWp_skipN ?_ | refine AWp_exitO (by repeat (first | exact Out.hit | apply Out.thenA | apply Out.out rfl)) ?_) | ((first | with_reducible (first | (refine hKv _ _ ?_; clear hKv Kv) | ((first | refine AWp_regC mu_17 ks_17 ?_ | refine AWp_draw nd_17 mu_17 ks_17 ti_mixed (by kernel_rfl) ?_ | refine AWp_regE mu_17 ks_17 ?_ | refine AWp_drawE nd_17 mu_17 ks_17 ti_mixed (by kernel_rfl) ?_); intro Kv hKv) | refine AWp_retR ?_) | refine eventsFault_A (T.evs) hS _ _ ?_ | refine QCall_of (eventsFault_A (T.evs) hS _ _ (Two_intro _ _)) ?_); try simp (dsimp := false) only [go_sem, Nat.reduceAdd, Nat.reduceBEq, Nat.reduceEqDiff, Nat.reduceLT, Nat.reduceLeDiff, Nat.reduceMul, Int.reduceToNat, reduceCtorEq, ↓reduceIte, Tryd.ntmps17, Tryd.results17, ks_17, mu_17, nd_17, ti_ag9, ti_fl97_1, ti_hb56, ti_hb57, ti_hb58, ti_hb59, ti_hb60, ti_hb61, ti_pl97, ti_sb32, ti_sl32, ti_sl43, ti_st9, ti_zr97, hln, evR_app, strC_app, not_true_eq_false, not_false_eq_true, and_self, Bool.true_and, Bool.and_true, Bool.and_false, and_false, Int.reduceEq, Int.reduceLT, Int.reduceLE, Nat.zero_add, hz0, Int.lt_irrefl, hlt', he]) | (refine AWp_condC rfl ?_; intro KA KB hKA hKB; try simp only [onB_true, onB_false, onB_dec, onB_ndec, onB_not, onB_and, onB_or]) | (refine AWp_condA rfl ?_ ?_) | with_reducible (first | refine onB_of ?_ ?_ | rfl) | omega)
        all_goals first
          | omega
          | exact dropK hE (by simp [Bel_tu, Bel_d]) rfl
      · have he' : (eventsFault (T.evs) = 0) = False := eq_false he
        rw [endT, if_neg (by decide), if_neg hlt, if_pos he] at hE
        repeat' (first | (refine AWp_frz H.length ((get_app0 _ _).trans rfl) (evs_data (T.evs)) ?_; simp only [frz, frzV, List.map_cons, List.map_nil, set_app0, set_appk, List.set_cons_zero, List.set_cons_succ, and_self, if_true, hidx, false_and, if_false]) | with_reducible (first | refine And.intro ?_ ?_ | intro _ | refine AWp_seq ?_ | refine AWp_block ?_ | (refine hKv _ _ (AWp_nop ?_); clear hKv Kv) | (refine hKA ?_; clear hKA hKB KA KB) | (refine hKB ?_; clear hKA hKB KA KB) | refine AWp_skipN ?_ | refine AWp_exitO (by repeat (first | exact Out.hit | apply Out.thenA | apply Out.out rfl)) ?_) | ((first | with_reducible (first | (refine hKv _ _ ?_; clear hKv Kv) | ((first | refine AWp_regC mu_17 ks_17 ?_ | refine AWp_draw nd_17 mu_17 ks_17 ti_mixed (by kernel_rfl) ?_ | refine AWp_regE mu_17 ks_17 ?_ | refine AWp_drawE nd_17 mu_17 ks_17 ti_mixed (by kernel_rfl) ?_); intro Kv hKv) | refine AWp_retR ?_) | refine eventsFault_A (T.evs) hS _ _ ?_ | refine QCall_of (eventsFault_A (T.evs) hS _ _ (Two_intro _ _)) ?_); try simp (dsimp := false) only [go_sem, Nat.reduceAdd, Nat.reduceBEq, Nat.reduceEqDiff, Nat.reduceLT, Nat.reduceLeDiff, Nat.reduceMul, Int.reduceToNat, reduceCtorEq, ↓reduceIte, Tryd.ntmps17, Tryd.results17, ks_17, mu_17, nd_17, ti_ag9, ti_fl97_1, ti_hb56, ti_hb57, ti_hb58, ti_hb59, ti_hb60, ti_hb61, ti_pl97, ti_sb32, ti_sl32, ti_sl43, ti_st9, ti_zr97, hln, evR_app, strC_app, not_true_eq_false, not_false_eq_true, and_self, Bool.true_and, Bool.and_true, Bool.and_false, and_false, Int.reduceEq, Int.reduceLT, Int.reduceLE, Nat.zero_add, hz0, Int.lt_irrefl, hlt', he']) | (refine AWp_condC rfl ?_; intro KA KB hKA hKB; try simp only [onB_true, onB_false, onB_dec, onB_ndec, onB_not, onB_and, onB_or]) | (refine AWp_condA rfl ?_ ?_) | with_reducible (first | refine onB_of ?_ ?_ | rfl) | omega)
        all_goals first
          | omega
          | exact dropF hE (Fz_tu2 (.nil _) (.same _)) (by simp [Bel_tu, Bel_d])
    | false =>
      have h0l : ((0 : Int) < ((r.length + 1 : Nat) : Int)) = True := eq_true (by omega)
      refine ACalls_of Tryd.func17 rfl in_17 (Nat.le_of_ble_eq_true rfl) ?_
      intro F hF
      simp (dsimp := false) only [go_sem, Nat.reduceAdd, Nat.reduceBEq, Nat.reduceEqDiff, Nat.reduceLT, Nat.reduceLeDiff, Nat.reduceMul, Int.reduceToNat, reduceCtorEq, ↓reduceIte, Tryd.ntmps17, Tryd.results17, ks_17, mu_17, nd_17, ti_ag9, ti_fl97_1, ti_hb56, ti_hb57, ti_hb58, ti_hb59, ti_hb60, ti_hb61, ti_pl97, ti_sb32, ti_sl32, ti_sl43, ti_st9, ti_zr97, hln, evR_app, strC_app, not_true_eq_false, not_false_eq_true, and_self, Bool.true_and, Bool.and_true, Bool.and_false, and_false, Int.reduceEq, Int.reduceLT, Int.reduceLE, Nat.zero_add, hb', hf, hc, r1, evR, List.map_cons, in_17] at hF
      subst hF
      repeat' (first | with_reducible (first | refine And.intro ?_ ?_ | intro _ | refine AWp_seq ?_ | refine AWp_block ?_ | (refine hKv _ _ (AWp_nop ?_); clear hKv Kv) | (refine hKA ?_; clear hKA hKB KA KB) | (refine hKB ?_; clear hKA hKB KA KB) | refine AWp_skipN ?_ | refine AWp_exitO (by repeat (first | exact Out.hit | apply Out.thenA | apply Out.out rfl)) ?_) | ((first | with_reducible (first | (refine hKv _ _ ?_; clear hKv Kv) | ((first | refine AWp_regC mu_17 ks_17 ?_ | refine AWp_draw nd_17 mu_17 ks_17 ti_mixed (by kernel_rfl) ?_ | refine AWp_regE mu_17 ks_17 ?_ | refine AWp_drawE nd_17 mu_17 ks_17 ti_mixed (by kernel_rfl) ?_); intro Kv hKv) | refine AWp_retR ?_) | refine hb0 _ ?_ | refine QCall_of (hb0 _ (Two_intro _ _)) ?_ | refine hTok _ _ ?_ | refine QCall_of (hTok _ _ (Two_intro _ _)) ?_); try simp (dsimp := false) only [go_sem, Nat.reduceAdd, Nat.reduceBEq, Nat.reduceEqDiff, Nat.reduceLT, Nat.reduceLeDiff, Nat.reduceMul, Int.reduceToNat, reduceCtorEq, ↓reduceIte, Tryd.ntmps17, Tryd.results17, ks_17, mu_17, nd_17, ti_ag9, ti_fl97_1, ti_hb56, ti_hb57, ti_hb58, ti_hb59, ti_hb60, ti_hb61, ti_pl97, ti_sb32, ti_sl32, ti_sl43, ti_st9, ti_zr97, hln, evR_app, strC_app, not_true_eq_false, not_false_eq_true, and_self, Bool.true_and, Bool.and_true, Bool.and_false, and_false, Int.reduceEq, Int.reduceLT, Int.reduceLE, Nat.zero_add, hb', hf, hc, r1, evR, List.map_cons]) | (refine AWp_condC rfl ?_; intro KA KB hKA hKB; try simp only [onB_true, onB_false, onB_dec, onB_ndec, onB_not, onB_and, onB_or]) | (refine AWp_condA rfl ?_ ?_) | with_reducible (first | refine onB_of ?_ ?_ | rfl) | omega)
      rename_i v
      refine AWp_whileP (fun y : Cy × Nat => CtOk s C (1 + T.n) 500000000 y.1 ∧ y.1.f = 0) (fun y => [(0, .d (.s s)), (4, .os H.length y.2), (5, .d (.i .i64 y.1.i)), (8, .os (H.length + 1) y.1.w)]) (fun y => H ++ [.row y.2 97 3 ((T.evs ++ y.1.acc).map evR), .row y.1.w 9 1 (y.1.ns.map strC)]) (fun y => y.1.fuel) (⟨1 + T.n, 0, [], [nm], 1, s.length + 1⟩, v) ⟨loop v 1 [nm] (by rw [hc]; rfl), rfl⟩ ?_ ?_ ?_ ?_ ?_
      · first | rfl | (simp [strC, r1, evR]; done)
      · simp (dsimp := false) only [go_sem, Nat.reduceAdd, Nat.reduceBEq, Nat.reduceEqDiff, Nat.reduceLT, Nat.reduceLeDiff, Nat.reduceMul, Int.reduceToNat, reduceCtorEq, ↓reduceIte, Tryd.ntmps17, Tryd.results17, ks_17, mu_17, nd_17, ti_ag9, ti_fl97_1, ti_hb56, ti_hb57, ti_hb58, ti_hb59, ti_hb60, ti_hb61, ti_pl97, ti_sb32, ti_sl32, ti_sl43, ti_st9, ti_zr97, hln, evR_app, strC_app, not_true_eq_false, not_false_eq_true, and_self, Bool.true_and, Bool.and_true, Bool.and_false, and_false, Int.reduceEq, Int.reduceLT, Int.reduceLE, Nat.zero_add, hb', hf, hc, r1, evR, List.map_cons]
        first | done | (simp; done) | (simp; omega)
      · intro y _
        simp
      · intro y _
        exact hbl [] _ _ _ _
      rintro ⟨⟨i, g, acc, N, w, fuel⟩, v⟩ ⟨hy, hg⟩
      simp only [] at hg
      subst hg
      have y2 : i ≤ s.length := hy.h2
      have y5 : acc.length + fuel * (s.length + 4) ≤ 500000000 := hy.h5
      have y6 : N.length + fuel ≤ 500000000 := hy.h6
      simp only [] at ⊢
      obtain ⟨fl, rfl⟩ := hy.unf
      have ii0 : ((0 : Int) ≤ (i : Int)) = True := eq_true (by omega)
      have hcl := fun v w l ns => hbl [] v w l ns
      rcases List.eq_nil_or_concat N with rfl | ⟨ns, o, hNs⟩
      · obtain ⟨k1, k2, k3⟩ := hy.fin
        have hE := hk
        rw [← k1, k3, ← k2] at hE
        have hSh : ¬ i < s.length → EvSh (T.evs ++ acc) := fun hlt => ⟨by have := hCf k3; rw [← k1] at this; have := hCl k3; rw [List.length_append]; omega, fun x hx => by have : Thin s.length x := (List.mem_append.1 hx).elim (hTt x) (fun h => hCt x (by rw [← k1]; exact h)); exact Nat.le_trans (Nat.add_le_add this.1 this.2) (by omega)⟩
        have hz0 : ((0 : Int) < ((0 : Nat) : Int)) = False := eq_false (by decide)
        by_cases hlt : i < s.length
        · have hlt' : (((i : Nat) : Int) < (s.length : Int)) = True := eq_true (by omega)
          rw [endT, if_neg (by decide), if_pos hlt] at hE
          repeat' (first | with_reducible (first | refine And.intro ?_ ?_ | intro _ | refine AWp_seq ?_ | refine AWp_block ?_ | (refine hKv _ _ (AWp_nop ?_); clear hKv Kv) | (refine hKA ?_; clear hKA hKB KA KB) | (refine hKB ?_; clear hKA hKB KA KB) | refine AWp_skipN ?_ | refine AWp_exitO (by repeat (first | exact Out.hit | apply Out.thenA | apply Out.out rfl)) ?_) | (with_reducible (first | (refine hKv _ _ ?_; clear hKv Kv) | ((first | refine AWp_regC mu_17 ks_17 ?_ | refine AWp_draw nd_17 mu_17 ks_17 ti_mixed (by kernel_rfl) ?_ | refine AWp_regE mu_17 ks_17 ?_ | refine AWp_drawE nd_17 mu_17 ks_17 ti_mixed (by kernel_rfl) ?_); intro Kv hKv) | refine AWp_retR ?_); try simp (dsimp := false) only [go_sem, Nat.reduceAdd, Nat.reduceBEq, Nat.reduceEqDiff, Nat.reduceLT, Nat.reduceLeDiff, Nat.reduceMul, Int.reduceToNat, reduceCtorEq, ↓reduceIte, Tryd.ntmps17, Tryd.results17, ks_17, mu_17, nd_17, ti_ag9, ti_fl97_1, ti_hb56, ti_hb57, ti_hb58, ti_hb59, ti_hb60, ti_hb61, ti_pl97, ti_sb32, ti_sl32, ti_sl43, ti_st9, ti_zr97, hln, evR_app, strC_app, not_true_eq_false, not_false_eq_true, and_self, Bool.true_and, Bool.and_true, Bool.and_false, and_false, Int.reduceEq, Int.reduceLT, Int.reduceLE, Nat.zero_add, hz0, List.map_nil, Int.lt_irrefl, hlt']) | (refine AWp_condC rfl ?_; intro KA KB hKA hKB; try simp only [onB_true, onB_false, onB_dec, onB_ndec, onB_not, onB_and, onB_or]) | (refine AWp_condA rfl ?_ ?_) | with_reducible (first | refine onB_of ?_ ?_ | rfl) | omega)
          all_goals first
            | omega
            | exact dropF hE (Fz_tu2 (.nil _) (.same _)) (by simp [Bel_tu, Bel_d])
        have hlt' : (((i : Nat) : Int) < (s.length : Int)) = False := eq_false (by omega)
        have hS : EvSh (T.evs ++ acc) := hSh hlt
        by_cases he : eventsFault (T.evs ++ acc) = 0
        · rw [endT, if_neg (by decide), if_neg hlt, if_neg (by simpa using he)] at hE
          repeat' (first | (refine AWp_frz H.length ((get_app0 _ _).trans rfl) (evs_data (T.evs ++ acc)) ?_; simp only [frz, frzV, List.map_cons, List.map_nil, set_app0, set_appk, List.set_cons_zero, List.set_cons_succ, and_self, if_true, hidx, false_and, if_false]) | with_reducible (first | refine And.intro ?_ ?_ | intro _ | refine AWp_seq ?_ | refine AWp_block ?_ | (refine hKv _ _ (AWp_nop ?_); clear hKv Kv) | (refine hKA ?_; clear hKA hKB KA KB) | (refine hKB ?_; clear hKA hKB KA KB) | refine AWp_skipN ?_ | refine AWp_exitO (by repeat (first | exact Out.hit | apply Out.thenA | apply Out.out rfl)) ?_) | ((first | with_reducible (first | (refine hKv _ _ ?_; clear hKv Kv) | ((first | refine AWp_regC mu_17 ks_17 ?_ | refine AWp_draw nd_17 mu_17 ks_17 ti_mixed (by kernel_rfl) ?_ | refine AWp_regE mu_17 ks_17 ?_ | refine AWp_drawE nd_17 mu_17 ks_17 ti_mixed (by kernel_rfl) ?_); intro Kv hKv) | refine AWp_retR ?_) | refine eventsFault_A (T.evs ++ acc) hS _ _ ?_ | refine QCall_of (eventsFault_A (T.evs ++ acc) hS _ _ (Two_intro _ _)) ?_); try simp (dsimp := false) only [go_sem, Nat.reduceAdd, Nat.reduceBEq, Nat.reduceEqDiff, Nat.reduceLT, Nat.reduceLeDiff, Nat.reduceMul, Int.reduceToNat, reduceCtorEq, ↓reduceIte, Tryd.ntmps17, Tryd.results17, ks_17, mu_17, nd_17, ti_ag9, ti_fl97_1, ti_hb56, ti_hb57, ti_hb58, ti_hb59, ti_hb60, ti_hb61, ti_pl97, ti_sb32, ti_sl32, ti_sl43, ti_st9, ti_zr97, hln, evR_app, strC_app, not_true_eq_false, not_false_eq_true, and_self, Bool.true_and, Bool.and_true, Bool.and_false, and_false, Int.reduceEq, Int.reduceLT, Int.reduceLE, Nat.zero_add, hz0, List.map_nil, Int.lt_irrefl, hlt', he]) | (refine AWp_condC rfl ?_; intro KA KB hKA hKB; try simp only [onB_true, onB_false, onB_dec, onB_ndec, onB_not, onB_and, onB_or]) | (refine AWp_condA rfl ?_ ?_) | with_reducible (first | refine onB_of ?_ ?_ | rfl) | omega)
          all_goals first
            | omega
            | exact dropK hE (by simp [Bel_tu, Bel_d]) rfl
        · have he' : (eventsFault (T.evs ++ acc) = 0) = False := eq_false he
          rw [endT, if_neg (by decide), if_neg hlt, if_pos he] at hE
          repeat' (first | (refine AWp_frz H.length ((get_app0 _ _).trans rfl) (evs_data (T.evs ++ acc)) ?_; simp only [frz, frzV, List.map_cons, List.map_nil, set_app0, set_appk, List.set_cons_zero, List.set_cons_succ, and_self, if_true, hidx, false_and, if_false]) | with_reducible (first | refine And.intro ?_ ?_ | intro _ | refine AWp_seq ?_ | refine AWp_block ?_ | (refine hKv _ _ (AWp_nop ?_); clear hKv Kv) | (refine hKA ?_; clear hKA hKB KA KB) | (refine hKB ?_; clear hKA hKB KA KB) | refine AWp_skipN ?_ | refine AWp_exitO (by repeat (first | exact Out.hit | apply Out.thenA | apply Out.out rfl)) ?_) | ((first | with_reducible (first | (refine hKv _ _ ?_; clear hKv Kv) | ((first | refine AWp_regC mu_17 ks_17 ?_ | refine AWp_draw nd_17 mu_17 ks_17 ti_mixed (by kernel_rfl) ?_ | refine AWp_regE mu_17 ks_17 ?_ | refine AWp_drawE nd_17 mu_17 ks_17 ti_mixed (by kernel_rfl) ?_); intro Kv hKv) | refine AWp_retR ?_) | refine eventsFault_A (T.evs ++ acc) hS _ _ ?_ | refine QCall_of (eventsFault_A (T.evs ++ acc) hS _ _ (Two_intro _ _)) ?_); try simp (dsimp := false) only [go_sem, Nat.reduceAdd, Nat.reduceBEq, Nat.reduceEqDiff, Nat.reduceLT, Nat.reduceLeDiff, Nat.reduceMul, Int.reduceToNat, reduceCtorEq, ↓reduceIte, Tryd.ntmps17, Tryd.results17, ks_17, mu_17, nd_17, ti_ag9, ti_fl97_1, ti_hb56, ti_hb57, ti_hb58, ti_hb59, ti_hb60, ti_hb61, ti_pl97, ti_sb32, ti_sl32, ti_sl43, ti_st9, ti_zr97, hln, evR_app, strC_app, not_true_eq_false, not_false_eq_true, and_self, Bool.true_and, Bool.and_true, Bool.and_false, and_false, Int.reduceEq, Int.reduceLT, Int.reduceLE, Nat.zero_add, hz0, List.map_nil, Int.lt_irrefl, hlt', he']) | (refine AWp_condC rfl ?_; intro KA KB hKA hKB; try simp only [onB_true, onB_false, onB_dec, onB_ndec, onB_not, onB_and, onB_or]) | (refine AWp_condA rfl ?_ ?_) | with_reducible (first | refine onB_of ?_ ?_ | rfl) | omega)
          all_goals first
            | omega
            | exact dropF hE (Fz_tu2 (.nil _) (.same _)) (by simp [Bel_tu, Bel_d])
      · rw [List.concat_eq_append] at hNs
        subst hNs
        have hbnd := hy.bnd
        have hcmt := fun p j => hy.cmt (w' := w) p (j := j)
        have hcmt0 := hy.cmt0
        have hend := fun a p0 p => hy.end_ (w' := w + 1) a p0 p
        have htag := fun w' a p0 p1 p => hy.tag (w' := w') a p0 p1 p
        have htext := fun p0 p1 p hf => hy.text (w' := w) p0 p1 p hf
        have htext0 := fun p0 p1 p hf => hy.text0 (w' := w) p0 p1 p hf
        have hNl : (ns ++ [o]).length = ns.length + 1 := by simp
        have hNg : (ns ++ [o])[ns.length]? = some o := by simp
        have hNt : List.take ns.length ((ns ++ [o]).map strC) = ns.map strC := by rw [← List.map_take]; simp
        generalize ns ++ [o] = N at *
        have hN0 : ((0 : Int) < (N.length : Int)) = True := eq_true (by omega)
        have hpos : ∀ {p : List UInt8}, p.isPrefixOf (s.drop i) = true → p.length ≤ s.length - i := fun h => pfx_len h
        have hTa : (T.evs ++ acc).length = T.evs.length + acc.length := List.length_append ..
        cases p0 : [60, 33, 45, 45].isPrefixOf (s.drop i) with
        | true =>
          have hq := hpos p0
          simp only [List.length_cons, List.length_nil] at hq
          have ec4 : (i : Int) + 4 = ((i + 4 : Nat) : Int) := by omega
          repeat' (first | with_reducible (first | refine And.intro ?_ ?_ | intro _ | refine AWp_seq ?_ | refine AWp_block ?_ | (refine hKv _ _ (AWp_nop ?_); clear hKv Kv) | (refine hKA ?_; clear hKA hKB KA KB) | (refine hKB ?_; clear hKA hKB KA KB) | refine AWp_skipN ?_ | refine AWp_exitO (by repeat (first | exact Out.hit | apply Out.thenA | apply Out.out rfl)) ?_) | ((first | with_reducible (first | (refine hKv _ _ ?_; clear hKv Kv) | ((first | refine AWp_regC mu_17 ks_17 ?_ | refine AWp_draw nd_17 mu_17 ks_17 ti_mixed (by kernel_rfl) ?_ | refine AWp_regE mu_17 ks_17 ?_ | refine AWp_drawE nd_17 mu_17 ks_17 ti_mixed (by kernel_rfl) ?_); intro Kv hKv) | refine AWp_retR ?_) | refine begins_A s [60, 33, 45, 45] i hs6 y2 (by decide) _ _ ?_ | refine QCall_of (begins_A s [60, 33, 45, 45] i hs6 y2 (by decide) _ _ (Two_intro _ _)) ?_); try simp (dsimp := false) only [go_sem, Nat.reduceAdd, Nat.reduceBEq, Nat.reduceEqDiff, Nat.reduceLT, Nat.reduceLeDiff, Nat.reduceMul, Int.reduceToNat, reduceCtorEq, ↓reduceIte, Tryd.ntmps17, Tryd.results17, ks_17, mu_17, nd_17, ti_ag9, ti_fl97_1, ti_hb56, ti_hb57, ti_hb58, ti_hb59, ti_hb60, ti_hb61, ti_pl97, ti_sb32, ti_sl32, ti_sl43, ti_st9, ti_zr97, hln, evR_app, strC_app, not_true_eq_false, not_false_eq_true, and_self, Bool.true_and, Bool.and_true, Bool.and_false, and_false, Int.reduceEq, Int.reduceLT, Int.reduceLE, Nat.zero_add, hN0, p0, ec4]) | (refine AWp_condC rfl ?_; intro KA KB hKA hKB; try simp only [onB_true, onB_false, onB_dec, onB_ndec, onB_not, onB_and, onB_or]) | (refine AWp_condA rfl ?_ ?_) | with_reducible (first | refine onB_of ?_ ?_ | rfl) | omega)
          refine AWp_whileP (fun e : Nat => i + 4 ≤ e ∧ e ≤ s.length ∧ cmtN (s.drop (i + 4)) = (cmtN (s.drop e)).map (· + (e - (i + 4)))) (fun e => [(0, .d (.s s)), (4, .os H.length v), (5, .d (.i .i64 i)), (8, .os (H.length + 1) w), (9, .d (.i .i64 e))]) (fun _ => H ++ [.row v 97 3 ((T.evs ++ acc).map evR), .row w 9 1 (N.map strC)]) (fun e => s.length - e) (i + 4) ⟨Nat.le_refl _, by omega, by rw [Nat.sub_self]; simp⟩ ?_ ?_ ?_ ?_ ?_
          · first | rfl | (simp; done)
          · simp (dsimp := false) only [go_sem, Nat.reduceAdd, Nat.reduceBEq, Nat.reduceEqDiff, Nat.reduceLT, Nat.reduceLeDiff, Nat.reduceMul, Int.reduceToNat, reduceCtorEq, ↓reduceIte, Tryd.ntmps17, Tryd.results17, ks_17, mu_17, nd_17, ti_ag9, ti_fl97_1, ti_hb56, ti_hb57, ti_hb58, ti_hb59, ti_hb60, ti_hb61, ti_pl97, ti_sb32, ti_sl32, ti_sl43, ti_st9, ti_zr97, hln, evR_app, strC_app, not_true_eq_false, not_false_eq_true, and_self, Bool.true_and, Bool.and_true, Bool.and_false, and_false, Int.reduceEq, Int.reduceLT, Int.reduceLE, Nat.zero_add, hN0, p0, ec4]
            first | done | (simp; done) | (simp; omega)
          · intro y _
            simp
          · intro y _
            exact hcl _ _ _ _
          rintro e ⟨e1, e2, e3⟩
          have cb := fun H K hk => begins_A s [45, 45, 62] e hs6 e2 (by decide) H K hk
          by_cases hin : e < s.length
          · have hin' : ((e : Int) < (s.length : Int)) = True := eq_true (by omega)
            have hge' : ((s.length : Int) ≤ (e : Int)) = False := eq_false (by omega)
            cases pe : [45, 45, 62].isPrefixOf (s.drop e) with
            | false =>
              have e4 := cmt_step e1 hin pe e3
              repeat' (first | with_reducible (first | refine And.intro ?_ ?_ | intro _ | refine AWp_seq ?_ | refine AWp_block ?_ | (refine hKv _ _ (AWp_nop ?_); clear hKv Kv) | (refine hKA ?_; clear hKA hKB KA KB) | (refine hKB ?_; clear hKA hKB KA KB) | refine AWp_skipN ?_ | refine AWp_exitO (by repeat (first | exact Out.hit | apply Out.thenA | apply Out.out rfl)) ?_) | ((first | with_reducible (first | (refine hKv _ _ ?_; clear hKv Kv) | ((first | refine AWp_regC mu_17 ks_17 ?_ | refine AWp_draw nd_17 mu_17 ks_17 ti_mixed (by kernel_rfl) ?_ | refine AWp_regE mu_17 ks_17 ?_ | refine AWp_drawE nd_17 mu_17 ks_17 ti_mixed (by kernel_rfl) ?_); intro Kv hKv) | refine AWp_retR ?_) | refine cb _ _ ?_ | refine QCall_of (cb _ _ (Two_intro _ _)) ?_); try simp (dsimp := false) only [go_sem, Nat.reduceAdd, Nat.reduceBEq, Nat.reduceEqDiff, Nat.reduceLT, Nat.reduceLeDiff, Nat.reduceMul, Int.reduceToNat, reduceCtorEq, ↓reduceIte, Tryd.ntmps17, Tryd.results17, ks_17, mu_17, nd_17, ti_ag9, ti_fl97_1, ti_hb56, ti_hb57, ti_hb58, ti_hb59, ti_hb60, ti_hb61, ti_pl97, ti_sb32, ti_sl32, ti_sl43, ti_st9, ti_zr97, hln, evR_app, strC_app, not_true_eq_false, not_false_eq_true, and_self, Bool.true_and, Bool.and_true, Bool.and_false, and_false, Int.reduceEq, Int.reduceLT, Int.reduceLE, Nat.zero_add, hN0, hin', pe]) | (refine AWp_condC rfl ?_; intro KA KB hKA hKB; try simp only [onB_true, onB_false, onB_dec, onB_ndec, onB_not, onB_and, onB_or]) | (refine AWp_condA rfl ?_ ?_) | with_reducible (first | refine onB_of ?_ ?_ | rfl) | omega)
              all_goals first
                | omega
                | exact ⟨e + 1, ⟨by omega, by omega, e4⟩, by show s.length - (e + 1) < s.length - e; omega, by (repeat' (refine And.intro ?_ ?_)) <;> first | rfl | omega | (simp; done) | (simp; omega)⟩
            | true =>
              have hj : cmtN (s.drop (i + 4)) = some (e - (i + 4)) := by
                rw [e3, drop_of_get (List.getElem?_eq_getElem hin)]
                rw [drop_of_get (List.getElem?_eq_getElem hin)] at pe
                rw [cmtN, if_pos pe]; simp
              have hpe := pfx_len pe
              simp only [List.length_cons, List.length_nil] at hpe
              have hst := hcmt p0 _ hj
              have hcut : List.drop (i + 4) (List.take e s) = (s.drop (i + 4)).take (e - (i + 4)) := List.drop_take ..
              have z1 : (((i + 4 : Nat) : Int) ≤ (e : Int)) = True := eq_true (by omega)
              have z2 : ((e : Int) ≤ (s.length : Int)) = True := eq_true (by omega)
              have z3 : ((0 : Int) ≤ ((i + 4 : Nat) : Int)) = True := eq_true (by omega)
              have z4 : i + 4 + (e - (i + 4)) + 3 = e + 3 := by omega
              rw [z4] at hst
              have ec3 : (e : Int) + 3 = ((e + 3 : Nat) : Int) := by omega
              repeat' (first | with_reducible (first | refine And.intro ?_ ?_ | intro _ | refine AWp_seq ?_ | refine AWp_block ?_ | (refine hKv _ _ (AWp_nop ?_); clear hKv Kv) | (refine hKA ?_; clear hKA hKB KA KB) | (refine hKB ?_; clear hKA hKB KA KB) | refine AWp_skipN ?_ | refine AWp_exitO (by repeat (first | exact Out.hit | apply Out.thenA | apply Out.out rfl)) ?_) | ((first | with_reducible (first | (refine hKv _ _ ?_; clear hKv Kv) | ((first | refine AWp_regC mu_17 ks_17 ?_ | refine AWp_draw nd_17 mu_17 ks_17 ti_mixed (by kernel_rfl) ?_ | refine AWp_regE mu_17 ks_17 ?_ | refine AWp_drawE nd_17 mu_17 ks_17 ti_mixed (by kernel_rfl) ?_); intro Kv hKv) | refine AWp_retR ?_) | refine cb _ _ ?_ | refine QCall_of (cb _ _ (Two_intro _ _)) ?_); try simp (dsimp := false) only [go_sem, Nat.reduceAdd, Nat.reduceBEq, Nat.reduceEqDiff, Nat.reduceLT, Nat.reduceLeDiff, Nat.reduceMul, Int.reduceToNat, reduceCtorEq, ↓reduceIte, Tryd.ntmps17, Tryd.results17, ks_17, mu_17, nd_17, ti_ag9, ti_fl97_1, ti_hb56, ti_hb57, ti_hb58, ti_hb59, ti_hb60, ti_hb61, ti_pl97, ti_sb32, ti_sl32, ti_sl43, ti_st9, ti_zr97, hln, evR_app, strC_app, not_true_eq_false, not_false_eq_true, and_self, Bool.true_and, Bool.and_true, Bool.and_false, and_false, Int.reduceEq, Int.reduceLT, Int.reduceLE, Nat.zero_add, hN0, hin', hge', pe, ec4, ec3, z1, z2, z3, hcut]) | (refine AWp_condC rfl ?_; intro KA KB hKA hKB; try simp only [onB_true, onB_false, onB_dec, onB_ndec, onB_not, onB_and, onB_or]) | (refine AWp_condA rfl ?_ ?_) | with_reducible (first | refine onB_of ?_ ?_ | rfl) | omega)
              all_goals first
                | omega
                | exact ⟨(⟨e + 3, 0, acc ++ [⟨4, [], (s.drop (i + 4)).take (e - (i + 4))⟩], N, w, fl⟩, v + 1), ⟨hst, rfl⟩, by show fl < fl + 1; omega, by (repeat' (refine And.intro ?_ ?_)) <;> first | rfl | omega | (simp; done) | (simp; omega)⟩
          · have hin' : ((e : Int) < (s.length : Int)) = False := eq_false (by omega)
            have hge' : ((s.length : Int) ≤ (e : Int)) = True := eq_true (by omega)
            have hj : cmtN (s.drop (i + 4)) = none := by
              rw [e3, List.drop_eq_nil_of_le (by omega)]; rfl
            obtain ⟨k1, k2, k3⟩ := hcmt0 p0 hj
            have hE := kE (by rw [k3]; decide)
            rw [k3] at hE
            repeat' (first | with_reducible (first | refine And.intro ?_ ?_ | intro _ | refine AWp_seq ?_ | refine AWp_block ?_ | (refine hKv _ _ (AWp_nop ?_); clear hKv Kv) | (refine hKA ?_; clear hKA hKB KA KB) | (refine hKB ?_; clear hKA hKB KA KB) | refine AWp_skipN ?_ | refine AWp_exitO (by repeat (first | exact Out.hit | apply Out.thenA | apply Out.out rfl)) ?_) | (with_reducible (first | (refine hKv _ _ ?_; clear hKv Kv) | ((first | refine AWp_regC mu_17 ks_17 ?_ | refine AWp_draw nd_17 mu_17 ks_17 ti_mixed (by kernel_rfl) ?_ | refine AWp_regE mu_17 ks_17 ?_ | refine AWp_drawE nd_17 mu_17 ks_17 ti_mixed (by kernel_rfl) ?_); intro Kv hKv) | refine AWp_retR ?_); try simp (dsimp := false) only [go_sem, Nat.reduceAdd, Nat.reduceBEq, Nat.reduceEqDiff, Nat.reduceLT, Nat.reduceLeDiff, Nat.reduceMul, Int.reduceToNat, reduceCtorEq, ↓reduceIte, Tryd.ntmps17, Tryd.results17, ks_17, mu_17, nd_17, ti_ag9, ti_fl97_1, ti_hb56, ti_hb57, ti_hb58, ti_hb59, ti_hb60, ti_hb61, ti_pl97, ti_sb32, ti_sl32, ti_sl43, ti_st9, ti_zr97, hln, evR_app, strC_app, not_true_eq_false, not_false_eq_true, and_self, Bool.true_and, Bool.and_true, Bool.and_false, and_false, Int.reduceEq, Int.reduceLT, Int.reduceLE, Nat.zero_add, hN0, hin', hge']) | (refine AWp_condC rfl ?_; intro KA KB hKA hKB; try simp only [onB_true, onB_false, onB_dec, onB_ndec, onB_not, onB_and, onB_or]) | (refine AWp_condA rfl ?_ ?_) | with_reducible (first | refine onB_of ?_ ?_ | rfl) | omega)
            all_goals first
              | omega
              | exact dropF hE (Fz_tu2 (.nil _) (.same _)) (by simp [Bel_tu, Bel_d])
        | false =>
          cases p1 : [60, 47].isPrefixOf (s.drop i) with
          | true =>
            have hq := hpos p1
            simp only [List.length_cons, List.length_nil] at hq
            have hi2 : i + 2 ≤ s.length := by omega
            have hst := hend hi2 p0 p1
            have m1 : i + 2 + nmN s (i + 2) 0 ≤ s.length := nmN_le hi2
            have ec2 : (i : Int) + 2 = ((i + 2 : Nat) : Int) := by omega
            have z1 : (((i + 2 : Nat) : Int) ≤ ((i + 2 + nmN s (i + 2) 0 : Nat) : Int)) = True := eq_true (by omega)
            have z2 : (((i + 2 + nmN s (i + 2) 0 : Nat) : Int) ≤ (s.length : Int)) = True := eq_true (by omega)
            have z3 : ((0 : Int) ≤ ((i + 2 : Nat) : Int)) = True := eq_true (by omega)
            have hcut : List.drop (i + 2) (List.take (i + 2 + nmN s (i + 2) 0) s) = (s.drop (i + 2)).take (nmN s (i + 2) 0) := by rw [List.drop_take, Nat.add_sub_cancel_left]
            have n1 : ((0 : Int) ≤ (N.length : Int) - 1) = True := eq_true (by omega)
            have n2 : ((N.length : Int) - 1 < (N.length : Int)) = True := eq_true (by omega)
            have n3 : ((N.length : Int) - 1).toNat = ns.length := by omega
            have n4 : ((N.length : Int) - 1 ≤ (N.length : Int)) = True := eq_true (by omega)
            rcases en_cases s i with ⟨g1, g2⟩ | ⟨g1, g2, g3, g4⟩ | ⟨g1, g2, g3, g4⟩
            · have g1' : (nmF s (i + 2) 0 = 0) = False := eq_false g1
              rw [g2, if_neg g1] at hst
              have hT := (hst.h4 g1).2.2
              simp only [] at hT
              have hE := kE (by rw [← hT]; exact g1)
              rw [← hT] at hE
              repeat' (first | with_reducible (first | refine And.intro ?_ ?_ | intro _ | refine AWp_seq ?_ | refine AWp_block ?_ | (refine hKv _ _ (AWp_nop ?_); clear hKv Kv) | (refine hKA ?_; clear hKA hKB KA KB) | (refine hKB ?_; clear hKA hKB KA KB) | refine AWp_skipN ?_ | refine AWp_exitO (by repeat (first | exact Out.hit | apply Out.thenA | apply Out.out rfl)) ?_) | ((first | with_reducible (first | (refine hKv _ _ ?_; clear hKv Kv) | ((first | refine AWp_regC mu_17 ks_17 ?_ | refine AWp_draw nd_17 mu_17 ks_17 ti_mixed (by kernel_rfl) ?_ | refine AWp_regE mu_17 ks_17 ?_ | refine AWp_drawE nd_17 mu_17 ks_17 ti_mixed (by kernel_rfl) ?_); intro Kv hKv) | refine AWp_retR ?_) | refine begins_A s [60, 33, 45, 45] i hs6 y2 (by decide) _ _ ?_ | refine QCall_of (begins_A s [60, 33, 45, 45] i hs6 y2 (by decide) _ _ (Two_intro _ _)) ?_ | refine begins_A s [60, 47] i hs6 y2 (by decide) _ _ ?_ | refine QCall_of (begins_A s [60, 47] i hs6 y2 (by decide) _ _ (Two_intro _ _)) ?_ | refine nameFrom_A s (i + 2) hs6 hi2 _ _ ?_ | refine QCall_of (nameFrom_A s (i + 2) hs6 hi2 _ _ (Two_intro _ _)) ?_); try simp (dsimp := false) only [go_sem, Nat.reduceAdd, Nat.reduceBEq, Nat.reduceEqDiff, Nat.reduceLT, Nat.reduceLeDiff, Nat.reduceMul, Int.reduceToNat, reduceCtorEq, ↓reduceIte, Tryd.ntmps17, Tryd.results17, ks_17, mu_17, nd_17, ti_ag9, ti_fl97_1, ti_hb56, ti_hb57, ti_hb58, ti_hb59, ti_hb60, ti_hb61, ti_pl97, ti_sb32, ti_sl32, ti_sl43, ti_st9, ti_zr97, hln, evR_app, strC_app, not_true_eq_false, not_false_eq_true, and_self, Bool.true_and, Bool.and_true, Bool.and_false, and_false, Int.reduceEq, Int.reduceLT, Int.reduceLE, Nat.zero_add, hN0, p0, p1, ec2, z1, z2, z3, hcut, n1, n2, n3, n4, hNg, hNt, strC, List.getElem?_map, g1']) | (refine AWp_condC rfl ?_; intro KA KB hKA hKB; try simp only [onB_true, onB_false, onB_dec, onB_ndec, onB_not, onB_and, onB_or]) | (refine AWp_condA rfl ?_ ?_) | with_reducible (first | refine onB_of ?_ ?_ | rfl) | omega)
              all_goals first
                | omega
                | exact dropF hE (Fz_tu2 (.nil _) (.same _)) (by simp [Bel_tu, Bel_d])
            ·
              rw [g3, if_neg g4] at hst
              have hT := (hst.h4 g4).2.2
              simp only [] at hT
              have hE := kE (by rw [← hT]; exact g4)
              rw [← hT] at hE
              repeat' (first | with_reducible (first | refine And.intro ?_ ?_ | intro _ | refine AWp_seq ?_ | refine AWp_block ?_ | (refine hKv _ _ (AWp_nop ?_); clear hKv Kv) | (refine hKA ?_; clear hKA hKB KA KB) | (refine hKB ?_; clear hKA hKB KA KB) | refine AWp_skipN ?_ | refine AWp_exitO (by repeat (first | exact Out.hit | apply Out.thenA | apply Out.out rfl)) ?_) | ((first | with_reducible (first | (refine hKv _ _ ?_; clear hKv Kv) | ((first | refine AWp_regC mu_17 ks_17 ?_ | refine AWp_draw nd_17 mu_17 ks_17 ti_mixed (by kernel_rfl) ?_ | refine AWp_regE mu_17 ks_17 ?_ | refine AWp_drawE nd_17 mu_17 ks_17 ti_mixed (by kernel_rfl) ?_); intro Kv hKv) | refine AWp_retR ?_) | refine begins_A s [60, 33, 45, 45] i hs6 y2 (by decide) _ _ ?_ | refine QCall_of (begins_A s [60, 33, 45, 45] i hs6 y2 (by decide) _ _ (Two_intro _ _)) ?_ | refine begins_A s [60, 47] i hs6 y2 (by decide) _ _ ?_ | refine QCall_of (begins_A s [60, 47] i hs6 y2 (by decide) _ _ (Two_intro _ _)) ?_ | refine nameFrom_A s (i + 2) hs6 hi2 _ _ ?_ | refine QCall_of (nameFrom_A s (i + 2) hs6 hi2 _ _ (Two_intro _ _)) ?_ | refine begins_A s [62] (i + 2 + nmN s (i + 2) 0) hs6 m1 (by decide) _ _ ?_ | refine QCall_of (begins_A s [62] (i + 2 + nmN s (i + 2) 0) hs6 m1 (by decide) _ _ (Two_intro _ _)) ?_ | refine missing_A s [62] (i + 2 + nmN s (i + 2) 0) hs6 m1 (by decide) g2 _ _ ?_ | refine QCall_of (missing_A s [62] (i + 2 + nmN s (i + 2) 0) hs6 m1 (by decide) g2 _ _ (Two_intro _ _)) ?_); try simp (dsimp := false) only [go_sem, Nat.reduceAdd, Nat.reduceBEq, Nat.reduceEqDiff, Nat.reduceLT, Nat.reduceLeDiff, Nat.reduceMul, Int.reduceToNat, reduceCtorEq, ↓reduceIte, Tryd.ntmps17, Tryd.results17, ks_17, mu_17, nd_17, ti_ag9, ti_fl97_1, ti_hb56, ti_hb57, ti_hb58, ti_hb59, ti_hb60, ti_hb61, ti_pl97, ti_sb32, ti_sl32, ti_sl43, ti_st9, ti_zr97, hln, evR_app, strC_app, not_true_eq_false, not_false_eq_true, and_self, Bool.true_and, Bool.and_true, Bool.and_false, and_false, Int.reduceEq, Int.reduceLT, Int.reduceLE, Nat.zero_add, hN0, p0, p1, ec2, z1, z2, z3, hcut, n1, n2, n3, n4, hNg, hNt, strC, List.getElem?_map, g1, g2]) | (refine AWp_condC rfl ?_; intro KA KB hKA hKB; try simp only [onB_true, onB_false, onB_dec, onB_ndec, onB_not, onB_and, onB_or]) | (refine AWp_condA rfl ?_ ?_) | with_reducible (first | refine onB_of ?_ ?_ | rfl) | omega)
              all_goals first
                | omega
                | exact dropF hE (Fz_tu2 (.nil _) (.same _)) (by simp [Bel_tu, Bel_d])
            · rw [g3, if_pos rfl] at hst
              by_cases hno : (s.drop (i + 2)).take (nmN s (i + 2) 0) = o
              · have hno' : ((s.drop (i + 2)).take (nmN s (i + 2) 0) = o) = True := eq_true hno
                rw [if_pos (show (s.drop (i + 2)).take (enK s i) = o from hno), g4] at hst
                have ec3 : ((i + 2 + nmN s (i + 2) 0 : Nat) : Int) + 1 = ((i + 2 + nmN s (i + 2) 0 + 1 : Nat) : Int) := by omega
                repeat' (first | with_reducible (first | refine And.intro ?_ ?_ | intro _ | refine AWp_seq ?_ | refine AWp_block ?_ | (refine hKv _ _ (AWp_nop ?_); clear hKv Kv) | (refine hKA ?_; clear hKA hKB KA KB) | (refine hKB ?_; clear hKA hKB KA KB) | refine AWp_skipN ?_ | refine AWp_exitO (by repeat (first | exact Out.hit | apply Out.thenA | apply Out.out rfl)) ?_) | ((first | with_reducible (first | (refine hKv _ _ ?_; clear hKv Kv) | ((first | refine AWp_regC mu_17 ks_17 ?_ | refine AWp_draw nd_17 mu_17 ks_17 ti_mixed (by kernel_rfl) ?_ | refine AWp_regE mu_17 ks_17 ?_ | refine AWp_drawE nd_17 mu_17 ks_17 ti_mixed (by kernel_rfl) ?_); intro Kv hKv) | refine AWp_retR ?_) | refine begins_A s [60, 33, 45, 45] i hs6 y2 (by decide) _ _ ?_ | refine QCall_of (begins_A s [60, 33, 45, 45] i hs6 y2 (by decide) _ _ (Two_intro _ _)) ?_ | refine begins_A s [60, 47] i hs6 y2 (by decide) _ _ ?_ | refine QCall_of (begins_A s [60, 47] i hs6 y2 (by decide) _ _ (Two_intro _ _)) ?_ | refine nameFrom_A s (i + 2) hs6 hi2 _ _ ?_ | refine QCall_of (nameFrom_A s (i + 2) hs6 hi2 _ _ (Two_intro _ _)) ?_ | refine begins_A s [62] (i + 2 + nmN s (i + 2) 0) hs6 m1 (by decide) _ _ ?_ | refine QCall_of (begins_A s [62] (i + 2 + nmN s (i + 2) 0) hs6 m1 (by decide) _ _ (Two_intro _ _)) ?_); try simp (dsimp := false) only [go_sem, Nat.reduceAdd, Nat.reduceBEq, Nat.reduceEqDiff, Nat.reduceLT, Nat.reduceLeDiff, Nat.reduceMul, Int.reduceToNat, reduceCtorEq, ↓reduceIte, Tryd.ntmps17, Tryd.results17, ks_17, mu_17, nd_17, ti_ag9, ti_fl97_1, ti_hb56, ti_hb57, ti_hb58, ti_hb59, ti_hb60, ti_hb61, ti_pl97, ti_sb32, ti_sl32, ti_sl43, ti_st9, ti_zr97, hln, evR_app, strC_app, not_true_eq_false, not_false_eq_true, and_self, Bool.true_and, Bool.and_true, Bool.and_false, and_false, Int.reduceEq, Int.reduceLT, Int.reduceLE, Nat.zero_add, hN0, p0, p1, ec2, z1, z2, z3, hcut, n1, n2, n3, n4, hNg, hNt, strC, List.getElem?_map, g1, g2, hno', ec3]) | (refine AWp_condC rfl ?_; intro KA KB hKA hKB; try simp only [onB_true, onB_false, onB_dec, onB_ndec, onB_not, onB_and, onB_or]) | (refine AWp_condA rfl ?_ ?_) | with_reducible (first | refine onB_of ?_ ?_ | rfl) | omega)
                all_goals first
                  | omega
                  | exact ⟨(⟨i + 2 + nmN s (i + 2) 0 + 1, 0, acc ++ [⟨5, [], []⟩], ns, w + 1, fl⟩, v + 1), ⟨hst, rfl⟩, by show fl < fl + 1; omega, by (repeat' (refine And.intro ?_ ?_)) <;> first | rfl | omega | (simp; done) | (simp; omega)⟩
              · have hno' : ((s.drop (i + 2)).take (nmN s (i + 2) 0) = o) = False := eq_false hno
                rw [if_neg (show ¬ (s.drop (i + 2)).take (enK s i) = o from hno)] at hst
                have hT := (hst.h4 (show (4 : Int) ≠ 0 by decide)).2.2
                simp only [] at hT
                have hE := kE (by rw [← hT]; decide)
                rw [← hT] at hE
                repeat' (first | with_reducible (first | refine And.intro ?_ ?_ | intro _ | refine AWp_seq ?_ | refine AWp_block ?_ | (refine hKv _ _ (AWp_nop ?_); clear hKv Kv) | (refine hKA ?_; clear hKA hKB KA KB) | (refine hKB ?_; clear hKA hKB KA KB) | refine AWp_skipN ?_ | refine AWp_exitO (by repeat (first | exact Out.hit | apply Out.thenA | apply Out.out rfl)) ?_) | ((first | with_reducible (first | (refine hKv _ _ ?_; clear hKv Kv) | ((first | refine AWp_regC mu_17 ks_17 ?_ | refine AWp_draw nd_17 mu_17 ks_17 ti_mixed (by kernel_rfl) ?_ | refine AWp_regE mu_17 ks_17 ?_ | refine AWp_drawE nd_17 mu_17 ks_17 ti_mixed (by kernel_rfl) ?_); intro Kv hKv) | refine AWp_retR ?_) | refine begins_A s [60, 33, 45, 45] i hs6 y2 (by decide) _ _ ?_ | refine QCall_of (begins_A s [60, 33, 45, 45] i hs6 y2 (by decide) _ _ (Two_intro _ _)) ?_ | refine begins_A s [60, 47] i hs6 y2 (by decide) _ _ ?_ | refine QCall_of (begins_A s [60, 47] i hs6 y2 (by decide) _ _ (Two_intro _ _)) ?_ | refine nameFrom_A s (i + 2) hs6 hi2 _ _ ?_ | refine QCall_of (nameFrom_A s (i + 2) hs6 hi2 _ _ (Two_intro _ _)) ?_ | refine begins_A s [62] (i + 2 + nmN s (i + 2) 0) hs6 m1 (by decide) _ _ ?_ | refine QCall_of (begins_A s [62] (i + 2 + nmN s (i + 2) 0) hs6 m1 (by decide) _ _ (Two_intro _ _)) ?_); try simp (dsimp := false) only [go_sem, Nat.reduceAdd, Nat.reduceBEq, Nat.reduceEqDiff, Nat.reduceLT, Nat.reduceLeDiff, Nat.reduceMul, Int.reduceToNat, reduceCtorEq, ↓reduceIte, Tryd.ntmps17, Tryd.results17, ks_17, mu_17, nd_17, ti_ag9, ti_fl97_1, ti_hb56, ti_hb57, ti_hb58, ti_hb59, ti_hb60, ti_hb61, ti_pl97, ti_sb32, ti_sl32, ti_sl43, ti_st9, ti_zr97, hln, evR_app, strC_app, not_true_eq_false, not_false_eq_true, and_self, Bool.true_and, Bool.and_true, Bool.and_false, and_false, Int.reduceEq, Int.reduceLT, Int.reduceLE, Nat.zero_add, hN0, p0, p1, ec2, z1, z2, z3, hcut, n1, n2, n3, n4, hNg, hNt, strC, List.getElem?_map, g1, g2, hno']) | (refine AWp_condC rfl ?_; intro KA KB hKA hKB; try simp only [onB_true, onB_false, onB_dec, onB_ndec, onB_not, onB_and, onB_or]) | (refine AWp_condA rfl ?_ ?_) | with_reducible (first | refine onB_of ?_ ?_ | rfl) | omega)
                all_goals first
                  | omega
                  | exact dropF hE (Fz_tu2 (.nil _) (.same _)) (by simp [Bel_tu, Bel_d])
          | false =>
            cases p2 : [60].isPrefixOf (s.drop i) with
            | true =>
              have hq := hpos p2
              simp only [List.length_cons, List.length_nil] at hq
              have hi2 : i + 1 ≤ s.length := by omega
              obtain ⟨q, q1, q2, q3⟩ := tgOf_evs s (i + 1) 0 hi2
              have hr4 : (tgOf s (i + 1) 0).evs.length ≤ s.length + 4 := by rw [q1, List.length_cons]; omega
              have ec1 : (i : Int) + 1 = ((i + 1 : Nat) : Int) := by omega
              have hstT := htag w hi2 p0 p1 p2
              have hstF := htag (w + 1) hi2 p0 p1 p2
              by_cases hf2 : (tgOf s (i + 1) 0).f = 0
              · rw [hf2] at hstT hstF
                have hok := fun H K hk => tagFrom_ok s (i + 1) hs6 hi2 hf2 H K hk
                cases hc2 : (tgOf s (i + 1) 0).c with
                | true =>
                  rw [if_pos hc2] at hstT
                  repeat' (first | with_reducible (first | refine And.intro ?_ ?_ | intro _ | refine AWp_seq ?_ | refine AWp_block ?_ | (refine hKv _ _ (AWp_nop ?_); clear hKv Kv) | (refine hKA ?_; clear hKA hKB KA KB) | (refine hKB ?_; clear hKA hKB KA KB) | refine AWp_skipN ?_ | refine AWp_exitO (by repeat (first | exact Out.hit | apply Out.thenA | apply Out.out rfl)) ?_) | ((first | with_reducible (first | (refine hKv _ _ ?_; clear hKv Kv) | ((first | refine AWp_regC mu_17 ks_17 ?_ | refine AWp_draw nd_17 mu_17 ks_17 ti_mixed (by kernel_rfl) ?_ | refine AWp_regE mu_17 ks_17 ?_ | refine AWp_drawE nd_17 mu_17 ks_17 ti_mixed (by kernel_rfl) ?_); intro Kv hKv) | refine AWp_retR ?_) | refine begins_A s [60, 33, 45, 45] i hs6 y2 (by decide) _ _ ?_ | refine QCall_of (begins_A s [60, 33, 45, 45] i hs6 y2 (by decide) _ _ (Two_intro _ _)) ?_ | refine begins_A s [60, 47] i hs6 y2 (by decide) _ _ ?_ | refine QCall_of (begins_A s [60, 47] i hs6 y2 (by decide) _ _ (Two_intro _ _)) ?_ | refine begins_A s [60] i hs6 y2 (by decide) _ _ ?_ | refine QCall_of (begins_A s [60] i hs6 y2 (by decide) _ _ (Two_intro _ _)) ?_ | refine hok _ _ ?_ | refine QCall_of (hok _ _ (Two_intro _ _)) ?_); try simp (dsimp := false) only [go_sem, Nat.reduceAdd, Nat.reduceBEq, Nat.reduceEqDiff, Nat.reduceLT, Nat.reduceLeDiff, Nat.reduceMul, Int.reduceToNat, reduceCtorEq, ↓reduceIte, Tryd.ntmps17, Tryd.results17, ks_17, mu_17, nd_17, ti_ag9, ti_fl97_1, ti_hb56, ti_hb57, ti_hb58, ti_hb59, ti_hb60, ti_hb61, ti_pl97, ti_sb32, ti_sl32, ti_sl43, ti_st9, ti_zr97, hln, evR_app, strC_app, not_true_eq_false, not_false_eq_true, and_self, Bool.true_and, Bool.and_true, Bool.and_false, and_false, Int.reduceEq, Int.reduceLT, Int.reduceLE, Nat.zero_add, hN0, p0, p1, p2, ec1, hc2, hlnD, evR_data, List.map_append]) | (refine AWp_condC rfl ?_; intro KA KB hKA hKB; try simp only [onB_true, onB_false, onB_dec, onB_ndec, onB_not, onB_and, onB_or]) | (refine AWp_condA rfl ?_ ?_) | with_reducible (first | refine onB_of ?_ ?_ | rfl) | omega)
                  all_goals first
                    | omega
                    | exact ⟨(⟨_, 0, acc ++ (tgOf s (i + 1) 0).evs, N, w, fl⟩, v + 1), ⟨hstT, rfl⟩, by show fl < fl + 1; omega, by (repeat' (refine And.intro ?_ ?_)) <;> first | rfl | omega | (simp; done) | (simp; omega)⟩
                | false =>
                  rw [if_neg (by rw [hc2]; decide)] at hstF
                  have hget : ((tgOf s (i + 1) 0).evs.map evD)[0]? = some (evD ⟨1, (s.drop (i + 1)).take (nmN s (i + 1) 0), []⟩) := by rw [q1]; rfl
                  have hlen0 : ((0 : Int) < ((tgOf s (i + 1) 0).evs.length : Int)) = True := eq_true (by rw [q1, List.length_cons]; omega)
                  have hget2 : (tgOf s (i + 1) 0).evs[0]? = some ⟨1, (s.drop (i + 1)).take (nmN s (i + 1) 0), []⟩ := by rw [q1]; rfl
                  repeat' (first | with_reducible (first | refine And.intro ?_ ?_ | intro _ | refine AWp_seq ?_ | refine AWp_block ?_ | (refine hKv _ _ (AWp_nop ?_); clear hKv Kv) | (refine hKA ?_; clear hKA hKB KA KB) | (refine hKB ?_; clear hKA hKB KA KB) | refine AWp_skipN ?_ | refine AWp_exitO (by repeat (first | exact Out.hit | apply Out.thenA | apply Out.out rfl)) ?_) | ((first | with_reducible (first | (refine hKv _ _ ?_; clear hKv Kv) | ((first | refine AWp_regC mu_17 ks_17 ?_ | refine AWp_draw nd_17 mu_17 ks_17 ti_mixed (by kernel_rfl) ?_ | refine AWp_regE mu_17 ks_17 ?_ | refine AWp_drawE nd_17 mu_17 ks_17 ti_mixed (by kernel_rfl) ?_); intro Kv hKv) | refine AWp_retR ?_) | refine begins_A s [60, 33, 45, 45] i hs6 y2 (by decide) _ _ ?_ | refine QCall_of (begins_A s [60, 33, 45, 45] i hs6 y2 (by decide) _ _ (Two_intro _ _)) ?_ | refine begins_A s [60, 47] i hs6 y2 (by decide) _ _ ?_ | refine QCall_of (begins_A s [60, 47] i hs6 y2 (by decide) _ _ (Two_intro _ _)) ?_ | refine begins_A s [60] i hs6 y2 (by decide) _ _ ?_ | refine QCall_of (begins_A s [60] i hs6 y2 (by decide) _ _ (Two_intro _ _)) ?_ | refine hok _ _ ?_ | refine QCall_of (hok _ _ (Two_intro _ _)) ?_); try simp (dsimp := false) only [go_sem, Nat.reduceAdd, Nat.reduceBEq, Nat.reduceEqDiff, Nat.reduceLT, Nat.reduceLeDiff, Nat.reduceMul, Int.reduceToNat, reduceCtorEq, ↓reduceIte, Tryd.ntmps17, Tryd.results17, ks_17, mu_17, nd_17, ti_ag9, ti_fl97_1, ti_hb56, ti_hb57, ti_hb58, ti_hb59, ti_hb60, ti_hb61, ti_pl97, ti_sb32, ti_sl32, ti_sl43, ti_st9, ti_zr97, hln, evR_app, strC_app, not_true_eq_false, not_false_eq_true, and_self, Bool.true_and, Bool.and_true, Bool.and_false, and_false, Int.reduceEq, Int.reduceLT, Int.reduceLE, Nat.zero_add, hN0, p0, p1, p2, ec1, hc2, hlnD, hget, hget2, hlen0, evD, List.getElem?_map, evR_data, List.map_append]) | (refine AWp_condC rfl ?_; intro KA KB hKA hKB; try simp only [onB_true, onB_false, onB_dec, onB_ndec, onB_not, onB_and, onB_or]) | (refine AWp_condA rfl ?_ ?_) | with_reducible (first | refine onB_of ?_ ?_ | rfl) | omega)
                  all_goals first
                    | omega
                    | exact ⟨(⟨_, 0, acc ++ (tgOf s (i + 1) 0).evs, N ++ [(s.drop (i + 1)).take (nmN s (i + 1) 0)], w + 1, fl⟩, v + 1), ⟨hstF, rfl⟩, by show fl < fl + 1; omega, by (repeat' (refine And.intro ?_ ?_)) <;> first | rfl | omega | (simp; done) | (simp; omega)⟩
              · have hT := (hstT.h4 hf2).2.2
                simp only [] at hT
                have hE := kE (by rw [← hT]; exact hf2)
                rw [← hT] at hE
                have hf2' : ((tgOf s (i + 1) 0).f = 0) = False := eq_false hf2
                have hbd := fun H K hk => tagFrom_bad s (i + 1) hs6 hi2 hf2 H K hk
                repeat' (first | with_reducible (first | refine And.intro ?_ ?_ | intro _ | refine AWp_seq ?_ | refine AWp_block ?_ | (refine hKv _ _ (AWp_nop ?_); clear hKv Kv) | (refine hKA ?_; clear hKA hKB KA KB) | (refine hKB ?_; clear hKA hKB KA KB) | refine AWp_skipN ?_ | refine AWp_exitO (by repeat (first | exact Out.hit | apply Out.thenA | apply Out.out rfl)) ?_) | ((first | with_reducible (first | (refine hKv _ _ ?_; clear hKv Kv) | ((first | refine AWp_regC mu_17 ks_17 ?_ | refine AWp_draw nd_17 mu_17 ks_17 ti_mixed (by kernel_rfl) ?_ | refine AWp_regE mu_17 ks_17 ?_ | refine AWp_drawE nd_17 mu_17 ks_17 ti_mixed (by kernel_rfl) ?_); intro Kv hKv) | refine AWp_retR ?_) | refine begins_A s [60, 33, 45, 45] i hs6 y2 (by decide) _ _ ?_ | refine QCall_of (begins_A s [60, 33, 45, 45] i hs6 y2 (by decide) _ _ (Two_intro _ _)) ?_ | refine begins_A s [60, 47] i hs6 y2 (by decide) _ _ ?_ | refine QCall_of (begins_A s [60, 47] i hs6 y2 (by decide) _ _ (Two_intro _ _)) ?_ | refine begins_A s [60] i hs6 y2 (by decide) _ _ ?_ | refine QCall_of (begins_A s [60] i hs6 y2 (by decide) _ _ (Two_intro _ _)) ?_ | refine hbd _ _ ?_ | refine QCall_of (hbd _ _ (Two_intro _ _)) ?_); try simp (dsimp := false) only [go_sem, Nat.reduceAdd, Nat.reduceBEq, Nat.reduceEqDiff, Nat.reduceLT, Nat.reduceLeDiff, Nat.reduceMul, Int.reduceToNat, reduceCtorEq, ↓reduceIte, Tryd.ntmps17, Tryd.results17, ks_17, mu_17, nd_17, ti_ag9, ti_fl97_1, ti_hb56, ti_hb57, ti_hb58, ti_hb59, ti_hb60, ti_hb61, ti_pl97, ti_sb32, ti_sl32, ti_sl43, ti_st9, ti_zr97, hln, evR_app, strC_app, not_true_eq_false, not_false_eq_true, and_self, Bool.true_and, Bool.and_true, Bool.and_false, and_false, Int.reduceEq, Int.reduceLT, Int.reduceLE, Nat.zero_add, hN0, p0, p1, p2, ec1, hf2']) | (refine AWp_condC rfl ?_; intro KA KB hKA hKB; try simp only [onB_true, onB_false, onB_dec, onB_ndec, onB_not, onB_and, onB_or]) | (refine AWp_condA rfl ?_ ?_) | with_reducible (first | refine onB_of ?_ ?_ | rfl) | omega)
                all_goals first
                  | omega
                  | exact dropF hE (Fz_tu2 (.nil _) (.same _)) (by simp [Bel_tu, Bel_d])
            | false =>
              have hpl := fun H K hk => plainFrom_A 60 (.inr rfl) 60 rfl s i hs6 y2 H K hk
              have hvl := valN_le 60 (s.drop i) 0
              rw [List.length_drop] at hvl
              by_cases hf2 : (valN 60 0 (s.drop i)).f = 0
              · have hst := htext p0 p1 p2 hf2
                repeat' (first | with_reducible (first | refine And.intro ?_ ?_ | intro _ | refine AWp_seq ?_ | refine AWp_block ?_ | (refine hKv _ _ (AWp_nop ?_); clear hKv Kv) | (refine hKA ?_; clear hKA hKB KA KB) | (refine hKB ?_; clear hKA hKB KA KB) | refine AWp_skipN ?_ | refine AWp_exitO (by repeat (first | exact Out.hit | apply Out.thenA | apply Out.out rfl)) ?_) | ((first | with_reducible (first | (refine hKv _ _ ?_; clear hKv Kv) | ((first | refine AWp_regC mu_17 ks_17 ?_ | refine AWp_draw nd_17 mu_17 ks_17 ti_mixed (by kernel_rfl) ?_ | refine AWp_regE mu_17 ks_17 ?_ | refine AWp_drawE nd_17 mu_17 ks_17 ti_mixed (by kernel_rfl) ?_); intro Kv hKv) | refine AWp_retR ?_) | refine begins_A s [60, 33, 45, 45] i hs6 y2 (by decide) _ _ ?_ | refine QCall_of (begins_A s [60, 33, 45, 45] i hs6 y2 (by decide) _ _ (Two_intro _ _)) ?_ | refine begins_A s [60, 47] i hs6 y2 (by decide) _ _ ?_ | refine QCall_of (begins_A s [60, 47] i hs6 y2 (by decide) _ _ (Two_intro _ _)) ?_ | refine begins_A s [60] i hs6 y2 (by decide) _ _ ?_ | refine QCall_of (begins_A s [60] i hs6 y2 (by decide) _ _ (Two_intro _ _)) ?_ | refine hpl _ _ ?_ | refine QCall_of (hpl _ _ (Two_intro _ _)) ?_); try simp (dsimp := false) only [go_sem, Nat.reduceAdd, Nat.reduceBEq, Nat.reduceEqDiff, Nat.reduceLT, Nat.reduceLeDiff, Nat.reduceMul, Int.reduceToNat, reduceCtorEq, ↓reduceIte, Tryd.ntmps17, Tryd.results17, ks_17, mu_17, nd_17, ti_ag9, ti_fl97_1, ti_hb56, ti_hb57, ti_hb58, ti_hb59, ti_hb60, ti_hb61, ti_pl97, ti_sb32, ti_sl32, ti_sl43, ti_st9, ti_zr97, hln, evR_app, strC_app, not_true_eq_false, not_false_eq_true, and_self, Bool.true_and, Bool.and_true, Bool.and_false, and_false, Int.reduceEq, Int.reduceLT, Int.reduceLE, Nat.zero_add, hN0, p0, p1, p2, hf2]) | (refine AWp_condC rfl ?_; intro KA KB hKA hKB; try simp only [onB_true, onB_false, onB_dec, onB_ndec, onB_not, onB_and, onB_or]) | (refine AWp_condA rfl ?_ ?_) | with_reducible (first | refine onB_of ?_ ?_ | rfl) | omega)
                all_goals first
                  | omega
                  | exact ⟨(⟨_, 0, acc ++ [⟨3, [], (valN 60 0 (s.drop i)).out⟩], N, w, fl⟩, v + 1), ⟨hst, rfl⟩, by show fl < fl + 1; omega, by (repeat' (refine And.intro ?_ ?_)) <;> first | rfl | omega | (simp; done) | (simp; omega)⟩
              · have hst := htext0 p0 p1 p2 hf2
                have hT := (hst.h4 hf2).2.2
                simp only [] at hT
                have hE := kE (by rw [← hT]; exact hf2)
                rw [← hT] at hE
                have hf2' : ((valN 60 0 (s.drop i)).f = 0) = False := eq_false hf2
                repeat' (first | with_reducible (first | refine And.intro ?_ ?_ | intro _ | refine AWp_seq ?_ | refine AWp_block ?_ | (refine hKv _ _ (AWp_nop ?_); clear hKv Kv) | (refine hKA ?_; clear hKA hKB KA KB) | (refine hKB ?_; clear hKA hKB KA KB) | refine AWp_skipN ?_ | refine AWp_exitO (by repeat (first | exact Out.hit | apply Out.thenA | apply Out.out rfl)) ?_) | ((first | with_reducible (first | (refine hKv _ _ ?_; clear hKv Kv) | ((first | refine AWp_regC mu_17 ks_17 ?_ | refine AWp_draw nd_17 mu_17 ks_17 ti_mixed (by kernel_rfl) ?_ | refine AWp_regE mu_17 ks_17 ?_ | refine AWp_drawE nd_17 mu_17 ks_17 ti_mixed (by kernel_rfl) ?_); intro Kv hKv) | refine AWp_retR ?_) | refine begins_A s [60, 33, 45, 45] i hs6 y2 (by decide) _ _ ?_ | refine QCall_of (begins_A s [60, 33, 45, 45] i hs6 y2 (by decide) _ _ (Two_intro _ _)) ?_ | refine begins_A s [60, 47] i hs6 y2 (by decide) _ _ ?_ | refine QCall_of (begins_A s [60, 47] i hs6 y2 (by decide) _ _ (Two_intro _ _)) ?_ | refine begins_A s [60] i hs6 y2 (by decide) _ _ ?_ | refine QCall_of (begins_A s [60] i hs6 y2 (by decide) _ _ (Two_intro _ _)) ?_ | refine hpl _ _ ?_ | refine QCall_of (hpl _ _ (Two_intro _ _)) ?_); try simp (dsimp := false) only [go_sem, Nat.reduceAdd, Nat.reduceBEq, Nat.reduceEqDiff, Nat.reduceLT, Nat.reduceLeDiff, Nat.reduceMul, Int.reduceToNat, reduceCtorEq, ↓reduceIte, Tryd.ntmps17, Tryd.results17, ks_17, mu_17, nd_17, ti_ag9, ti_fl97_1, ti_hb56, ti_hb57, ti_hb58, ti_hb59, ti_hb60, ti_hb61, ti_pl97, ti_sb32, ti_sl32, ti_sl43, ti_st9, ti_zr97, hln, evR_app, strC_app, not_true_eq_false, not_false_eq_true, and_self, Bool.true_and, Bool.and_true, Bool.and_false, and_false, Int.reduceEq, Int.reduceLT, Int.reduceLE, Nat.zero_add, hN0, p0, p1, p2, hf2']) | (refine AWp_condC rfl ?_; intro KA KB hKA hKB; try simp only [onB_true, onB_false, onB_dec, onB_ndec, onB_not, onB_and, onB_or]) | (refine AWp_condA rfl ?_ ?_) | with_reducible (first | refine onB_of ?_ ?_ | rfl) | omega)
                all_goals first
                  | omega
                  | exact dropF hE (Fz_tu2 (.nil _) (.same _)) (by simp [Bel_tu, Bel_d])
end Go.Proofs.YtjghnaohlfgloaaDoor
