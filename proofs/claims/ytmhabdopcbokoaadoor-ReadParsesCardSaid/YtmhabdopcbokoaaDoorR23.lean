/- One token: may it be? What the program and the reference say. No condition but that the tables of package unicode/utf8, and the table of marks, are there. -/
import Derived.Test.YtmhabdopcbokoaaDoorR18
import Derived.Test.YtmhabdopcbokoaaDoorR22
import Derived.Test.YtmhabdopcbokoaaDoorR17
set_option linter.all false
set_option linter.unusedSimpArgs false
set_option linter.unusedVariables false
namespace Go.Proofs.YtmhabdopcbokoaaDoor
open Go Go.Proofs.YtmhabdopcbokoaaDoor.Ab
variable [Glo] [U8]
set_option maxHeartbeats 8000000
set_option maxRecDepth 20000
variable [Mk]
def tokFault (t : Tk) : Int :=
  if t.k < 1 ∨ 5 < t.k then 3
  else if t.k = 2 then (if t.n < 0 ∨ 1099511627776 < t.n then 2 else if t.s = [] then 0 else 4)
  else if t.n = 0 then
    (if t.k = 3 then (if qAt t.s 0 = t.s.length then textFault t.s else 4)
     else if t.k = 5 then (if t.s ∈ marksL then 0 else 6)
     else if t.s = [] ∨ 20 < t.s.length ∨ wEnd t.s 0 0 ≠ t.s.length then 10 else 0)
  else 4
theorem sIndexByte_A (l : List UInt8) (H : Heap) (K : V → Heap → Prop) (hk : K (.d (.i .i64 (Lib.indexByte l 34))) H) : ACalls Tryd.prog 58 [.d (.s l), .d (.i .u8 34)] H K := by
  refine ACalls_still _ hk fun w σ args hl hr => ?_
  obtain ⟨u, v, rfl⟩ := two_of_size (xs := args) (by simpa using hl.symm)
  obtain rfl := (hr 0 _ u rfl rfl).inv_d.inv_s
  obtain rfl := (hr 1 _ v rfl rfl).inv_d.inv_i
  refine ⟨.int .i64 (Lib.indexByte l 34), .d _ _ (.i _ _), ?_⟩
  have := Any.stringslite_IndexByte Tryd.lays217 ⟨l.toArray⟩ 34 w
  have e : Tryd.lays217_ren.f 217 = 58 := by first | rfl | kernel_rfl
  rw [e] at this
  simpa using this
namespace FN49
def tks : Nat → List Nat | 0 => [0, 1] | 1 => [0, 1, 5] | 2 => [0, 1, 5, 16] | 3 => [4] | 4 => [0, 1, 5, 24] | 5 => [4] | 6 => [0, 1, 5, 31] | 7 => [4] | 8 => [0, 1, 5, 36] | 9 => [4] | 10 => [0, 1, 5, 6] | 11 => [0, 1, 5, 6, 7] | 12 => [0, 1, 5, 6, 7, 8] | 13 => [0, 1, 5, 6, 7, 8, 9] | 14 => [0, 1, 5, 6, 7, 8, 9, 10] | 15 => [0, 1, 5, 6, 7, 8, 9, 10, 59] | 16 => [0, 1, 5, 6, 7, 8, 9, 10, 64] | 17 => [0, 1, 5, 6, 7, 8, 9, 10, 11] | 18 => [0, 1, 5, 6, 7, 8, 9, 10, 11, 73] | 19 => [4] | 20 => [0, 1, 5, 6, 7, 8, 9, 10] | 21 => [0, 1, 5, 6, 7, 8, 9, 10, 93] | 22 => [4] | 23 => [0, 1, 5, 6, 7, 8, 9, 10] | 24 => [0, 1, 5, 6, 7, 8, 9, 10] | 25 => [0, 1, 5, 6, 7, 8, 9, 10, 107] | 26 => [8, 12] | 27 => [8, 12, 114] | 28 => [4] | 29 => [4] | 30 => [0, 1, 5, 6, 7, 8, 9, 10, 132] | 31 => [8, 13] | 32 => [8, 13, 139] | 33 => [4] | 34 => [4] | 35 => [4] | _ => []
def tmu : List Nat := []
def tin : List Nat := [0, 1]
abbrev tfn := @Tryd.func49
end FN49
attribute [go_sem] FN49.tks FN49.tmu FN49.tin Tryd.ntmps49 Tryd.results49
open FN49 in
theorem sIndex_A (l : List UInt8) (hl : l.length ≤ 9223372036854775807) (H : Heap) (K : V → Heap → Prop) (hk : K (.d (.i .i64 (Lib.indexByte l 34))) H) : ACalls Tryd.prog 49 [.d (.s l), .d (.s [34])] H K := by
  refine We ?_
  have us := eq_self (0 : Nat)
  exact W4
namespace FN29
def tks : Nat → List Nat | 0 => [0, 1] | 1 => [4] | _ => []
def tmu : List Nat := []
def tin : List Nat := [0, 1]
abbrev tfn := @Tryd.func29
end FN29
attribute [go_sem] FN29.tks FN29.tmu FN29.tin Tryd.ntmps29 Tryd.results29
open FN29 in
theorem strIndex_A (l : List UInt8) (hl : l.length ≤ 9223372036854775807) (H : Heap) (K : V → Heap → Prop) (hk : K (.d (.i .i64 (Lib.indexByte l 34))) H) : ACalls Tryd.prog 29 [.d (.s l), .d (.s [34])] H K := by
  refine We ?_
  have us := eq_self (0 : Nat)
  exact W5
namespace FN12
def tks : Nat → List Nat | 0 => [0, 1] | 1 => [4] | _ => []
def tmu : List Nat := []
def tin : List Nat := [0, 1]
abbrev tfn := @Tryd.func12
end FN12
attribute [go_sem] FN12.tks FN12.tmu FN12.tin Tryd.ntmps12 Tryd.results12
open FN12 in
theorem strContains_A (l : List UInt8) (hl : l.length ≤ 9223372036854775807) (H : Heap) (K : V → Heap → Prop) (hk : K (.d (.b (!decide (qAt l 0 = l.length)))) H) : ACalls Tryd.prog 12 [.d (.s l), .d (.s [34])] H K := by
  have hq := indexByte_q l _ 0 (Nat.le_refl _) (Nat.zero_le _)
  rw [List.drop_zero] at hq
  have hle := qAt_le l _ 0 (Nat.le_refl _) (Nat.zero_le _)
  refine We ?_
  have us := eq_self (0 : Nat)
  (repeat' (first | with_reducible (first | refine And.intro ?_ ?_ | intro _ | (refine hKv _ _ (AWp_nop ?_); clear hKv Kv) | (refine hKA ?_; clear hKA hKB KA KB) | (refine hKB ?_; clear hKA hKB KA KB) | refine Wp ?_ | fail) | ((first | with_reducible (first | (refine hKv _ _ ?_; clear hKv Kv) | (refine Wr ?_; intro Kv hKv) | refine AWp_retR ?_ | fail) | refine Wc ?_ | refine strIndex_A _ hl _ _ ?_ | refine QCall_of (strIndex_A _ hl _ _ (Two_intro _ _)) ?_ | refine ECall_of (strIndex_A _ hl _ _ (Two_intro _ _)) ?_ | fail); try simp (dsimp := false) only [go_sem, Nat.reduceAdd, Nat.reduceBEq, Nat.reduceEqDiff, Nat.reduceLT, Nat.reduceLeDiff, Nat.reduceMul, Int.reduceToNat, reduceCtorEq, ↓reduceIte, us]) | (refine AWp_condC rfl ?_; intro KA KB hKA hKB; try simp only [onB_true, onB_false, onB_dec, onB_ndec, onB_not, onB_and, onB_or]) | (refine AWp_condA rfl ?_ ?_) | with_reducible (first | refine onB_of ?_ ?_ | rfl) | omega))
  have e : decide (0 ≤ Lib.indexByte l 34) = !decide (qAt l 0 = l.length) := by
    rw [hq]
    by_cases h : qAt l 0 = l.length
    · rw [if_pos h, h]; simp
    · rw [if_neg h]; simp [h]
  exact keepD hk (by rw [e])
namespace FN22
def tks : Nat → List Nat | 0 => [0, 1] | 1 => [0, 1, 5] | 2 => [0, 1, 5, 9] | 3 => [0, 1, 5] | 4 => [0, 1, 5, 17] | 5 => [4] | 6 => [4] | _ => []
def tmu : List Nat := []
def tin : List Nat := [0, 1]
abbrev tfn := @Tryd.func22
end FN22
attribute [go_sem] FN22.tks FN22.tmu FN22.tin Tryd.ntmps22 Tryd.results22
open FN22 in
theorem hasText_A (l : List (List UInt8)) (s : List UInt8) (hlen : l.length ≤ 9223372036854775807) (H : Heap) (K : V → Heap → Prop) (hk : K (.d (.b (decide (s ∈ l)))) H) :
    ACalls Tryd.prog 22 [.d (.sl 1 (l.map strRow)), .d (.s s)] H K := by
  refine We ?_
  have us := eq_self (0 : Nat)
  refine W1 ?_
  refine AWp_while0 (fun i : Nat => i ≤ l.length ∧ (s ∈ l ↔ s ∈ l.drop i)) (fun i => [(0, .d (.sl 1 (l.map strRow))), (1, .d (.s s)), (5, .d (.i .i64 i))]) (fun i => l.length - i) 0 ⟨Nat.zero_le _, by simp⟩ ?_ ?_
  · simp (dsimp := false) only [go_sem, Nat.reduceAdd, Nat.reduceBEq, Nat.reduceEqDiff, Nat.reduceLT, Nat.reduceLeDiff, Nat.reduceMul, Int.reduceToNat, reduceCtorEq, ↓reduceIte]
    first | done | simp
  rintro i ⟨hi, hm⟩
  by_cases hil : i < l.length
  · obtain ⟨x, hx⟩ : ∃ x, l[i]? = some x := ⟨l[i], List.getElem?_eq_getElem hil⟩
    rw [drop_of_get hx, List.mem_cons] at hm
    have us := hx
    exact W6
  ·
    have us := eq_self (0 : Nat)
    (repeat' (first | with_reducible (first | refine And.intro ?_ ?_ | intro _ | (refine hKv _ _ (AWp_nop ?_); clear hKv Kv) | (refine hKA ?_; clear hKA hKB KA KB) | (refine hKB ?_; clear hKA hKB KA KB) | refine Wp ?_ | fail) | ((first | with_reducible (first | (refine hKv _ _ ?_; clear hKv Kv) | (refine Wr ?_; intro Kv hKv) | refine AWp_retR ?_ | fail) | refine Wc ?_ | fail); try simp (dsimp := false) only [go_sem, Nat.reduceAdd, Nat.reduceBEq, Nat.reduceEqDiff, Nat.reduceLT, Nat.reduceLeDiff, Nat.reduceMul, Int.reduceToNat, reduceCtorEq, ↓reduceIte, us]) | (refine AWp_condC rfl ?_; intro KA KB hKA hKB; try simp only [onB_true, onB_false, onB_dec, onB_ndec, onB_not, onB_and, onB_or]) | (refine AWp_condA rfl ?_ ?_) | with_reducible (first | refine onB_of ?_ ?_ | rfl) | omega))
    rw [List.drop_eq_nil_of_le (by omega)] at hm
    all_goals exact keepD hk (by rw [decide_eq_false (fun h => by simpa using hm.1 h)])
namespace FN7
def tks : Nat → List Nat | 0 => [1] | 1 => [1, 11] | 2 => [2] | 3 => [1, 14] | 4 => [1, 22] | 5 => [2] | 6 => [25] | 7 => [2] | 8 => [2] | 9 => [1, 28] | 10 => [2] | 11 => [1, 30] | 12 => [1, 30, 31] | 13 => [1, 35] | 14 => [2] | 15 => [2] | 16 => [1, 39] | 17 => [45] | 18 => [2] | 19 => [2] | 20 => [1, 54] | 21 => [2] | 22 => [1, 3] | 23 => [64] | 24 => [2] | 25 => [2] | _ => []
def tmu : List Nat := [58]
def tin : List Nat := [0]
def tnd : Nat → Nat | 17 => 4 | 23 => 5 | _ => 0
abbrev tfn := @Tryd.func7
end FN7
attribute [go_sem] FN7.tks FN7.tmu FN7.tin FN7.tnd Tryd.ntmps7 Tryd.results7
open FN7 in
theorem checkToken_A (t : Tk) (hs : t.s.length ≤ 9223372036854775807) (H : Heap) (K : V → Heap → Prop) (hk : K (.d (.i .i64 (tokFault t))) H) : ACalls Tryd.prog 7 [tkV t] H K := by
  have hmk : glob 0 = some marksRow := Mk.marks
  have hml : marksRow.length = 26 := rfl
  have hmr : (marksRow.map fun x => [x]) = marksL.map strRow := by simp [marksRow, strRow]
  refine We ?_
  have us := an hmk (an hml hmr)
  (repeat' (first | with_reducible (first | refine And.intro ?_ ?_ | intro _ | (refine hKv _ _ (AWp_nop ?_); clear hKv Kv) | (refine hKA ?_; clear hKA hKB KA KB) | (refine hKB ?_; clear hKA hKB KA KB) | refine Wp ?_ | fail) | ((first | with_reducible (first | (refine hKv _ _ ?_; clear hKv Kv) | (refine Wr ?_; intro Kv hKv) | refine AWp_retR ?_ | fail) | refine Wc ?_ | refine strContains_A _ (by omega) _ _ ?_ | refine QCall_of (strContains_A _ (by omega) _ _ (Two_intro _ _)) ?_ | refine ECall_of (strContains_A _ (by omega) _ _ (Two_intro _ _)) ?_ | refine checkText_A _ (by omega) _ _ ?_ | refine QCall_of (checkText_A _ (by omega) _ _ (Two_intro _ _)) ?_ | refine ECall_of (checkText_A _ (by omega) _ _ (Two_intro _ _)) ?_ | refine contains_A marksL _ (by decide) _ _ ?_ | refine QCall_of (contains_A marksL _ (by decide) _ _ (Two_intro _ _)) ?_ | refine ECall_of (contains_A marksL _ (by decide) _ _ (Two_intro _ _)) ?_ | refine word_A H.length t.s 0 0 _ (by omega) (by omega) _ _ (get_app0 _ _) ?_ | refine QCall_of (word_A H.length t.s 0 0 _ (by omega) (by omega) _ _ (get_app0 _ _) (Two_intro _ _)) ?_ | refine ECall_of (word_A H.length t.s 0 0 _ (by omega) (by omega) _ _ (get_app0 _ _) (Two_intro _ _)) ?_ | fail); try simp (dsimp := false) only [go_sem, Nat.reduceAdd, Nat.reduceBEq, Nat.reduceEqDiff, Nat.reduceLT, Nat.reduceLeDiff, Nat.reduceMul, Int.reduceToNat, reduceCtorEq, ↓reduceIte, us, tkD, tkV]) | (refine AWp_condC rfl ?_; intro KA KB hKA hKB; try simp only [onB_true, onB_false, onB_dec, onB_ndec, onB_not, onB_and, onB_or]) | (refine AWp_condA rfl ?_ ?_) | with_reducible (first | refine onB_of ?_ ?_ | rfl) | omega))
  all_goals first
    | exact keepD hk (by (simp only [V.d.injEq, D.i.injEq, D.b.injEq, D.s.injEq, true_and]; grind [tokFault]))
    | exact dropD hk (by (simp only [V.d.injEq, D.i.injEq, D.b.injEq, D.s.injEq, true_and]; grind [tokFault]))
namespace FN10
def tks : Nat → List Nat | 0 => [1] | 1 => [1, 7] | 2 => [2] | 3 => [1, 10] | 4 => [1, 14] | 5 => [2] | 6 => [17] | 7 => [2] | 8 => [2] | 9 => [1, 20] | 10 => [2] | 11 => [1, 23] | 12 => [1, 3] | 13 => [1, 3, 28] | 14 => [1, 3] | 15 => [1, 3, 35] | 16 => [2] | 17 => [2] | 18 => [1, 41] | 19 => [46] | 20 => [2] | 21 => [2] | 22 => [60] | 23 => [2] | 24 => [2] | _ => []
def tmu : List Nat := []
def tin : List Nat := [0]
def tnd : Nat → Nat | 19 => 4 | 22 => 13 | _ => 0
abbrev tfn := @Tryd.func10
end FN10
attribute [go_sem] FN10.tks FN10.tmu FN10.tin FN10.tnd Tryd.ntmps10 Tryd.results10
open FN10 in
theorem tokenFault_A (t : Tk) (hs : t.s.length ≤ 9223372036854775807) (H : Heap) (K : V → Heap → Prop) (hk : K (.d (.i .i64 (tokFault t))) H) : ACalls Tryd.prog 10 [tkV t] H K := by
  refine We ?_
  have us := eq_self (0 : Nat)
  (repeat' (first | with_reducible (first | refine And.intro ?_ ?_ | intro _ | (refine hKv _ _ (AWp_nop ?_); clear hKv Kv) | (refine hKA ?_; clear hKA hKB KA KB) | (refine hKB ?_; clear hKA hKB KA KB) | refine Wp ?_ | fail) | ((first | with_reducible (first | (refine hKv _ _ ?_; clear hKv Kv) | (refine Wr ?_; intro Kv hKv) | refine AWp_retR ?_ | fail) | refine Wc ?_ | refine in_A _ _ _ _ _ ?_ | refine QCall_of (in_A _ _ _ _ _ (Two_intro _ _)) ?_ | refine ECall_of (in_A _ _ _ _ _ (Two_intro _ _)) ?_ | refine allMarks_A _ _ ?_ | refine QCall_of (allMarks_A _ _ (Two_intro _ _)) ?_ | refine ECall_of (allMarks_A _ _ (Two_intro _ _)) ?_ | refine hasText_A _ _ (by decide) _ _ ?_ | refine QCall_of (hasText_A _ _ (by decide) _ _ (Two_intro _ _)) ?_ | refine ECall_of (hasText_A _ _ (by decide) _ _ (Two_intro _ _)) ?_ | refine wordTo_A _ 0 hs (by omega) _ _ ?_ | refine QCall_of (wordTo_A _ 0 hs (by omega) _ _ (Two_intro _ _)) ?_ | refine ECall_of (wordTo_A _ 0 hs (by omega) _ _ (Two_intro _ _)) ?_ | refine valueFault_A _ (by omega) _ _ ?_ | refine QCall_of (valueFault_A _ (by omega) _ _ (Two_intro _ _)) ?_ | refine ECall_of (valueFault_A _ (by omega) _ _ (Two_intro _ _)) ?_ | fail); try simp (dsimp := false) only [go_sem, Nat.reduceAdd, Nat.reduceBEq, Nat.reduceEqDiff, Nat.reduceLT, Nat.reduceLeDiff, Nat.reduceMul, Int.reduceToNat, reduceCtorEq, ↓reduceIte, us, tkD, tkV]) | (refine AWp_condC rfl ?_; intro KA KB hKA hKB; try simp only [onB_true, onB_false, onB_dec, onB_ndec, onB_not, onB_and, onB_or]) | (refine AWp_condA rfl ?_ ?_) | with_reducible (first | refine onB_of ?_ ?_ | rfl) | omega))
  all_goals first
    | exact keepD hk (by (simp only [V.d.injEq, D.i.injEq, D.b.injEq, D.s.injEq, true_and]; grind [tokFault]))
    | (have hlen : ¬ (1 ≤ (t.s.length : Int) ∧ (t.s.length : Int) ≤ 20) := by assumption
       have h10 : t.s = [] ∨ 20 < t.s.length ∨ wEnd t.s 0 0 ≠ t.s.length := by
         by_cases h0 : t.s.length = 0
         · exact .inl (List.length_eq_zero_iff.1 h0)
         · exact .inr (.inl (by omega))
       exact keepD hk (by (simp only [V.d.injEq, D.i.injEq, D.b.injEq, D.s.injEq, true_and]; grind [tokFault])))
    | skip
  rename_i h1 h2 h3 h4
  refine AWp_while0 (fun j : Nat => j ≤ t.s.length ∧ qAt t.s 0 = qAt t.s j) (fun j => [(1, .rp (tkD t)), (3, .d (.i .i64 j))]) (fun j => t.s.length - j) 0 ⟨Nat.zero_le _, rfl⟩ ?_ ?_
  · simp (dsimp := false) only [go_sem, Nat.reduceAdd, Nat.reduceBEq, Nat.reduceEqDiff, Nat.reduceLT, Nat.reduceLeDiff, Nat.reduceMul, Int.reduceToNat, reduceCtorEq, ↓reduceIte, tkD, tkV]
    first | done | simp
  rintro j ⟨hj, hq⟩
  by_cases hjl : j < t.s.length
  · obtain ⟨c, hc⟩ : ∃ c, t.s[j]? = some c := ⟨t.s[j], List.getElem?_eq_getElem hjl⟩
    have hle := qAt_le t.s _ (j + 1) (Nat.le_refl _) (by omega)
    by_cases h34 : c = 34
    · have h34' : (c.toNat : Int) = 34 := by subst h34; rfl
      rw [qAt_hit hc h34] at hq
      have us := an hc h34'
      (repeat' (first | with_reducible (first | refine And.intro ?_ ?_ | intro _ | (refine hKv _ _ (AWp_nop ?_); clear hKv Kv) | (refine hKA ?_; clear hKA hKB KA KB) | (refine hKB ?_; clear hKA hKB KA KB) | refine Wp ?_ | fail) | ((first | with_reducible (first | (refine hKv _ _ ?_; clear hKv Kv) | (refine Wr ?_; intro Kv hKv) | refine AWp_retR ?_ | fail) | refine Wc ?_ | fail); try simp (dsimp := false) only [go_sem, Nat.reduceAdd, Nat.reduceBEq, Nat.reduceEqDiff, Nat.reduceLT, Nat.reduceLeDiff, Nat.reduceMul, Int.reduceToNat, reduceCtorEq, ↓reduceIte, us, tkD, tkV]) | (refine AWp_condC rfl ?_; intro KA KB hKA hKB; try simp only [onB_true, onB_false, onB_dec, onB_ndec, onB_not, onB_and, onB_or]) | (refine AWp_condA rfl ?_ ?_) | with_reducible (first | refine onB_of ?_ ?_ | rfl) | omega))
      all_goals exact keepD hk (by (simp only [V.d.injEq, D.i.injEq, D.b.injEq, D.s.injEq, true_and]; grind [tokFault]))
    · have h34' : ¬ (c.toNat : Int) = 34 := fun h => h34 (UInt8.toNat_inj.1 (by simpa using (by omega : c.toNat = 34)))
      rw [qAt_next hc h34] at hq
      have us := an hc h34'
      (repeat' (first | with_reducible (first | refine And.intro ?_ ?_ | intro _ | (refine hKv _ _ (AWp_nop ?_); clear hKv Kv) | (refine hKA ?_; clear hKA hKB KA KB) | (refine hKB ?_; clear hKA hKB KA KB) | refine Wp ?_ | fail) | ((first | with_reducible (first | (refine hKv _ _ ?_; clear hKv Kv) | (refine Wr ?_; intro Kv hKv) | refine AWp_retR ?_ | fail) | refine Wc ?_ | fail); try simp (dsimp := false) only [go_sem, Nat.reduceAdd, Nat.reduceBEq, Nat.reduceEqDiff, Nat.reduceLT, Nat.reduceLeDiff, Nat.reduceMul, Int.reduceToNat, reduceCtorEq, ↓reduceIte, us, tkD, tkV]) | (refine AWp_condC rfl ?_; intro KA KB hKA hKB; try simp only [onB_true, onB_false, onB_dec, onB_ndec, onB_not, onB_and, onB_or]) | (refine AWp_condA rfl ?_ ?_) | with_reducible (first | refine onB_of ?_ ?_ | rfl) | omega))
      all_goals exact ⟨j + 1, ⟨by omega, hq⟩, by omega, by omega⟩
  · have e : j = t.s.length := by omega
    subst e
    rw [qAt_end (Nat.le_refl _)] at hq
    have us := eq_self (0 : Nat)
    (repeat' (first | with_reducible (first | refine And.intro ?_ ?_ | intro _ | (refine hKv _ _ (AWp_nop ?_); clear hKv Kv) | (refine hKA ?_; clear hKA hKB KA KB) | (refine hKB ?_; clear hKA hKB KA KB) | refine Wp ?_ | fail) | ((first | with_reducible (first | (refine hKv _ _ ?_; clear hKv Kv) | (refine Wr ?_; intro Kv hKv) | refine AWp_retR ?_ | fail) | refine Wc ?_ | refine valueFault_A _ (by omega) _ _ ?_ | refine QCall_of (valueFault_A _ (by omega) _ _ (Two_intro _ _)) ?_ | refine ECall_of (valueFault_A _ (by omega) _ _ (Two_intro _ _)) ?_ | fail); try simp (dsimp := false) only [go_sem, Nat.reduceAdd, Nat.reduceBEq, Nat.reduceEqDiff, Nat.reduceLT, Nat.reduceLeDiff, Nat.reduceMul, Int.reduceToNat, reduceCtorEq, ↓reduceIte, us, tkD, tkV]) | (refine AWp_condC rfl ?_; intro KA KB hKA hKB; try simp only [onB_true, onB_false, onB_dec, onB_ndec, onB_not, onB_and, onB_or]) | (refine AWp_condA rfl ?_ ?_) | with_reducible (first | refine onB_of ?_ ?_ | rfl) | omega))
    all_goals exact keepD hk (by (simp only [V.d.injEq, D.i.injEq, D.b.injEq, D.s.injEq, true_and]; grind [tokFault]))
end Go.Proofs.YtmhabdopcbokoaaDoor
namespace Go.Proofs.YtmhabdopcbokoaaDoor.Gq
open Go Go.Proofs.YtmhabdopcbokoaaDoor Go.Proofs.YtmhabdopcbokoaaDoor.Ab
variable [Glo]
set_option maxRecDepth 20000
structure Phh where
  k : Int
  it : It
  nm : List UInt8
  n : Int
  ax : Int
  tk : Int
  tn : List UInt8
structure Clh where
  k : Int
  nm : List UInt8
  at_ : List UInt8
  down : Bool
mutual
inductive Ph where
  | mk (h : Phh) (args : List Ph) (cls : List Cl)
inductive Cl where
  | mk (c : Clh) (x : Ph)
end
def Ph.h : Ph → Phh | .mk h _ _ => h
def Ph.args : Ph → List Ph | .mk _ l _ => l
def Ph.cls : Ph → List Cl | .mk _ _ c => c
def Cl.c : Cl → Clh | .mk c _ => c
def Cl.x : Cl → Ph | .mk _ x => x
theorem mkh (h : Phh) (l : List Ph) (c : List Cl) : (Ph.mk h l c).h = h := rfl
theorem mka (h : Phh) (l : List Ph) (c : List Cl) : (Ph.mk h l c).args = l := rfl
theorem mkc (h : Phh) (l : List Ph) (c : List Cl) : (Ph.mk h l c).cls = c := rfl
theorem mkcc (c : Clh) (x : Ph) : (Cl.mk c x).c = c := rfl
theorem mkcx (c : Clh) (x : Ph) : (Cl.mk c x).x = x := rfl
def phhD (h : Phh) : List D := [.i .i64 h.k, .i .i64 h.it.k, .i .i64 h.it.n, .s h.it.s, .s h.nm, .i .i64 h.n, .i .i64 h.ax, .i .i64 h.tk, .s h.tn]
def clhD (c : Clh) : List D := [.i .i64 c.k, .s c.nm, .s c.at_, .b c.down]
mutual
def phD : Ph → List D
  | .mk h l c => phhD h ++ [aD l, cD c]
def aD : List Ph → D
  | [] => .c (.slice none 0 0)
  | x :: l => .sl 11 (phD x :: phDs l)
def phDs : List Ph → List (List D)
  | [] => []
  | x :: l => phD x :: phDs l
def clD : Cl → List D
  | .mk c x => clhD c ++ phD x
def cD : List Cl → D
  | [] => .c (.slice none 0 0)
  | x :: l => .sl 15 (clD x :: clDs l)
def clDs : List Cl → List (List D)
  | [] => []
  | x :: l => clD x :: clDs l
end
theorem phDs_map : ∀ l : List Ph, phDs l = l.map phD
  | [] => by rw [phDs, List.map_nil]
  | x :: l => by rw [phDs, phDs_map l, List.map_cons]
theorem clDs_map : ∀ l : List Cl, clDs l = l.map clD
  | [] => by rw [clDs, List.map_nil]
  | x :: l => by rw [clDs, clDs_map l, List.map_cons]
theorem aD_nil : aD [] = .c (.slice none 0 0) := by rw [aD]
theorem aD_cons (x : Ph) (l : List Ph) : aD (x :: l) = .sl 11 (phD x :: l.map phD) := by rw [aD, phDs_map]
theorem aD_ne {l : List Ph} (h : l ≠ []) : aD l = .sl 11 (l.map phD) := by
  cases l with
  | nil => exact absurd rfl h
  | cons x l => rw [aD_cons, List.map_cons]
theorem cD_nil : cD [] = .c (.slice none 0 0) := by rw [cD]
theorem cD_cons (x : Cl) (l : List Cl) : cD (x :: l) = .sl 15 (clD x :: l.map clD) := by rw [cD, clDs_map]
theorem cD_ne {l : List Cl} (h : l ≠ []) : cD l = .sl 15 (l.map clD) := by
  cases l with
  | nil => exact absurd rfl h
  | cons x l => rw [cD_cons, List.map_cons]
theorem phD_eq (h : Phh) (l : List Ph) (c : List Cl) : phD (.mk h l c) = phhD h ++ [aD l, cD c] := by rw [phD]
theorem clD_eq (c : Clh) (x : Ph) : clD (.mk c x) = clhD c ++ phD x := by rw [clD]
mutual
def phN : Ph → Nat
  | .mk _ l c => phNs l + clNs c + 1
def phNs : List Ph → Nat
  | [] => 0
  | x :: l => phN x + phNs l
def clN : Cl → Nat
  | .mk _ x => phN x + 1
def clNs : List Cl → Nat
  | [] => 0
  | x :: l => clN x + clNs l
end
theorem phN_eq (h : Phh) (l : List Ph) (c : List Cl) : phN (.mk h l c) = phNs l + clNs c + 1 := by rw [phN]
theorem phNs_nil : phNs [] = 0 := by rw [phNs]
theorem phNs_cons (x : Ph) (l : List Ph) : phNs (x :: l) = phN x + phNs l := by rw [phNs]
theorem clN_eq (c : Clh) (x : Ph) : clN (.mk c x) = phN x + 1 := by rw [clN]
theorem clNs_nil : clNs [] = 0 := by rw [clNs]
theorem clNs_cons (x : Cl) (l : List Cl) : clNs (x :: l) = clN x + clNs l := by rw [clNs]
theorem phNs_mem {x : Ph} : ∀ {l : List Ph}, x ∈ l → phN x ≤ phNs l
  | [], h => by cases h
  | y :: l, h => by
    rw [phNs_cons]
    rcases List.mem_cons.1 h with rfl | h
    · omega
    · have := phNs_mem h; omega
theorem clNs_mem {x : Cl} : ∀ {l : List Cl}, x ∈ l → clN x ≤ clNs l
  | [], h => by cases h
  | y :: l, h => by
    rw [clNs_cons]
    rcases List.mem_cons.1 h with rfl | h
    · omega
    · have := clNs_mem h; omega
theorem phNs_len : ∀ l : List Ph, l.length ≤ phNs l
  | [] => by simp
  | .mk h a c :: l => by rw [phNs_cons, phN_eq, List.length_cons]; have := phNs_len l; omega
theorem clNs_len : ∀ l : List Cl, l.length ≤ clNs l
  | [] => by simp
  | .mk c x :: l => by rw [clNs_cons, clN_eq, List.length_cons]; have := clNs_len l; omega
theorem phN_args {p x : Ph} (h : x ∈ p.args) : phN x < phN p := by
  cases p with | mk h l c => rw [phN_eq]; have := phNs_mem (l := l) h; omega
theorem phN_cls {p : Ph} {c : Cl} (h : c ∈ p.cls) : phN c.x < phN p := by
  cases p with | mk h l cs =>
  cases c with | mk k x =>
  rw [phN_eq]
  have := clNs_mem (l := cs) h
  rw [clN_eq] at this
  simp only [Cl.x]
  omega
structure AtH (H : Heap) (id : Nat) (ob : Ob) : Prop where
  ga : ∀ G : Heap, (H ++ G)[id]? = some ob
  sa : ∀ (G : Heap) (X : Ob), (H ++ G).set id X = H.set id X ++ G
  gs : ∀ X, (H.set id X)[id]? = some X
  ss : ∀ X Y, (H.set id X).set id Y = H.set id Y
  gsa : ∀ (X : Ob) (G : Heap), (H.set id X ++ G)[id]? = some X
  ssa : ∀ (X Y : Ob) (G : Heap), (H.set id X ++ G).set id Y = H.set id Y ++ G
  gl0 : ∀ (X : Ob) (G : Heap), (H.set id X ++ G)[H.length]? = G[0]?
  glk : ∀ (X : Ob) (G : Heap) (k : Nat), (H.set id X ++ G)[H.length + k]? = G[k]?
  sl0 : ∀ (X Y : Ob) (G : Heap), (H.set id X ++ G).set H.length Y = H.set id X ++ G.set 0 Y
  slk : ∀ (X Y : Ob) (G : Heap) (k : Nat), (H.set id X ++ G).set (H.length + k) Y = H.set id X ++ G.set k Y
theorem atH {H : Heap} {id : Nat} {ob : Ob} (h : H[id]? = some ob) : AtH H id ob := by
  have hid := lt_of_get h
  have hl : ∀ X, (H.set id X).length = H.length := fun X => List.length_set
  refine ⟨fun G => ?_, fun G X => ?_, fun X => get_self h X, fun X Y => List.set_set .., fun X G => ?_, fun X Y G => ?_, fun X G => ?_, fun X G k => ?_, fun X Y G => ?_, fun X Y G k => ?_⟩
  · rw [List.getElem?_append_left hid]; exact h
  · rw [List.set_append_left _ _ hid]
  · rw [List.getElem?_append_left (by rw [hl]; exact hid)]; exact get_self h X
  · rw [List.set_append_left _ _ (by rw [hl]; exact hid), List.set_set]
  · have := get_app0 (H.set id X) G; rwa [hl] at this
  · have := get_appk (H.set id X) G k; rwa [hl] at this
  · have := set_app0 (H.set id X) G Y; rwa [hl] at this
  · have := set_appk (H.set id X) G k Y; rwa [hl] at this
theorem dropSe {H H1 G : Heap} {v v' : V} {K : V → Heap → Prop} (hk : K v' H1) (hl : H.length ≤ H1.length) (hc : Closed H H1) (hb : Bel H1.length v') (e : v = v') : RetK H K v (H1 ++ G) := by
  subst e; exact dropS hk hl hc hb
def phW (h : Phh) (l : List Ph) (c : List Cl) : V := .ag [.d (.i .i64 h.k), .d (.i .i64 h.it.k), .d (.i .i64 h.it.n), .d (.s h.it.s), .d (.s h.nm), .d (.i .i64 h.n), .d (.i .i64 h.ax), .d (.i .i64 h.tk), .d (.s h.tn), .d (aD l), .d (cD c)]
theorem phD_1 (p : Ph) : phD p = [.i .i64 p.h.k, .i .i64 p.h.it.k, .i .i64 p.h.it.n, .s p.h.it.s, .s p.h.nm, .i .i64 p.h.n, .i .i64 p.h.ax, .i .i64 p.h.tk, .s p.h.tn, aD p.args, cD p.cls] := by
  cases p with | mk h l c => rw [phD_eq]; rfl
theorem clD_1 (c : Cl) : clD c = [.i .i64 c.c.k, .s c.c.nm, .s c.c.at_, .b c.c.down, .i .i64 c.x.h.k, .i .i64 c.x.h.it.k, .i .i64 c.x.h.it.n, .s c.x.h.it.s, .s c.x.h.nm, .i .i64 c.x.h.n, .i .i64 c.x.h.ax, .i .i64 c.x.h.tk, .s c.x.h.tn, aD c.x.args, cD c.x.cls] := by
  cases c with | mk c x => rw [clD_eq, phD_1]; rfl
end Go.Proofs.YtmhabdopcbokoaaDoor.Gq
