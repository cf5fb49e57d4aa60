/- One token: may it be? What the program and the reference say. No condition but that the tables of package unicode/utf8, and the table of marks, are there. -/
import Derived.Test.YtmalccaijjcepaaDoorRc1
import Derived.Test.YtmalccaijjcepaaDoorMk
import Derived.Test.YtmalccaijjcepaaDoorRn
set_option linter.all false
set_option linter.unusedSimpArgs false
set_option linter.unusedVariables false
namespace Go.Proofs.YtmalccaijjcepaaDoor
open Go Go.Proofs.YtmalccaijjcepaaDoor.Ab
variable [Glo] [U8]
set_option maxHeartbeats 8000000
set_option maxRecDepth 20000
variable [Mk]
def tokFault (t : Tk) : Int :=
  if t.k < 1 ∨ 5 < t.k then 3
  else if t.k = 2 then (if t.n < 0 ∨ 1099511627776 < t.n then 2 else if t.s = [] then 0 else 4)
  else if t.n = 0 then
    (if t.k = 3 then (if qAt t.s 0 = t.s.length then textFault t.s else 4)
     else if t.k = 5 then (if t.s ∈ marksL then 0 else 6)
     else if t.s = [] ∨ 20 < t.s.length ∨ wEnd t.s 0 0 ≠ t.s.length then 10 else 0)
  else 4
theorem sIndexByte_A (l : List UInt8) (H : Heap) (K : V → Heap → Prop) (hk : K (.d (.i .i64 (Lib.indexByte l 34))) H) : ACalls Tryd.prog 76 [.d (.s l), .d (.i .u8 34)] H K := by
  refine ACalls_still _ hk fun w σ args hl hr => ?_
  obtain ⟨u, v, rfl⟩ := two_of_size (xs := args) (by simpa using hl.symm)
  obtain rfl := (hr 0 _ u rfl rfl).inv_d.inv_s
  obtain rfl := (hr 1 _ v rfl rfl).inv_d.inv_i
  refine ⟨.int .i64 (Lib.indexByte l 34), .d _ _ (.i _ _), ?_⟩
  have := Any.stringslite_IndexByte Tryd.lays217 ⟨l.toArray⟩ 34 w
  have e : Tryd.lays217_ren.f 217 = 76 := by first | rfl | kernel_rfl
  rw [e] at this
  simpa using this
/- the live slots of internal/stringslite.Index -/
def ks_75 : Nat → List Nat
  | 0 => [0, 1]
  | 1 => [0, 1, 5]
  | 2 => [0, 1, 5, 16]
  | 3 => [4]
  | 4 => [0, 1, 5, 24]
  | 5 => [4]
  | 6 => [0, 1, 5, 31]
  | 7 => [4]
  | 8 => [0, 1, 5, 36]
  | 9 => [4]
  | 10 => [0, 1, 5, 6]
  | 11 => [0, 1, 5, 6, 7]
  | 12 => [0, 1, 5, 6, 7, 8]
  | 13 => [0, 1, 5, 6, 7, 8, 9]
  | 14 => [0, 1, 5, 6, 7, 8, 9, 10]
  | 15 => [0, 1, 5, 6, 7, 8, 9, 10, 59]
  | 16 => [0, 1, 5, 6, 7, 8, 9, 10, 64]
  | 17 => [0, 1, 5, 6, 7, 8, 9, 10, 11]
  | 18 => [0, 1, 5, 6, 7, 8, 9, 10, 11, 73]
  | 19 => [4]
  | 20 => [0, 1, 5, 6, 7, 8, 9, 10]
  | 21 => [0, 1, 5, 6, 7, 8, 9, 10, 93]
  | 22 => [4]
  | 23 => [0, 1, 5, 6, 7, 8, 9, 10]
  | 24 => [0, 1, 5, 6, 7, 8, 9, 10]
  | 25 => [0, 1, 5, 6, 7, 8, 9, 10, 107]
  | 26 => [8, 12]
  | 27 => [8, 12, 114]
  | 28 => [4]
  | 29 => [4]
  | 30 => [0, 1, 5, 6, 7, 8, 9, 10, 132]
  | 31 => [8, 13]
  | 32 => [8, 13, 139]
  | 33 => [4]
  | 34 => [4]
  | 35 => [4]
  | _ => []
def mu_75 : List Nat := []
def in_75 : List Nat := [0, 1]
theorem sIndex_A (l : List UInt8) (hl : l.length ≤ 9223372036854775807) (H : Heap) (K : V → Heap → Prop) (hk : K (.d (.i .i64 (Lib.indexByte l 34))) H) : ACalls Tryd.prog 75 [.d (.s l), .d (.s [34])] H K := by
  refine ACalls_of Tryd.func75 rfl in_75 (Nat.le_of_ble_eq_true rfl) ?_
  intro F hF
  simp (dsimp := false) only [go_sem, Nat.reduceAdd, Nat.reduceBEq, Nat.reduceEqDiff, Nat.reduceLT, Nat.reduceLeDiff, Nat.reduceMul, Int.reduceToNat, reduceCtorEq, ↓reduceIte, Tryd.ntmps75, Tryd.results75, ks_75, mu_75, ti_ag3, ti_hb76, ti_hb78, ti_hb79, ti_st9, in_75] at hF
  subst hF
  repeat' (first | with_reducible (first | refine And.intro ?_ ?_ | intro _ | refine AWp_seq ?_ | refine AWp_block ?_ | (refine hKv _ _ (AWp_nop ?_); clear hKv Kv) | (refine hKA ?_; clear hKA hKB KA KB) | (refine hKB ?_; clear hKA hKB KA KB) | refine AWp_skipN ?_ | refine AWp_exitO (by repeat (first | exact Out.hit | apply Out.thenA | apply Out.out rfl)) ?_) | ((first | with_reducible (first | (refine hKv _ _ ?_; clear hKv Kv) | ((first | refine AWp_regC mu_75 ks_75 ?_ | refine AWp_regE mu_75 ks_75 ?_); intro Kv hKv) | refine AWp_retR ?_) | refine sIndexByte_A _ _ _ ?_); try simp (dsimp := false) only [go_sem, Nat.reduceAdd, Nat.reduceBEq, Nat.reduceEqDiff, Nat.reduceLT, Nat.reduceLeDiff, Nat.reduceMul, Int.reduceToNat, reduceCtorEq, ↓reduceIte, Tryd.ntmps75, Tryd.results75, ks_75, mu_75, ti_ag3, ti_hb76, ti_hb78, ti_hb79, ti_st9]) | (refine AWp_condC rfl ?_; intro KA KB hKA hKB; try simp only [onB_true, onB_false, onB_dec, onB_ndec, onB_not, onB_and, onB_or]) | (refine AWp_condA rfl ?_ ?_) | with_reducible (first | refine onB_of ?_ ?_ | rfl) | omega)
  all_goals first
    | exact keepD hk rfl
    | (rename_i h; subst h; exact keepD hk rfl)
/- the live slots of strings.Index -/
def ks_69 : Nat → List Nat
  | 0 => [0, 1]
  | 1 => [4]
  | _ => []
def mu_69 : List Nat := []
def in_69 : List Nat := [0, 1]
theorem strIndex_A (l : List UInt8) (hl : l.length ≤ 9223372036854775807) (H : Heap) (K : V → Heap → Prop) (hk : K (.d (.i .i64 (Lib.indexByte l 34))) H) : ACalls Tryd.prog 69 [.d (.s l), .d (.s [34])] H K := by
  refine ACalls_of Tryd.func69 rfl in_69 (Nat.le_of_ble_eq_true rfl) ?_
  intro F hF
  simp (dsimp := false) only [go_sem, Nat.reduceAdd, Nat.reduceBEq, Nat.reduceEqDiff, Nat.reduceLT, Nat.reduceLeDiff, Nat.reduceMul, Int.reduceToNat, reduceCtorEq, ↓reduceIte, Tryd.ntmps69, Tryd.results69, ks_69, mu_69, ti_hb75, in_69] at hF
  subst hF
  repeat' (first | with_reducible (first | refine And.intro ?_ ?_ | intro _ | refine AWp_seq ?_ | refine AWp_block ?_ | (refine hKv _ _ (AWp_nop ?_); clear hKv Kv) | (refine hKA ?_; clear hKA hKB KA KB) | (refine hKB ?_; clear hKA hKB KA KB) | refine AWp_skipN ?_ | refine AWp_exitO (by repeat (first | exact Out.hit | apply Out.thenA | apply Out.out rfl)) ?_) | ((first | with_reducible (first | (refine hKv _ _ ?_; clear hKv Kv) | ((first | refine AWp_regC mu_69 ks_69 ?_ | refine AWp_regE mu_69 ks_69 ?_); intro Kv hKv) | refine AWp_retR ?_) | refine sIndex_A _ hl _ _ ?_); try simp (dsimp := false) only [go_sem, Nat.reduceAdd, Nat.reduceBEq, Nat.reduceEqDiff, Nat.reduceLT, Nat.reduceLeDiff, Nat.reduceMul, Int.reduceToNat, reduceCtorEq, ↓reduceIte, Tryd.ntmps69, Tryd.results69, ks_69, mu_69, ti_hb75]) | (refine AWp_condC rfl ?_; intro KA KB hKA hKB; try simp only [onB_true, onB_false, onB_dec, onB_ndec, onB_not, onB_and, onB_or]) | (refine AWp_condA rfl ?_ ?_) | with_reducible (first | refine onB_of ?_ ?_ | rfl) | omega)
  all_goals first
    | exact keepD hk rfl
/- the live slots of strings.Contains -/
def ks_55 : Nat → List Nat
  | 0 => [0, 1]
  | 1 => [4]
  | _ => []
def mu_55 : List Nat := []
def in_55 : List Nat := [0, 1]
theorem strContains_A (l : List UInt8) (hl : l.length ≤ 9223372036854775807) (H : Heap) (K : V → Heap → Prop) (hk : K (.d (.b (!decide (qAt l 0 = l.length)))) H) : ACalls Tryd.prog 55 [.d (.s l), .d (.s [34])] H K := by
  have hq := indexByte_q l _ 0 (Nat.le_refl _) (Nat.zero_le _)
  rw [List.drop_zero] at hq
  have hle := qAt_le l _ 0 (Nat.le_refl _) (Nat.zero_le _)
  refine ACalls_of Tryd.func55 rfl in_55 (Nat.le_of_ble_eq_true rfl) ?_
  intro F hF
  simp (dsimp := false) only [go_sem, Nat.reduceAdd, Nat.reduceBEq, Nat.reduceEqDiff, Nat.reduceLT, Nat.reduceLeDiff, Nat.reduceMul, Int.reduceToNat, reduceCtorEq, ↓reduceIte, Tryd.ntmps55, Tryd.results55, ks_55, mu_55, ti_hb69, in_55] at hF
  subst hF
  repeat' (first | with_reducible (first | refine And.intro ?_ ?_ | intro _ | refine AWp_seq ?_ | refine AWp_block ?_ | (refine hKv _ _ (AWp_nop ?_); clear hKv Kv) | (refine hKA ?_; clear hKA hKB KA KB) | (refine hKB ?_; clear hKA hKB KA KB) | refine AWp_skipN ?_ | refine AWp_exitO (by repeat (first | exact Out.hit | apply Out.thenA | apply Out.out rfl)) ?_) | ((first | with_reducible (first | (refine hKv _ _ ?_; clear hKv Kv) | ((first | refine AWp_regC mu_55 ks_55 ?_ | refine AWp_regE mu_55 ks_55 ?_); intro Kv hKv) | refine AWp_retR ?_) | refine strIndex_A _ hl _ _ ?_); try simp (dsimp := false) only [go_sem, Nat.reduceAdd, Nat.reduceBEq, Nat.reduceEqDiff, Nat.reduceLT, Nat.reduceLeDiff, Nat.reduceMul, Int.reduceToNat, reduceCtorEq, ↓reduceIte, Tryd.ntmps55, Tryd.results55, ks_55, mu_55, ti_hb69]) | (refine AWp_condC rfl ?_; intro KA KB hKA hKB; try simp only [onB_true, onB_false, onB_dec, onB_ndec, onB_not, onB_and, onB_or]) | (refine AWp_condA rfl ?_ ?_) | with_reducible (first | refine onB_of ?_ ?_ | rfl) | omega)
  have e : decide (0 ≤ Lib.indexByte l 34) = !decide (qAt l 0 = l.length) := by
    rw [hq]
    by_cases h : qAt l 0 = l.length
    · rw [if_pos h, h]; simp
    · rw [if_neg h]; simp [h]
  exact keepD hk (by rw [e])
/- the live slots of pleacher/pleacherref.hasText -/
def ks_58 : Nat → List Nat
  | 0 => [0, 1]
  | 1 => [0, 1, 5]
  | 2 => [0, 1, 5, 9]
  | 3 => [0, 1, 5]
  | 4 => [0, 1, 5, 17]
  | 5 => [4]
  | 6 => [4]
  | _ => []
def mu_58 : List Nat := []
def in_58 : List Nat := [0, 1]
theorem hasText_A (l : List (List UInt8)) (s : List UInt8) (hlen : l.length ≤ 9223372036854775807) (H : Heap) (K : V → Heap → Prop) (hk : K (.d (.b (decide (s ∈ l)))) H) :
    ACalls Tryd.prog 58 [.d (.sl 1 (l.map strRow)), .d (.s s)] H K := by
  refine ACalls_of Tryd.func58 rfl in_58 (Nat.le_of_ble_eq_true rfl) ?_
  intro F hF
  simp (dsimp := false) only [go_sem, Nat.reduceAdd, Nat.reduceBEq, Nat.reduceEqDiff, Nat.reduceLT, Nat.reduceLeDiff, Nat.reduceMul, Int.reduceToNat, reduceCtorEq, ↓reduceIte, Tryd.ntmps58, Tryd.results58, ks_58, mu_58, ti_ag9, ti_sb33, ti_sl33, in_58] at hF
  subst hF
  repeat' (first | with_reducible (first | refine And.intro ?_ ?_ | intro _ | refine AWp_seq ?_ | refine AWp_block ?_ | (refine hKv _ _ (AWp_nop ?_); clear hKv Kv) | (refine hKA ?_; clear hKA hKB KA KB) | (refine hKB ?_; clear hKA hKB KA KB) | refine AWp_skipN ?_ | refine AWp_exitO (by repeat (first | exact Out.hit | apply Out.thenA | apply Out.out rfl)) ?_) | (with_reducible (first | (refine hKv _ _ ?_; clear hKv Kv) | ((first | refine AWp_regC mu_58 ks_58 ?_ | refine AWp_regE mu_58 ks_58 ?_); intro Kv hKv) | refine AWp_retR ?_); try simp (dsimp := false) only [go_sem, Nat.reduceAdd, Nat.reduceBEq, Nat.reduceEqDiff, Nat.reduceLT, Nat.reduceLeDiff, Nat.reduceMul, Int.reduceToNat, reduceCtorEq, ↓reduceIte, Tryd.ntmps58, Tryd.results58, ks_58, mu_58, ti_ag9, ti_sb33, ti_sl33]) | (refine AWp_condC rfl ?_; intro KA KB hKA hKB; try simp only [onB_true, onB_false, onB_dec, onB_ndec, onB_not, onB_and, onB_or]) | (refine AWp_condA rfl ?_ ?_) | with_reducible (first | refine onB_of ?_ ?_ | rfl) | omega)
  refine AWp_while0 (fun i : Nat => i ≤ l.length ∧ (s ∈ l ↔ s ∈ l.drop i)) (fun i => [(0, .d (.sl 1 (l.map strRow))), (1, .d (.s s)), (5, .d (.i .i64 i))]) (fun i => l.length - i) 0 ⟨Nat.zero_le _, by simp⟩ ?_ ?_
  · simp (dsimp := false) only [go_sem, Nat.reduceAdd, Nat.reduceBEq, Nat.reduceEqDiff, Nat.reduceLT, Nat.reduceLeDiff, Nat.reduceMul, Int.reduceToNat, reduceCtorEq, ↓reduceIte, Tryd.ntmps58, Tryd.results58, ks_58, mu_58, ti_ag9, ti_sb33, ti_sl33]
    first | done | simp
  rintro i ⟨hi, hm⟩
  by_cases hil : i < l.length
  · obtain ⟨x, hx⟩ : ∃ x, l[i]? = some x := ⟨l[i], List.getElem?_eq_getElem hil⟩
    rw [drop_of_get hx, List.mem_cons] at hm
    
    repeat' (first | with_reducible (first | refine And.intro ?_ ?_ | intro _ | refine AWp_seq ?_ | refine AWp_block ?_ | (refine hKv _ _ (AWp_nop ?_); clear hKv Kv) | (refine hKA ?_; clear hKA hKB KA KB) | (refine hKB ?_; clear hKA hKB KA KB) | refine AWp_skipN ?_ | refine AWp_exitO (by repeat (first | exact Out.hit | apply Out.thenA | apply Out.out rfl)) ?_) | (with_reducible (first | (refine hKv _ _ ?_; clear hKv Kv) | ((first | refine AWp_regC mu_58 ks_58 ?_ | refine AWp_regE mu_58 ks_58 ?_); intro Kv hKv) | refine AWp_retR ?_); try simp (dsimp := false) only [go_sem, Nat.reduceAdd, Nat.reduceBEq, Nat.reduceEqDiff, Nat.reduceLT, Nat.reduceLeDiff, Nat.reduceMul, Int.reduceToNat, reduceCtorEq, ↓reduceIte, Tryd.ntmps58, Tryd.results58, ks_58, mu_58, ti_ag9, ti_sb33, ti_sl33, hx]) | (refine AWp_condC rfl ?_; intro KA KB hKA hKB; try simp only [onB_true, onB_false, onB_dec, onB_ndec, onB_not, onB_and, onB_or]) | (refine AWp_condA rfl ?_ ?_) | with_reducible (first | refine onB_of ?_ ?_ | rfl) | omega)
    all_goals first
      | exact keepD hk (by rw [decide_eq_true (hm.2 (.inl (by first | assumption | (symm; assumption))))])
      | exact ⟨i + 1, ⟨by omega, hm.trans ⟨fun h => h.elim (fun e => absurd e.symm (by assumption)) id, .inr⟩⟩, by omega, by omega⟩
      | exact ⟨i + 1, ⟨by omega, hm.trans ⟨fun h => h.elim (fun e => absurd e (by assumption)) id, .inr⟩⟩, by omega, by omega⟩
  · 
    repeat' (first | with_reducible (first | refine And.intro ?_ ?_ | intro _ | refine AWp_seq ?_ | refine AWp_block ?_ | (refine hKv _ _ (AWp_nop ?_); clear hKv Kv) | (refine hKA ?_; clear hKA hKB KA KB) | (refine hKB ?_; clear hKA hKB KA KB) | refine AWp_skipN ?_ | refine AWp_exitO (by repeat (first | exact Out.hit | apply Out.thenA | apply Out.out rfl)) ?_) | (with_reducible (first | (refine hKv _ _ ?_; clear hKv Kv) | ((first | refine AWp_regC mu_58 ks_58 ?_ | refine AWp_regE mu_58 ks_58 ?_); intro Kv hKv) | refine AWp_retR ?_); try simp (dsimp := false) only [go_sem, Nat.reduceAdd, Nat.reduceBEq, Nat.reduceEqDiff, Nat.reduceLT, Nat.reduceLeDiff, Nat.reduceMul, Int.reduceToNat, reduceCtorEq, ↓reduceIte, Tryd.ntmps58, Tryd.results58, ks_58, mu_58, ti_ag9, ti_sb33, ti_sl33]) | (refine AWp_condC rfl ?_; intro KA KB hKA hKB; try simp only [onB_true, onB_false, onB_dec, onB_ndec, onB_not, onB_and, onB_or]) | (refine AWp_condA rfl ?_ ?_) | with_reducible (first | refine onB_of ?_ ?_ | rfl) | omega)
    rw [List.drop_eq_nil_of_le (by omega)] at hm
    all_goals exact keepD hk (by rw [decide_eq_false (fun h => by simpa using hm.1 h)])

/- the live slots of pleacher/read.CheckToken -/
def ks_29 : Nat → List Nat
  | 0 => [1]
  | 1 => [1, 11]
  | 2 => [2]
  | 3 => [1, 14]
  | 4 => [1, 22]
  | 5 => [2]
  | 6 => [25]
  | 7 => [2]
  | 8 => [2]
  | 9 => [1, 28]
  | 10 => [2]
  | 11 => [1, 30]
  | 12 => [1, 30, 31]
  | 13 => [1, 35]
  | 14 => [2]
  | 15 => [2]
  | 16 => [1, 39]
  | 17 => [45]
  | 18 => [2]
  | 19 => [2]
  | 20 => [1, 54]
  | 21 => [2]
  | 22 => [1, 3]
  | 23 => [64]
  | 24 => [2]
  | 25 => [2]
  | _ => []
def mu_29 : List Nat := [58]
def in_29 : List Nat := [0]
def nd_29 : Nat → Nat
  | 17 => 4
  | 23 => 5
  | _ => 0
theorem checkToken_A (t : Tk) (hs : t.s.length ≤ 9223372036854775807) (H : Heap) (K : V → Heap → Prop) (hk : K (.d (.i .i64 (tokFault t))) H) : ACalls Tryd.prog 29 [tkV t] H K := by
  have hmk : glob 0 = some marksRow := Mk.marks
  have hml : marksRow.length = 26 := rfl
  have hmr : (marksRow.map fun x => [x]) = marksL.map strRow := by simp [marksRow, strRow]
  
  refine ACalls_of Tryd.func29 rfl in_29 (Nat.le_of_ble_eq_true rfl) ?_
  intro F hF
  simp (dsimp := false) only [go_sem, Nat.reduceAdd, Nat.reduceBEq, Nat.reduceEqDiff, Nat.reduceLT, Nat.reduceLeDiff, Nat.reduceMul, Int.reduceToNat, reduceCtorEq, ↓reduceIte, Tryd.ntmps29, Tryd.results29, ks_29, mu_29, nd_29, ti_ag3, ti_ag9, ti_av87_26, ti_fl52_0, ti_fl52_1, ti_fl52_2, ti_hb11, ti_hb55, ti_hb56, ti_hb57, ti_pl91, ti_st9, ti_zr91, tkD, tkV, hmk, hml, hmr, in_29] at hF
  subst hF
  repeat' (first | with_reducible (first | refine And.intro ?_ ?_ | intro _ | refine AWp_seq ?_ | refine AWp_block ?_ | (refine hKv _ _ (AWp_nop ?_); clear hKv Kv) | (refine hKA ?_; clear hKA hKB KA KB) | (refine hKB ?_; clear hKA hKB KA KB) | refine AWp_skipN ?_ | refine AWp_exitO (by repeat (first | exact Out.hit | apply Out.thenA | apply Out.out rfl)) ?_) | ((first | with_reducible (first | (refine hKv _ _ ?_; clear hKv Kv) | ((first | refine AWp_regC mu_29 ks_29 ?_ | refine AWp_draw nd_29 mu_29 ks_29 ti_mixed (by kernel_rfl) ?_ | refine AWp_regE mu_29 ks_29 ?_ | refine AWp_drawE nd_29 mu_29 ks_29 ti_mixed (by kernel_rfl) ?_); intro Kv hKv) | refine AWp_retR ?_) | refine strContains_A _ (by omega) _ _ ?_ | refine QCall_of (strContains_A _ (by omega) _ _ (Two_intro _ _)) ?_ | refine checkText_A _ (by omega) _ _ ?_ | refine QCall_of (checkText_A _ (by omega) _ _ (Two_intro _ _)) ?_ | refine contains_A marksL _ (by decide) _ _ ?_ | refine QCall_of (contains_A marksL _ (by decide) _ _ (Two_intro _ _)) ?_ | refine word_A H.length t.s 0 0 _ (by omega) (by omega) _ _ (get_app0 _ _) ?_ | refine QCall_of (word_A H.length t.s 0 0 _ (by omega) (by omega) _ _ (get_app0 _ _) (Two_intro _ _)) ?_); try simp (dsimp := false) only [go_sem, Nat.reduceAdd, Nat.reduceBEq, Nat.reduceEqDiff, Nat.reduceLT, Nat.reduceLeDiff, Nat.reduceMul, Int.reduceToNat, reduceCtorEq, ↓reduceIte, Tryd.ntmps29, Tryd.results29, ks_29, mu_29, nd_29, ti_ag3, ti_ag9, ti_av87_26, ti_fl52_0, ti_fl52_1, ti_fl52_2, ti_hb11, ti_hb55, ti_hb56, ti_hb57, ti_pl91, ti_st9, ti_zr91, tkD, tkV, hmk, hml, hmr]) | (refine AWp_condC rfl ?_; intro KA KB hKA hKB; try simp only [onB_true, onB_false, onB_dec, onB_ndec, onB_not, onB_and, onB_or]) | (refine AWp_condA rfl ?_ ?_) | with_reducible (first | refine onB_of ?_ ?_ | rfl) | omega)
  all_goals first
    | exact keepD hk (by (simp only [V.d.injEq, D.i.injEq, D.b.injEq, D.s.injEq, true_and]; grind [tokFault]))
    | exact dropD hk (by (simp only [V.d.injEq, D.i.injEq, D.b.injEq, D.s.injEq, true_and]; grind [tokFault]))

/- the live slots of pleacher/pleacherref.TokenFault -/
def ks_30 : Nat → List Nat
  | 0 => [1]
  | 1 => [1, 7]
  | 2 => [2]
  | 3 => [1, 10]
  | 4 => [1, 14]
  | 5 => [2]
  | 6 => [17]
  | 7 => [2]
  | 8 => [2]
  | 9 => [1, 20]
  | 10 => [2]
  | 11 => [1, 23]
  | 12 => [1, 3]
  | 13 => [1, 3, 28]
  | 14 => [1, 3]
  | 15 => [1, 3, 35]
  | 16 => [2]
  | 17 => [2]
  | 18 => [1, 41]
  | 19 => [46]
  | 20 => [2]
  | 21 => [2]
  | 22 => [60]
  | 23 => [2]
  | 24 => [2]
  | _ => []
def mu_30 : List Nat := []
def in_30 : List Nat := [0]
def nd_30 : Nat → Nat
  | 19 => 4
  | 22 => 13
  | _ => 0
theorem tokenFault_A (t : Tk) (hs : t.s.length ≤ 9223372036854775807) (H : Heap) (K : V → Heap → Prop) (hk : K (.d (.i .i64 (tokFault t))) H) : ACalls Tryd.prog 30 [tkV t] H K := by
  refine ACalls_of Tryd.func30 rfl in_30 (Nat.le_of_ble_eq_true rfl) ?_
  intro F hF
  simp (dsimp := false) only [go_sem, Nat.reduceAdd, Nat.reduceBEq, Nat.reduceEqDiff, Nat.reduceLT, Nat.reduceLeDiff, Nat.reduceMul, Int.reduceToNat, reduceCtorEq, ↓reduceIte, Tryd.ntmps30, Tryd.results30, ks_30, mu_30, nd_30, ti_ag3, ti_ag9, ti_fl52_0, ti_fl52_1, ti_fl52_2, ti_hb12, ti_hb36, ti_hb58, ti_hb59, ti_hb60, ti_st9, tkD, tkV, in_30] at hF
  subst hF
  repeat' (first | with_reducible (first | refine And.intro ?_ ?_ | intro _ | refine AWp_seq ?_ | refine AWp_block ?_ | (refine hKv _ _ (AWp_nop ?_); clear hKv Kv) | (refine hKA ?_; clear hKA hKB KA KB) | (refine hKB ?_; clear hKA hKB KA KB) | refine AWp_skipN ?_ | refine AWp_exitO (by repeat (first | exact Out.hit | apply Out.thenA | apply Out.out rfl)) ?_) | ((first | with_reducible (first | (refine hKv _ _ ?_; clear hKv Kv) | ((first | refine AWp_regC mu_30 ks_30 ?_ | refine AWp_draw nd_30 mu_30 ks_30 ti_mixed (by kernel_rfl) ?_ | refine AWp_regE mu_30 ks_30 ?_ | refine AWp_drawE nd_30 mu_30 ks_30 ti_mixed (by kernel_rfl) ?_); intro Kv hKv) | refine AWp_retR ?_) | refine in_A _ _ _ _ _ ?_ | refine QCall_of (in_A _ _ _ _ _ (Two_intro _ _)) ?_ | refine allMarks_A _ _ ?_ | refine QCall_of (allMarks_A _ _ (Two_intro _ _)) ?_ | refine hasText_A _ _ (by decide) _ _ ?_ | refine QCall_of (hasText_A _ _ (by decide) _ _ (Two_intro _ _)) ?_ | refine wordTo_A _ 0 hs (by omega) _ _ ?_ | refine QCall_of (wordTo_A _ 0 hs (by omega) _ _ (Two_intro _ _)) ?_ | refine valueFault_A _ (by omega) _ _ ?_ | refine QCall_of (valueFault_A _ (by omega) _ _ (Two_intro _ _)) ?_); try simp (dsimp := false) only [go_sem, Nat.reduceAdd, Nat.reduceBEq, Nat.reduceEqDiff, Nat.reduceLT, Nat.reduceLeDiff, Nat.reduceMul, Int.reduceToNat, reduceCtorEq, ↓reduceIte, Tryd.ntmps30, Tryd.results30, ks_30, mu_30, nd_30, ti_ag3, ti_ag9, ti_fl52_0, ti_fl52_1, ti_fl52_2, ti_hb12, ti_hb36, ti_hb58, ti_hb59, ti_hb60, ti_st9, tkD, tkV]) | (refine AWp_condC rfl ?_; intro KA KB hKA hKB; try simp only [onB_true, onB_false, onB_dec, onB_ndec, onB_not, onB_and, onB_or]) | (refine AWp_condA rfl ?_ ?_) | with_reducible (first | refine onB_of ?_ ?_ | rfl) | omega)
  all_goals first
    | exact keepD hk (by (simp only [V.d.injEq, D.i.injEq, D.b.injEq, D.s.injEq, true_and]; grind [tokFault]))
    | (have hlen : ¬ (1 ≤ (t.s.length : Int) ∧ (t.s.length : Int) ≤ 20) := by assumption
       have h10 : t.s = [] ∨ 20 < t.s.length ∨ wEnd t.s 0 0 ≠ t.s.length := by
         by_cases h0 : t.s.length = 0
         · exact .inl (List.length_eq_zero_iff.1 h0)
         · exact .inr (.inl (by omega))
       exact keepD hk (by (simp only [V.d.injEq, D.i.injEq, D.b.injEq, D.s.injEq, true_and]; grind [tokFault])))
    | skip
  rename_i h1 h2 h3 h4
  refine AWp_while0 (fun j : Nat => j ≤ t.s.length ∧ qAt t.s 0 = qAt t.s j) (fun j => [(1, .rp (tkD t)), (3, .d (.i .i64 j))]) (fun j => t.s.length - j) 0 ⟨Nat.zero_le _, rfl⟩ ?_ ?_
  · simp (dsimp := false) only [go_sem, Nat.reduceAdd, Nat.reduceBEq, Nat.reduceEqDiff, Nat.reduceLT, Nat.reduceLeDiff, Nat.reduceMul, Int.reduceToNat, reduceCtorEq, ↓reduceIte, Tryd.ntmps30, Tryd.results30, ks_30, mu_30, nd_30, ti_ag3, ti_ag9, ti_fl52_0, ti_fl52_1, ti_fl52_2, ti_hb12, ti_hb36, ti_hb58, ti_hb59, ti_hb60, ti_st9, tkD, tkV]
    first | done | simp
  rintro j ⟨hj, hq⟩
  by_cases hjl : j < t.s.length
  · obtain ⟨c, hc⟩ : ∃ c, t.s[j]? = some c := ⟨t.s[j], List.getElem?_eq_getElem hjl⟩
    have hle := qAt_le t.s _ (j + 1) (Nat.le_refl _) (by omega)
    by_cases h34 : c = 34
    · have h34' : (c.toNat : Int) = 34 := by subst h34; rfl
      rw [qAt_hit hc h34] at hq
      
      repeat' (first | with_reducible (first | refine And.intro ?_ ?_ | intro _ | refine AWp_seq ?_ | refine AWp_block ?_ | (refine hKv _ _ (AWp_nop ?_); clear hKv Kv) | (refine hKA ?_; clear hKA hKB KA KB) | (refine hKB ?_; clear hKA hKB KA KB) | refine AWp_skipN ?_ | refine AWp_exitO (by repeat (first | exact Out.hit | apply Out.thenA | apply Out.out rfl)) ?_) | (with_reducible (first | (refine hKv _ _ ?_; clear hKv Kv) | ((first | refine AWp_regC mu_30 ks_30 ?_ | refine AWp_draw nd_30 mu_30 ks_30 ti_mixed (by kernel_rfl) ?_ | refine AWp_regE mu_30 ks_30 ?_ | refine AWp_drawE nd_30 mu_30 ks_30 ti_mixed (by kernel_rfl) ?_); intro Kv hKv) | refine AWp_retR ?_); try simp (dsimp := false) only [go_sem, Nat.reduceAdd, Nat.reduceBEq, Nat.reduceEqDiff, Nat.reduceLT, Nat.reduceLeDiff, Nat.reduceMul, Int.reduceToNat, reduceCtorEq, ↓reduceIte, Tryd.ntmps30, Tryd.results30, ks_30, mu_30, nd_30, ti_ag3, ti_ag9, ti_fl52_0, ti_fl52_1, ti_fl52_2, ti_hb12, ti_hb36, ti_hb58, ti_hb59, ti_hb60, ti_st9, tkD, tkV, hc, h34']) | (refine AWp_condC rfl ?_; intro KA KB hKA hKB; try simp only [onB_true, onB_false, onB_dec, onB_ndec, onB_not, onB_and, onB_or]) | (refine AWp_condA rfl ?_ ?_) | with_reducible (first | refine onB_of ?_ ?_ | rfl) | omega)
      all_goals exact keepD hk (by (simp only [V.d.injEq, D.i.injEq, D.b.injEq, D.s.injEq, true_and]; grind [tokFault]))
    · have h34' : ¬ (c.toNat : Int) = 34 := fun h => h34 (UInt8.toNat_inj.1 (by simpa using (by omega : c.toNat = 34)))
      rw [qAt_next hc h34] at hq
      
      repeat' (first | with_reducible (first | refine And.intro ?_ ?_ | intro _ | refine AWp_seq ?_ | refine AWp_block ?_ | (refine hKv _ _ (AWp_nop ?_); clear hKv Kv) | (refine hKA ?_; clear hKA hKB KA KB) | (refine hKB ?_; clear hKA hKB KA KB) | refine AWp_skipN ?_ | refine AWp_exitO (by repeat (first | exact Out.hit | apply Out.thenA | apply Out.out rfl)) ?_) | (with_reducible (first | (refine hKv _ _ ?_; clear hKv Kv) | ((first | refine AWp_regC mu_30 ks_30 ?_ | refine AWp_draw nd_30 mu_30 ks_30 ti_mixed (by kernel_rfl) ?_ | refine AWp_regE mu_30 ks_30 ?_ | refine AWp_drawE nd_30 mu_30 ks_30 ti_mixed (by kernel_rfl) ?_); intro Kv hKv) | refine AWp_retR ?_); try simp (dsimp := false) only [go_sem, Nat.reduceAdd, Nat.reduceBEq, Nat.reduceEqDiff, Nat.reduceLT, Nat.reduceLeDiff, Nat.reduceMul, Int.reduceToNat, reduceCtorEq, ↓reduceIte, Tryd.ntmps30, Tryd.results30, ks_30, mu_30, nd_30, ti_ag3, ti_ag9, ti_fl52_0, ti_fl52_1, ti_fl52_2, ti_hb12, ti_hb36, ti_hb58, ti_hb59, ti_hb60, ti_st9, tkD, tkV, hc, h34']) | (refine AWp_condC rfl ?_; intro KA KB hKA hKB; try simp only [onB_true, onB_false, onB_dec, onB_ndec, onB_not, onB_and, onB_or]) | (refine AWp_condA rfl ?_ ?_) | with_reducible (first | refine onB_of ?_ ?_ | rfl) | omega)
      all_goals exact ⟨j + 1, ⟨by omega, hq⟩, by omega, by omega⟩
  · have e : j = t.s.length := by omega
    subst e
    rw [qAt_end (Nat.le_refl _)] at hq
    
    repeat' (first | with_reducible (first | refine And.intro ?_ ?_ | intro _ | refine AWp_seq ?_ | refine AWp_block ?_ | (refine hKv _ _ (AWp_nop ?_); clear hKv Kv) | (refine hKA ?_; clear hKA hKB KA KB) | (refine hKB ?_; clear hKA hKB KA KB) | refine AWp_skipN ?_ | refine AWp_exitO (by repeat (first | exact Out.hit | apply Out.thenA | apply Out.out rfl)) ?_) | ((first | with_reducible (first | (refine hKv _ _ ?_; clear hKv Kv) | ((first | refine AWp_regC mu_30 ks_30 ?_ | refine AWp_draw nd_30 mu_30 ks_30 ti_mixed (by kernel_rfl) ?_ | refine AWp_regE mu_30 ks_30 ?_ | refine AWp_drawE nd_30 mu_30 ks_30 ti_mixed (by kernel_rfl) ?_); intro Kv hKv) | refine AWp_retR ?_) | refine valueFault_A _ (by omega) _ _ ?_ | refine QCall_of (valueFault_A _ (by omega) _ _ (Two_intro _ _)) ?_); try simp (dsimp := false) only [go_sem, Nat.reduceAdd, Nat.reduceBEq, Nat.reduceEqDiff, Nat.reduceLT, Nat.reduceLeDiff, Nat.reduceMul, Int.reduceToNat, reduceCtorEq, ↓reduceIte, Tryd.ntmps30, Tryd.results30, ks_30, mu_30, nd_30, ti_ag3, ti_ag9, ti_fl52_0, ti_fl52_1, ti_fl52_2, ti_hb12, ti_hb36, ti_hb58, ti_hb59, ti_hb60, ti_st9, tkD, tkV]) | (refine AWp_condC rfl ?_; intro KA KB hKA hKB; try simp only [onB_true, onB_false, onB_dec, onB_ndec, onB_not, onB_and, onB_or]) | (refine AWp_condA rfl ?_ ?_) | with_reducible (first | refine onB_of ?_ ?_ | rfl) | omega)
    all_goals exact keepD hk (by (simp only [V.d.injEq, D.i.injEq, D.b.injEq, D.s.injEq, true_and]; grind [tokFault]))
end Go.Proofs.YtmalccaijjcepaaDoor
