/- Words, marks and quotes: what the program's and the reference's small functions find. No condition but that the tables of package unicode/utf8 are there. -/
import Derived.Test.YtmalccaijjcepaaDoorRc0
import Derived.Test.YtmalccaijjcepaaDoorSh
set_option linter.all false
set_option linter.unusedSimpArgs false
set_option linter.unusedVariables false
namespace Go.Proofs.YtmalccaijjcepaaDoor
open Go Go.Proofs.YtmalccaijjcepaaDoor.Ab
variable [Glo]
set_option maxHeartbeats 4000000
set_option maxRecDepth 20000
theorem wordB_first (c : Int) : wordB c true = letterB c := by
  simp only [wordB, nameB, letterB]; grind
theorem wordB_rest (c : Int) : wordB c false = (letterB c || digB c || decide (c = 45)) := by
  simp only [wordB, nameB, letterB, digB]; grind
/- the live slots of pleacher/read.start -/
def ks_70 : Nat → List Nat
  | 0 => [0]
  | 1 => [2]
  | _ => []
def mu_70 : List Nat := []
def in_70 : List Nat := [0]
theorem start_A (c : Int) (H : Heap) (K : V → Heap → Prop) (hk : K (.d (.b (letterB c))) H) : ACalls Tryd.prog 70 [.d (.i .u8 c)] H K := by
  refine ACalls_of Tryd.func70 rfl in_70 (Nat.le_of_ble_eq_true rfl) ?_
  intro F hF
  simp (dsimp := false) only [go_sem, Nat.reduceAdd, Nat.reduceBEq, Nat.reduceEqDiff, Nat.reduceLT, Nat.reduceLeDiff, Nat.reduceMul, Int.reduceToNat, reduceCtorEq, ↓reduceIte, Tryd.ntmps70, Tryd.results70, ks_70, mu_70, in_70] at hF
  subst hF
  repeat' (first | with_reducible (first | refine And.intro ?_ ?_ | intro _ | refine AWp_seq ?_ | refine AWp_block ?_ | (refine hKv _ _ (AWp_nop ?_); clear hKv Kv) | (refine hKA ?_; clear hKA hKB KA KB) | (refine hKB ?_; clear hKA hKB KA KB) | refine AWp_skipN ?_ | refine AWp_exitO (by repeat (first | exact Out.hit | apply Out.thenA | apply Out.out rfl)) ?_) | (with_reducible (first | (refine hKv _ _ ?_; clear hKv Kv) | ((first | refine AWp_regC mu_70 ks_70 ?_ | refine AWp_regE mu_70 ks_70 ?_); intro Kv hKv) | refine AWp_retR ?_); try simp (dsimp := false) only [go_sem, Nat.reduceAdd, Nat.reduceBEq, Nat.reduceEqDiff, Nat.reduceLT, Nat.reduceLeDiff, Nat.reduceMul, Int.reduceToNat, reduceCtorEq, ↓reduceIte, Tryd.ntmps70, Tryd.results70, ks_70, mu_70]) | (refine AWp_condC rfl ?_; intro KA KB hKA hKB; try simp only [onB_true, onB_false, onB_dec, onB_ndec, onB_not, onB_and, onB_or]) | (refine AWp_condA rfl ?_ ?_) | with_reducible (first | refine onB_of ?_ ?_ | rfl) | omega)
  all_goals refine keepD hk ?_
  all_goals (simp only [letterB, V.d.injEq, D.b.injEq]; grind)
/- the live slots of pleacher/pleacherref.wordByte -/
def ks_71 : Nat → List Nat
  | 0 => [0, 1]
  | 1 => [4]
  | _ => []
def mu_71 : List Nat := []
def in_71 : List Nat := [0, 1]
theorem wordByte_A (c : Int) (t : Bool) (H : Heap) (K : V → Heap → Prop) (hk : K (.d (.b (wordB c t))) H) : ACalls Tryd.prog 71 [.d (.i .u8 c), .d (.b t)] H K := by
  refine ACalls_of Tryd.func71 rfl in_71 (Nat.le_of_ble_eq_true rfl) ?_
  intro F hF
  simp (dsimp := false) only [go_sem, Nat.reduceAdd, Nat.reduceBEq, Nat.reduceEqDiff, Nat.reduceLT, Nat.reduceLeDiff, Nat.reduceMul, Int.reduceToNat, reduceCtorEq, ↓reduceIte, Tryd.ntmps71, Tryd.results71, ks_71, mu_71, ti_hb73, in_71] at hF
  subst hF
  repeat' (first | with_reducible (first | refine And.intro ?_ ?_ | intro _ | refine AWp_seq ?_ | refine AWp_block ?_ | (refine hKv _ _ (AWp_nop ?_); clear hKv Kv) | (refine hKA ?_; clear hKA hKB KA KB) | (refine hKB ?_; clear hKA hKB KA KB) | refine AWp_skipN ?_ | refine AWp_exitO (by repeat (first | exact Out.hit | apply Out.thenA | apply Out.out rfl)) ?_) | ((first | with_reducible (first | (refine hKv _ _ ?_; clear hKv Kv) | ((first | refine AWp_regC mu_71 ks_71 ?_ | refine AWp_regE mu_71 ks_71 ?_); intro Kv hKv) | refine AWp_retR ?_) | refine nameByte_A _ _ _ _ ?_); try simp (dsimp := false) only [go_sem, Nat.reduceAdd, Nat.reduceBEq, Nat.reduceEqDiff, Nat.reduceLT, Nat.reduceLeDiff, Nat.reduceMul, Int.reduceToNat, reduceCtorEq, ↓reduceIte, Tryd.ntmps71, Tryd.results71, ks_71, mu_71, ti_hb73]) | (refine AWp_condC rfl ?_; intro KA KB hKA hKB; try simp only [onB_true, onB_false, onB_dec, onB_ndec, onB_not, onB_and, onB_or]) | (refine AWp_condA rfl ?_ ?_) | with_reducible (first | refine onB_of ?_ ?_ | rfl) | omega)
  all_goals refine keepD hk ?_
  all_goals (simp only [wordB, V.d.injEq, D.b.injEq]; grind)
/- the live slots of pleacher/pleacherref.wordTo -/
def ks_60 : Nat → List Nat
  | 0 => [0, 1]
  | 1 => [0, 1, 5]
  | 2 => [0, 1, 5, 19]
  | 3 => [0, 1, 5]
  | 4 => [4]
  | _ => []
def mu_60 : List Nat := []
def in_60 : List Nat := [0, 1]
theorem wordTo_A (s : List UInt8) (a : Nat) (hs : s.length ≤ 9223372036854775807) (ha : a ≤ s.length) (H : Heap) (K : V → Heap → Prop) (hk : K (.d (.i .i64 (wEnd s a a))) H) : ACalls Tryd.prog 60 [.d (.s s), .d (.i .i64 a)] H K := by
  refine ACalls_of Tryd.func60 rfl in_60 (Nat.le_of_ble_eq_true rfl) ?_
  intro F hF
  simp (dsimp := false) only [go_sem, Nat.reduceAdd, Nat.reduceBEq, Nat.reduceEqDiff, Nat.reduceLT, Nat.reduceLeDiff, Nat.reduceMul, Int.reduceToNat, reduceCtorEq, ↓reduceIte, Tryd.ntmps60, Tryd.results60, ks_60, mu_60, ti_hb71, ti_st9, in_60] at hF
  subst hF
  repeat' (first | with_reducible (first | refine And.intro ?_ ?_ | intro _ | refine AWp_seq ?_ | refine AWp_block ?_ | (refine hKv _ _ (AWp_nop ?_); clear hKv Kv) | (refine hKA ?_; clear hKA hKB KA KB) | (refine hKB ?_; clear hKA hKB KA KB) | refine AWp_skipN ?_ | refine AWp_exitO (by repeat (first | exact Out.hit | apply Out.thenA | apply Out.out rfl)) ?_) | (with_reducible (first | (refine hKv _ _ ?_; clear hKv Kv) | ((first | refine AWp_regC mu_60 ks_60 ?_ | refine AWp_regE mu_60 ks_60 ?_); intro Kv hKv) | refine AWp_retR ?_); try simp (dsimp := false) only [go_sem, Nat.reduceAdd, Nat.reduceBEq, Nat.reduceEqDiff, Nat.reduceLT, Nat.reduceLeDiff, Nat.reduceMul, Int.reduceToNat, reduceCtorEq, ↓reduceIte, Tryd.ntmps60, Tryd.results60, ks_60, mu_60, ti_hb71, ti_st9]) | (refine AWp_condC rfl ?_; intro KA KB hKA hKB; try simp only [onB_true, onB_false, onB_dec, onB_ndec, onB_not, onB_and, onB_or]) | (refine AWp_condA rfl ?_ ?_) | with_reducible (first | refine onB_of ?_ ?_ | rfl) | omega)
  refine AWp_while0 (fun j : Nat => a ≤ j ∧ j ≤ s.length ∧ wEnd s a a = wEnd s a j) (fun j => [(0, .d (.s s)), (1, .d (.i .i64 a)), (5, .d (.i .i64 j))]) (fun j => s.length - j) a ⟨Nat.le_refl _, ha, rfl⟩ ?_ ?_
  · simp (dsimp := false) only [go_sem, Nat.reduceAdd, Nat.reduceBEq, Nat.reduceEqDiff, Nat.reduceLT, Nat.reduceLeDiff, Nat.reduceMul, Int.reduceToNat, reduceCtorEq, ↓reduceIte, Tryd.ntmps60, Tryd.results60, ks_60, mu_60, ti_hb71, ti_st9]
    first | done | simp
  rintro j ⟨h1, h2, h3⟩
  by_cases hj : j < s.length
  · obtain ⟨c, hc⟩ : ∃ c, s[j]? = some c := ⟨s[j], List.getElem?_eq_getElem hj⟩
    have hd : decide ((j : Int) = (a : Int)) = decide (j = a) := by simp [Int.ofNat_inj]
    cases hw : wordB c.toNat (decide (j = a)) with
    | true =>
      
      repeat' (first | with_reducible (first | refine And.intro ?_ ?_ | intro _ | refine AWp_seq ?_ | refine AWp_block ?_ | (refine hKv _ _ (AWp_nop ?_); clear hKv Kv) | (refine hKA ?_; clear hKA hKB KA KB) | (refine hKB ?_; clear hKA hKB KA KB) | refine AWp_skipN ?_ | refine AWp_exitO (by repeat (first | exact Out.hit | apply Out.thenA | apply Out.out rfl)) ?_) | ((first | with_reducible (first | (refine hKv _ _ ?_; clear hKv Kv) | ((first | refine AWp_regC mu_60 ks_60 ?_ | refine AWp_regE mu_60 ks_60 ?_); intro Kv hKv) | refine AWp_retR ?_) | refine wordByte_A _ _ _ _ ?_); try simp (dsimp := false) only [go_sem, Nat.reduceAdd, Nat.reduceBEq, Nat.reduceEqDiff, Nat.reduceLT, Nat.reduceLeDiff, Nat.reduceMul, Int.reduceToNat, reduceCtorEq, ↓reduceIte, Tryd.ntmps60, Tryd.results60, ks_60, mu_60, ti_hb71, ti_st9, hc, hd, hw]) | (refine AWp_condC rfl ?_; intro KA KB hKA hKB; try simp only [onB_true, onB_false, onB_dec, onB_ndec, onB_not, onB_and, onB_or]) | (refine AWp_condA rfl ?_ ?_) | with_reducible (first | refine onB_of ?_ ?_ | rfl) | omega)
      all_goals exact ⟨j + 1, ⟨by omega, by omega, by rw [h3, wEnd_next hc hw]⟩, by omega, by omega⟩
    | false =>
      
      repeat' (first | with_reducible (first | refine And.intro ?_ ?_ | intro _ | refine AWp_seq ?_ | refine AWp_block ?_ | (refine hKv _ _ (AWp_nop ?_); clear hKv Kv) | (refine hKA ?_; clear hKA hKB KA KB) | (refine hKB ?_; clear hKA hKB KA KB) | refine AWp_skipN ?_ | refine AWp_exitO (by repeat (first | exact Out.hit | apply Out.thenA | apply Out.out rfl)) ?_) | ((first | with_reducible (first | (refine hKv _ _ ?_; clear hKv Kv) | ((first | refine AWp_regC mu_60 ks_60 ?_ | refine AWp_regE mu_60 ks_60 ?_); intro Kv hKv) | refine AWp_retR ?_) | refine wordByte_A _ _ _ _ ?_); try simp (dsimp := false) only [go_sem, Nat.reduceAdd, Nat.reduceBEq, Nat.reduceEqDiff, Nat.reduceLT, Nat.reduceLeDiff, Nat.reduceMul, Int.reduceToNat, reduceCtorEq, ↓reduceIte, Tryd.ntmps60, Tryd.results60, ks_60, mu_60, ti_hb71, ti_st9, hc, hd, hw]) | (refine AWp_condC rfl ?_; intro KA KB hKA hKB; try simp only [onB_true, onB_false, onB_dec, onB_ndec, onB_not, onB_and, onB_or]) | (refine AWp_condA rfl ?_ ?_) | with_reducible (first | refine onB_of ?_ ?_ | rfl) | omega)
      all_goals exact keepD hk (by rw [h3, wEnd_stop hc hw])
  · 
    repeat' (first | with_reducible (first | refine And.intro ?_ ?_ | intro _ | refine AWp_seq ?_ | refine AWp_block ?_ | (refine hKv _ _ (AWp_nop ?_); clear hKv Kv) | (refine hKA ?_; clear hKA hKB KA KB) | (refine hKB ?_; clear hKA hKB KA KB) | refine AWp_skipN ?_ | refine AWp_exitO (by repeat (first | exact Out.hit | apply Out.thenA | apply Out.out rfl)) ?_) | (with_reducible (first | (refine hKv _ _ ?_; clear hKv Kv) | ((first | refine AWp_regC mu_60 ks_60 ?_ | refine AWp_regE mu_60 ks_60 ?_); intro Kv hKv) | refine AWp_retR ?_); try simp (dsimp := false) only [go_sem, Nat.reduceAdd, Nat.reduceBEq, Nat.reduceEqDiff, Nat.reduceLT, Nat.reduceLeDiff, Nat.reduceMul, Int.reduceToNat, reduceCtorEq, ↓reduceIte, Tryd.ntmps60, Tryd.results60, ks_60, mu_60, ti_hb71, ti_st9]) | (refine AWp_condC rfl ?_; intro KA KB hKA hKB; try simp only [onB_true, onB_false, onB_dec, onB_ndec, onB_not, onB_and, onB_or]) | (refine AWp_condA rfl ?_ ?_) | with_reducible (first | refine onB_of ?_ ?_ | rfl) | omega)
    all_goals exact keepD hk (by rw [h3, wEnd_end (by omega)])

/-- A lexer, as it lies in memory. -/
def lexC (s : List UInt8) (p : Nat) (o : V) : Ob := .row 0 91 3 [[.d (.s s), .d (.i .i64 p), o]]
/- the live slots of (*pleacher/read.lexer).word -/
def ks_57 : Nat → List Nat
  | 0 => [0, 1]
  | 1 => [0, 1, 5]
  | 2 => [0, 1, 5, 15]
  | 3 => [0, 1, 5, 6]
  | 4 => [0, 1, 5, 6, 7]
  | 5 => [0, 1, 5, 43]
  | 6 => [0, 1, 5]
  | 7 => [4]
  | _ => []
def mu_57 : List Nat := []
def in_57 : List Nat := [0, 1]
theorem word_A (id : Nat) (s : List UInt8) (p a : Nat) (o : V) (hs : s.length ≤ 9223372036854775807) (ha : a ≤ s.length) (H : Heap) (K : V → Heap → Prop) (hr : H[id]? = some (lexC s p o)) (hk : K (.d (.i .i64 (wEnd s a a))) H) :
    ACalls Tryd.prog 57 [.pt id 0 0 0, .d (.i .i64 a)] H K := by
  have hid := (List.getElem?_eq_some_iff.1 hr).1
  have hr' : H[id]? = some (.row 0 91 3 [[.d (.s s), .d (.i .i64 p), o]]) := hr
  
  refine ACalls_of Tryd.func57 rfl in_57 (Nat.le_of_ble_eq_true rfl) ?_
  intro F hF
  simp (dsimp := false) only [go_sem, Nat.reduceAdd, Nat.reduceBEq, Nat.reduceEqDiff, Nat.reduceLT, Nat.reduceLeDiff, Nat.reduceMul, Int.reduceToNat, reduceCtorEq, ↓reduceIte, Tryd.ntmps57, Tryd.results57, ks_57, mu_57, ti_ag9, ti_fl91_0, ti_hb70, ti_st9, hr', hid, in_57] at hF
  subst hF
  repeat' (first | with_reducible (first | refine And.intro ?_ ?_ | intro _ | refine AWp_seq ?_ | refine AWp_block ?_ | (refine hKv _ _ (AWp_nop ?_); clear hKv Kv) | (refine hKA ?_; clear hKA hKB KA KB) | (refine hKB ?_; clear hKA hKB KA KB) | refine AWp_skipN ?_ | refine AWp_exitO (by repeat (first | exact Out.hit | apply Out.thenA | apply Out.out rfl)) ?_) | (with_reducible (first | (refine hKv _ _ ?_; clear hKv Kv) | ((first | refine AWp_regC mu_57 ks_57 ?_ | refine AWp_regE mu_57 ks_57 ?_); intro Kv hKv) | refine AWp_retR ?_); try simp (dsimp := false) only [go_sem, Nat.reduceAdd, Nat.reduceBEq, Nat.reduceEqDiff, Nat.reduceLT, Nat.reduceLeDiff, Nat.reduceMul, Int.reduceToNat, reduceCtorEq, ↓reduceIte, Tryd.ntmps57, Tryd.results57, ks_57, mu_57, ti_ag9, ti_fl91_0, ti_hb70, ti_st9, hr', hid]) | (refine AWp_condC rfl ?_; intro KA KB hKA hKB; try simp only [onB_true, onB_false, onB_dec, onB_ndec, onB_not, onB_and, onB_or]) | (refine AWp_condA rfl ?_ ?_) | with_reducible (first | refine onB_of ?_ ?_ | rfl) | omega)
  refine AWp_while0 (fun j : Nat => a ≤ j ∧ j ≤ s.length ∧ wEnd s a a = wEnd s a j) (fun j => [(0, .pt id 0 0 0), (1, .d (.i .i64 a)), (5, .d (.i .i64 j))]) (fun j => s.length - j) a ⟨Nat.le_refl _, ha, rfl⟩ ?_ ?_
  · simp (dsimp := false) only [go_sem, Nat.reduceAdd, Nat.reduceBEq, Nat.reduceEqDiff, Nat.reduceLT, Nat.reduceLeDiff, Nat.reduceMul, Int.reduceToNat, reduceCtorEq, ↓reduceIte, Tryd.ntmps57, Tryd.results57, ks_57, mu_57, ti_ag9, ti_fl91_0, ti_hb70, ti_st9, hr', hid]
    first | done | simp
  rintro j ⟨h1, h2, h3⟩
  by_cases hj : j < s.length
  · obtain ⟨c, hc⟩ : ∃ c, s[j]? = some c := ⟨s[j], List.getElem?_eq_getElem hj⟩
    have hwf : j = a → wordB c.toNat (decide (j = a)) = letterB c.toNat := fun e => by rw [decide_eq_true e, wordB_first]
    have hwr : j ≠ a → wordB c.toNat (decide (j = a)) = (letterB c.toNat || digB c.toNat || decide ((c.toNat : Int) = 45)) := fun e => by rw [decide_eq_false e, wordB_rest]
    
    repeat' (first | with_reducible (first | refine And.intro ?_ ?_ | intro _ | refine AWp_seq ?_ | refine AWp_block ?_ | (refine hKv _ _ (AWp_nop ?_); clear hKv Kv) | (refine hKA ?_; clear hKA hKB KA KB) | (refine hKB ?_; clear hKA hKB KA KB) | refine AWp_skipN ?_ | refine AWp_exitO (by repeat (first | exact Out.hit | apply Out.thenA | apply Out.out rfl)) ?_) | ((first | with_reducible (first | (refine hKv _ _ ?_; clear hKv Kv) | ((first | refine AWp_regC mu_57 ks_57 ?_ | refine AWp_regE mu_57 ks_57 ?_); intro Kv hKv) | refine AWp_retR ?_) | refine start_A _ _ _ ?_); try simp (dsimp := false) only [go_sem, Nat.reduceAdd, Nat.reduceBEq, Nat.reduceEqDiff, Nat.reduceLT, Nat.reduceLeDiff, Nat.reduceMul, Int.reduceToNat, reduceCtorEq, ↓reduceIte, Tryd.ntmps57, Tryd.results57, ks_57, mu_57, ti_ag9, ti_fl91_0, ti_hb70, ti_st9, hr', hid, hc]) | (refine AWp_condC rfl ?_; intro KA KB hKA hKB; try simp only [onB_true, onB_false, onB_dec, onB_ndec, onB_not, onB_and, onB_or]) | (refine AWp_condA rfl ?_ ?_) | with_reducible (first | refine onB_of ?_ ?_ | rfl) | omega)
    all_goals first
      | (have hw : wordB c.toNat (decide (j = a)) = true := by
           simp only [digB] at hwr
           grind
         exact ⟨j + 1, ⟨by omega, by omega, by rw [h3, wEnd_next hc hw]⟩, by omega, by omega⟩)
      | (have hw : wordB c.toNat (decide (j = a)) = false := by
           simp only [digB] at hwr
           grind
         exact keepD hk (by rw [h3, wEnd_stop hc hw]))
  · 
    repeat' (first | with_reducible (first | refine And.intro ?_ ?_ | intro _ | refine AWp_seq ?_ | refine AWp_block ?_ | (refine hKv _ _ (AWp_nop ?_); clear hKv Kv) | (refine hKA ?_; clear hKA hKB KA KB) | (refine hKB ?_; clear hKA hKB KA KB) | refine AWp_skipN ?_ | refine AWp_exitO (by repeat (first | exact Out.hit | apply Out.thenA | apply Out.out rfl)) ?_) | ((first | with_reducible (first | (refine hKv _ _ ?_; clear hKv Kv) | ((first | refine AWp_regC mu_57 ks_57 ?_ | refine AWp_regE mu_57 ks_57 ?_); intro Kv hKv) | refine AWp_retR ?_) | refine start_A _ _ _ ?_); try simp (dsimp := false) only [go_sem, Nat.reduceAdd, Nat.reduceBEq, Nat.reduceEqDiff, Nat.reduceLT, Nat.reduceLeDiff, Nat.reduceMul, Int.reduceToNat, reduceCtorEq, ↓reduceIte, Tryd.ntmps57, Tryd.results57, ks_57, mu_57, ti_ag9, ti_fl91_0, ti_hb70, ti_st9, hr', hid]) | (refine AWp_condC rfl ?_; intro KA KB hKA hKB; try simp only [onB_true, onB_false, onB_dec, onB_ndec, onB_not, onB_and, onB_or]) | (refine AWp_condA rfl ?_ ?_) | with_reducible (first | refine onB_of ?_ ?_ | rfl) | omega)
    all_goals exact keepD hk (by rw [h3, wEnd_end (by omega)])

/- the live slots of pleacher/pleacherref.allMarks -/
def ks_59 : Nat → List Nat
  | 0 => []
  | 1 => [0]
  | _ => []
def mu_59 : List Nat := []
def in_59 : List Nat := []
theorem allMarks_A (H : Heap) (K : V → Heap → Prop) (hk : K (.d (.sl 1 (marksL.map strRow))) H) : ACalls Tryd.prog 59 [] H K := by
  refine ACalls_of Tryd.func59 rfl in_59 (Nat.le_of_ble_eq_true rfl) ?_
  intro F hF
  simp (dsimp := false) only [go_sem, Nat.reduceAdd, Nat.reduceBEq, Nat.reduceEqDiff, Nat.reduceLT, Nat.reduceLeDiff, Nat.reduceMul, Int.reduceToNat, reduceCtorEq, ↓reduceIte, Tryd.ntmps59, Tryd.results59, ks_59, mu_59, ti_sl33, in_59] at hF
  subst hF
  repeat' (first | with_reducible (first | refine And.intro ?_ ?_ | intro _ | refine AWp_seq ?_ | refine AWp_block ?_ | (refine hKv _ _ (AWp_nop ?_); clear hKv Kv) | (refine hKA ?_; clear hKA hKB KA KB) | (refine hKB ?_; clear hKA hKB KA KB) | refine AWp_skipN ?_ | refine AWp_exitO (by repeat (first | exact Out.hit | apply Out.thenA | apply Out.out rfl)) ?_) | (with_reducible (first | (refine hKv _ _ ?_; clear hKv Kv) | ((first | refine AWp_regC mu_59 ks_59 ?_ | refine AWp_regE mu_59 ks_59 ?_); intro Kv hKv) | refine AWp_retR ?_); try simp (dsimp := false) only [go_sem, Nat.reduceAdd, Nat.reduceBEq, Nat.reduceEqDiff, Nat.reduceLT, Nat.reduceLeDiff, Nat.reduceMul, Int.reduceToNat, reduceCtorEq, ↓reduceIte, Tryd.ntmps59, Tryd.results59, ks_59, mu_59, ti_sl33]) | (refine AWp_condC rfl ?_; intro KA KB hKA hKB; try simp only [onB_true, onB_false, onB_dec, onB_ndec, onB_not, onB_and, onB_or]) | (refine AWp_condA rfl ?_ ?_) | with_reducible (first | refine onB_of ?_ ?_ | rfl) | omega)
  all_goals first
    | exact keepD hk rfl
theorem indexByte_q (s : List UInt8) : ∀ (m j : Nat), s.length - j ≤ m → j ≤ s.length → Lib.indexByte (s.drop j) 34 = if qAt s j = s.length then -1 else (qAt s j : Int) - j
  | 0, j, h, hj => by
    have e : j = s.length := by omega
    subst e
    rw [List.drop_length, qAt_end (Nat.le_refl _), if_pos rfl]
    rfl
  | m + 1, j, h, hj => by
    by_cases hl : j < s.length
    · obtain ⟨c, hc⟩ : ∃ c, s[j]? = some c := ⟨s[j], List.getElem?_eq_getElem hl⟩
      have ih := indexByte_q s m (j + 1) (by omega) (by omega)
      have hle := qAt_le s m (j + 1) (by omega) (by omega)
      rw [drop_of_get hc, Lib.indexByte]
      by_cases h34 : c = 34
      · subst h34
        rw [qAt_hit hc rfl, if_pos (by rfl), if_neg (by omega)]
        simp
      · rw [qAt_next hc h34, if_neg (by simpa using h34), ih]
        split
        · simp
        · rw [if_neg (by simp; omega)]; omega
    · have e : j = s.length := by omega
      subst e
      rw [List.drop_length, qAt_end (Nat.le_refl _), if_pos rfl]
      rfl
end Go.Proofs.YtmalccaijjcepaaDoor
