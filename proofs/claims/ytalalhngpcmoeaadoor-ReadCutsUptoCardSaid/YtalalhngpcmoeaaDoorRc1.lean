/- Words, marks and quotes: what the program's and the reference's small functions find. No condition but that the tables of package unicode/utf8 are there. -/
import Derived.Test.YtalalhngpcmoeaaDoorRc0
import Derived.Test.YtalalhngpcmoeaaDoorSh
set_option linter.all false
set_option linter.unusedSimpArgs false
set_option linter.unusedVariables false
namespace Go.Proofs.YtalalhngpcmoeaaDoor
open Go Go.Proofs.YtalalhngpcmoeaaDoor.Ab
variable [Glo]
set_option maxHeartbeats 4000000
set_option maxRecDepth 20000
theorem wordB_first (c : Int) : wordB c true = letterB c := by
  simp only [wordB, nameB, letterB]; grind
theorem wordB_rest (c : Int) : wordB c false = (letterB c || digB c || decide (c = 45)) := by
  simp only [wordB, nameB, letterB, digB]; grind
/- the live slots of pleacher/read.start -/
def ks_103 : Nat → List Nat
  | 0 => [0]
  | 1 => [2]
  | _ => []
def mu_103 : List Nat := []
def in_103 : List Nat := [0]
theorem start_A (c : Int) (H : Heap) (K : V → Heap → Prop) (hk : K (.d (.b (letterB c))) H) : ACalls Tryd.prog 103 [.d (.i .u8 c)] H K := by
  refine ACalls_of Tryd.func103 rfl in_103 (Nat.le_of_ble_eq_true rfl) ?_
  intro F hF
  simp (dsimp := false) only [go_sem, Nat.reduceAdd, Nat.reduceBEq, Nat.reduceEqDiff, Nat.reduceLT, Nat.reduceLeDiff, Nat.reduceMul, Int.reduceToNat, reduceCtorEq, ↓reduceIte, Tryd.ntmps103, Tryd.results103, ks_103, mu_103, in_103] at hF
  subst hF
  repeat' (first
    | with_reducible refine And.intro ?_ ?_
    | with_reducible intro _
    | with_reducible refine AWp_seq ?_
    | with_reducible refine AWp_block ?_
    | (with_reducible refine hKv _ _ (AWp_nop ?_); clear hKv Kv)
    | (with_reducible refine hKv _ _ ?_; clear hKv Kv; simp (dsimp := false) only [go_sem, Nat.reduceAdd, Nat.reduceBEq, Nat.reduceEqDiff, Nat.reduceLT, Nat.reduceLeDiff, Nat.reduceMul, Int.reduceToNat, reduceCtorEq, ↓reduceIte, Tryd.ntmps103, Tryd.results103, ks_103, mu_103])
    | (with_reducible refine hKA ?_; clear hKA hKB KA KB)
    | (with_reducible refine hKB ?_; clear hKA hKB KA KB)
    | (with_reducible refine AWp_regC mu_103 ks_103 ?_; intro Kv hKv; simp (dsimp := false) only [go_sem, Nat.reduceAdd, Nat.reduceBEq, Nat.reduceEqDiff, Nat.reduceLT, Nat.reduceLeDiff, Nat.reduceMul, Int.reduceToNat, reduceCtorEq, ↓reduceIte, Tryd.ntmps103, Tryd.results103, ks_103, mu_103])
    | with_reducible refine AWp_skipN ?_
    | with_reducible refine AWp_exitO (by repeat (first | with_reducible exact Out.hit | with_reducible apply Out.thenA | with_reducible apply Out.out rfl)) ?_
    | (with_reducible refine AWp_retR ?_; simp (dsimp := false) only [go_sem, Nat.reduceAdd, Nat.reduceBEq, Nat.reduceEqDiff, Nat.reduceLT, Nat.reduceLeDiff, Nat.reduceMul, Int.reduceToNat, reduceCtorEq, ↓reduceIte, Tryd.ntmps103, Tryd.results103, ks_103, mu_103])
    | (with_reducible refine AWp_regE mu_103 ks_103 ?_; intro Kv hKv; simp (dsimp := false) only [go_sem, Nat.reduceAdd, Nat.reduceBEq, Nat.reduceEqDiff, Nat.reduceLT, Nat.reduceLeDiff, Nat.reduceMul, Int.reduceToNat, reduceCtorEq, ↓reduceIte, Tryd.ntmps103, Tryd.results103, ks_103, mu_103])
    | (refine AWp_condC rfl ?_; intro KA KB hKA hKB; try simp only [onB_true, onB_false, onB_dec, onB_ndec, onB_not, onB_and, onB_or])
    | (refine AWp_condA rfl ?_ ?_)
    | with_reducible refine onB_of ?_ ?_
    | with_reducible rfl
    | omega)
  all_goals refine keepD hk ?_
  all_goals (simp only [letterB, V.d.injEq, D.b.injEq]; grind)
/- the live slots of pleacher/pleacherref.wordByte -/
def ks_47 : Nat → List Nat
  | 0 => [0, 1]
  | 1 => [4]
  | _ => []
def mu_47 : List Nat := []
def in_47 : List Nat := [0, 1]
theorem wordByte_A (c : Int) (t : Bool) (H : Heap) (K : V → Heap → Prop) (hk : K (.d (.b (wordB c t))) H) : ACalls Tryd.prog 47 [.d (.i .u8 c), .d (.b t)] H K := by
  refine ACalls_of Tryd.func47 rfl in_47 (Nat.le_of_ble_eq_true rfl) ?_
  intro F hF
  simp (dsimp := false) only [go_sem, Nat.reduceAdd, Nat.reduceBEq, Nat.reduceEqDiff, Nat.reduceLT, Nat.reduceLeDiff, Nat.reduceMul, Int.reduceToNat, reduceCtorEq, ↓reduceIte, Tryd.ntmps47, Tryd.results47, ks_47, mu_47, ti_hb108, in_47] at hF
  subst hF
  repeat' (first
    | with_reducible refine And.intro ?_ ?_
    | with_reducible intro _
    | with_reducible refine AWp_seq ?_
    | with_reducible refine AWp_block ?_
    | (with_reducible refine hKv _ _ (AWp_nop ?_); clear hKv Kv)
    | (with_reducible refine hKv _ _ ?_; clear hKv Kv; simp (dsimp := false) only [go_sem, Nat.reduceAdd, Nat.reduceBEq, Nat.reduceEqDiff, Nat.reduceLT, Nat.reduceLeDiff, Nat.reduceMul, Int.reduceToNat, reduceCtorEq, ↓reduceIte, Tryd.ntmps47, Tryd.results47, ks_47, mu_47, ti_hb108])
    | (with_reducible refine hKA ?_; clear hKA hKB KA KB)
    | (with_reducible refine hKB ?_; clear hKA hKB KA KB)
    | (with_reducible refine AWp_regC mu_47 ks_47 ?_; intro Kv hKv; simp (dsimp := false) only [go_sem, Nat.reduceAdd, Nat.reduceBEq, Nat.reduceEqDiff, Nat.reduceLT, Nat.reduceLeDiff, Nat.reduceMul, Int.reduceToNat, reduceCtorEq, ↓reduceIte, Tryd.ntmps47, Tryd.results47, ks_47, mu_47, ti_hb108])
    | with_reducible refine AWp_skipN ?_
    | with_reducible refine AWp_exitO (by repeat (first | with_reducible exact Out.hit | with_reducible apply Out.thenA | with_reducible apply Out.out rfl)) ?_
    | (with_reducible refine AWp_retR ?_; simp (dsimp := false) only [go_sem, Nat.reduceAdd, Nat.reduceBEq, Nat.reduceEqDiff, Nat.reduceLT, Nat.reduceLeDiff, Nat.reduceMul, Int.reduceToNat, reduceCtorEq, ↓reduceIte, Tryd.ntmps47, Tryd.results47, ks_47, mu_47, ti_hb108])
    | (with_reducible refine AWp_regE mu_47 ks_47 ?_; intro Kv hKv; simp (dsimp := false) only [go_sem, Nat.reduceAdd, Nat.reduceBEq, Nat.reduceEqDiff, Nat.reduceLT, Nat.reduceLeDiff, Nat.reduceMul, Int.reduceToNat, reduceCtorEq, ↓reduceIte, Tryd.ntmps47, Tryd.results47, ks_47, mu_47, ti_hb108])
    | (refine AWp_condC rfl ?_; intro KA KB hKA hKB; try simp only [onB_true, onB_false, onB_dec, onB_ndec, onB_not, onB_and, onB_or])
    | (refine AWp_condA rfl ?_ ?_)
    | (refine nameByte_A _ _ _ _ ?_; try simp (dsimp := false) only [go_sem, Nat.reduceAdd, Nat.reduceBEq, Nat.reduceEqDiff, Nat.reduceLT, Nat.reduceLeDiff, Nat.reduceMul, Int.reduceToNat, reduceCtorEq, ↓reduceIte, Tryd.ntmps47, Tryd.results47, ks_47, mu_47, ti_hb108])
    | with_reducible refine onB_of ?_ ?_
    | with_reducible rfl
    | omega)
  all_goals refine keepD hk ?_
  all_goals (simp only [wordB, V.d.injEq, D.b.injEq]; grind)
/- the live slots of pleacher/pleacherref.wordTo -/
def ks_48 : Nat → List Nat
  | 0 => [0, 1]
  | 1 => [0, 1, 5]
  | 2 => [0, 1, 5, 19]
  | 3 => [0, 1, 5]
  | 4 => [4]
  | _ => []
def mu_48 : List Nat := []
def in_48 : List Nat := [0, 1]
theorem wordTo_A (s : List UInt8) (a : Nat) (hs : s.length ≤ 1048576) (ha : a ≤ s.length) (H : Heap) (K : V → Heap → Prop) (hk : K (.d (.i .i64 (wEnd s a a))) H) : ACalls Tryd.prog 48 [.d (.s s), .d (.i .i64 a)] H K := by
  refine ACalls_of Tryd.func48 rfl in_48 (Nat.le_of_ble_eq_true rfl) ?_
  intro F hF
  simp (dsimp := false) only [go_sem, Nat.reduceAdd, Nat.reduceBEq, Nat.reduceEqDiff, Nat.reduceLT, Nat.reduceLeDiff, Nat.reduceMul, Int.reduceToNat, reduceCtorEq, ↓reduceIte, Tryd.ntmps48, Tryd.results48, ks_48, mu_48, ti_hb47, ti_st9, in_48] at hF
  subst hF
  repeat' (first
    | with_reducible refine And.intro ?_ ?_
    | with_reducible intro _
    | with_reducible refine AWp_seq ?_
    | with_reducible refine AWp_block ?_
    | (with_reducible refine hKv _ _ (AWp_nop ?_); clear hKv Kv)
    | (with_reducible refine hKv _ _ ?_; clear hKv Kv; simp (dsimp := false) only [go_sem, Nat.reduceAdd, Nat.reduceBEq, Nat.reduceEqDiff, Nat.reduceLT, Nat.reduceLeDiff, Nat.reduceMul, Int.reduceToNat, reduceCtorEq, ↓reduceIte, Tryd.ntmps48, Tryd.results48, ks_48, mu_48, ti_hb47, ti_st9])
    | (with_reducible refine hKA ?_; clear hKA hKB KA KB)
    | (with_reducible refine hKB ?_; clear hKA hKB KA KB)
    | (with_reducible refine AWp_regC mu_48 ks_48 ?_; intro Kv hKv; simp (dsimp := false) only [go_sem, Nat.reduceAdd, Nat.reduceBEq, Nat.reduceEqDiff, Nat.reduceLT, Nat.reduceLeDiff, Nat.reduceMul, Int.reduceToNat, reduceCtorEq, ↓reduceIte, Tryd.ntmps48, Tryd.results48, ks_48, mu_48, ti_hb47, ti_st9])
    | with_reducible refine AWp_skipN ?_
    | with_reducible refine AWp_exitO (by repeat (first | with_reducible exact Out.hit | with_reducible apply Out.thenA | with_reducible apply Out.out rfl)) ?_
    | (with_reducible refine AWp_retR ?_; simp (dsimp := false) only [go_sem, Nat.reduceAdd, Nat.reduceBEq, Nat.reduceEqDiff, Nat.reduceLT, Nat.reduceLeDiff, Nat.reduceMul, Int.reduceToNat, reduceCtorEq, ↓reduceIte, Tryd.ntmps48, Tryd.results48, ks_48, mu_48, ti_hb47, ti_st9])
    | (with_reducible refine AWp_regE mu_48 ks_48 ?_; intro Kv hKv; simp (dsimp := false) only [go_sem, Nat.reduceAdd, Nat.reduceBEq, Nat.reduceEqDiff, Nat.reduceLT, Nat.reduceLeDiff, Nat.reduceMul, Int.reduceToNat, reduceCtorEq, ↓reduceIte, Tryd.ntmps48, Tryd.results48, ks_48, mu_48, ti_hb47, ti_st9])
    | (refine AWp_condC rfl ?_; intro KA KB hKA hKB; try simp only [onB_true, onB_false, onB_dec, onB_ndec, onB_not, onB_and, onB_or])
    | (refine AWp_condA rfl ?_ ?_)
    | with_reducible refine onB_of ?_ ?_
    | with_reducible rfl
    | omega)
  refine AWp_while0 (fun j : Nat => a ≤ j ∧ j ≤ s.length ∧ wEnd s a a = wEnd s a j) (fun j => [(0, .d (.s s)), (1, .d (.i .i64 a)), (5, .d (.i .i64 j))]) (fun j => s.length - j) a ⟨Nat.le_refl _, ha, rfl⟩ ?_ ?_
  · simp (dsimp := false) only [go_sem, Nat.reduceAdd, Nat.reduceBEq, Nat.reduceEqDiff, Nat.reduceLT, Nat.reduceLeDiff, Nat.reduceMul, Int.reduceToNat, reduceCtorEq, ↓reduceIte, Tryd.ntmps48, Tryd.results48, ks_48, mu_48, ti_hb47, ti_st9]
    first | done | simp
  rintro j ⟨h1, h2, h3⟩
  by_cases hj : j < s.length
  · obtain ⟨c, hc⟩ : ∃ c, s[j]? = some c := ⟨s[j], List.getElem?_eq_getElem hj⟩
    have hd : decide ((j : Int) = (a : Int)) = decide (j = a) := by simp [Int.ofNat_inj]
    cases hw : wordB c.toNat (decide (j = a)) with
    | true =>
      
      repeat' (first
        | with_reducible refine And.intro ?_ ?_
        | with_reducible intro _
        | with_reducible refine AWp_seq ?_
        | with_reducible refine AWp_block ?_
        | (with_reducible refine hKv _ _ (AWp_nop ?_); clear hKv Kv)
        | (with_reducible refine hKv _ _ ?_; clear hKv Kv; simp (dsimp := false) only [go_sem, Nat.reduceAdd, Nat.reduceBEq, Nat.reduceEqDiff, Nat.reduceLT, Nat.reduceLeDiff, Nat.reduceMul, Int.reduceToNat, reduceCtorEq, ↓reduceIte, Tryd.ntmps48, Tryd.results48, ks_48, mu_48, ti_hb47, ti_st9, hc, hd, hw])
        | (with_reducible refine hKA ?_; clear hKA hKB KA KB)
        | (with_reducible refine hKB ?_; clear hKA hKB KA KB)
        | (with_reducible refine AWp_regC mu_48 ks_48 ?_; intro Kv hKv; simp (dsimp := false) only [go_sem, Nat.reduceAdd, Nat.reduceBEq, Nat.reduceEqDiff, Nat.reduceLT, Nat.reduceLeDiff, Nat.reduceMul, Int.reduceToNat, reduceCtorEq, ↓reduceIte, Tryd.ntmps48, Tryd.results48, ks_48, mu_48, ti_hb47, ti_st9, hc, hd, hw])
        | with_reducible refine AWp_skipN ?_
        | with_reducible refine AWp_exitO (by repeat (first | with_reducible exact Out.hit | with_reducible apply Out.thenA | with_reducible apply Out.out rfl)) ?_
        | (with_reducible refine AWp_retR ?_; simp (dsimp := false) only [go_sem, Nat.reduceAdd, Nat.reduceBEq, Nat.reduceEqDiff, Nat.reduceLT, Nat.reduceLeDiff, Nat.reduceMul, Int.reduceToNat, reduceCtorEq, ↓reduceIte, Tryd.ntmps48, Tryd.results48, ks_48, mu_48, ti_hb47, ti_st9, hc, hd, hw])
        | (with_reducible refine AWp_regE mu_48 ks_48 ?_; intro Kv hKv; simp (dsimp := false) only [go_sem, Nat.reduceAdd, Nat.reduceBEq, Nat.reduceEqDiff, Nat.reduceLT, Nat.reduceLeDiff, Nat.reduceMul, Int.reduceToNat, reduceCtorEq, ↓reduceIte, Tryd.ntmps48, Tryd.results48, ks_48, mu_48, ti_hb47, ti_st9, hc, hd, hw])
        | (refine AWp_condC rfl ?_; intro KA KB hKA hKB; try simp only [onB_true, onB_false, onB_dec, onB_ndec, onB_not, onB_and, onB_or])
        | (refine AWp_condA rfl ?_ ?_)
        | (refine wordByte_A _ _ _ _ ?_; try simp (dsimp := false) only [go_sem, Nat.reduceAdd, Nat.reduceBEq, Nat.reduceEqDiff, Nat.reduceLT, Nat.reduceLeDiff, Nat.reduceMul, Int.reduceToNat, reduceCtorEq, ↓reduceIte, Tryd.ntmps48, Tryd.results48, ks_48, mu_48, ti_hb47, ti_st9, hc, hd, hw])
        | with_reducible refine onB_of ?_ ?_
        | with_reducible rfl
        | omega)
      all_goals exact ⟨j + 1, ⟨by omega, by omega, by rw [h3, wEnd_next hc hw]⟩, by omega, by omega⟩
    | false =>
      
      repeat' (first
        | with_reducible refine And.intro ?_ ?_
        | with_reducible intro _
        | with_reducible refine AWp_seq ?_
        | with_reducible refine AWp_block ?_
        | (with_reducible refine hKv _ _ (AWp_nop ?_); clear hKv Kv)
        | (with_reducible refine hKv _ _ ?_; clear hKv Kv; simp (dsimp := false) only [go_sem, Nat.reduceAdd, Nat.reduceBEq, Nat.reduceEqDiff, Nat.reduceLT, Nat.reduceLeDiff, Nat.reduceMul, Int.reduceToNat, reduceCtorEq, ↓reduceIte, Tryd.ntmps48, Tryd.results48, ks_48, mu_48, ti_hb47, ti_st9, hc, hd, hw])
        | (with_reducible refine hKA ?_; clear hKA hKB KA KB)
        | (with_reducible refine hKB ?_; clear hKA hKB KA KB)
        | (with_reducible refine AWp_regC mu_48 ks_48 ?_; intro Kv hKv; simp (dsimp := false) only [go_sem, Nat.reduceAdd, Nat.reduceBEq, Nat.reduceEqDiff, Nat.reduceLT, Nat.reduceLeDiff, Nat.reduceMul, Int.reduceToNat, reduceCtorEq, ↓reduceIte, Tryd.ntmps48, Tryd.results48, ks_48, mu_48, ti_hb47, ti_st9, hc, hd, hw])
        | with_reducible refine AWp_skipN ?_
        | with_reducible refine AWp_exitO (by repeat (first | with_reducible exact Out.hit | with_reducible apply Out.thenA | with_reducible apply Out.out rfl)) ?_
        | (with_reducible refine AWp_retR ?_; simp (dsimp := false) only [go_sem, Nat.reduceAdd, Nat.reduceBEq, Nat.reduceEqDiff, Nat.reduceLT, Nat.reduceLeDiff, Nat.reduceMul, Int.reduceToNat, reduceCtorEq, ↓reduceIte, Tryd.ntmps48, Tryd.results48, ks_48, mu_48, ti_hb47, ti_st9, hc, hd, hw])
        | (with_reducible refine AWp_regE mu_48 ks_48 ?_; intro Kv hKv; simp (dsimp := false) only [go_sem, Nat.reduceAdd, Nat.reduceBEq, Nat.reduceEqDiff, Nat.reduceLT, Nat.reduceLeDiff, Nat.reduceMul, Int.reduceToNat, reduceCtorEq, ↓reduceIte, Tryd.ntmps48, Tryd.results48, ks_48, mu_48, ti_hb47, ti_st9, hc, hd, hw])
        | (refine AWp_condC rfl ?_; intro KA KB hKA hKB; try simp only [onB_true, onB_false, onB_dec, onB_ndec, onB_not, onB_and, onB_or])
        | (refine AWp_condA rfl ?_ ?_)
        | (refine wordByte_A _ _ _ _ ?_; try simp (dsimp := false) only [go_sem, Nat.reduceAdd, Nat.reduceBEq, Nat.reduceEqDiff, Nat.reduceLT, Nat.reduceLeDiff, Nat.reduceMul, Int.reduceToNat, reduceCtorEq, ↓reduceIte, Tryd.ntmps48, Tryd.results48, ks_48, mu_48, ti_hb47, ti_st9, hc, hd, hw])
        | with_reducible refine onB_of ?_ ?_
        | with_reducible rfl
        | omega)
      all_goals exact keepD hk (by rw [h3, wEnd_stop hc hw])
  · 
    repeat' (first
      | with_reducible refine And.intro ?_ ?_
      | with_reducible intro _
      | with_reducible refine AWp_seq ?_
      | with_reducible refine AWp_block ?_
      | (with_reducible refine hKv _ _ (AWp_nop ?_); clear hKv Kv)
      | (with_reducible refine hKv _ _ ?_; clear hKv Kv; simp (dsimp := false) only [go_sem, Nat.reduceAdd, Nat.reduceBEq, Nat.reduceEqDiff, Nat.reduceLT, Nat.reduceLeDiff, Nat.reduceMul, Int.reduceToNat, reduceCtorEq, ↓reduceIte, Tryd.ntmps48, Tryd.results48, ks_48, mu_48, ti_hb47, ti_st9])
      | (with_reducible refine hKA ?_; clear hKA hKB KA KB)
      | (with_reducible refine hKB ?_; clear hKA hKB KA KB)
      | (with_reducible refine AWp_regC mu_48 ks_48 ?_; intro Kv hKv; simp (dsimp := false) only [go_sem, Nat.reduceAdd, Nat.reduceBEq, Nat.reduceEqDiff, Nat.reduceLT, Nat.reduceLeDiff, Nat.reduceMul, Int.reduceToNat, reduceCtorEq, ↓reduceIte, Tryd.ntmps48, Tryd.results48, ks_48, mu_48, ti_hb47, ti_st9])
      | with_reducible refine AWp_skipN ?_
      | with_reducible refine AWp_exitO (by repeat (first | with_reducible exact Out.hit | with_reducible apply Out.thenA | with_reducible apply Out.out rfl)) ?_
      | (with_reducible refine AWp_retR ?_; simp (dsimp := false) only [go_sem, Nat.reduceAdd, Nat.reduceBEq, Nat.reduceEqDiff, Nat.reduceLT, Nat.reduceLeDiff, Nat.reduceMul, Int.reduceToNat, reduceCtorEq, ↓reduceIte, Tryd.ntmps48, Tryd.results48, ks_48, mu_48, ti_hb47, ti_st9])
      | (with_reducible refine AWp_regE mu_48 ks_48 ?_; intro Kv hKv; simp (dsimp := false) only [go_sem, Nat.reduceAdd, Nat.reduceBEq, Nat.reduceEqDiff, Nat.reduceLT, Nat.reduceLeDiff, Nat.reduceMul, Int.reduceToNat, reduceCtorEq, ↓reduceIte, Tryd.ntmps48, Tryd.results48, ks_48, mu_48, ti_hb47, ti_st9])
      | (refine AWp_condC rfl ?_; intro KA KB hKA hKB; try simp only [onB_true, onB_false, onB_dec, onB_ndec, onB_not, onB_and, onB_or])
      | (refine AWp_condA rfl ?_ ?_)
      | with_reducible refine onB_of ?_ ?_
      | with_reducible rfl
      | omega)
    all_goals exact keepD hk (by rw [h3, wEnd_end (by omega)])

/-- A lexer, as it lies in memory. -/
def lexC (s : List UInt8) (p : Nat) (o : V) : Ob := .row 0 77 3 [[.d (.s s), .d (.i .i64 p), o]]
/- the live slots of (*pleacher/read.lexer).word -/
def ks_104 : Nat → List Nat
  | 0 => [0, 1]
  | 1 => [0, 1, 5]
  | 2 => [0, 1, 5, 15]
  | 3 => [0, 1, 5, 6]
  | 4 => [0, 1, 5, 6, 7]
  | 5 => [0, 1, 5, 43]
  | 6 => [0, 1, 5]
  | 7 => [4]
  | _ => []
def mu_104 : List Nat := []
def in_104 : List Nat := [0, 1]
theorem word_A (id : Nat) (s : List UInt8) (p a : Nat) (o : V) (hs : s.length ≤ 1048576) (ha : a ≤ s.length) (H : Heap) (K : V → Heap → Prop) (hr : H[id]? = some (lexC s p o)) (hk : K (.d (.i .i64 (wEnd s a a))) H) :
    ACalls Tryd.prog 104 [.pt id 0 0 0, .d (.i .i64 a)] H K := by
  have hid := (List.getElem?_eq_some_iff.1 hr).1
  have hr' : H[id]? = some (.row 0 77 3 [[.d (.s s), .d (.i .i64 p), o]]) := hr
  
  refine ACalls_of Tryd.func104 rfl in_104 (Nat.le_of_ble_eq_true rfl) ?_
  intro F hF
  simp (dsimp := false) only [go_sem, Nat.reduceAdd, Nat.reduceBEq, Nat.reduceEqDiff, Nat.reduceLT, Nat.reduceLeDiff, Nat.reduceMul, Int.reduceToNat, reduceCtorEq, ↓reduceIte, Tryd.ntmps104, Tryd.results104, ks_104, mu_104, ti_ag9, ti_fl77_0, ti_hb103, ti_st9, hr', hid, in_104] at hF
  subst hF
  repeat' (first
    | with_reducible refine And.intro ?_ ?_
    | with_reducible intro _
    | with_reducible refine AWp_seq ?_
    | with_reducible refine AWp_block ?_
    | (with_reducible refine hKv _ _ (AWp_nop ?_); clear hKv Kv)
    | (with_reducible refine hKv _ _ ?_; clear hKv Kv; simp (dsimp := false) only [go_sem, Nat.reduceAdd, Nat.reduceBEq, Nat.reduceEqDiff, Nat.reduceLT, Nat.reduceLeDiff, Nat.reduceMul, Int.reduceToNat, reduceCtorEq, ↓reduceIte, Tryd.ntmps104, Tryd.results104, ks_104, mu_104, ti_ag9, ti_fl77_0, ti_hb103, ti_st9, hr', hid])
    | (with_reducible refine hKA ?_; clear hKA hKB KA KB)
    | (with_reducible refine hKB ?_; clear hKA hKB KA KB)
    | (with_reducible refine AWp_regC mu_104 ks_104 ?_; intro Kv hKv; simp (dsimp := false) only [go_sem, Nat.reduceAdd, Nat.reduceBEq, Nat.reduceEqDiff, Nat.reduceLT, Nat.reduceLeDiff, Nat.reduceMul, Int.reduceToNat, reduceCtorEq, ↓reduceIte, Tryd.ntmps104, Tryd.results104, ks_104, mu_104, ti_ag9, ti_fl77_0, ti_hb103, ti_st9, hr', hid])
    | with_reducible refine AWp_skipN ?_
    | with_reducible refine AWp_exitO (by repeat (first | with_reducible exact Out.hit | with_reducible apply Out.thenA | with_reducible apply Out.out rfl)) ?_
    | (with_reducible refine AWp_retR ?_; simp (dsimp := false) only [go_sem, Nat.reduceAdd, Nat.reduceBEq, Nat.reduceEqDiff, Nat.reduceLT, Nat.reduceLeDiff, Nat.reduceMul, Int.reduceToNat, reduceCtorEq, ↓reduceIte, Tryd.ntmps104, Tryd.results104, ks_104, mu_104, ti_ag9, ti_fl77_0, ti_hb103, ti_st9, hr', hid])
    | (with_reducible refine AWp_regE mu_104 ks_104 ?_; intro Kv hKv; simp (dsimp := false) only [go_sem, Nat.reduceAdd, Nat.reduceBEq, Nat.reduceEqDiff, Nat.reduceLT, Nat.reduceLeDiff, Nat.reduceMul, Int.reduceToNat, reduceCtorEq, ↓reduceIte, Tryd.ntmps104, Tryd.results104, ks_104, mu_104, ti_ag9, ti_fl77_0, ti_hb103, ti_st9, hr', hid])
    | (refine AWp_condC rfl ?_; intro KA KB hKA hKB; try simp only [onB_true, onB_false, onB_dec, onB_ndec, onB_not, onB_and, onB_or])
    | (refine AWp_condA rfl ?_ ?_)
    | with_reducible refine onB_of ?_ ?_
    | with_reducible rfl
    | omega)
  refine AWp_while0 (fun j : Nat => a ≤ j ∧ j ≤ s.length ∧ wEnd s a a = wEnd s a j) (fun j => [(0, .pt id 0 0 0), (1, .d (.i .i64 a)), (5, .d (.i .i64 j))]) (fun j => s.length - j) a ⟨Nat.le_refl _, ha, rfl⟩ ?_ ?_
  · simp (dsimp := false) only [go_sem, Nat.reduceAdd, Nat.reduceBEq, Nat.reduceEqDiff, Nat.reduceLT, Nat.reduceLeDiff, Nat.reduceMul, Int.reduceToNat, reduceCtorEq, ↓reduceIte, Tryd.ntmps104, Tryd.results104, ks_104, mu_104, ti_ag9, ti_fl77_0, ti_hb103, ti_st9, hr', hid]
    first | done | simp
  rintro j ⟨h1, h2, h3⟩
  by_cases hj : j < s.length
  · obtain ⟨c, hc⟩ : ∃ c, s[j]? = some c := ⟨s[j], List.getElem?_eq_getElem hj⟩
    have hwf : j = a → wordB c.toNat (decide (j = a)) = letterB c.toNat := fun e => by rw [decide_eq_true e, wordB_first]
    have hwr : j ≠ a → wordB c.toNat (decide (j = a)) = (letterB c.toNat || digB c.toNat || decide ((c.toNat : Int) = 45)) := fun e => by rw [decide_eq_false e, wordB_rest]
    
    repeat' (first
      | with_reducible refine And.intro ?_ ?_
      | with_reducible intro _
      | with_reducible refine AWp_seq ?_
      | with_reducible refine AWp_block ?_
      | (with_reducible refine hKv _ _ (AWp_nop ?_); clear hKv Kv)
      | (with_reducible refine hKv _ _ ?_; clear hKv Kv; simp (dsimp := false) only [go_sem, Nat.reduceAdd, Nat.reduceBEq, Nat.reduceEqDiff, Nat.reduceLT, Nat.reduceLeDiff, Nat.reduceMul, Int.reduceToNat, reduceCtorEq, ↓reduceIte, Tryd.ntmps104, Tryd.results104, ks_104, mu_104, ti_ag9, ti_fl77_0, ti_hb103, ti_st9, hr', hid, hc])
      | (with_reducible refine hKA ?_; clear hKA hKB KA KB)
      | (with_reducible refine hKB ?_; clear hKA hKB KA KB)
      | (with_reducible refine AWp_regC mu_104 ks_104 ?_; intro Kv hKv; simp (dsimp := false) only [go_sem, Nat.reduceAdd, Nat.reduceBEq, Nat.reduceEqDiff, Nat.reduceLT, Nat.reduceLeDiff, Nat.reduceMul, Int.reduceToNat, reduceCtorEq, ↓reduceIte, Tryd.ntmps104, Tryd.results104, ks_104, mu_104, ti_ag9, ti_fl77_0, ti_hb103, ti_st9, hr', hid, hc])
      | with_reducible refine AWp_skipN ?_
      | with_reducible refine AWp_exitO (by repeat (first | with_reducible exact Out.hit | with_reducible apply Out.thenA | with_reducible apply Out.out rfl)) ?_
      | (with_reducible refine AWp_retR ?_; simp (dsimp := false) only [go_sem, Nat.reduceAdd, Nat.reduceBEq, Nat.reduceEqDiff, Nat.reduceLT, Nat.reduceLeDiff, Nat.reduceMul, Int.reduceToNat, reduceCtorEq, ↓reduceIte, Tryd.ntmps104, Tryd.results104, ks_104, mu_104, ti_ag9, ti_fl77_0, ti_hb103, ti_st9, hr', hid, hc])
      | (with_reducible refine AWp_regE mu_104 ks_104 ?_; intro Kv hKv; simp (dsimp := false) only [go_sem, Nat.reduceAdd, Nat.reduceBEq, Nat.reduceEqDiff, Nat.reduceLT, Nat.reduceLeDiff, Nat.reduceMul, Int.reduceToNat, reduceCtorEq, ↓reduceIte, Tryd.ntmps104, Tryd.results104, ks_104, mu_104, ti_ag9, ti_fl77_0, ti_hb103, ti_st9, hr', hid, hc])
      | (refine AWp_condC rfl ?_; intro KA KB hKA hKB; try simp only [onB_true, onB_false, onB_dec, onB_ndec, onB_not, onB_and, onB_or])
      | (refine AWp_condA rfl ?_ ?_)
      | (refine start_A _ _ _ ?_; try simp (dsimp := false) only [go_sem, Nat.reduceAdd, Nat.reduceBEq, Nat.reduceEqDiff, Nat.reduceLT, Nat.reduceLeDiff, Nat.reduceMul, Int.reduceToNat, reduceCtorEq, ↓reduceIte, Tryd.ntmps104, Tryd.results104, ks_104, mu_104, ti_ag9, ti_fl77_0, ti_hb103, ti_st9, hr', hid, hc])
      | with_reducible refine onB_of ?_ ?_
      | with_reducible rfl
      | omega)
    all_goals first
      | (have hw : wordB c.toNat (decide (j = a)) = true := by
           simp only [digB] at hwr
           grind
         exact ⟨j + 1, ⟨by omega, by omega, by rw [h3, wEnd_next hc hw]⟩, by omega, by omega⟩)
      | (have hw : wordB c.toNat (decide (j = a)) = false := by
           simp only [digB] at hwr
           grind
         exact keepD hk (by rw [h3, wEnd_stop hc hw]))
  · 
    repeat' (first
      | with_reducible refine And.intro ?_ ?_
      | with_reducible intro _
      | with_reducible refine AWp_seq ?_
      | with_reducible refine AWp_block ?_
      | (with_reducible refine hKv _ _ (AWp_nop ?_); clear hKv Kv)
      | (with_reducible refine hKv _ _ ?_; clear hKv Kv; simp (dsimp := false) only [go_sem, Nat.reduceAdd, Nat.reduceBEq, Nat.reduceEqDiff, Nat.reduceLT, Nat.reduceLeDiff, Nat.reduceMul, Int.reduceToNat, reduceCtorEq, ↓reduceIte, Tryd.ntmps104, Tryd.results104, ks_104, mu_104, ti_ag9, ti_fl77_0, ti_hb103, ti_st9, hr', hid])
      | (with_reducible refine hKA ?_; clear hKA hKB KA KB)
      | (with_reducible refine hKB ?_; clear hKA hKB KA KB)
      | (with_reducible refine AWp_regC mu_104 ks_104 ?_; intro Kv hKv; simp (dsimp := false) only [go_sem, Nat.reduceAdd, Nat.reduceBEq, Nat.reduceEqDiff, Nat.reduceLT, Nat.reduceLeDiff, Nat.reduceMul, Int.reduceToNat, reduceCtorEq, ↓reduceIte, Tryd.ntmps104, Tryd.results104, ks_104, mu_104, ti_ag9, ti_fl77_0, ti_hb103, ti_st9, hr', hid])
      | with_reducible refine AWp_skipN ?_
      | with_reducible refine AWp_exitO (by repeat (first | with_reducible exact Out.hit | with_reducible apply Out.thenA | with_reducible apply Out.out rfl)) ?_
      | (with_reducible refine AWp_retR ?_; simp (dsimp := false) only [go_sem, Nat.reduceAdd, Nat.reduceBEq, Nat.reduceEqDiff, Nat.reduceLT, Nat.reduceLeDiff, Nat.reduceMul, Int.reduceToNat, reduceCtorEq, ↓reduceIte, Tryd.ntmps104, Tryd.results104, ks_104, mu_104, ti_ag9, ti_fl77_0, ti_hb103, ti_st9, hr', hid])
      | (with_reducible refine AWp_regE mu_104 ks_104 ?_; intro Kv hKv; simp (dsimp := false) only [go_sem, Nat.reduceAdd, Nat.reduceBEq, Nat.reduceEqDiff, Nat.reduceLT, Nat.reduceLeDiff, Nat.reduceMul, Int.reduceToNat, reduceCtorEq, ↓reduceIte, Tryd.ntmps104, Tryd.results104, ks_104, mu_104, ti_ag9, ti_fl77_0, ti_hb103, ti_st9, hr', hid])
      | (refine AWp_condC rfl ?_; intro KA KB hKA hKB; try simp only [onB_true, onB_false, onB_dec, onB_ndec, onB_not, onB_and, onB_or])
      | (refine AWp_condA rfl ?_ ?_)
      | (refine start_A _ _ _ ?_; try simp (dsimp := false) only [go_sem, Nat.reduceAdd, Nat.reduceBEq, Nat.reduceEqDiff, Nat.reduceLT, Nat.reduceLeDiff, Nat.reduceMul, Int.reduceToNat, reduceCtorEq, ↓reduceIte, Tryd.ntmps104, Tryd.results104, ks_104, mu_104, ti_ag9, ti_fl77_0, ti_hb103, ti_st9, hr', hid])
      | with_reducible refine onB_of ?_ ?_
      | with_reducible rfl
      | omega)
    all_goals exact keepD hk (by rw [h3, wEnd_end (by omega)])

/- the live slots of internal/stringslite.HasPrefix -/
def ks_178 : Nat → List Nat
  | 0 => [0, 1]
  | 1 => [4]
  | _ => []
def mu_178 : List Nat := []
def in_178 : List Nat := [0, 1]
theorem hasPrefix0_A (t m : List UInt8) (ht : t.length ≤ 9223372036854775807) (hm : m.length ≤ 9223372036854775807) (H : Heap) (K : V → Heap → Prop) (hk : K (.d (.b (isPre m t))) H) : ACalls Tryd.prog 178 [.d (.s t), .d (.s m)] H K := by
  refine ACalls_of Tryd.func178 rfl in_178 (Nat.le_of_ble_eq_true rfl) ?_
  intro F hF
  simp (dsimp := false) only [go_sem, Nat.reduceAdd, Nat.reduceBEq, Nat.reduceEqDiff, Nat.reduceLT, Nat.reduceLeDiff, Nat.reduceMul, Int.reduceToNat, reduceCtorEq, ↓reduceIte, Tryd.ntmps178, Tryd.results178, ks_178, mu_178, ti_st9, in_178] at hF
  subst hF
  repeat' (first
    | with_reducible refine And.intro ?_ ?_
    | with_reducible intro _
    | with_reducible refine AWp_seq ?_
    | with_reducible refine AWp_block ?_
    | (with_reducible refine hKv _ _ (AWp_nop ?_); clear hKv Kv)
    | (with_reducible refine hKv _ _ ?_; clear hKv Kv; simp (dsimp := false) only [go_sem, Nat.reduceAdd, Nat.reduceBEq, Nat.reduceEqDiff, Nat.reduceLT, Nat.reduceLeDiff, Nat.reduceMul, Int.reduceToNat, reduceCtorEq, ↓reduceIte, Tryd.ntmps178, Tryd.results178, ks_178, mu_178, ti_st9])
    | (with_reducible refine hKA ?_; clear hKA hKB KA KB)
    | (with_reducible refine hKB ?_; clear hKA hKB KA KB)
    | (with_reducible refine AWp_regC mu_178 ks_178 ?_; intro Kv hKv; simp (dsimp := false) only [go_sem, Nat.reduceAdd, Nat.reduceBEq, Nat.reduceEqDiff, Nat.reduceLT, Nat.reduceLeDiff, Nat.reduceMul, Int.reduceToNat, reduceCtorEq, ↓reduceIte, Tryd.ntmps178, Tryd.results178, ks_178, mu_178, ti_st9])
    | with_reducible refine AWp_skipN ?_
    | with_reducible refine AWp_exitO (by repeat (first | with_reducible exact Out.hit | with_reducible apply Out.thenA | with_reducible apply Out.out rfl)) ?_
    | (with_reducible refine AWp_retR ?_; simp (dsimp := false) only [go_sem, Nat.reduceAdd, Nat.reduceBEq, Nat.reduceEqDiff, Nat.reduceLT, Nat.reduceLeDiff, Nat.reduceMul, Int.reduceToNat, reduceCtorEq, ↓reduceIte, Tryd.ntmps178, Tryd.results178, ks_178, mu_178, ti_st9])
    | (with_reducible refine AWp_regE mu_178 ks_178 ?_; intro Kv hKv; simp (dsimp := false) only [go_sem, Nat.reduceAdd, Nat.reduceBEq, Nat.reduceEqDiff, Nat.reduceLT, Nat.reduceLeDiff, Nat.reduceMul, Int.reduceToNat, reduceCtorEq, ↓reduceIte, Tryd.ntmps178, Tryd.results178, ks_178, mu_178, ti_st9])
    | (refine AWp_condC rfl ?_; intro KA KB hKA hKB; try simp only [onB_true, onB_false, onB_dec, onB_ndec, onB_not, onB_and, onB_or])
    | (refine AWp_condA rfl ?_ ?_)
    | with_reducible refine onB_of ?_ ?_
    | with_reducible rfl
    | omega)
  all_goals first
    | exact keepD hk (by simp [isPre]; first | done | grind)
/- the live slots of strings.HasPrefix -/
def ks_107 : Nat → List Nat
  | 0 => [0, 1]
  | 1 => [4]
  | _ => []
def mu_107 : List Nat := []
def in_107 : List Nat := [0, 1]
theorem hasPrefix_A (t m : List UInt8) (ht : t.length ≤ 9223372036854775807) (hm : m.length ≤ 9223372036854775807) (H : Heap) (K : V → Heap → Prop) (hk : K (.d (.b (isPre m t))) H) : ACalls Tryd.prog 107 [.d (.s t), .d (.s m)] H K := by
  refine ACalls_of Tryd.func107 rfl in_107 (Nat.le_of_ble_eq_true rfl) ?_
  intro F hF
  simp (dsimp := false) only [go_sem, Nat.reduceAdd, Nat.reduceBEq, Nat.reduceEqDiff, Nat.reduceLT, Nat.reduceLeDiff, Nat.reduceMul, Int.reduceToNat, reduceCtorEq, ↓reduceIte, Tryd.ntmps107, Tryd.results107, ks_107, mu_107, ti_hb178, in_107] at hF
  subst hF
  repeat' (first
    | with_reducible refine And.intro ?_ ?_
    | with_reducible intro _
    | with_reducible refine AWp_seq ?_
    | with_reducible refine AWp_block ?_
    | (with_reducible refine hKv _ _ (AWp_nop ?_); clear hKv Kv)
    | (with_reducible refine hKv _ _ ?_; clear hKv Kv; simp (dsimp := false) only [go_sem, Nat.reduceAdd, Nat.reduceBEq, Nat.reduceEqDiff, Nat.reduceLT, Nat.reduceLeDiff, Nat.reduceMul, Int.reduceToNat, reduceCtorEq, ↓reduceIte, Tryd.ntmps107, Tryd.results107, ks_107, mu_107, ti_hb178])
    | (with_reducible refine hKA ?_; clear hKA hKB KA KB)
    | (with_reducible refine hKB ?_; clear hKA hKB KA KB)
    | (with_reducible refine AWp_regC mu_107 ks_107 ?_; intro Kv hKv; simp (dsimp := false) only [go_sem, Nat.reduceAdd, Nat.reduceBEq, Nat.reduceEqDiff, Nat.reduceLT, Nat.reduceLeDiff, Nat.reduceMul, Int.reduceToNat, reduceCtorEq, ↓reduceIte, Tryd.ntmps107, Tryd.results107, ks_107, mu_107, ti_hb178])
    | with_reducible refine AWp_skipN ?_
    | with_reducible refine AWp_exitO (by repeat (first | with_reducible exact Out.hit | with_reducible apply Out.thenA | with_reducible apply Out.out rfl)) ?_
    | (with_reducible refine AWp_retR ?_; simp (dsimp := false) only [go_sem, Nat.reduceAdd, Nat.reduceBEq, Nat.reduceEqDiff, Nat.reduceLT, Nat.reduceLeDiff, Nat.reduceMul, Int.reduceToNat, reduceCtorEq, ↓reduceIte, Tryd.ntmps107, Tryd.results107, ks_107, mu_107, ti_hb178])
    | (with_reducible refine AWp_regE mu_107 ks_107 ?_; intro Kv hKv; simp (dsimp := false) only [go_sem, Nat.reduceAdd, Nat.reduceBEq, Nat.reduceEqDiff, Nat.reduceLT, Nat.reduceLeDiff, Nat.reduceMul, Int.reduceToNat, reduceCtorEq, ↓reduceIte, Tryd.ntmps107, Tryd.results107, ks_107, mu_107, ti_hb178])
    | (refine AWp_condC rfl ?_; intro KA KB hKA hKB; try simp only [onB_true, onB_false, onB_dec, onB_ndec, onB_not, onB_and, onB_or])
    | (refine AWp_condA rfl ?_ ?_)
    | (refine hasPrefix0_A _ _ ht hm _ _ ?_; try simp (dsimp := false) only [go_sem, Nat.reduceAdd, Nat.reduceBEq, Nat.reduceEqDiff, Nat.reduceLT, Nat.reduceLeDiff, Nat.reduceMul, Int.reduceToNat, reduceCtorEq, ↓reduceIte, Tryd.ntmps107, Tryd.results107, ks_107, mu_107, ti_hb178])
    | with_reducible refine onB_of ?_ ?_
    | with_reducible rfl
    | omega)
  all_goals exact keepD hk rfl
/- the live slots of pleacher/pleacherref.begins -/
def ks_52 : Nat → List Nat
  | 0 => [0, 1, 2]
  | 1 => [6]
  | _ => []
def mu_52 : List Nat := []
def in_52 : List Nat := [0, 1, 2]
theorem begins_A (s m : List UInt8) (p : Nat) (hs : s.length ≤ 1048576) (hp : p ≤ s.length) (hm : m.length ≤ 1048576) (H : Heap) (K : V → Heap → Prop) (hk : K (.d (.b (isPre m (s.drop p)))) H) : ACalls Tryd.prog 52 [.d (.s s), .d (.i .i64 p), .d (.s m)] H K := by
  refine ACalls_of Tryd.func52 rfl in_52 (Nat.le_of_ble_eq_true rfl) ?_
  intro F hF
  simp (dsimp := false) only [go_sem, Nat.reduceAdd, Nat.reduceBEq, Nat.reduceEqDiff, Nat.reduceLT, Nat.reduceLeDiff, Nat.reduceMul, Int.reduceToNat, reduceCtorEq, ↓reduceIte, Tryd.ntmps52, Tryd.results52, ks_52, mu_52, ti_st9, in_52] at hF
  subst hF
  repeat' (first
    | with_reducible refine And.intro ?_ ?_
    | with_reducible intro _
    | with_reducible refine AWp_seq ?_
    | with_reducible refine AWp_block ?_
    | (with_reducible refine hKv _ _ (AWp_nop ?_); clear hKv Kv)
    | (with_reducible refine hKv _ _ ?_; clear hKv Kv; simp (dsimp := false) only [go_sem, Nat.reduceAdd, Nat.reduceBEq, Nat.reduceEqDiff, Nat.reduceLT, Nat.reduceLeDiff, Nat.reduceMul, Int.reduceToNat, reduceCtorEq, ↓reduceIte, Tryd.ntmps52, Tryd.results52, ks_52, mu_52, ti_st9])
    | (with_reducible refine hKA ?_; clear hKA hKB KA KB)
    | (with_reducible refine hKB ?_; clear hKA hKB KA KB)
    | (with_reducible refine AWp_regC mu_52 ks_52 ?_; intro Kv hKv; simp (dsimp := false) only [go_sem, Nat.reduceAdd, Nat.reduceBEq, Nat.reduceEqDiff, Nat.reduceLT, Nat.reduceLeDiff, Nat.reduceMul, Int.reduceToNat, reduceCtorEq, ↓reduceIte, Tryd.ntmps52, Tryd.results52, ks_52, mu_52, ti_st9])
    | with_reducible refine AWp_skipN ?_
    | with_reducible refine AWp_exitO (by repeat (first | with_reducible exact Out.hit | with_reducible apply Out.thenA | with_reducible apply Out.out rfl)) ?_
    | (with_reducible refine AWp_retR ?_; simp (dsimp := false) only [go_sem, Nat.reduceAdd, Nat.reduceBEq, Nat.reduceEqDiff, Nat.reduceLT, Nat.reduceLeDiff, Nat.reduceMul, Int.reduceToNat, reduceCtorEq, ↓reduceIte, Tryd.ntmps52, Tryd.results52, ks_52, mu_52, ti_st9])
    | (with_reducible refine AWp_regE mu_52 ks_52 ?_; intro Kv hKv; simp (dsimp := false) only [go_sem, Nat.reduceAdd, Nat.reduceBEq, Nat.reduceEqDiff, Nat.reduceLT, Nat.reduceLeDiff, Nat.reduceMul, Int.reduceToNat, reduceCtorEq, ↓reduceIte, Tryd.ntmps52, Tryd.results52, ks_52, mu_52, ti_st9])
    | (refine AWp_condC rfl ?_; intro KA KB hKA hKB; try simp only [onB_true, onB_false, onB_dec, onB_ndec, onB_not, onB_and, onB_or])
    | (refine AWp_condA rfl ?_ ?_)
    | with_reducible refine onB_of ?_ ?_
    | with_reducible rfl
    | omega)
  all_goals first
    | exact keepD hk (by simp [isPre]; first | done | grind)
    | exact keepD hk (by
        rw [show ((p : Int) + (m.length : Int)).toNat = p + m.length by omega, List.drop_take, Nat.add_sub_cancel_left]
        have : m.length ≤ (s.drop p).length := by rw [List.length_drop]; omega
        simp only [isPre, this, true_and])
/- the live slots of pleacher/pleacherref.allMarks -/
def ks_51 : Nat → List Nat
  | 0 => []
  | 1 => [0]
  | _ => []
def mu_51 : List Nat := []
def in_51 : List Nat := []
theorem allMarks_A (H : Heap) (K : V → Heap → Prop) (hk : K (.d (.sl 1 (marksL.map strRow))) H) : ACalls Tryd.prog 51 [] H K := by
  refine ACalls_of Tryd.func51 rfl in_51 (Nat.le_of_ble_eq_true rfl) ?_
  intro F hF
  simp (dsimp := false) only [go_sem, Nat.reduceAdd, Nat.reduceBEq, Nat.reduceEqDiff, Nat.reduceLT, Nat.reduceLeDiff, Nat.reduceMul, Int.reduceToNat, reduceCtorEq, ↓reduceIte, Tryd.ntmps51, Tryd.results51, ks_51, mu_51, ti_sl28, in_51] at hF
  subst hF
  repeat' (first
    | with_reducible refine And.intro ?_ ?_
    | with_reducible intro _
    | with_reducible refine AWp_seq ?_
    | with_reducible refine AWp_block ?_
    | (with_reducible refine hKv _ _ (AWp_nop ?_); clear hKv Kv)
    | (with_reducible refine hKv _ _ ?_; clear hKv Kv; simp (dsimp := false) only [go_sem, Nat.reduceAdd, Nat.reduceBEq, Nat.reduceEqDiff, Nat.reduceLT, Nat.reduceLeDiff, Nat.reduceMul, Int.reduceToNat, reduceCtorEq, ↓reduceIte, Tryd.ntmps51, Tryd.results51, ks_51, mu_51, ti_sl28])
    | (with_reducible refine hKA ?_; clear hKA hKB KA KB)
    | (with_reducible refine hKB ?_; clear hKA hKB KA KB)
    | (with_reducible refine AWp_regC mu_51 ks_51 ?_; intro Kv hKv; simp (dsimp := false) only [go_sem, Nat.reduceAdd, Nat.reduceBEq, Nat.reduceEqDiff, Nat.reduceLT, Nat.reduceLeDiff, Nat.reduceMul, Int.reduceToNat, reduceCtorEq, ↓reduceIte, Tryd.ntmps51, Tryd.results51, ks_51, mu_51, ti_sl28])
    | with_reducible refine AWp_skipN ?_
    | with_reducible refine AWp_exitO (by repeat (first | with_reducible exact Out.hit | with_reducible apply Out.thenA | with_reducible apply Out.out rfl)) ?_
    | (with_reducible refine AWp_retR ?_; simp (dsimp := false) only [go_sem, Nat.reduceAdd, Nat.reduceBEq, Nat.reduceEqDiff, Nat.reduceLT, Nat.reduceLeDiff, Nat.reduceMul, Int.reduceToNat, reduceCtorEq, ↓reduceIte, Tryd.ntmps51, Tryd.results51, ks_51, mu_51, ti_sl28])
    | (with_reducible refine AWp_regE mu_51 ks_51 ?_; intro Kv hKv; simp (dsimp := false) only [go_sem, Nat.reduceAdd, Nat.reduceBEq, Nat.reduceEqDiff, Nat.reduceLT, Nat.reduceLeDiff, Nat.reduceMul, Int.reduceToNat, reduceCtorEq, ↓reduceIte, Tryd.ntmps51, Tryd.results51, ks_51, mu_51, ti_sl28])
    | (refine AWp_condC rfl ?_; intro KA KB hKA hKB; try simp only [onB_true, onB_false, onB_dec, onB_ndec, onB_not, onB_and, onB_or])
    | (refine AWp_condA rfl ?_ ?_)
    | with_reducible refine onB_of ?_ ?_
    | with_reducible rfl
    | omega)
  all_goals first
    | exact keepD hk rfl
theorem indexByte_q (s : List UInt8) : ∀ (m j : Nat), s.length - j ≤ m → j ≤ s.length → Lib.indexByte (s.drop j) 34 = if qAt s j = s.length then -1 else (qAt s j : Int) - j
  | 0, j, h, hj => by
    have e : j = s.length := by omega
    subst e
    rw [List.drop_length, qAt_end (Nat.le_refl _), if_pos rfl]
    rfl
  | m + 1, j, h, hj => by
    by_cases hl : j < s.length
    · obtain ⟨c, hc⟩ : ∃ c, s[j]? = some c := ⟨s[j], List.getElem?_eq_getElem hl⟩
      have ih := indexByte_q s m (j + 1) (by omega) (by omega)
      have hle := qAt_le s m (j + 1) (by omega) (by omega)
      rw [drop_of_get hc, Lib.indexByte]
      by_cases h34 : c = 34
      · subst h34
        rw [qAt_hit hc rfl, if_pos (by rfl), if_neg (by omega)]
        simp
      · rw [qAt_next hc h34, if_neg (by simpa using h34), ih]
        split
        · simp
        · rw [if_neg (by simp; omega)]; omega
    · have e : j = s.length := by omega
      subst e
      rw [List.drop_length, qAt_end (Nat.le_refl _), if_pos rfl]
      rfl
/- the live slots of strings.IndexByte -/
def ks_105 : Nat → List Nat
  | 0 => [0, 1]
  | 1 => [4]
  | _ => []
def mu_105 : List Nat := []
def in_105 : List Nat := [0, 1]
theorem indexByte_A (l : List UInt8) (H : Heap) (K : V → Heap → Prop) (hk : K (.d (.i .i64 (Lib.indexByte l 34))) H) : ACalls Tryd.prog 105 [.d (.s l), .d (.i .u8 34)] H K := by
  refine ACalls_still _ hk fun w σ args hl hr => ?_
  obtain ⟨u, v, rfl⟩ := two_of_size (xs := args) (by simpa using hl.symm)
  obtain rfl := (hr 0 _ u rfl rfl).inv_d.inv_s
  obtain rfl := (hr 1 _ v rfl rfl).inv_d.inv_i
  refine ⟨.int .i64 (Lib.indexByte l 34), .d _ _ (.i _ _), ?_⟩
  have := Any.strings_IndexByte Tryd.lays137 ⟨l.toArray⟩ 34 w
  have e : Tryd.lays137_ren.f 137 = 105 := by first | rfl | kernel_rfl
  rw [e] at this
  simpa using this
end Go.Proofs.YtalalhngpcmoeaaDoor
