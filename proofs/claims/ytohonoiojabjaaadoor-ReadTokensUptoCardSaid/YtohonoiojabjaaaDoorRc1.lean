/- Words, marks and quotes: what the program's and the reference's small functions find. No condition but that the tables of package unicode/utf8 are there. -/
import Derived.Test.YtohonoiojabjaaaDoorRc0
import Derived.Test.YtohonoiojabjaaaDoorSh
set_option linter.all false
set_option linter.unusedSimpArgs false
set_option linter.unusedVariables false
namespace Go.Proofs.YtohonoiojabjaaaDoor
open Go Go.Proofs.YtohonoiojabjaaaDoor.Ab
variable [Glo]
set_option maxHeartbeats 4000000
set_option maxRecDepth 20000
theorem wordB_first (c : Int) : wordB c true = letterB c := by
  simp only [wordB, nameB, letterB]; grind
theorem wordB_rest (c : Int) : wordB c false = (letterB c || digB c || decide (c = 45)) := by
  simp only [wordB, nameB, letterB, digB]; grind
/- the live slots of pleacher/read.start -/
def ks_75 : Nat → List Nat
  | 0 => [0]
  | 1 => [2]
  | _ => []
def mu_75 : List Nat := []
def in_75 : List Nat := [0]
theorem start_A (c : Int) (H : Heap) (K : V → Heap → Prop) (hk : K (.d (.b (letterB c))) H) : ACalls Tryd.prog 75 [.d (.i .u8 c)] H K := by
  refine ACalls_of Tryd.func75 rfl in_75 (Nat.le_of_ble_eq_true rfl) ?_
  intro F hF
  simp (dsimp := false) only [go_sem, Nat.reduceAdd, Nat.reduceBEq, Nat.reduceEqDiff, Nat.reduceLT, Nat.reduceLeDiff, Nat.reduceMul, Int.reduceToNat, reduceCtorEq, ↓reduceIte, Tryd.ntmps75, Tryd.results75, ks_75, mu_75, in_75] at hF
  subst hF
  repeat' (first
    | with_reducible refine And.intro ?_ ?_
    | with_reducible intro _
    | with_reducible refine AWp_seq ?_
    | with_reducible refine AWp_block ?_
    | (with_reducible refine hKv _ _ (AWp_nop ?_); clear hKv Kv)
    | (with_reducible refine hKv _ _ ?_; clear hKv Kv; simp (dsimp := false) only [go_sem, Nat.reduceAdd, Nat.reduceBEq, Nat.reduceEqDiff, Nat.reduceLT, Nat.reduceLeDiff, Nat.reduceMul, Int.reduceToNat, reduceCtorEq, ↓reduceIte, Tryd.ntmps75, Tryd.results75, ks_75, mu_75])
    | (with_reducible refine hKA ?_; clear hKA hKB KA KB)
    | (with_reducible refine hKB ?_; clear hKA hKB KA KB)
    | (with_reducible refine AWp_regC mu_75 ks_75 ?_; intro Kv hKv; simp (dsimp := false) only [go_sem, Nat.reduceAdd, Nat.reduceBEq, Nat.reduceEqDiff, Nat.reduceLT, Nat.reduceLeDiff, Nat.reduceMul, Int.reduceToNat, reduceCtorEq, ↓reduceIte, Tryd.ntmps75, Tryd.results75, ks_75, mu_75])
    | with_reducible refine AWp_skipN ?_
    | with_reducible refine AWp_exitO (by repeat (first | with_reducible exact Out.hit | with_reducible apply Out.thenA | with_reducible apply Out.out rfl)) ?_
    | (with_reducible refine AWp_retR ?_; simp (dsimp := false) only [go_sem, Nat.reduceAdd, Nat.reduceBEq, Nat.reduceEqDiff, Nat.reduceLT, Nat.reduceLeDiff, Nat.reduceMul, Int.reduceToNat, reduceCtorEq, ↓reduceIte, Tryd.ntmps75, Tryd.results75, ks_75, mu_75])
    | (with_reducible refine AWp_regE mu_75 ks_75 ?_; intro Kv hKv; simp (dsimp := false) only [go_sem, Nat.reduceAdd, Nat.reduceBEq, Nat.reduceEqDiff, Nat.reduceLT, Nat.reduceLeDiff, Nat.reduceMul, Int.reduceToNat, reduceCtorEq, ↓reduceIte, Tryd.ntmps75, Tryd.results75, ks_75, mu_75])
    | (refine AWp_condC rfl ?_; intro KA KB hKA hKB; try simp only [onB_true, onB_false, onB_dec, onB_ndec, onB_not, onB_and, onB_or])
    | (refine AWp_condA rfl ?_ ?_)
    | with_reducible refine onB_of ?_ ?_
    | with_reducible rfl
    | omega)
  all_goals refine keepD hk ?_
  all_goals (simp only [letterB, V.d.injEq, D.b.injEq]; grind)
/- the live slots of pleacher/pleacherref.wordByte -/
def ks_76 : Nat → List Nat
  | 0 => [0, 1]
  | 1 => [4]
  | _ => []
def mu_76 : List Nat := []
def in_76 : List Nat := [0, 1]
theorem wordByte_A (c : Int) (t : Bool) (H : Heap) (K : V → Heap → Prop) (hk : K (.d (.b (wordB c t))) H) : ACalls Tryd.prog 76 [.d (.i .u8 c), .d (.b t)] H K := by
  refine ACalls_of Tryd.func76 rfl in_76 (Nat.le_of_ble_eq_true rfl) ?_
  intro F hF
  simp (dsimp := false) only [go_sem, Nat.reduceAdd, Nat.reduceBEq, Nat.reduceEqDiff, Nat.reduceLT, Nat.reduceLeDiff, Nat.reduceMul, Int.reduceToNat, reduceCtorEq, ↓reduceIte, Tryd.ntmps76, Tryd.results76, ks_76, mu_76, ti_hb88, in_76] at hF
  subst hF
  repeat' (first
    | with_reducible refine And.intro ?_ ?_
    | with_reducible intro _
    | with_reducible refine AWp_seq ?_
    | with_reducible refine AWp_block ?_
    | (with_reducible refine hKv _ _ (AWp_nop ?_); clear hKv Kv)
    | (with_reducible refine hKv _ _ ?_; clear hKv Kv; simp (dsimp := false) only [go_sem, Nat.reduceAdd, Nat.reduceBEq, Nat.reduceEqDiff, Nat.reduceLT, Nat.reduceLeDiff, Nat.reduceMul, Int.reduceToNat, reduceCtorEq, ↓reduceIte, Tryd.ntmps76, Tryd.results76, ks_76, mu_76, ti_hb88])
    | (with_reducible refine hKA ?_; clear hKA hKB KA KB)
    | (with_reducible refine hKB ?_; clear hKA hKB KA KB)
    | (with_reducible refine AWp_regC mu_76 ks_76 ?_; intro Kv hKv; simp (dsimp := false) only [go_sem, Nat.reduceAdd, Nat.reduceBEq, Nat.reduceEqDiff, Nat.reduceLT, Nat.reduceLeDiff, Nat.reduceMul, Int.reduceToNat, reduceCtorEq, ↓reduceIte, Tryd.ntmps76, Tryd.results76, ks_76, mu_76, ti_hb88])
    | with_reducible refine AWp_skipN ?_
    | with_reducible refine AWp_exitO (by repeat (first | with_reducible exact Out.hit | with_reducible apply Out.thenA | with_reducible apply Out.out rfl)) ?_
    | (with_reducible refine AWp_retR ?_; simp (dsimp := false) only [go_sem, Nat.reduceAdd, Nat.reduceBEq, Nat.reduceEqDiff, Nat.reduceLT, Nat.reduceLeDiff, Nat.reduceMul, Int.reduceToNat, reduceCtorEq, ↓reduceIte, Tryd.ntmps76, Tryd.results76, ks_76, mu_76, ti_hb88])
    | (with_reducible refine AWp_regE mu_76 ks_76 ?_; intro Kv hKv; simp (dsimp := false) only [go_sem, Nat.reduceAdd, Nat.reduceBEq, Nat.reduceEqDiff, Nat.reduceLT, Nat.reduceLeDiff, Nat.reduceMul, Int.reduceToNat, reduceCtorEq, ↓reduceIte, Tryd.ntmps76, Tryd.results76, ks_76, mu_76, ti_hb88])
    | (refine AWp_condC rfl ?_; intro KA KB hKA hKB; try simp only [onB_true, onB_false, onB_dec, onB_ndec, onB_not, onB_and, onB_or])
    | (refine AWp_condA rfl ?_ ?_)
    | (refine nameByte_A _ _ _ _ ?_; try simp (dsimp := false) only [go_sem, Nat.reduceAdd, Nat.reduceBEq, Nat.reduceEqDiff, Nat.reduceLT, Nat.reduceLeDiff, Nat.reduceMul, Int.reduceToNat, reduceCtorEq, ↓reduceIte, Tryd.ntmps76, Tryd.results76, ks_76, mu_76, ti_hb88])
    | with_reducible refine onB_of ?_ ?_
    | with_reducible rfl
    | omega)
  all_goals refine keepD hk ?_
  all_goals (simp only [wordB, V.d.injEq, D.b.injEq]; grind)
/- the live slots of pleacher/pleacherref.wordTo -/
def ks_57 : Nat → List Nat
  | 0 => [0, 1]
  | 1 => [0, 1, 5]
  | 2 => [0, 1, 5, 19]
  | 3 => [0, 1, 5]
  | 4 => [4]
  | _ => []
def mu_57 : List Nat := []
def in_57 : List Nat := [0, 1]
theorem wordTo_A (s : List UInt8) (a : Nat) (hs : s.length ≤ 1048576) (ha : a ≤ s.length) (H : Heap) (K : V → Heap → Prop) (hk : K (.d (.i .i64 (wEnd s a a))) H) : ACalls Tryd.prog 57 [.d (.s s), .d (.i .i64 a)] H K := by
  refine ACalls_of Tryd.func57 rfl in_57 (Nat.le_of_ble_eq_true rfl) ?_
  intro F hF
  simp (dsimp := false) only [go_sem, Nat.reduceAdd, Nat.reduceBEq, Nat.reduceEqDiff, Nat.reduceLT, Nat.reduceLeDiff, Nat.reduceMul, Int.reduceToNat, reduceCtorEq, ↓reduceIte, Tryd.ntmps57, Tryd.results57, ks_57, mu_57, ti_hb76, ti_st9, in_57] at hF
  subst hF
  repeat' (first
    | with_reducible refine And.intro ?_ ?_
    | with_reducible intro _
    | with_reducible refine AWp_seq ?_
    | with_reducible refine AWp_block ?_
    | (with_reducible refine hKv _ _ (AWp_nop ?_); clear hKv Kv)
    | (with_reducible refine hKv _ _ ?_; clear hKv Kv; simp (dsimp := false) only [go_sem, Nat.reduceAdd, Nat.reduceBEq, Nat.reduceEqDiff, Nat.reduceLT, Nat.reduceLeDiff, Nat.reduceMul, Int.reduceToNat, reduceCtorEq, ↓reduceIte, Tryd.ntmps57, Tryd.results57, ks_57, mu_57, ti_hb76, ti_st9])
    | (with_reducible refine hKA ?_; clear hKA hKB KA KB)
    | (with_reducible refine hKB ?_; clear hKA hKB KA KB)
    | (with_reducible refine AWp_regC mu_57 ks_57 ?_; intro Kv hKv; simp (dsimp := false) only [go_sem, Nat.reduceAdd, Nat.reduceBEq, Nat.reduceEqDiff, Nat.reduceLT, Nat.reduceLeDiff, Nat.reduceMul, Int.reduceToNat, reduceCtorEq, ↓reduceIte, Tryd.ntmps57, Tryd.results57, ks_57, mu_57, ti_hb76, ti_st9])
    | with_reducible refine AWp_skipN ?_
    | with_reducible refine AWp_exitO (by repeat (first | with_reducible exact Out.hit | with_reducible apply Out.thenA | with_reducible apply Out.out rfl)) ?_
    | (with_reducible refine AWp_retR ?_; simp (dsimp := false) only [go_sem, Nat.reduceAdd, Nat.reduceBEq, Nat.reduceEqDiff, Nat.reduceLT, Nat.reduceLeDiff, Nat.reduceMul, Int.reduceToNat, reduceCtorEq, ↓reduceIte, Tryd.ntmps57, Tryd.results57, ks_57, mu_57, ti_hb76, ti_st9])
    | (with_reducible refine AWp_regE mu_57 ks_57 ?_; intro Kv hKv; simp (dsimp := false) only [go_sem, Nat.reduceAdd, Nat.reduceBEq, Nat.reduceEqDiff, Nat.reduceLT, Nat.reduceLeDiff, Nat.reduceMul, Int.reduceToNat, reduceCtorEq, ↓reduceIte, Tryd.ntmps57, Tryd.results57, ks_57, mu_57, ti_hb76, ti_st9])
    | (refine AWp_condC rfl ?_; intro KA KB hKA hKB; try simp only [onB_true, onB_false, onB_dec, onB_ndec, onB_not, onB_and, onB_or])
    | (refine AWp_condA rfl ?_ ?_)
    | with_reducible refine onB_of ?_ ?_
    | with_reducible rfl
    | omega)
  refine AWp_while0 (fun j : Nat => a ≤ j ∧ j ≤ s.length ∧ wEnd s a a = wEnd s a j) (fun j => [(0, .d (.s s)), (1, .d (.i .i64 a)), (5, .d (.i .i64 j))]) (fun j => s.length - j) a ⟨Nat.le_refl _, ha, rfl⟩ ?_ ?_
  · simp (dsimp := false) only [go_sem, Nat.reduceAdd, Nat.reduceBEq, Nat.reduceEqDiff, Nat.reduceLT, Nat.reduceLeDiff, Nat.reduceMul, Int.reduceToNat, reduceCtorEq, ↓reduceIte, Tryd.ntmps57, Tryd.results57, ks_57, mu_57, ti_hb76, ti_st9]
    first | done | simp
  rintro j ⟨h1, h2, h3⟩
  by_cases hj : j < s.length
  · obtain ⟨c, hc⟩ : ∃ c, s[j]? = some c := ⟨s[j], List.getElem?_eq_getElem hj⟩
    have hd : decide ((j : Int) = (a : Int)) = decide (j = a) := by simp [Int.ofNat_inj]
    cases hw : wordB c.toNat (decide (j = a)) with
    | true =>
      
      repeat' (first
        | with_reducible refine And.intro ?_ ?_
        | with_reducible intro _
        | with_reducible refine AWp_seq ?_
        | with_reducible refine AWp_block ?_
        | (with_reducible refine hKv _ _ (AWp_nop ?_); clear hKv Kv)
        | (with_reducible refine hKv _ _ ?_; clear hKv Kv; simp (dsimp := false) only [go_sem, Nat.reduceAdd, Nat.reduceBEq, Nat.reduceEqDiff, Nat.reduceLT, Nat.reduceLeDiff, Nat.reduceMul, Int.reduceToNat, reduceCtorEq, ↓reduceIte, Tryd.ntmps57, Tryd.results57, ks_57, mu_57, ti_hb76, ti_st9, hc, hd, hw])
        | (with_reducible refine hKA ?_; clear hKA hKB KA KB)
        | (with_reducible refine hKB ?_; clear hKA hKB KA KB)
        | (with_reducible refine AWp_regC mu_57 ks_57 ?_; intro Kv hKv; simp (dsimp := false) only [go_sem, Nat.reduceAdd, Nat.reduceBEq, Nat.reduceEqDiff, Nat.reduceLT, Nat.reduceLeDiff, Nat.reduceMul, Int.reduceToNat, reduceCtorEq, ↓reduceIte, Tryd.ntmps57, Tryd.results57, ks_57, mu_57, ti_hb76, ti_st9, hc, hd, hw])
        | with_reducible refine AWp_skipN ?_
        | with_reducible refine AWp_exitO (by repeat (first | with_reducible exact Out.hit | with_reducible apply Out.thenA | with_reducible apply Out.out rfl)) ?_
        | (with_reducible refine AWp_retR ?_; simp (dsimp := false) only [go_sem, Nat.reduceAdd, Nat.reduceBEq, Nat.reduceEqDiff, Nat.reduceLT, Nat.reduceLeDiff, Nat.reduceMul, Int.reduceToNat, reduceCtorEq, ↓reduceIte, Tryd.ntmps57, Tryd.results57, ks_57, mu_57, ti_hb76, ti_st9, hc, hd, hw])
        | (with_reducible refine AWp_regE mu_57 ks_57 ?_; intro Kv hKv; simp (dsimp := false) only [go_sem, Nat.reduceAdd, Nat.reduceBEq, Nat.reduceEqDiff, Nat.reduceLT, Nat.reduceLeDiff, Nat.reduceMul, Int.reduceToNat, reduceCtorEq, ↓reduceIte, Tryd.ntmps57, Tryd.results57, ks_57, mu_57, ti_hb76, ti_st9, hc, hd, hw])
        | (refine AWp_condC rfl ?_; intro KA KB hKA hKB; try simp only [onB_true, onB_false, onB_dec, onB_ndec, onB_not, onB_and, onB_or])
        | (refine AWp_condA rfl ?_ ?_)
        | (refine wordByte_A _ _ _ _ ?_; try simp (dsimp := false) only [go_sem, Nat.reduceAdd, Nat.reduceBEq, Nat.reduceEqDiff, Nat.reduceLT, Nat.reduceLeDiff, Nat.reduceMul, Int.reduceToNat, reduceCtorEq, ↓reduceIte, Tryd.ntmps57, Tryd.results57, ks_57, mu_57, ti_hb76, ti_st9, hc, hd, hw])
        | with_reducible refine onB_of ?_ ?_
        | with_reducible rfl
        | omega)
      all_goals exact ⟨j + 1, ⟨by omega, by omega, by rw [h3, wEnd_next hc hw]⟩, by omega, by omega⟩
    | false =>
      
      repeat' (first
        | with_reducible refine And.intro ?_ ?_
        | with_reducible intro _
        | with_reducible refine AWp_seq ?_
        | with_reducible refine AWp_block ?_
        | (with_reducible refine hKv _ _ (AWp_nop ?_); clear hKv Kv)
        | (with_reducible refine hKv _ _ ?_; clear hKv Kv; simp (dsimp := false) only [go_sem, Nat.reduceAdd, Nat.reduceBEq, Nat.reduceEqDiff, Nat.reduceLT, Nat.reduceLeDiff, Nat.reduceMul, Int.reduceToNat, reduceCtorEq, ↓reduceIte, Tryd.ntmps57, Tryd.results57, ks_57, mu_57, ti_hb76, ti_st9, hc, hd, hw])
        | (with_reducible refine hKA ?_; clear hKA hKB KA KB)
        | (with_reducible refine hKB ?_; clear hKA hKB KA KB)
        | (with_reducible refine AWp_regC mu_57 ks_57 ?_; intro Kv hKv; simp (dsimp := false) only [go_sem, Nat.reduceAdd, Nat.reduceBEq, Nat.reduceEqDiff, Nat.reduceLT, Nat.reduceLeDiff, Nat.reduceMul, Int.reduceToNat, reduceCtorEq, ↓reduceIte, Tryd.ntmps57, Tryd.results57, ks_57, mu_57, ti_hb76, ti_st9, hc, hd, hw])
        | with_reducible refine AWp_skipN ?_
        | with_reducible refine AWp_exitO (by repeat (first | with_reducible exact Out.hit | with_reducible apply Out.thenA | with_reducible apply Out.out rfl)) ?_
        | (with_reducible refine AWp_retR ?_; simp (dsimp := false) only [go_sem, Nat.reduceAdd, Nat.reduceBEq, Nat.reduceEqDiff, Nat.reduceLT, Nat.reduceLeDiff, Nat.reduceMul, Int.reduceToNat, reduceCtorEq, ↓reduceIte, Tryd.ntmps57, Tryd.results57, ks_57, mu_57, ti_hb76, ti_st9, hc, hd, hw])
        | (with_reducible refine AWp_regE mu_57 ks_57 ?_; intro Kv hKv; simp (dsimp := false) only [go_sem, Nat.reduceAdd, Nat.reduceBEq, Nat.reduceEqDiff, Nat.reduceLT, Nat.reduceLeDiff, Nat.reduceMul, Int.reduceToNat, reduceCtorEq, ↓reduceIte, Tryd.ntmps57, Tryd.results57, ks_57, mu_57, ti_hb76, ti_st9, hc, hd, hw])
        | (refine AWp_condC rfl ?_; intro KA KB hKA hKB; try simp only [onB_true, onB_false, onB_dec, onB_ndec, onB_not, onB_and, onB_or])
        | (refine AWp_condA rfl ?_ ?_)
        | (refine wordByte_A _ _ _ _ ?_; try simp (dsimp := false) only [go_sem, Nat.reduceAdd, Nat.reduceBEq, Nat.reduceEqDiff, Nat.reduceLT, Nat.reduceLeDiff, Nat.reduceMul, Int.reduceToNat, reduceCtorEq, ↓reduceIte, Tryd.ntmps57, Tryd.results57, ks_57, mu_57, ti_hb76, ti_st9, hc, hd, hw])
        | with_reducible refine onB_of ?_ ?_
        | with_reducible rfl
        | omega)
      all_goals exact keepD hk (by rw [h3, wEnd_stop hc hw])
  · 
    repeat' (first
      | with_reducible refine And.intro ?_ ?_
      | with_reducible intro _
      | with_reducible refine AWp_seq ?_
      | with_reducible refine AWp_block ?_
      | (with_reducible refine hKv _ _ (AWp_nop ?_); clear hKv Kv)
      | (with_reducible refine hKv _ _ ?_; clear hKv Kv; simp (dsimp := false) only [go_sem, Nat.reduceAdd, Nat.reduceBEq, Nat.reduceEqDiff, Nat.reduceLT, Nat.reduceLeDiff, Nat.reduceMul, Int.reduceToNat, reduceCtorEq, ↓reduceIte, Tryd.ntmps57, Tryd.results57, ks_57, mu_57, ti_hb76, ti_st9])
      | (with_reducible refine hKA ?_; clear hKA hKB KA KB)
      | (with_reducible refine hKB ?_; clear hKA hKB KA KB)
      | (with_reducible refine AWp_regC mu_57 ks_57 ?_; intro Kv hKv; simp (dsimp := false) only [go_sem, Nat.reduceAdd, Nat.reduceBEq, Nat.reduceEqDiff, Nat.reduceLT, Nat.reduceLeDiff, Nat.reduceMul, Int.reduceToNat, reduceCtorEq, ↓reduceIte, Tryd.ntmps57, Tryd.results57, ks_57, mu_57, ti_hb76, ti_st9])
      | with_reducible refine AWp_skipN ?_
      | with_reducible refine AWp_exitO (by repeat (first | with_reducible exact Out.hit | with_reducible apply Out.thenA | with_reducible apply Out.out rfl)) ?_
      | (with_reducible refine AWp_retR ?_; simp (dsimp := false) only [go_sem, Nat.reduceAdd, Nat.reduceBEq, Nat.reduceEqDiff, Nat.reduceLT, Nat.reduceLeDiff, Nat.reduceMul, Int.reduceToNat, reduceCtorEq, ↓reduceIte, Tryd.ntmps57, Tryd.results57, ks_57, mu_57, ti_hb76, ti_st9])
      | (with_reducible refine AWp_regE mu_57 ks_57 ?_; intro Kv hKv; simp (dsimp := false) only [go_sem, Nat.reduceAdd, Nat.reduceBEq, Nat.reduceEqDiff, Nat.reduceLT, Nat.reduceLeDiff, Nat.reduceMul, Int.reduceToNat, reduceCtorEq, ↓reduceIte, Tryd.ntmps57, Tryd.results57, ks_57, mu_57, ti_hb76, ti_st9])
      | (refine AWp_condC rfl ?_; intro KA KB hKA hKB; try simp only [onB_true, onB_false, onB_dec, onB_ndec, onB_not, onB_and, onB_or])
      | (refine AWp_condA rfl ?_ ?_)
      | with_reducible refine onB_of ?_ ?_
      | with_reducible rfl
      | omega)
    all_goals exact keepD hk (by rw [h3, wEnd_end (by omega)])

/-- A lexer, as it lies in memory. -/
def lexC (s : List UInt8) (p : Nat) (o : V) : Ob := .row 0 76 3 [[.d (.s s), .d (.i .i64 p), o]]
/- the live slots of (*pleacher/read.lexer).word -/
def ks_53 : Nat → List Nat
  | 0 => [0, 1]
  | 1 => [0, 1, 5]
  | 2 => [0, 1, 5, 15]
  | 3 => [0, 1, 5, 6]
  | 4 => [0, 1, 5, 6, 7]
  | 5 => [0, 1, 5, 43]
  | 6 => [0, 1, 5]
  | 7 => [4]
  | _ => []
def mu_53 : List Nat := []
def in_53 : List Nat := [0, 1]
theorem word_A (id : Nat) (s : List UInt8) (p a : Nat) (o : V) (hs : s.length ≤ 1048576) (ha : a ≤ s.length) (H : Heap) (K : V → Heap → Prop) (hr : H[id]? = some (lexC s p o)) (hk : K (.d (.i .i64 (wEnd s a a))) H) :
    ACalls Tryd.prog 53 [.pt id 0 0 0, .d (.i .i64 a)] H K := by
  have hid := (List.getElem?_eq_some_iff.1 hr).1
  have hr' : H[id]? = some (.row 0 76 3 [[.d (.s s), .d (.i .i64 p), o]]) := hr
  
  refine ACalls_of Tryd.func53 rfl in_53 (Nat.le_of_ble_eq_true rfl) ?_
  intro F hF
  simp (dsimp := false) only [go_sem, Nat.reduceAdd, Nat.reduceBEq, Nat.reduceEqDiff, Nat.reduceLT, Nat.reduceLeDiff, Nat.reduceMul, Int.reduceToNat, reduceCtorEq, ↓reduceIte, Tryd.ntmps53, Tryd.results53, ks_53, mu_53, ti_ag9, ti_fl76_0, ti_hb75, ti_st9, hr', hid, in_53] at hF
  subst hF
  repeat' (first
    | with_reducible refine And.intro ?_ ?_
    | with_reducible intro _
    | with_reducible refine AWp_seq ?_
    | with_reducible refine AWp_block ?_
    | (with_reducible refine hKv _ _ (AWp_nop ?_); clear hKv Kv)
    | (with_reducible refine hKv _ _ ?_; clear hKv Kv; simp (dsimp := false) only [go_sem, Nat.reduceAdd, Nat.reduceBEq, Nat.reduceEqDiff, Nat.reduceLT, Nat.reduceLeDiff, Nat.reduceMul, Int.reduceToNat, reduceCtorEq, ↓reduceIte, Tryd.ntmps53, Tryd.results53, ks_53, mu_53, ti_ag9, ti_fl76_0, ti_hb75, ti_st9, hr', hid])
    | (with_reducible refine hKA ?_; clear hKA hKB KA KB)
    | (with_reducible refine hKB ?_; clear hKA hKB KA KB)
    | (with_reducible refine AWp_regC mu_53 ks_53 ?_; intro Kv hKv; simp (dsimp := false) only [go_sem, Nat.reduceAdd, Nat.reduceBEq, Nat.reduceEqDiff, Nat.reduceLT, Nat.reduceLeDiff, Nat.reduceMul, Int.reduceToNat, reduceCtorEq, ↓reduceIte, Tryd.ntmps53, Tryd.results53, ks_53, mu_53, ti_ag9, ti_fl76_0, ti_hb75, ti_st9, hr', hid])
    | with_reducible refine AWp_skipN ?_
    | with_reducible refine AWp_exitO (by repeat (first | with_reducible exact Out.hit | with_reducible apply Out.thenA | with_reducible apply Out.out rfl)) ?_
    | (with_reducible refine AWp_retR ?_; simp (dsimp := false) only [go_sem, Nat.reduceAdd, Nat.reduceBEq, Nat.reduceEqDiff, Nat.reduceLT, Nat.reduceLeDiff, Nat.reduceMul, Int.reduceToNat, reduceCtorEq, ↓reduceIte, Tryd.ntmps53, Tryd.results53, ks_53, mu_53, ti_ag9, ti_fl76_0, ti_hb75, ti_st9, hr', hid])
    | (with_reducible refine AWp_regE mu_53 ks_53 ?_; intro Kv hKv; simp (dsimp := false) only [go_sem, Nat.reduceAdd, Nat.reduceBEq, Nat.reduceEqDiff, Nat.reduceLT, Nat.reduceLeDiff, Nat.reduceMul, Int.reduceToNat, reduceCtorEq, ↓reduceIte, Tryd.ntmps53, Tryd.results53, ks_53, mu_53, ti_ag9, ti_fl76_0, ti_hb75, ti_st9, hr', hid])
    | (refine AWp_condC rfl ?_; intro KA KB hKA hKB; try simp only [onB_true, onB_false, onB_dec, onB_ndec, onB_not, onB_and, onB_or])
    | (refine AWp_condA rfl ?_ ?_)
    | with_reducible refine onB_of ?_ ?_
    | with_reducible rfl
    | omega)
  refine AWp_while0 (fun j : Nat => a ≤ j ∧ j ≤ s.length ∧ wEnd s a a = wEnd s a j) (fun j => [(0, .pt id 0 0 0), (1, .d (.i .i64 a)), (5, .d (.i .i64 j))]) (fun j => s.length - j) a ⟨Nat.le_refl _, ha, rfl⟩ ?_ ?_
  · simp (dsimp := false) only [go_sem, Nat.reduceAdd, Nat.reduceBEq, Nat.reduceEqDiff, Nat.reduceLT, Nat.reduceLeDiff, Nat.reduceMul, Int.reduceToNat, reduceCtorEq, ↓reduceIte, Tryd.ntmps53, Tryd.results53, ks_53, mu_53, ti_ag9, ti_fl76_0, ti_hb75, ti_st9, hr', hid]
    first | done | simp
  rintro j ⟨h1, h2, h3⟩
  by_cases hj : j < s.length
  · obtain ⟨c, hc⟩ : ∃ c, s[j]? = some c := ⟨s[j], List.getElem?_eq_getElem hj⟩
    have hwf : j = a → wordB c.toNat (decide (j = a)) = letterB c.toNat := fun e => by rw [decide_eq_true e, wordB_first]
    have hwr : j ≠ a → wordB c.toNat (decide (j = a)) = (letterB c.toNat || digB c.toNat || decide ((c.toNat : Int) = 45)) := fun e => by rw [decide_eq_false e, wordB_rest]
    
    repeat' (first
      | with_reducible refine And.intro ?_ ?_
      | with_reducible intro _
      | with_reducible refine AWp_seq ?_
      | with_reducible refine AWp_block ?_
      | (with_reducible refine hKv _ _ (AWp_nop ?_); clear hKv Kv)
      | (with_reducible refine hKv _ _ ?_; clear hKv Kv; simp (dsimp := false) only [go_sem, Nat.reduceAdd, Nat.reduceBEq, Nat.reduceEqDiff, Nat.reduceLT, Nat.reduceLeDiff, Nat.reduceMul, Int.reduceToNat, reduceCtorEq, ↓reduceIte, Tryd.ntmps53, Tryd.results53, ks_53, mu_53, ti_ag9, ti_fl76_0, ti_hb75, ti_st9, hr', hid, hc])
      | (with_reducible refine hKA ?_; clear hKA hKB KA KB)
      | (with_reducible refine hKB ?_; clear hKA hKB KA KB)
      | (with_reducible refine AWp_regC mu_53 ks_53 ?_; intro Kv hKv; simp (dsimp := false) only [go_sem, Nat.reduceAdd, Nat.reduceBEq, Nat.reduceEqDiff, Nat.reduceLT, Nat.reduceLeDiff, Nat.reduceMul, Int.reduceToNat, reduceCtorEq, ↓reduceIte, Tryd.ntmps53, Tryd.results53, ks_53, mu_53, ti_ag9, ti_fl76_0, ti_hb75, ti_st9, hr', hid, hc])
      | with_reducible refine AWp_skipN ?_
      | with_reducible refine AWp_exitO (by repeat (first | with_reducible exact Out.hit | with_reducible apply Out.thenA | with_reducible apply Out.out rfl)) ?_
      | (with_reducible refine AWp_retR ?_; simp (dsimp := false) only [go_sem, Nat.reduceAdd, Nat.reduceBEq, Nat.reduceEqDiff, Nat.reduceLT, Nat.reduceLeDiff, Nat.reduceMul, Int.reduceToNat, reduceCtorEq, ↓reduceIte, Tryd.ntmps53, Tryd.results53, ks_53, mu_53, ti_ag9, ti_fl76_0, ti_hb75, ti_st9, hr', hid, hc])
      | (with_reducible refine AWp_regE mu_53 ks_53 ?_; intro Kv hKv; simp (dsimp := false) only [go_sem, Nat.reduceAdd, Nat.reduceBEq, Nat.reduceEqDiff, Nat.reduceLT, Nat.reduceLeDiff, Nat.reduceMul, Int.reduceToNat, reduceCtorEq, ↓reduceIte, Tryd.ntmps53, Tryd.results53, ks_53, mu_53, ti_ag9, ti_fl76_0, ti_hb75, ti_st9, hr', hid, hc])
      | (refine AWp_condC rfl ?_; intro KA KB hKA hKB; try simp only [onB_true, onB_false, onB_dec, onB_ndec, onB_not, onB_and, onB_or])
      | (refine AWp_condA rfl ?_ ?_)
      | (refine start_A _ _ _ ?_; try simp (dsimp := false) only [go_sem, Nat.reduceAdd, Nat.reduceBEq, Nat.reduceEqDiff, Nat.reduceLT, Nat.reduceLeDiff, Nat.reduceMul, Int.reduceToNat, reduceCtorEq, ↓reduceIte, Tryd.ntmps53, Tryd.results53, ks_53, mu_53, ti_ag9, ti_fl76_0, ti_hb75, ti_st9, hr', hid, hc])
      | with_reducible refine onB_of ?_ ?_
      | with_reducible rfl
      | omega)
    all_goals first
      | (have hw : wordB c.toNat (decide (j = a)) = true := by
           simp only [digB] at hwr
           grind
         exact ⟨j + 1, ⟨by omega, by omega, by rw [h3, wEnd_next hc hw]⟩, by omega, by omega⟩)
      | (have hw : wordB c.toNat (decide (j = a)) = false := by
           simp only [digB] at hwr
           grind
         exact keepD hk (by rw [h3, wEnd_stop hc hw]))
  · 
    repeat' (first
      | with_reducible refine And.intro ?_ ?_
      | with_reducible intro _
      | with_reducible refine AWp_seq ?_
      | with_reducible refine AWp_block ?_
      | (with_reducible refine hKv _ _ (AWp_nop ?_); clear hKv Kv)
      | (with_reducible refine hKv _ _ ?_; clear hKv Kv; simp (dsimp := false) only [go_sem, Nat.reduceAdd, Nat.reduceBEq, Nat.reduceEqDiff, Nat.reduceLT, Nat.reduceLeDiff, Nat.reduceMul, Int.reduceToNat, reduceCtorEq, ↓reduceIte, Tryd.ntmps53, Tryd.results53, ks_53, mu_53, ti_ag9, ti_fl76_0, ti_hb75, ti_st9, hr', hid])
      | (with_reducible refine hKA ?_; clear hKA hKB KA KB)
      | (with_reducible refine hKB ?_; clear hKA hKB KA KB)
      | (with_reducible refine AWp_regC mu_53 ks_53 ?_; intro Kv hKv; simp (dsimp := false) only [go_sem, Nat.reduceAdd, Nat.reduceBEq, Nat.reduceEqDiff, Nat.reduceLT, Nat.reduceLeDiff, Nat.reduceMul, Int.reduceToNat, reduceCtorEq, ↓reduceIte, Tryd.ntmps53, Tryd.results53, ks_53, mu_53, ti_ag9, ti_fl76_0, ti_hb75, ti_st9, hr', hid])
      | with_reducible refine AWp_skipN ?_
      | with_reducible refine AWp_exitO (by repeat (first | with_reducible exact Out.hit | with_reducible apply Out.thenA | with_reducible apply Out.out rfl)) ?_
      | (with_reducible refine AWp_retR ?_; simp (dsimp := false) only [go_sem, Nat.reduceAdd, Nat.reduceBEq, Nat.reduceEqDiff, Nat.reduceLT, Nat.reduceLeDiff, Nat.reduceMul, Int.reduceToNat, reduceCtorEq, ↓reduceIte, Tryd.ntmps53, Tryd.results53, ks_53, mu_53, ti_ag9, ti_fl76_0, ti_hb75, ti_st9, hr', hid])
      | (with_reducible refine AWp_regE mu_53 ks_53 ?_; intro Kv hKv; simp (dsimp := false) only [go_sem, Nat.reduceAdd, Nat.reduceBEq, Nat.reduceEqDiff, Nat.reduceLT, Nat.reduceLeDiff, Nat.reduceMul, Int.reduceToNat, reduceCtorEq, ↓reduceIte, Tryd.ntmps53, Tryd.results53, ks_53, mu_53, ti_ag9, ti_fl76_0, ti_hb75, ti_st9, hr', hid])
      | (refine AWp_condC rfl ?_; intro KA KB hKA hKB; try simp only [onB_true, onB_false, onB_dec, onB_ndec, onB_not, onB_and, onB_or])
      | (refine AWp_condA rfl ?_ ?_)
      | (refine start_A _ _ _ ?_; try simp (dsimp := false) only [go_sem, Nat.reduceAdd, Nat.reduceBEq, Nat.reduceEqDiff, Nat.reduceLT, Nat.reduceLeDiff, Nat.reduceMul, Int.reduceToNat, reduceCtorEq, ↓reduceIte, Tryd.ntmps53, Tryd.results53, ks_53, mu_53, ti_ag9, ti_fl76_0, ti_hb75, ti_st9, hr', hid])
      | with_reducible refine onB_of ?_ ?_
      | with_reducible rfl
      | omega)
    all_goals exact keepD hk (by rw [h3, wEnd_end (by omega)])

/- the live slots of pleacher/pleacherref.allMarks -/
def ks_56 : Nat → List Nat
  | 0 => []
  | 1 => [0]
  | _ => []
def mu_56 : List Nat := []
def in_56 : List Nat := []
theorem allMarks_A (H : Heap) (K : V → Heap → Prop) (hk : K (.d (.sl 1 (marksL.map strRow))) H) : ACalls Tryd.prog 56 [] H K := by
  refine ACalls_of Tryd.func56 rfl in_56 (Nat.le_of_ble_eq_true rfl) ?_
  intro F hF
  simp (dsimp := false) only [go_sem, Nat.reduceAdd, Nat.reduceBEq, Nat.reduceEqDiff, Nat.reduceLT, Nat.reduceLeDiff, Nat.reduceMul, Int.reduceToNat, reduceCtorEq, ↓reduceIte, Tryd.ntmps56, Tryd.results56, ks_56, mu_56, ti_sl29, in_56] at hF
  subst hF
  repeat' (first
    | with_reducible refine And.intro ?_ ?_
    | with_reducible intro _
    | with_reducible refine AWp_seq ?_
    | with_reducible refine AWp_block ?_
    | (with_reducible refine hKv _ _ (AWp_nop ?_); clear hKv Kv)
    | (with_reducible refine hKv _ _ ?_; clear hKv Kv; simp (dsimp := false) only [go_sem, Nat.reduceAdd, Nat.reduceBEq, Nat.reduceEqDiff, Nat.reduceLT, Nat.reduceLeDiff, Nat.reduceMul, Int.reduceToNat, reduceCtorEq, ↓reduceIte, Tryd.ntmps56, Tryd.results56, ks_56, mu_56, ti_sl29])
    | (with_reducible refine hKA ?_; clear hKA hKB KA KB)
    | (with_reducible refine hKB ?_; clear hKA hKB KA KB)
    | (with_reducible refine AWp_regC mu_56 ks_56 ?_; intro Kv hKv; simp (dsimp := false) only [go_sem, Nat.reduceAdd, Nat.reduceBEq, Nat.reduceEqDiff, Nat.reduceLT, Nat.reduceLeDiff, Nat.reduceMul, Int.reduceToNat, reduceCtorEq, ↓reduceIte, Tryd.ntmps56, Tryd.results56, ks_56, mu_56, ti_sl29])
    | with_reducible refine AWp_skipN ?_
    | with_reducible refine AWp_exitO (by repeat (first | with_reducible exact Out.hit | with_reducible apply Out.thenA | with_reducible apply Out.out rfl)) ?_
    | (with_reducible refine AWp_retR ?_; simp (dsimp := false) only [go_sem, Nat.reduceAdd, Nat.reduceBEq, Nat.reduceEqDiff, Nat.reduceLT, Nat.reduceLeDiff, Nat.reduceMul, Int.reduceToNat, reduceCtorEq, ↓reduceIte, Tryd.ntmps56, Tryd.results56, ks_56, mu_56, ti_sl29])
    | (with_reducible refine AWp_regE mu_56 ks_56 ?_; intro Kv hKv; simp (dsimp := false) only [go_sem, Nat.reduceAdd, Nat.reduceBEq, Nat.reduceEqDiff, Nat.reduceLT, Nat.reduceLeDiff, Nat.reduceMul, Int.reduceToNat, reduceCtorEq, ↓reduceIte, Tryd.ntmps56, Tryd.results56, ks_56, mu_56, ti_sl29])
    | (refine AWp_condC rfl ?_; intro KA KB hKA hKB; try simp only [onB_true, onB_false, onB_dec, onB_ndec, onB_not, onB_and, onB_or])
    | (refine AWp_condA rfl ?_ ?_)
    | with_reducible refine onB_of ?_ ?_
    | with_reducible rfl
    | omega)
  all_goals first
    | exact keepD hk rfl
theorem indexByte_q (s : List UInt8) : ∀ (m j : Nat), s.length - j ≤ m → j ≤ s.length → Lib.indexByte (s.drop j) 34 = if qAt s j = s.length then -1 else (qAt s j : Int) - j
  | 0, j, h, hj => by
    have e : j = s.length := by omega
    subst e
    rw [List.drop_length, qAt_end (Nat.le_refl _), if_pos rfl]
    rfl
  | m + 1, j, h, hj => by
    by_cases hl : j < s.length
    · obtain ⟨c, hc⟩ : ∃ c, s[j]? = some c := ⟨s[j], List.getElem?_eq_getElem hl⟩
      have ih := indexByte_q s m (j + 1) (by omega) (by omega)
      have hle := qAt_le s m (j + 1) (by omega) (by omega)
      rw [drop_of_get hc, Lib.indexByte]
      by_cases h34 : c = 34
      · subst h34
        rw [qAt_hit hc rfl, if_pos (by rfl), if_neg (by omega)]
        simp
      · rw [qAt_next hc h34, if_neg (by simpa using h34), ih]
        split
        · simp
        · rw [if_neg (by simp; omega)]; omega
    · have e : j = s.length := by omega
      subst e
      rw [List.drop_length, qAt_end (Nat.le_refl _), if_pos rfl]
      rfl
end Go.Proofs.YtohonoiojabjaaaDoor
