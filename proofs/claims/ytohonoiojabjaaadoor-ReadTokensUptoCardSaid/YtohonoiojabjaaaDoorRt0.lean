/- One token: may it be? What the program and the reference say. No condition but that the tables of package unicode/utf8, and the table of marks, are there. -/
import Derived.Test.YtohonoiojabjaaaDoorRc1
import Derived.Test.YtohonoiojabjaaaDoorMk
import Derived.Test.YtohonoiojabjaaaDoorRn
set_option linter.all false
set_option linter.unusedSimpArgs false
set_option linter.unusedVariables false
namespace Go.Proofs.YtohonoiojabjaaaDoor
open Go Go.Proofs.YtohonoiojabjaaaDoor.Ab
variable [Glo] [U8]
set_option maxHeartbeats 8000000
set_option maxRecDepth 20000
variable [Mk]
def tokFault (t : Tk) : Int :=
  if t.k < 1 ∨ 5 < t.k then 3
  else if t.k = 2 then (if t.n < 0 ∨ 1099511627776 < t.n then 2 else if t.s = [] then 0 else 4)
  else if t.n = 0 then
    (if t.k = 3 then (if qAt t.s 0 = t.s.length then textFault t.s else 4)
     else if t.k = 5 then (if t.s ∈ marksL then 0 else 6)
     else if t.s = [] ∨ 20 < t.s.length ∨ wEnd t.s 0 0 ≠ t.s.length then 10 else 0)
  else 4
theorem sIndexByte_A (l : List UInt8) (H : Heap) (K : V → Heap → Prop) (hk : K (.d (.i .i64 (Lib.indexByte l 34))) H) : ACalls Tryd.prog 93 [.d (.s l), .d (.i .u8 34)] H K := by
  refine ACalls_still _ hk fun w σ args hl hr => ?_
  obtain ⟨u, v, rfl⟩ := two_of_size (xs := args) (by simpa using hl.symm)
  obtain rfl := (hr 0 _ u rfl rfl).inv_d.inv_s
  obtain rfl := (hr 1 _ v rfl rfl).inv_d.inv_i
  refine ⟨.int .i64 (Lib.indexByte l 34), .d _ _ (.i _ _), ?_⟩
  have := Any.stringslite_IndexByte Tryd.lays217 ⟨l.toArray⟩ 34 w
  have e : Tryd.lays217_ren.f 217 = 93 := by first | rfl | kernel_rfl
  rw [e] at this
  simpa using this
/- the live slots of internal/stringslite.Index -/
def ks_86 : Nat → List Nat
  | 0 => [0, 1]
  | 1 => [0, 1, 5]
  | 2 => [0, 1, 5, 16]
  | 3 => [4]
  | 4 => [0, 1, 5, 24]
  | 5 => [4]
  | 6 => [0, 1, 5, 31]
  | 7 => [4]
  | 8 => [0, 1, 5, 36]
  | 9 => [4]
  | 10 => [0, 1, 5, 6]
  | 11 => [0, 1, 5, 6, 7]
  | 12 => [0, 1, 5, 6, 7, 8]
  | 13 => [0, 1, 5, 6, 7, 8, 9]
  | 14 => [0, 1, 5, 6, 7, 8, 9, 10]
  | 15 => [0, 1, 5, 6, 7, 8, 9, 10, 59]
  | 16 => [0, 1, 5, 6, 7, 8, 9, 10, 64]
  | 17 => [0, 1, 5, 6, 7, 8, 9, 10, 11]
  | 18 => [0, 1, 5, 6, 7, 8, 9, 10, 11, 73]
  | 19 => [4]
  | 20 => [0, 1, 5, 6, 7, 8, 9, 10]
  | 21 => [0, 1, 5, 6, 7, 8, 9, 10, 93]
  | 22 => [4]
  | 23 => [0, 1, 5, 6, 7, 8, 9, 10]
  | 24 => [0, 1, 5, 6, 7, 8, 9, 10]
  | 25 => [0, 1, 5, 6, 7, 8, 9, 10, 107]
  | 26 => [8, 12]
  | 27 => [8, 12, 114]
  | 28 => [4]
  | 29 => [4]
  | 30 => [0, 1, 5, 6, 7, 8, 9, 10, 132]
  | 31 => [8, 13]
  | 32 => [8, 13, 139]
  | 33 => [4]
  | 34 => [4]
  | 35 => [4]
  | _ => []
def mu_86 : List Nat := []
def in_86 : List Nat := [0, 1]
theorem sIndex_A (l : List UInt8) (hl : l.length ≤ 9223372036854775807) (H : Heap) (K : V → Heap → Prop) (hk : K (.d (.i .i64 (Lib.indexByte l 34))) H) : ACalls Tryd.prog 86 [.d (.s l), .d (.s [34])] H K := by
  refine ACalls_of Tryd.func86 rfl in_86 (Nat.le_of_ble_eq_true rfl) ?_
  intro F hF
  simp (dsimp := false) only [go_sem, Nat.reduceAdd, Nat.reduceBEq, Nat.reduceEqDiff, Nat.reduceLT, Nat.reduceLeDiff, Nat.reduceMul, Int.reduceToNat, reduceCtorEq, ↓reduceIte, Tryd.ntmps86, Tryd.results86, ks_86, mu_86, ti_ag3, ti_hb93, ti_hb95, ti_hb96, ti_st9, in_86] at hF
  subst hF
  repeat' (first
    | with_reducible refine And.intro ?_ ?_
    | with_reducible intro _
    | with_reducible refine AWp_seq ?_
    | with_reducible refine AWp_block ?_
    | (with_reducible refine hKv _ _ (AWp_nop ?_); clear hKv Kv)
    | (with_reducible refine hKv _ _ ?_; clear hKv Kv; simp (dsimp := false) only [go_sem, Nat.reduceAdd, Nat.reduceBEq, Nat.reduceEqDiff, Nat.reduceLT, Nat.reduceLeDiff, Nat.reduceMul, Int.reduceToNat, reduceCtorEq, ↓reduceIte, Tryd.ntmps86, Tryd.results86, ks_86, mu_86, ti_ag3, ti_hb93, ti_hb95, ti_hb96, ti_st9])
    | (with_reducible refine hKA ?_; clear hKA hKB KA KB)
    | (with_reducible refine hKB ?_; clear hKA hKB KA KB)
    | (with_reducible refine AWp_regC mu_86 ks_86 ?_; intro Kv hKv; simp (dsimp := false) only [go_sem, Nat.reduceAdd, Nat.reduceBEq, Nat.reduceEqDiff, Nat.reduceLT, Nat.reduceLeDiff, Nat.reduceMul, Int.reduceToNat, reduceCtorEq, ↓reduceIte, Tryd.ntmps86, Tryd.results86, ks_86, mu_86, ti_ag3, ti_hb93, ti_hb95, ti_hb96, ti_st9])
    | with_reducible refine AWp_skipN ?_
    | with_reducible refine AWp_exitO (by repeat (first | with_reducible exact Out.hit | with_reducible apply Out.thenA | with_reducible apply Out.out rfl)) ?_
    | (with_reducible refine AWp_retR ?_; simp (dsimp := false) only [go_sem, Nat.reduceAdd, Nat.reduceBEq, Nat.reduceEqDiff, Nat.reduceLT, Nat.reduceLeDiff, Nat.reduceMul, Int.reduceToNat, reduceCtorEq, ↓reduceIte, Tryd.ntmps86, Tryd.results86, ks_86, mu_86, ti_ag3, ti_hb93, ti_hb95, ti_hb96, ti_st9])
    | (with_reducible refine AWp_regE mu_86 ks_86 ?_; intro Kv hKv; simp (dsimp := false) only [go_sem, Nat.reduceAdd, Nat.reduceBEq, Nat.reduceEqDiff, Nat.reduceLT, Nat.reduceLeDiff, Nat.reduceMul, Int.reduceToNat, reduceCtorEq, ↓reduceIte, Tryd.ntmps86, Tryd.results86, ks_86, mu_86, ti_ag3, ti_hb93, ti_hb95, ti_hb96, ti_st9])
    | (refine AWp_condC rfl ?_; intro KA KB hKA hKB; try simp only [onB_true, onB_false, onB_dec, onB_ndec, onB_not, onB_and, onB_or])
    | (refine AWp_condA rfl ?_ ?_)
    | (refine sIndexByte_A _ _ _ ?_; try simp (dsimp := false) only [go_sem, Nat.reduceAdd, Nat.reduceBEq, Nat.reduceEqDiff, Nat.reduceLT, Nat.reduceLeDiff, Nat.reduceMul, Int.reduceToNat, reduceCtorEq, ↓reduceIte, Tryd.ntmps86, Tryd.results86, ks_86, mu_86, ti_ag3, ti_hb93, ti_hb95, ti_hb96, ti_st9])
    | with_reducible refine onB_of ?_ ?_
    | with_reducible rfl
    | omega)
  all_goals first
    | exact keepD hk rfl
    | (rename_i h; subst h; exact keepD hk rfl)
/- the live slots of strings.Index -/
def ks_73 : Nat → List Nat
  | 0 => [0, 1]
  | 1 => [4]
  | _ => []
def mu_73 : List Nat := []
def in_73 : List Nat := [0, 1]
theorem strIndex_A (l : List UInt8) (hl : l.length ≤ 9223372036854775807) (H : Heap) (K : V → Heap → Prop) (hk : K (.d (.i .i64 (Lib.indexByte l 34))) H) : ACalls Tryd.prog 73 [.d (.s l), .d (.s [34])] H K := by
  refine ACalls_of Tryd.func73 rfl in_73 (Nat.le_of_ble_eq_true rfl) ?_
  intro F hF
  simp (dsimp := false) only [go_sem, Nat.reduceAdd, Nat.reduceBEq, Nat.reduceEqDiff, Nat.reduceLT, Nat.reduceLeDiff, Nat.reduceMul, Int.reduceToNat, reduceCtorEq, ↓reduceIte, Tryd.ntmps73, Tryd.results73, ks_73, mu_73, ti_hb86, in_73] at hF
  subst hF
  repeat' (first
    | with_reducible refine And.intro ?_ ?_
    | with_reducible intro _
    | with_reducible refine AWp_seq ?_
    | with_reducible refine AWp_block ?_
    | (with_reducible refine hKv _ _ (AWp_nop ?_); clear hKv Kv)
    | (with_reducible refine hKv _ _ ?_; clear hKv Kv; simp (dsimp := false) only [go_sem, Nat.reduceAdd, Nat.reduceBEq, Nat.reduceEqDiff, Nat.reduceLT, Nat.reduceLeDiff, Nat.reduceMul, Int.reduceToNat, reduceCtorEq, ↓reduceIte, Tryd.ntmps73, Tryd.results73, ks_73, mu_73, ti_hb86])
    | (with_reducible refine hKA ?_; clear hKA hKB KA KB)
    | (with_reducible refine hKB ?_; clear hKA hKB KA KB)
    | (with_reducible refine AWp_regC mu_73 ks_73 ?_; intro Kv hKv; simp (dsimp := false) only [go_sem, Nat.reduceAdd, Nat.reduceBEq, Nat.reduceEqDiff, Nat.reduceLT, Nat.reduceLeDiff, Nat.reduceMul, Int.reduceToNat, reduceCtorEq, ↓reduceIte, Tryd.ntmps73, Tryd.results73, ks_73, mu_73, ti_hb86])
    | with_reducible refine AWp_skipN ?_
    | with_reducible refine AWp_exitO (by repeat (first | with_reducible exact Out.hit | with_reducible apply Out.thenA | with_reducible apply Out.out rfl)) ?_
    | (with_reducible refine AWp_retR ?_; simp (dsimp := false) only [go_sem, Nat.reduceAdd, Nat.reduceBEq, Nat.reduceEqDiff, Nat.reduceLT, Nat.reduceLeDiff, Nat.reduceMul, Int.reduceToNat, reduceCtorEq, ↓reduceIte, Tryd.ntmps73, Tryd.results73, ks_73, mu_73, ti_hb86])
    | (with_reducible refine AWp_regE mu_73 ks_73 ?_; intro Kv hKv; simp (dsimp := false) only [go_sem, Nat.reduceAdd, Nat.reduceBEq, Nat.reduceEqDiff, Nat.reduceLT, Nat.reduceLeDiff, Nat.reduceMul, Int.reduceToNat, reduceCtorEq, ↓reduceIte, Tryd.ntmps73, Tryd.results73, ks_73, mu_73, ti_hb86])
    | (refine AWp_condC rfl ?_; intro KA KB hKA hKB; try simp only [onB_true, onB_false, onB_dec, onB_ndec, onB_not, onB_and, onB_or])
    | (refine AWp_condA rfl ?_ ?_)
    | (refine sIndex_A _ hl _ _ ?_; try simp (dsimp := false) only [go_sem, Nat.reduceAdd, Nat.reduceBEq, Nat.reduceEqDiff, Nat.reduceLT, Nat.reduceLeDiff, Nat.reduceMul, Int.reduceToNat, reduceCtorEq, ↓reduceIte, Tryd.ntmps73, Tryd.results73, ks_73, mu_73, ti_hb86])
    | with_reducible refine onB_of ?_ ?_
    | with_reducible rfl
    | omega)
  all_goals first
    | exact keepD hk rfl
/- the live slots of strings.Contains -/
def ks_50 : Nat → List Nat
  | 0 => [0, 1]
  | 1 => [4]
  | _ => []
def mu_50 : List Nat := []
def in_50 : List Nat := [0, 1]
theorem strContains_A (l : List UInt8) (hl : l.length ≤ 9223372036854775807) (H : Heap) (K : V → Heap → Prop) (hk : K (.d (.b (!decide (qAt l 0 = l.length)))) H) : ACalls Tryd.prog 50 [.d (.s l), .d (.s [34])] H K := by
  have hq := indexByte_q l _ 0 (Nat.le_refl _) (Nat.zero_le _)
  rw [List.drop_zero] at hq
  have hle := qAt_le l _ 0 (Nat.le_refl _) (Nat.zero_le _)
  refine ACalls_of Tryd.func50 rfl in_50 (Nat.le_of_ble_eq_true rfl) ?_
  intro F hF
  simp (dsimp := false) only [go_sem, Nat.reduceAdd, Nat.reduceBEq, Nat.reduceEqDiff, Nat.reduceLT, Nat.reduceLeDiff, Nat.reduceMul, Int.reduceToNat, reduceCtorEq, ↓reduceIte, Tryd.ntmps50, Tryd.results50, ks_50, mu_50, ti_hb73, in_50] at hF
  subst hF
  repeat' (first
    | with_reducible refine And.intro ?_ ?_
    | with_reducible intro _
    | with_reducible refine AWp_seq ?_
    | with_reducible refine AWp_block ?_
    | (with_reducible refine hKv _ _ (AWp_nop ?_); clear hKv Kv)
    | (with_reducible refine hKv _ _ ?_; clear hKv Kv; simp (dsimp := false) only [go_sem, Nat.reduceAdd, Nat.reduceBEq, Nat.reduceEqDiff, Nat.reduceLT, Nat.reduceLeDiff, Nat.reduceMul, Int.reduceToNat, reduceCtorEq, ↓reduceIte, Tryd.ntmps50, Tryd.results50, ks_50, mu_50, ti_hb73])
    | (with_reducible refine hKA ?_; clear hKA hKB KA KB)
    | (with_reducible refine hKB ?_; clear hKA hKB KA KB)
    | (with_reducible refine AWp_regC mu_50 ks_50 ?_; intro Kv hKv; simp (dsimp := false) only [go_sem, Nat.reduceAdd, Nat.reduceBEq, Nat.reduceEqDiff, Nat.reduceLT, Nat.reduceLeDiff, Nat.reduceMul, Int.reduceToNat, reduceCtorEq, ↓reduceIte, Tryd.ntmps50, Tryd.results50, ks_50, mu_50, ti_hb73])
    | with_reducible refine AWp_skipN ?_
    | with_reducible refine AWp_exitO (by repeat (first | with_reducible exact Out.hit | with_reducible apply Out.thenA | with_reducible apply Out.out rfl)) ?_
    | (with_reducible refine AWp_retR ?_; simp (dsimp := false) only [go_sem, Nat.reduceAdd, Nat.reduceBEq, Nat.reduceEqDiff, Nat.reduceLT, Nat.reduceLeDiff, Nat.reduceMul, Int.reduceToNat, reduceCtorEq, ↓reduceIte, Tryd.ntmps50, Tryd.results50, ks_50, mu_50, ti_hb73])
    | (with_reducible refine AWp_regE mu_50 ks_50 ?_; intro Kv hKv; simp (dsimp := false) only [go_sem, Nat.reduceAdd, Nat.reduceBEq, Nat.reduceEqDiff, Nat.reduceLT, Nat.reduceLeDiff, Nat.reduceMul, Int.reduceToNat, reduceCtorEq, ↓reduceIte, Tryd.ntmps50, Tryd.results50, ks_50, mu_50, ti_hb73])
    | (refine AWp_condC rfl ?_; intro KA KB hKA hKB; try simp only [onB_true, onB_false, onB_dec, onB_ndec, onB_not, onB_and, onB_or])
    | (refine AWp_condA rfl ?_ ?_)
    | (refine strIndex_A _ hl _ _ ?_; try simp (dsimp := false) only [go_sem, Nat.reduceAdd, Nat.reduceBEq, Nat.reduceEqDiff, Nat.reduceLT, Nat.reduceLeDiff, Nat.reduceMul, Int.reduceToNat, reduceCtorEq, ↓reduceIte, Tryd.ntmps50, Tryd.results50, ks_50, mu_50, ti_hb73])
    | with_reducible refine onB_of ?_ ?_
    | with_reducible rfl
    | omega)
  have e : decide (0 ≤ Lib.indexByte l 34) = !decide (qAt l 0 = l.length) := by
    rw [hq]
    by_cases h : qAt l 0 = l.length
    · rw [if_pos h, h]; simp
    · rw [if_neg h]; simp [h]
  exact keepD hk (by rw [e])
/- the live slots of pleacher/pleacherref.hasText -/
def ks_55 : Nat → List Nat
  | 0 => [0, 1]
  | 1 => [0, 1, 5]
  | 2 => [0, 1, 5, 9]
  | 3 => [0, 1, 5]
  | 4 => [0, 1, 5, 17]
  | 5 => [4]
  | 6 => [4]
  | _ => []
def mu_55 : List Nat := []
def in_55 : List Nat := [0, 1]
theorem hasText_A (l : List (List UInt8)) (s : List UInt8) (hlen : l.length ≤ 9223372036854775807) (H : Heap) (K : V → Heap → Prop) (hk : K (.d (.b (decide (s ∈ l)))) H) :
    ACalls Tryd.prog 55 [.d (.sl 1 (l.map strRow)), .d (.s s)] H K := by
  refine ACalls_of Tryd.func55 rfl in_55 (Nat.le_of_ble_eq_true rfl) ?_
  intro F hF
  simp (dsimp := false) only [go_sem, Nat.reduceAdd, Nat.reduceBEq, Nat.reduceEqDiff, Nat.reduceLT, Nat.reduceLeDiff, Nat.reduceMul, Int.reduceToNat, reduceCtorEq, ↓reduceIte, Tryd.ntmps55, Tryd.results55, ks_55, mu_55, ti_ag9, ti_sb29, ti_sl29, in_55] at hF
  subst hF
  repeat' (first
    | with_reducible refine And.intro ?_ ?_
    | with_reducible intro _
    | with_reducible refine AWp_seq ?_
    | with_reducible refine AWp_block ?_
    | (with_reducible refine hKv _ _ (AWp_nop ?_); clear hKv Kv)
    | (with_reducible refine hKv _ _ ?_; clear hKv Kv; simp (dsimp := false) only [go_sem, Nat.reduceAdd, Nat.reduceBEq, Nat.reduceEqDiff, Nat.reduceLT, Nat.reduceLeDiff, Nat.reduceMul, Int.reduceToNat, reduceCtorEq, ↓reduceIte, Tryd.ntmps55, Tryd.results55, ks_55, mu_55, ti_ag9, ti_sb29, ti_sl29])
    | (with_reducible refine hKA ?_; clear hKA hKB KA KB)
    | (with_reducible refine hKB ?_; clear hKA hKB KA KB)
    | (with_reducible refine AWp_regC mu_55 ks_55 ?_; intro Kv hKv; simp (dsimp := false) only [go_sem, Nat.reduceAdd, Nat.reduceBEq, Nat.reduceEqDiff, Nat.reduceLT, Nat.reduceLeDiff, Nat.reduceMul, Int.reduceToNat, reduceCtorEq, ↓reduceIte, Tryd.ntmps55, Tryd.results55, ks_55, mu_55, ti_ag9, ti_sb29, ti_sl29])
    | with_reducible refine AWp_skipN ?_
    | with_reducible refine AWp_exitO (by repeat (first | with_reducible exact Out.hit | with_reducible apply Out.thenA | with_reducible apply Out.out rfl)) ?_
    | (with_reducible refine AWp_retR ?_; simp (dsimp := false) only [go_sem, Nat.reduceAdd, Nat.reduceBEq, Nat.reduceEqDiff, Nat.reduceLT, Nat.reduceLeDiff, Nat.reduceMul, Int.reduceToNat, reduceCtorEq, ↓reduceIte, Tryd.ntmps55, Tryd.results55, ks_55, mu_55, ti_ag9, ti_sb29, ti_sl29])
    | (with_reducible refine AWp_regE mu_55 ks_55 ?_; intro Kv hKv; simp (dsimp := false) only [go_sem, Nat.reduceAdd, Nat.reduceBEq, Nat.reduceEqDiff, Nat.reduceLT, Nat.reduceLeDiff, Nat.reduceMul, Int.reduceToNat, reduceCtorEq, ↓reduceIte, Tryd.ntmps55, Tryd.results55, ks_55, mu_55, ti_ag9, ti_sb29, ti_sl29])
    | (refine AWp_condC rfl ?_; intro KA KB hKA hKB; try simp only [onB_true, onB_false, onB_dec, onB_ndec, onB_not, onB_and, onB_or])
    | (refine AWp_condA rfl ?_ ?_)
    | with_reducible refine onB_of ?_ ?_
    | with_reducible rfl
    | omega)
  refine AWp_while0 (fun i : Nat => i ≤ l.length ∧ (s ∈ l ↔ s ∈ l.drop i)) (fun i => [(0, .d (.sl 1 (l.map strRow))), (1, .d (.s s)), (5, .d (.i .i64 i))]) (fun i => l.length - i) 0 ⟨Nat.zero_le _, by simp⟩ ?_ ?_
  · simp (dsimp := false) only [go_sem, Nat.reduceAdd, Nat.reduceBEq, Nat.reduceEqDiff, Nat.reduceLT, Nat.reduceLeDiff, Nat.reduceMul, Int.reduceToNat, reduceCtorEq, ↓reduceIte, Tryd.ntmps55, Tryd.results55, ks_55, mu_55, ti_ag9, ti_sb29, ti_sl29]
    first | done | simp
  rintro i ⟨hi, hm⟩
  by_cases hil : i < l.length
  · obtain ⟨x, hx⟩ : ∃ x, l[i]? = some x := ⟨l[i], List.getElem?_eq_getElem hil⟩
    rw [drop_of_get hx, List.mem_cons] at hm
    
    repeat' (first
      | with_reducible refine And.intro ?_ ?_
      | with_reducible intro _
      | with_reducible refine AWp_seq ?_
      | with_reducible refine AWp_block ?_
      | (with_reducible refine hKv _ _ (AWp_nop ?_); clear hKv Kv)
      | (with_reducible refine hKv _ _ ?_; clear hKv Kv; simp (dsimp := false) only [go_sem, Nat.reduceAdd, Nat.reduceBEq, Nat.reduceEqDiff, Nat.reduceLT, Nat.reduceLeDiff, Nat.reduceMul, Int.reduceToNat, reduceCtorEq, ↓reduceIte, Tryd.ntmps55, Tryd.results55, ks_55, mu_55, ti_ag9, ti_sb29, ti_sl29, hx])
      | (with_reducible refine hKA ?_; clear hKA hKB KA KB)
      | (with_reducible refine hKB ?_; clear hKA hKB KA KB)
      | (with_reducible refine AWp_regC mu_55 ks_55 ?_; intro Kv hKv; simp (dsimp := false) only [go_sem, Nat.reduceAdd, Nat.reduceBEq, Nat.reduceEqDiff, Nat.reduceLT, Nat.reduceLeDiff, Nat.reduceMul, Int.reduceToNat, reduceCtorEq, ↓reduceIte, Tryd.ntmps55, Tryd.results55, ks_55, mu_55, ti_ag9, ti_sb29, ti_sl29, hx])
      | with_reducible refine AWp_skipN ?_
      | with_reducible refine AWp_exitO (by repeat (first | with_reducible exact Out.hit | with_reducible apply Out.thenA | with_reducible apply Out.out rfl)) ?_
      | (with_reducible refine AWp_retR ?_; simp (dsimp := false) only [go_sem, Nat.reduceAdd, Nat.reduceBEq, Nat.reduceEqDiff, Nat.reduceLT, Nat.reduceLeDiff, Nat.reduceMul, Int.reduceToNat, reduceCtorEq, ↓reduceIte, Tryd.ntmps55, Tryd.results55, ks_55, mu_55, ti_ag9, ti_sb29, ti_sl29, hx])
      | (with_reducible refine AWp_regE mu_55 ks_55 ?_; intro Kv hKv; simp (dsimp := false) only [go_sem, Nat.reduceAdd, Nat.reduceBEq, Nat.reduceEqDiff, Nat.reduceLT, Nat.reduceLeDiff, Nat.reduceMul, Int.reduceToNat, reduceCtorEq, ↓reduceIte, Tryd.ntmps55, Tryd.results55, ks_55, mu_55, ti_ag9, ti_sb29, ti_sl29, hx])
      | (refine AWp_condC rfl ?_; intro KA KB hKA hKB; try simp only [onB_true, onB_false, onB_dec, onB_ndec, onB_not, onB_and, onB_or])
      | (refine AWp_condA rfl ?_ ?_)
      | with_reducible refine onB_of ?_ ?_
      | with_reducible rfl
      | omega)
    all_goals first
      | exact keepD hk (by rw [decide_eq_true (hm.2 (.inl (by first | assumption | (symm; assumption))))])
      | exact ⟨i + 1, ⟨by omega, hm.trans ⟨fun h => h.elim (fun e => absurd e.symm (by assumption)) id, .inr⟩⟩, by omega, by omega⟩
      | exact ⟨i + 1, ⟨by omega, hm.trans ⟨fun h => h.elim (fun e => absurd e (by assumption)) id, .inr⟩⟩, by omega, by omega⟩
  · 
    repeat' (first
      | with_reducible refine And.intro ?_ ?_
      | with_reducible intro _
      | with_reducible refine AWp_seq ?_
      | with_reducible refine AWp_block ?_
      | (with_reducible refine hKv _ _ (AWp_nop ?_); clear hKv Kv)
      | (with_reducible refine hKv _ _ ?_; clear hKv Kv; simp (dsimp := false) only [go_sem, Nat.reduceAdd, Nat.reduceBEq, Nat.reduceEqDiff, Nat.reduceLT, Nat.reduceLeDiff, Nat.reduceMul, Int.reduceToNat, reduceCtorEq, ↓reduceIte, Tryd.ntmps55, Tryd.results55, ks_55, mu_55, ti_ag9, ti_sb29, ti_sl29])
      | (with_reducible refine hKA ?_; clear hKA hKB KA KB)
      | (with_reducible refine hKB ?_; clear hKA hKB KA KB)
      | (with_reducible refine AWp_regC mu_55 ks_55 ?_; intro Kv hKv; simp (dsimp := false) only [go_sem, Nat.reduceAdd, Nat.reduceBEq, Nat.reduceEqDiff, Nat.reduceLT, Nat.reduceLeDiff, Nat.reduceMul, Int.reduceToNat, reduceCtorEq, ↓reduceIte, Tryd.ntmps55, Tryd.results55, ks_55, mu_55, ti_ag9, ti_sb29, ti_sl29])
      | with_reducible refine AWp_skipN ?_
      | with_reducible refine AWp_exitO (by repeat (first | with_reducible exact Out.hit | with_reducible apply Out.thenA | with_reducible apply Out.out rfl)) ?_
      | (with_reducible refine AWp_retR ?_; simp (dsimp := false) only [go_sem, Nat.reduceAdd, Nat.reduceBEq, Nat.reduceEqDiff, Nat.reduceLT, Nat.reduceLeDiff, Nat.reduceMul, Int.reduceToNat, reduceCtorEq, ↓reduceIte, Tryd.ntmps55, Tryd.results55, ks_55, mu_55, ti_ag9, ti_sb29, ti_sl29])
      | (with_reducible refine AWp_regE mu_55 ks_55 ?_; intro Kv hKv; simp (dsimp := false) only [go_sem, Nat.reduceAdd, Nat.reduceBEq, Nat.reduceEqDiff, Nat.reduceLT, Nat.reduceLeDiff, Nat.reduceMul, Int.reduceToNat, reduceCtorEq, ↓reduceIte, Tryd.ntmps55, Tryd.results55, ks_55, mu_55, ti_ag9, ti_sb29, ti_sl29])
      | (refine AWp_condC rfl ?_; intro KA KB hKA hKB; try simp only [onB_true, onB_false, onB_dec, onB_ndec, onB_not, onB_and, onB_or])
      | (refine AWp_condA rfl ?_ ?_)
      | with_reducible refine onB_of ?_ ?_
      | with_reducible rfl
      | omega)
    rw [List.drop_eq_nil_of_le (by omega)] at hm
    all_goals exact keepD hk (by rw [decide_eq_false (fun h => by simpa using hm.1 h)])

/- the live slots of pleacher/read.CheckToken -/
def ks_22 : Nat → List Nat
  | 0 => [1]
  | 1 => [1, 11]
  | 2 => [2]
  | 3 => [1, 14]
  | 4 => [1, 22]
  | 5 => [2]
  | 6 => [25]
  | 7 => [2]
  | 8 => [2]
  | 9 => [1, 28]
  | 10 => [2]
  | 11 => [1, 30]
  | 12 => [1, 30, 31]
  | 13 => [1, 35]
  | 14 => [2]
  | 15 => [2]
  | 16 => [1, 39]
  | 17 => [45]
  | 18 => [2]
  | 19 => [2]
  | 20 => [1, 54]
  | 21 => [2]
  | 22 => [1, 3]
  | 23 => [64]
  | 24 => [2]
  | 25 => [2]
  | _ => []
def mu_22 : List Nat := [58]
def in_22 : List Nat := [0]
def nd_22 : Nat → Nat
  | 17 => 4
  | 23 => 5
  | _ => 0
theorem checkToken_A (t : Tk) (hs : t.s.length ≤ 1048576) (H : Heap) (K : V → Heap → Prop) (hk : K (.d (.i .i64 (tokFault t))) H) : ACalls Tryd.prog 22 [tkV t] H K := by
  have hmk : glob 0 = some marksRow := Mk.marks
  have hml : marksRow.length = 26 := rfl
  have hmr : (marksRow.map fun x => [x]) = marksL.map strRow := by simp [marksRow, strRow]
  
  refine ACalls_of Tryd.func22 rfl in_22 (Nat.le_of_ble_eq_true rfl) ?_
  intro F hF
  simp (dsimp := false) only [go_sem, Nat.reduceAdd, Nat.reduceBEq, Nat.reduceEqDiff, Nat.reduceLT, Nat.reduceLeDiff, Nat.reduceMul, Int.reduceToNat, reduceCtorEq, ↓reduceIte, Tryd.ntmps22, Tryd.results22, ks_22, mu_22, nd_22, ti_ag3, ti_ag9, ti_av72_26, ti_fl40_0, ti_fl40_1, ti_fl40_2, ti_hb50, ti_hb51, ti_hb52, ti_hb53, ti_pl76, ti_st9, ti_zr76, tkD, tkV, hmk, hml, hmr, in_22] at hF
  subst hF
  repeat' (first
    | with_reducible refine And.intro ?_ ?_
    | with_reducible intro _
    | with_reducible refine AWp_seq ?_
    | with_reducible refine AWp_block ?_
    | (with_reducible refine hKv _ _ (AWp_nop ?_); clear hKv Kv)
    | (with_reducible refine hKv _ _ ?_; clear hKv Kv; simp (dsimp := false) only [go_sem, Nat.reduceAdd, Nat.reduceBEq, Nat.reduceEqDiff, Nat.reduceLT, Nat.reduceLeDiff, Nat.reduceMul, Int.reduceToNat, reduceCtorEq, ↓reduceIte, Tryd.ntmps22, Tryd.results22, ks_22, mu_22, nd_22, ti_ag3, ti_ag9, ti_av72_26, ti_fl40_0, ti_fl40_1, ti_fl40_2, ti_hb50, ti_hb51, ti_hb52, ti_hb53, ti_pl76, ti_st9, ti_zr76, tkD, tkV, hmk, hml, hmr])
    | (with_reducible refine hKA ?_; clear hKA hKB KA KB)
    | (with_reducible refine hKB ?_; clear hKA hKB KA KB)
    | (with_reducible refine AWp_regC mu_22 ks_22 ?_; intro Kv hKv; simp (dsimp := false) only [go_sem, Nat.reduceAdd, Nat.reduceBEq, Nat.reduceEqDiff, Nat.reduceLT, Nat.reduceLeDiff, Nat.reduceMul, Int.reduceToNat, reduceCtorEq, ↓reduceIte, Tryd.ntmps22, Tryd.results22, ks_22, mu_22, nd_22, ti_ag3, ti_ag9, ti_av72_26, ti_fl40_0, ti_fl40_1, ti_fl40_2, ti_hb50, ti_hb51, ti_hb52, ti_hb53, ti_pl76, ti_st9, ti_zr76, tkD, tkV, hmk, hml, hmr])
    | (with_reducible refine AWp_draw nd_22 mu_22 ks_22 ti_mixed (by kernel_rfl) ?_; intro Kv hKv; simp (dsimp := false) only [go_sem, Nat.reduceAdd, Nat.reduceBEq, Nat.reduceEqDiff, Nat.reduceLT, Nat.reduceLeDiff, Nat.reduceMul, Int.reduceToNat, reduceCtorEq, ↓reduceIte, Tryd.ntmps22, Tryd.results22, ks_22, mu_22, nd_22, ti_ag3, ti_ag9, ti_av72_26, ti_fl40_0, ti_fl40_1, ti_fl40_2, ti_hb50, ti_hb51, ti_hb52, ti_hb53, ti_pl76, ti_st9, ti_zr76, tkD, tkV, hmk, hml, hmr])
    | with_reducible refine AWp_skipN ?_
    | with_reducible refine AWp_exitO (by repeat (first | with_reducible exact Out.hit | with_reducible apply Out.thenA | with_reducible apply Out.out rfl)) ?_
    | (with_reducible refine AWp_retR ?_; simp (dsimp := false) only [go_sem, Nat.reduceAdd, Nat.reduceBEq, Nat.reduceEqDiff, Nat.reduceLT, Nat.reduceLeDiff, Nat.reduceMul, Int.reduceToNat, reduceCtorEq, ↓reduceIte, Tryd.ntmps22, Tryd.results22, ks_22, mu_22, nd_22, ti_ag3, ti_ag9, ti_av72_26, ti_fl40_0, ti_fl40_1, ti_fl40_2, ti_hb50, ti_hb51, ti_hb52, ti_hb53, ti_pl76, ti_st9, ti_zr76, tkD, tkV, hmk, hml, hmr])
    | (with_reducible refine AWp_regE mu_22 ks_22 ?_; intro Kv hKv; simp (dsimp := false) only [go_sem, Nat.reduceAdd, Nat.reduceBEq, Nat.reduceEqDiff, Nat.reduceLT, Nat.reduceLeDiff, Nat.reduceMul, Int.reduceToNat, reduceCtorEq, ↓reduceIte, Tryd.ntmps22, Tryd.results22, ks_22, mu_22, nd_22, ti_ag3, ti_ag9, ti_av72_26, ti_fl40_0, ti_fl40_1, ti_fl40_2, ti_hb50, ti_hb51, ti_hb52, ti_hb53, ti_pl76, ti_st9, ti_zr76, tkD, tkV, hmk, hml, hmr])
    | (with_reducible refine AWp_drawE nd_22 mu_22 ks_22 ti_mixed (by kernel_rfl) ?_; intro Kv hKv; simp (dsimp := false) only [go_sem, Nat.reduceAdd, Nat.reduceBEq, Nat.reduceEqDiff, Nat.reduceLT, Nat.reduceLeDiff, Nat.reduceMul, Int.reduceToNat, reduceCtorEq, ↓reduceIte, Tryd.ntmps22, Tryd.results22, ks_22, mu_22, nd_22, ti_ag3, ti_ag9, ti_av72_26, ti_fl40_0, ti_fl40_1, ti_fl40_2, ti_hb50, ti_hb51, ti_hb52, ti_hb53, ti_pl76, ti_st9, ti_zr76, tkD, tkV, hmk, hml, hmr])
    | (refine AWp_condC rfl ?_; intro KA KB hKA hKB; try simp only [onB_true, onB_false, onB_dec, onB_ndec, onB_not, onB_and, onB_or])
    | (refine AWp_condA rfl ?_ ?_)
    | (refine strContains_A _ (by omega) _ _ ?_; try simp (dsimp := false) only [go_sem, Nat.reduceAdd, Nat.reduceBEq, Nat.reduceEqDiff, Nat.reduceLT, Nat.reduceLeDiff, Nat.reduceMul, Int.reduceToNat, reduceCtorEq, ↓reduceIte, Tryd.ntmps22, Tryd.results22, ks_22, mu_22, nd_22, ti_ag3, ti_ag9, ti_av72_26, ti_fl40_0, ti_fl40_1, ti_fl40_2, ti_hb50, ti_hb51, ti_hb52, ti_hb53, ti_pl76, ti_st9, ti_zr76, tkD, tkV, hmk, hml, hmr])
    | (refine QCall_of (strContains_A _ (by omega) _ _ (Two_intro _ _)) ?_; try simp (dsimp := false) only [go_sem, Nat.reduceAdd, Nat.reduceBEq, Nat.reduceEqDiff, Nat.reduceLT, Nat.reduceLeDiff, Nat.reduceMul, Int.reduceToNat, reduceCtorEq, ↓reduceIte, Tryd.ntmps22, Tryd.results22, ks_22, mu_22, nd_22, ti_ag3, ti_ag9, ti_av72_26, ti_fl40_0, ti_fl40_1, ti_fl40_2, ti_hb50, ti_hb51, ti_hb52, ti_hb53, ti_pl76, ti_st9, ti_zr76, tkD, tkV, hmk, hml, hmr])
    | (refine checkText_A _ (by omega) _ _ ?_; try simp (dsimp := false) only [go_sem, Nat.reduceAdd, Nat.reduceBEq, Nat.reduceEqDiff, Nat.reduceLT, Nat.reduceLeDiff, Nat.reduceMul, Int.reduceToNat, reduceCtorEq, ↓reduceIte, Tryd.ntmps22, Tryd.results22, ks_22, mu_22, nd_22, ti_ag3, ti_ag9, ti_av72_26, ti_fl40_0, ti_fl40_1, ti_fl40_2, ti_hb50, ti_hb51, ti_hb52, ti_hb53, ti_pl76, ti_st9, ti_zr76, tkD, tkV, hmk, hml, hmr])
    | (refine QCall_of (checkText_A _ (by omega) _ _ (Two_intro _ _)) ?_; try simp (dsimp := false) only [go_sem, Nat.reduceAdd, Nat.reduceBEq, Nat.reduceEqDiff, Nat.reduceLT, Nat.reduceLeDiff, Nat.reduceMul, Int.reduceToNat, reduceCtorEq, ↓reduceIte, Tryd.ntmps22, Tryd.results22, ks_22, mu_22, nd_22, ti_ag3, ti_ag9, ti_av72_26, ti_fl40_0, ti_fl40_1, ti_fl40_2, ti_hb50, ti_hb51, ti_hb52, ti_hb53, ti_pl76, ti_st9, ti_zr76, tkD, tkV, hmk, hml, hmr])
    | (refine contains_A marksL _ (by decide) _ _ ?_; try simp (dsimp := false) only [go_sem, Nat.reduceAdd, Nat.reduceBEq, Nat.reduceEqDiff, Nat.reduceLT, Nat.reduceLeDiff, Nat.reduceMul, Int.reduceToNat, reduceCtorEq, ↓reduceIte, Tryd.ntmps22, Tryd.results22, ks_22, mu_22, nd_22, ti_ag3, ti_ag9, ti_av72_26, ti_fl40_0, ti_fl40_1, ti_fl40_2, ti_hb50, ti_hb51, ti_hb52, ti_hb53, ti_pl76, ti_st9, ti_zr76, tkD, tkV, hmk, hml, hmr])
    | (refine QCall_of (contains_A marksL _ (by decide) _ _ (Two_intro _ _)) ?_; try simp (dsimp := false) only [go_sem, Nat.reduceAdd, Nat.reduceBEq, Nat.reduceEqDiff, Nat.reduceLT, Nat.reduceLeDiff, Nat.reduceMul, Int.reduceToNat, reduceCtorEq, ↓reduceIte, Tryd.ntmps22, Tryd.results22, ks_22, mu_22, nd_22, ti_ag3, ti_ag9, ti_av72_26, ti_fl40_0, ti_fl40_1, ti_fl40_2, ti_hb50, ti_hb51, ti_hb52, ti_hb53, ti_pl76, ti_st9, ti_zr76, tkD, tkV, hmk, hml, hmr])
    | (refine word_A H.length t.s 0 0 _ (by omega) (by omega) _ _ (get_app0 _ _) ?_; try simp (dsimp := false) only [go_sem, Nat.reduceAdd, Nat.reduceBEq, Nat.reduceEqDiff, Nat.reduceLT, Nat.reduceLeDiff, Nat.reduceMul, Int.reduceToNat, reduceCtorEq, ↓reduceIte, Tryd.ntmps22, Tryd.results22, ks_22, mu_22, nd_22, ti_ag3, ti_ag9, ti_av72_26, ti_fl40_0, ti_fl40_1, ti_fl40_2, ti_hb50, ti_hb51, ti_hb52, ti_hb53, ti_pl76, ti_st9, ti_zr76, tkD, tkV, hmk, hml, hmr])
    | (refine QCall_of (word_A H.length t.s 0 0 _ (by omega) (by omega) _ _ (get_app0 _ _) (Two_intro _ _)) ?_; try simp (dsimp := false) only [go_sem, Nat.reduceAdd, Nat.reduceBEq, Nat.reduceEqDiff, Nat.reduceLT, Nat.reduceLeDiff, Nat.reduceMul, Int.reduceToNat, reduceCtorEq, ↓reduceIte, Tryd.ntmps22, Tryd.results22, ks_22, mu_22, nd_22, ti_ag3, ti_ag9, ti_av72_26, ti_fl40_0, ti_fl40_1, ti_fl40_2, ti_hb50, ti_hb51, ti_hb52, ti_hb53, ti_pl76, ti_st9, ti_zr76, tkD, tkV, hmk, hml, hmr])
    | with_reducible refine onB_of ?_ ?_
    | with_reducible rfl
    | omega)
  all_goals first
    | exact keepD hk (by (simp only [V.d.injEq, D.i.injEq, D.b.injEq, D.s.injEq, true_and]; grind [tokFault]))
    | exact dropD hk (by (simp only [V.d.injEq, D.i.injEq, D.b.injEq, D.s.injEq, true_and]; grind [tokFault]))

/- the live slots of pleacher/pleacherref.TokenFault -/
def ks_23 : Nat → List Nat
  | 0 => [1]
  | 1 => [1, 7]
  | 2 => [2]
  | 3 => [1, 10]
  | 4 => [1, 14]
  | 5 => [2]
  | 6 => [17]
  | 7 => [2]
  | 8 => [2]
  | 9 => [1, 20]
  | 10 => [2]
  | 11 => [1, 23]
  | 12 => [1, 3]
  | 13 => [1, 3, 28]
  | 14 => [1, 3]
  | 15 => [1, 3, 35]
  | 16 => [2]
  | 17 => [2]
  | 18 => [1, 41]
  | 19 => [46]
  | 20 => [2]
  | 21 => [2]
  | 22 => [60]
  | 23 => [2]
  | 24 => [2]
  | _ => []
def mu_23 : List Nat := []
def in_23 : List Nat := [0]
def nd_23 : Nat → Nat
  | 19 => 4
  | 22 => 13
  | _ => 0
theorem tokenFault_A (t : Tk) (hs : t.s.length ≤ 1048576) (H : Heap) (K : V → Heap → Prop) (hk : K (.d (.i .i64 (tokFault t))) H) : ACalls Tryd.prog 23 [tkV t] H K := by
  refine ACalls_of Tryd.func23 rfl in_23 (Nat.le_of_ble_eq_true rfl) ?_
  intro F hF
  simp (dsimp := false) only [go_sem, Nat.reduceAdd, Nat.reduceBEq, Nat.reduceEqDiff, Nat.reduceLT, Nat.reduceLeDiff, Nat.reduceMul, Int.reduceToNat, reduceCtorEq, ↓reduceIte, Tryd.ntmps23, Tryd.results23, ks_23, mu_23, nd_23, ti_ag3, ti_ag9, ti_fl40_0, ti_fl40_1, ti_fl40_2, ti_hb31, ti_hb54, ti_hb55, ti_hb56, ti_hb57, ti_st9, tkD, tkV, in_23] at hF
  subst hF
  repeat' (first
    | with_reducible refine And.intro ?_ ?_
    | with_reducible intro _
    | with_reducible refine AWp_seq ?_
    | with_reducible refine AWp_block ?_
    | (with_reducible refine hKv _ _ (AWp_nop ?_); clear hKv Kv)
    | (with_reducible refine hKv _ _ ?_; clear hKv Kv; simp (dsimp := false) only [go_sem, Nat.reduceAdd, Nat.reduceBEq, Nat.reduceEqDiff, Nat.reduceLT, Nat.reduceLeDiff, Nat.reduceMul, Int.reduceToNat, reduceCtorEq, ↓reduceIte, Tryd.ntmps23, Tryd.results23, ks_23, mu_23, nd_23, ti_ag3, ti_ag9, ti_fl40_0, ti_fl40_1, ti_fl40_2, ti_hb31, ti_hb54, ti_hb55, ti_hb56, ti_hb57, ti_st9, tkD, tkV])
    | (with_reducible refine hKA ?_; clear hKA hKB KA KB)
    | (with_reducible refine hKB ?_; clear hKA hKB KA KB)
    | (with_reducible refine AWp_regC mu_23 ks_23 ?_; intro Kv hKv; simp (dsimp := false) only [go_sem, Nat.reduceAdd, Nat.reduceBEq, Nat.reduceEqDiff, Nat.reduceLT, Nat.reduceLeDiff, Nat.reduceMul, Int.reduceToNat, reduceCtorEq, ↓reduceIte, Tryd.ntmps23, Tryd.results23, ks_23, mu_23, nd_23, ti_ag3, ti_ag9, ti_fl40_0, ti_fl40_1, ti_fl40_2, ti_hb31, ti_hb54, ti_hb55, ti_hb56, ti_hb57, ti_st9, tkD, tkV])
    | (with_reducible refine AWp_draw nd_23 mu_23 ks_23 ti_mixed (by kernel_rfl) ?_; intro Kv hKv; simp (dsimp := false) only [go_sem, Nat.reduceAdd, Nat.reduceBEq, Nat.reduceEqDiff, Nat.reduceLT, Nat.reduceLeDiff, Nat.reduceMul, Int.reduceToNat, reduceCtorEq, ↓reduceIte, Tryd.ntmps23, Tryd.results23, ks_23, mu_23, nd_23, ti_ag3, ti_ag9, ti_fl40_0, ti_fl40_1, ti_fl40_2, ti_hb31, ti_hb54, ti_hb55, ti_hb56, ti_hb57, ti_st9, tkD, tkV])
    | with_reducible refine AWp_skipN ?_
    | with_reducible refine AWp_exitO (by repeat (first | with_reducible exact Out.hit | with_reducible apply Out.thenA | with_reducible apply Out.out rfl)) ?_
    | (with_reducible refine AWp_retR ?_; simp (dsimp := false) only [go_sem, Nat.reduceAdd, Nat.reduceBEq, Nat.reduceEqDiff, Nat.reduceLT, Nat.reduceLeDiff, Nat.reduceMul, Int.reduceToNat, reduceCtorEq, ↓reduceIte, Tryd.ntmps23, Tryd.results23, ks_23, mu_23, nd_23, ti_ag3, ti_ag9, ti_fl40_0, ti_fl40_1, ti_fl40_2, ti_hb31, ti_hb54, ti_hb55, ti_hb56, ti_hb57, ti_st9, tkD, tkV])
    | (with_reducible refine AWp_regE mu_23 ks_23 ?_; intro Kv hKv; simp (dsimp := false) only [go_sem, Nat.reduceAdd, Nat.reduceBEq, Nat.reduceEqDiff, Nat.reduceLT, Nat.reduceLeDiff, Nat.reduceMul, Int.reduceToNat, reduceCtorEq, ↓reduceIte, Tryd.ntmps23, Tryd.results23, ks_23, mu_23, nd_23, ti_ag3, ti_ag9, ti_fl40_0, ti_fl40_1, ti_fl40_2, ti_hb31, ti_hb54, ti_hb55, ti_hb56, ti_hb57, ti_st9, tkD, tkV])
    | (with_reducible refine AWp_drawE nd_23 mu_23 ks_23 ti_mixed (by kernel_rfl) ?_; intro Kv hKv; simp (dsimp := false) only [go_sem, Nat.reduceAdd, Nat.reduceBEq, Nat.reduceEqDiff, Nat.reduceLT, Nat.reduceLeDiff, Nat.reduceMul, Int.reduceToNat, reduceCtorEq, ↓reduceIte, Tryd.ntmps23, Tryd.results23, ks_23, mu_23, nd_23, ti_ag3, ti_ag9, ti_fl40_0, ti_fl40_1, ti_fl40_2, ti_hb31, ti_hb54, ti_hb55, ti_hb56, ti_hb57, ti_st9, tkD, tkV])
    | (refine AWp_condC rfl ?_; intro KA KB hKA hKB; try simp only [onB_true, onB_false, onB_dec, onB_ndec, onB_not, onB_and, onB_or])
    | (refine AWp_condA rfl ?_ ?_)
    | (refine in_A _ _ _ _ _ ?_; try simp (dsimp := false) only [go_sem, Nat.reduceAdd, Nat.reduceBEq, Nat.reduceEqDiff, Nat.reduceLT, Nat.reduceLeDiff, Nat.reduceMul, Int.reduceToNat, reduceCtorEq, ↓reduceIte, Tryd.ntmps23, Tryd.results23, ks_23, mu_23, nd_23, ti_ag3, ti_ag9, ti_fl40_0, ti_fl40_1, ti_fl40_2, ti_hb31, ti_hb54, ti_hb55, ti_hb56, ti_hb57, ti_st9, tkD, tkV])
    | (refine QCall_of (in_A _ _ _ _ _ (Two_intro _ _)) ?_; try simp (dsimp := false) only [go_sem, Nat.reduceAdd, Nat.reduceBEq, Nat.reduceEqDiff, Nat.reduceLT, Nat.reduceLeDiff, Nat.reduceMul, Int.reduceToNat, reduceCtorEq, ↓reduceIte, Tryd.ntmps23, Tryd.results23, ks_23, mu_23, nd_23, ti_ag3, ti_ag9, ti_fl40_0, ti_fl40_1, ti_fl40_2, ti_hb31, ti_hb54, ti_hb55, ti_hb56, ti_hb57, ti_st9, tkD, tkV])
    | (refine allMarks_A _ _ ?_; try simp (dsimp := false) only [go_sem, Nat.reduceAdd, Nat.reduceBEq, Nat.reduceEqDiff, Nat.reduceLT, Nat.reduceLeDiff, Nat.reduceMul, Int.reduceToNat, reduceCtorEq, ↓reduceIte, Tryd.ntmps23, Tryd.results23, ks_23, mu_23, nd_23, ti_ag3, ti_ag9, ti_fl40_0, ti_fl40_1, ti_fl40_2, ti_hb31, ti_hb54, ti_hb55, ti_hb56, ti_hb57, ti_st9, tkD, tkV])
    | (refine QCall_of (allMarks_A _ _ (Two_intro _ _)) ?_; try simp (dsimp := false) only [go_sem, Nat.reduceAdd, Nat.reduceBEq, Nat.reduceEqDiff, Nat.reduceLT, Nat.reduceLeDiff, Nat.reduceMul, Int.reduceToNat, reduceCtorEq, ↓reduceIte, Tryd.ntmps23, Tryd.results23, ks_23, mu_23, nd_23, ti_ag3, ti_ag9, ti_fl40_0, ti_fl40_1, ti_fl40_2, ti_hb31, ti_hb54, ti_hb55, ti_hb56, ti_hb57, ti_st9, tkD, tkV])
    | (refine hasText_A _ _ (by decide) _ _ ?_; try simp (dsimp := false) only [go_sem, Nat.reduceAdd, Nat.reduceBEq, Nat.reduceEqDiff, Nat.reduceLT, Nat.reduceLeDiff, Nat.reduceMul, Int.reduceToNat, reduceCtorEq, ↓reduceIte, Tryd.ntmps23, Tryd.results23, ks_23, mu_23, nd_23, ti_ag3, ti_ag9, ti_fl40_0, ti_fl40_1, ti_fl40_2, ti_hb31, ti_hb54, ti_hb55, ti_hb56, ti_hb57, ti_st9, tkD, tkV])
    | (refine QCall_of (hasText_A _ _ (by decide) _ _ (Two_intro _ _)) ?_; try simp (dsimp := false) only [go_sem, Nat.reduceAdd, Nat.reduceBEq, Nat.reduceEqDiff, Nat.reduceLT, Nat.reduceLeDiff, Nat.reduceMul, Int.reduceToNat, reduceCtorEq, ↓reduceIte, Tryd.ntmps23, Tryd.results23, ks_23, mu_23, nd_23, ti_ag3, ti_ag9, ti_fl40_0, ti_fl40_1, ti_fl40_2, ti_hb31, ti_hb54, ti_hb55, ti_hb56, ti_hb57, ti_st9, tkD, tkV])
    | (refine wordTo_A _ 0 hs (by omega) _ _ ?_; try simp (dsimp := false) only [go_sem, Nat.reduceAdd, Nat.reduceBEq, Nat.reduceEqDiff, Nat.reduceLT, Nat.reduceLeDiff, Nat.reduceMul, Int.reduceToNat, reduceCtorEq, ↓reduceIte, Tryd.ntmps23, Tryd.results23, ks_23, mu_23, nd_23, ti_ag3, ti_ag9, ti_fl40_0, ti_fl40_1, ti_fl40_2, ti_hb31, ti_hb54, ti_hb55, ti_hb56, ti_hb57, ti_st9, tkD, tkV])
    | (refine QCall_of (wordTo_A _ 0 hs (by omega) _ _ (Two_intro _ _)) ?_; try simp (dsimp := false) only [go_sem, Nat.reduceAdd, Nat.reduceBEq, Nat.reduceEqDiff, Nat.reduceLT, Nat.reduceLeDiff, Nat.reduceMul, Int.reduceToNat, reduceCtorEq, ↓reduceIte, Tryd.ntmps23, Tryd.results23, ks_23, mu_23, nd_23, ti_ag3, ti_ag9, ti_fl40_0, ti_fl40_1, ti_fl40_2, ti_hb31, ti_hb54, ti_hb55, ti_hb56, ti_hb57, ti_st9, tkD, tkV])
    | (refine valueFault_A _ (by omega) _ _ ?_; try simp (dsimp := false) only [go_sem, Nat.reduceAdd, Nat.reduceBEq, Nat.reduceEqDiff, Nat.reduceLT, Nat.reduceLeDiff, Nat.reduceMul, Int.reduceToNat, reduceCtorEq, ↓reduceIte, Tryd.ntmps23, Tryd.results23, ks_23, mu_23, nd_23, ti_ag3, ti_ag9, ti_fl40_0, ti_fl40_1, ti_fl40_2, ti_hb31, ti_hb54, ti_hb55, ti_hb56, ti_hb57, ti_st9, tkD, tkV])
    | (refine QCall_of (valueFault_A _ (by omega) _ _ (Two_intro _ _)) ?_; try simp (dsimp := false) only [go_sem, Nat.reduceAdd, Nat.reduceBEq, Nat.reduceEqDiff, Nat.reduceLT, Nat.reduceLeDiff, Nat.reduceMul, Int.reduceToNat, reduceCtorEq, ↓reduceIte, Tryd.ntmps23, Tryd.results23, ks_23, mu_23, nd_23, ti_ag3, ti_ag9, ti_fl40_0, ti_fl40_1, ti_fl40_2, ti_hb31, ti_hb54, ti_hb55, ti_hb56, ti_hb57, ti_st9, tkD, tkV])
    | with_reducible refine onB_of ?_ ?_
    | with_reducible rfl
    | omega)
  all_goals first
    | exact keepD hk (by (simp only [V.d.injEq, D.i.injEq, D.b.injEq, D.s.injEq, true_and]; grind [tokFault]))
    | (have hlen : ¬ (1 ≤ (t.s.length : Int) ∧ (t.s.length : Int) ≤ 20) := by assumption
       have h10 : t.s = [] ∨ 20 < t.s.length ∨ wEnd t.s 0 0 ≠ t.s.length := by
         by_cases h0 : t.s.length = 0
         · exact .inl (List.length_eq_zero_iff.1 h0)
         · exact .inr (.inl (by omega))
       exact keepD hk (by (simp only [V.d.injEq, D.i.injEq, D.b.injEq, D.s.injEq, true_and]; grind [tokFault])))
    | skip
  rename_i h1 h2 h3 h4
  refine AWp_while0 (fun j : Nat => j ≤ t.s.length ∧ qAt t.s 0 = qAt t.s j) (fun j => [(1, .rp (tkD t)), (3, .d (.i .i64 j))]) (fun j => t.s.length - j) 0 ⟨Nat.zero_le _, rfl⟩ ?_ ?_
  · simp (dsimp := false) only [go_sem, Nat.reduceAdd, Nat.reduceBEq, Nat.reduceEqDiff, Nat.reduceLT, Nat.reduceLeDiff, Nat.reduceMul, Int.reduceToNat, reduceCtorEq, ↓reduceIte, Tryd.ntmps23, Tryd.results23, ks_23, mu_23, nd_23, ti_ag3, ti_ag9, ti_fl40_0, ti_fl40_1, ti_fl40_2, ti_hb31, ti_hb54, ti_hb55, ti_hb56, ti_hb57, ti_st9, tkD, tkV]
    first | done | simp
  rintro j ⟨hj, hq⟩
  by_cases hjl : j < t.s.length
  · obtain ⟨c, hc⟩ : ∃ c, t.s[j]? = some c := ⟨t.s[j], List.getElem?_eq_getElem hjl⟩
    have hle := qAt_le t.s _ (j + 1) (Nat.le_refl _) (by omega)
    by_cases h34 : c = 34
    · have h34' : (c.toNat : Int) = 34 := by subst h34; rfl
      rw [qAt_hit hc h34] at hq
      
      repeat' (first
        | with_reducible refine And.intro ?_ ?_
        | with_reducible intro _
        | with_reducible refine AWp_seq ?_
        | with_reducible refine AWp_block ?_
        | (with_reducible refine hKv _ _ (AWp_nop ?_); clear hKv Kv)
        | (with_reducible refine hKv _ _ ?_; clear hKv Kv; simp (dsimp := false) only [go_sem, Nat.reduceAdd, Nat.reduceBEq, Nat.reduceEqDiff, Nat.reduceLT, Nat.reduceLeDiff, Nat.reduceMul, Int.reduceToNat, reduceCtorEq, ↓reduceIte, Tryd.ntmps23, Tryd.results23, ks_23, mu_23, nd_23, ti_ag3, ti_ag9, ti_fl40_0, ti_fl40_1, ti_fl40_2, ti_hb31, ti_hb54, ti_hb55, ti_hb56, ti_hb57, ti_st9, tkD, tkV, hc, h34'])
        | (with_reducible refine hKA ?_; clear hKA hKB KA KB)
        | (with_reducible refine hKB ?_; clear hKA hKB KA KB)
        | (with_reducible refine AWp_regC mu_23 ks_23 ?_; intro Kv hKv; simp (dsimp := false) only [go_sem, Nat.reduceAdd, Nat.reduceBEq, Nat.reduceEqDiff, Nat.reduceLT, Nat.reduceLeDiff, Nat.reduceMul, Int.reduceToNat, reduceCtorEq, ↓reduceIte, Tryd.ntmps23, Tryd.results23, ks_23, mu_23, nd_23, ti_ag3, ti_ag9, ti_fl40_0, ti_fl40_1, ti_fl40_2, ti_hb31, ti_hb54, ti_hb55, ti_hb56, ti_hb57, ti_st9, tkD, tkV, hc, h34'])
        | (with_reducible refine AWp_draw nd_23 mu_23 ks_23 ti_mixed (by kernel_rfl) ?_; intro Kv hKv; simp (dsimp := false) only [go_sem, Nat.reduceAdd, Nat.reduceBEq, Nat.reduceEqDiff, Nat.reduceLT, Nat.reduceLeDiff, Nat.reduceMul, Int.reduceToNat, reduceCtorEq, ↓reduceIte, Tryd.ntmps23, Tryd.results23, ks_23, mu_23, nd_23, ti_ag3, ti_ag9, ti_fl40_0, ti_fl40_1, ti_fl40_2, ti_hb31, ti_hb54, ti_hb55, ti_hb56, ti_hb57, ti_st9, tkD, tkV, hc, h34'])
        | with_reducible refine AWp_skipN ?_
        | with_reducible refine AWp_exitO (by repeat (first | with_reducible exact Out.hit | with_reducible apply Out.thenA | with_reducible apply Out.out rfl)) ?_
        | (with_reducible refine AWp_retR ?_; simp (dsimp := false) only [go_sem, Nat.reduceAdd, Nat.reduceBEq, Nat.reduceEqDiff, Nat.reduceLT, Nat.reduceLeDiff, Nat.reduceMul, Int.reduceToNat, reduceCtorEq, ↓reduceIte, Tryd.ntmps23, Tryd.results23, ks_23, mu_23, nd_23, ti_ag3, ti_ag9, ti_fl40_0, ti_fl40_1, ti_fl40_2, ti_hb31, ti_hb54, ti_hb55, ti_hb56, ti_hb57, ti_st9, tkD, tkV, hc, h34'])
        | (with_reducible refine AWp_regE mu_23 ks_23 ?_; intro Kv hKv; simp (dsimp := false) only [go_sem, Nat.reduceAdd, Nat.reduceBEq, Nat.reduceEqDiff, Nat.reduceLT, Nat.reduceLeDiff, Nat.reduceMul, Int.reduceToNat, reduceCtorEq, ↓reduceIte, Tryd.ntmps23, Tryd.results23, ks_23, mu_23, nd_23, ti_ag3, ti_ag9, ti_fl40_0, ti_fl40_1, ti_fl40_2, ti_hb31, ti_hb54, ti_hb55, ti_hb56, ti_hb57, ti_st9, tkD, tkV, hc, h34'])
        | (with_reducible refine AWp_drawE nd_23 mu_23 ks_23 ti_mixed (by kernel_rfl) ?_; intro Kv hKv; simp (dsimp := false) only [go_sem, Nat.reduceAdd, Nat.reduceBEq, Nat.reduceEqDiff, Nat.reduceLT, Nat.reduceLeDiff, Nat.reduceMul, Int.reduceToNat, reduceCtorEq, ↓reduceIte, Tryd.ntmps23, Tryd.results23, ks_23, mu_23, nd_23, ti_ag3, ti_ag9, ti_fl40_0, ti_fl40_1, ti_fl40_2, ti_hb31, ti_hb54, ti_hb55, ti_hb56, ti_hb57, ti_st9, tkD, tkV, hc, h34'])
        | (refine AWp_condC rfl ?_; intro KA KB hKA hKB; try simp only [onB_true, onB_false, onB_dec, onB_ndec, onB_not, onB_and, onB_or])
        | (refine AWp_condA rfl ?_ ?_)
        | with_reducible refine onB_of ?_ ?_
        | with_reducible rfl
        | omega)
      all_goals exact keepD hk (by (simp only [V.d.injEq, D.i.injEq, D.b.injEq, D.s.injEq, true_and]; grind [tokFault]))
    · have h34' : ¬ (c.toNat : Int) = 34 := fun h => h34 (UInt8.toNat_inj.1 (by simpa using (by omega : c.toNat = 34)))
      rw [qAt_next hc h34] at hq
      
      repeat' (first
        | with_reducible refine And.intro ?_ ?_
        | with_reducible intro _
        | with_reducible refine AWp_seq ?_
        | with_reducible refine AWp_block ?_
        | (with_reducible refine hKv _ _ (AWp_nop ?_); clear hKv Kv)
        | (with_reducible refine hKv _ _ ?_; clear hKv Kv; simp (dsimp := false) only [go_sem, Nat.reduceAdd, Nat.reduceBEq, Nat.reduceEqDiff, Nat.reduceLT, Nat.reduceLeDiff, Nat.reduceMul, Int.reduceToNat, reduceCtorEq, ↓reduceIte, Tryd.ntmps23, Tryd.results23, ks_23, mu_23, nd_23, ti_ag3, ti_ag9, ti_fl40_0, ti_fl40_1, ti_fl40_2, ti_hb31, ti_hb54, ti_hb55, ti_hb56, ti_hb57, ti_st9, tkD, tkV, hc, h34'])
        | (with_reducible refine hKA ?_; clear hKA hKB KA KB)
        | (with_reducible refine hKB ?_; clear hKA hKB KA KB)
        | (with_reducible refine AWp_regC mu_23 ks_23 ?_; intro Kv hKv; simp (dsimp := false) only [go_sem, Nat.reduceAdd, Nat.reduceBEq, Nat.reduceEqDiff, Nat.reduceLT, Nat.reduceLeDiff, Nat.reduceMul, Int.reduceToNat, reduceCtorEq, ↓reduceIte, Tryd.ntmps23, Tryd.results23, ks_23, mu_23, nd_23, ti_ag3, ti_ag9, ti_fl40_0, ti_fl40_1, ti_fl40_2, ti_hb31, ti_hb54, ti_hb55, ti_hb56, ti_hb57, ti_st9, tkD, tkV, hc, h34'])
        | (with_reducible refine AWp_draw nd_23 mu_23 ks_23 ti_mixed (by kernel_rfl) ?_; intro Kv hKv; simp (dsimp := false) only [go_sem, Nat.reduceAdd, Nat.reduceBEq, Nat.reduceEqDiff, Nat.reduceLT, Nat.reduceLeDiff, Nat.reduceMul, Int.reduceToNat, reduceCtorEq, ↓reduceIte, Tryd.ntmps23, Tryd.results23, ks_23, mu_23, nd_23, ti_ag3, ti_ag9, ti_fl40_0, ti_fl40_1, ti_fl40_2, ti_hb31, ti_hb54, ti_hb55, ti_hb56, ti_hb57, ti_st9, tkD, tkV, hc, h34'])
        | with_reducible refine AWp_skipN ?_
        | with_reducible refine AWp_exitO (by repeat (first | with_reducible exact Out.hit | with_reducible apply Out.thenA | with_reducible apply Out.out rfl)) ?_
        | (with_reducible refine AWp_retR ?_; simp (dsimp := false) only [go_sem, Nat.reduceAdd, Nat.reduceBEq, Nat.reduceEqDiff, Nat.reduceLT, Nat.reduceLeDiff, Nat.reduceMul, Int.reduceToNat, reduceCtorEq, ↓reduceIte, Tryd.ntmps23, Tryd.results23, ks_23, mu_23, nd_23, ti_ag3, ti_ag9, ti_fl40_0, ti_fl40_1, ti_fl40_2, ti_hb31, ti_hb54, ti_hb55, ti_hb56, ti_hb57, ti_st9, tkD, tkV, hc, h34'])
        | (with_reducible refine AWp_regE mu_23 ks_23 ?_; intro Kv hKv; simp (dsimp := false) only [go_sem, Nat.reduceAdd, Nat.reduceBEq, Nat.reduceEqDiff, Nat.reduceLT, Nat.reduceLeDiff, Nat.reduceMul, Int.reduceToNat, reduceCtorEq, ↓reduceIte, Tryd.ntmps23, Tryd.results23, ks_23, mu_23, nd_23, ti_ag3, ti_ag9, ti_fl40_0, ti_fl40_1, ti_fl40_2, ti_hb31, ti_hb54, ti_hb55, ti_hb56, ti_hb57, ti_st9, tkD, tkV, hc, h34'])
        | (with_reducible refine AWp_drawE nd_23 mu_23 ks_23 ti_mixed (by kernel_rfl) ?_; intro Kv hKv; simp (dsimp := false) only [go_sem, Nat.reduceAdd, Nat.reduceBEq, Nat.reduceEqDiff, Nat.reduceLT, Nat.reduceLeDiff, Nat.reduceMul, Int.reduceToNat, reduceCtorEq, ↓reduceIte, Tryd.ntmps23, Tryd.results23, ks_23, mu_23, nd_23, ti_ag3, ti_ag9, ti_fl40_0, ti_fl40_1, ti_fl40_2, ti_hb31, ti_hb54, ti_hb55, ti_hb56, ti_hb57, ti_st9, tkD, tkV, hc, h34'])
        | (refine AWp_condC rfl ?_; intro KA KB hKA hKB; try simp only [onB_true, onB_false, onB_dec, onB_ndec, onB_not, onB_and, onB_or])
        | (refine AWp_condA rfl ?_ ?_)
        | with_reducible refine onB_of ?_ ?_
        | with_reducible rfl
        | omega)
      all_goals exact ⟨j + 1, ⟨by omega, hq⟩, by omega, by omega⟩
  · have e : j = t.s.length := by omega
    subst e
    rw [qAt_end (Nat.le_refl _)] at hq
    
    repeat' (first
      | with_reducible refine And.intro ?_ ?_
      | with_reducible intro _
      | with_reducible refine AWp_seq ?_
      | with_reducible refine AWp_block ?_
      | (with_reducible refine hKv _ _ (AWp_nop ?_); clear hKv Kv)
      | (with_reducible refine hKv _ _ ?_; clear hKv Kv; simp (dsimp := false) only [go_sem, Nat.reduceAdd, Nat.reduceBEq, Nat.reduceEqDiff, Nat.reduceLT, Nat.reduceLeDiff, Nat.reduceMul, Int.reduceToNat, reduceCtorEq, ↓reduceIte, Tryd.ntmps23, Tryd.results23, ks_23, mu_23, nd_23, ti_ag3, ti_ag9, ti_fl40_0, ti_fl40_1, ti_fl40_2, ti_hb31, ti_hb54, ti_hb55, ti_hb56, ti_hb57, ti_st9, tkD, tkV])
      | (with_reducible refine hKA ?_; clear hKA hKB KA KB)
      | (with_reducible refine hKB ?_; clear hKA hKB KA KB)
      | (with_reducible refine AWp_regC mu_23 ks_23 ?_; intro Kv hKv; simp (dsimp := false) only [go_sem, Nat.reduceAdd, Nat.reduceBEq, Nat.reduceEqDiff, Nat.reduceLT, Nat.reduceLeDiff, Nat.reduceMul, Int.reduceToNat, reduceCtorEq, ↓reduceIte, Tryd.ntmps23, Tryd.results23, ks_23, mu_23, nd_23, ti_ag3, ti_ag9, ti_fl40_0, ti_fl40_1, ti_fl40_2, ti_hb31, ti_hb54, ti_hb55, ti_hb56, ti_hb57, ti_st9, tkD, tkV])
      | (with_reducible refine AWp_draw nd_23 mu_23 ks_23 ti_mixed (by kernel_rfl) ?_; intro Kv hKv; simp (dsimp := false) only [go_sem, Nat.reduceAdd, Nat.reduceBEq, Nat.reduceEqDiff, Nat.reduceLT, Nat.reduceLeDiff, Nat.reduceMul, Int.reduceToNat, reduceCtorEq, ↓reduceIte, Tryd.ntmps23, Tryd.results23, ks_23, mu_23, nd_23, ti_ag3, ti_ag9, ti_fl40_0, ti_fl40_1, ti_fl40_2, ti_hb31, ti_hb54, ti_hb55, ti_hb56, ti_hb57, ti_st9, tkD, tkV])
      | with_reducible refine AWp_skipN ?_
      | with_reducible refine AWp_exitO (by repeat (first | with_reducible exact Out.hit | with_reducible apply Out.thenA | with_reducible apply Out.out rfl)) ?_
      | (with_reducible refine AWp_retR ?_; simp (dsimp := false) only [go_sem, Nat.reduceAdd, Nat.reduceBEq, Nat.reduceEqDiff, Nat.reduceLT, Nat.reduceLeDiff, Nat.reduceMul, Int.reduceToNat, reduceCtorEq, ↓reduceIte, Tryd.ntmps23, Tryd.results23, ks_23, mu_23, nd_23, ti_ag3, ti_ag9, ti_fl40_0, ti_fl40_1, ti_fl40_2, ti_hb31, ti_hb54, ti_hb55, ti_hb56, ti_hb57, ti_st9, tkD, tkV])
      | (with_reducible refine AWp_regE mu_23 ks_23 ?_; intro Kv hKv; simp (dsimp := false) only [go_sem, Nat.reduceAdd, Nat.reduceBEq, Nat.reduceEqDiff, Nat.reduceLT, Nat.reduceLeDiff, Nat.reduceMul, Int.reduceToNat, reduceCtorEq, ↓reduceIte, Tryd.ntmps23, Tryd.results23, ks_23, mu_23, nd_23, ti_ag3, ti_ag9, ti_fl40_0, ti_fl40_1, ti_fl40_2, ti_hb31, ti_hb54, ti_hb55, ti_hb56, ti_hb57, ti_st9, tkD, tkV])
      | (with_reducible refine AWp_drawE nd_23 mu_23 ks_23 ti_mixed (by kernel_rfl) ?_; intro Kv hKv; simp (dsimp := false) only [go_sem, Nat.reduceAdd, Nat.reduceBEq, Nat.reduceEqDiff, Nat.reduceLT, Nat.reduceLeDiff, Nat.reduceMul, Int.reduceToNat, reduceCtorEq, ↓reduceIte, Tryd.ntmps23, Tryd.results23, ks_23, mu_23, nd_23, ti_ag3, ti_ag9, ti_fl40_0, ti_fl40_1, ti_fl40_2, ti_hb31, ti_hb54, ti_hb55, ti_hb56, ti_hb57, ti_st9, tkD, tkV])
      | (refine AWp_condC rfl ?_; intro KA KB hKA hKB; try simp only [onB_true, onB_false, onB_dec, onB_ndec, onB_not, onB_and, onB_or])
      | (refine AWp_condA rfl ?_ ?_)
      | (refine valueFault_A _ (by omega) _ _ ?_; try simp (dsimp := false) only [go_sem, Nat.reduceAdd, Nat.reduceBEq, Nat.reduceEqDiff, Nat.reduceLT, Nat.reduceLeDiff, Nat.reduceMul, Int.reduceToNat, reduceCtorEq, ↓reduceIte, Tryd.ntmps23, Tryd.results23, ks_23, mu_23, nd_23, ti_ag3, ti_ag9, ti_fl40_0, ti_fl40_1, ti_fl40_2, ti_hb31, ti_hb54, ti_hb55, ti_hb56, ti_hb57, ti_st9, tkD, tkV])
      | (refine QCall_of (valueFault_A _ (by omega) _ _ (Two_intro _ _)) ?_; try simp (dsimp := false) only [go_sem, Nat.reduceAdd, Nat.reduceBEq, Nat.reduceEqDiff, Nat.reduceLT, Nat.reduceLeDiff, Nat.reduceMul, Int.reduceToNat, reduceCtorEq, ↓reduceIte, Tryd.ntmps23, Tryd.results23, ks_23, mu_23, nd_23, ti_ag3, ti_ag9, ti_fl40_0, ti_fl40_1, ti_fl40_2, ti_hb31, ti_hb54, ti_hb55, ti_hb56, ti_hb57, ti_st9, tkD, tkV])
      | with_reducible refine onB_of ?_ ?_
      | with_reducible rfl
      | omega)
    all_goals exact keepD hk (by (simp only [V.d.injEq, D.i.injEq, D.b.injEq, D.s.injEq, true_and]; grind [tokFault]))
end Go.Proofs.YtohonoiojabjaaaDoor
