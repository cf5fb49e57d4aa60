/- One token: may it be? What the program and the reference say. No condition but that the tables of package unicode/utf8, and the table of marks, are there. -/
import Derived.Test.YtjmofmianlefdaaDoorRc1
import Derived.Test.YtjmofmianlefdaaDoorRn
set_option linter.all false
set_option linter.unusedSimpArgs false
set_option linter.unusedVariables false
namespace Go.Proofs.YtjmofmianlefdaaDoor
open Go Go.Proofs.YtjmofmianlefdaaDoor.Ab
variable [Glo] [U8]
set_option maxHeartbeats 8000000
set_option maxRecDepth 20000
/-- The table of marks, as a package variable holds it. -/
def marksRow : List D := marksL.map D.s
class Mk [Glo] : Prop where
  marks : glob 0 = some marksRow
variable [Mk]
def tokFault (t : Tk) : Int :=
  if t.k < 1 ∨ 5 < t.k then 3
  else if t.k = 2 then (if t.n < 0 ∨ 1099511627776 < t.n then 2 else if t.s = [] then 0 else 4)
  else if t.n = 0 then
    (if t.k = 3 then (if qAt t.s 0 = t.s.length then textFault t.s else 4)
     else if t.k = 5 then (if t.s ∈ marksL then 0 else 6)
     else if t.s = [] ∨ 20 < t.s.length ∨ wEnd t.s 0 0 ≠ t.s.length then 10 else 0)
  else 4
theorem sIndexByte_A (l : List UInt8) (H : Heap) (K : V → Heap → Prop) (hk : K (.d (.i .i64 (Lib.indexByte l 34))) H) : ACalls Tryd.prog 118 [.d (.s l), .d (.i .u8 34)] H K := by
  refine ACalls_still _ hk fun w σ args hl hr => ?_
  obtain ⟨u, v, rfl⟩ := two_of_size (xs := args) (by simpa using hl.symm)
  obtain rfl := (hr 0 _ u rfl rfl).inv_d.inv_s
  obtain rfl := (hr 1 _ v rfl rfl).inv_d.inv_i
  refine ⟨.int .i64 (Lib.indexByte l 34), .d _ _ (.i _ _), ?_⟩
  have := Any.stringslite_IndexByte Tryd.lays217 ⟨l.toArray⟩ 34 w
  have e : Tryd.lays217_ren.f 217 = 118 := by first | rfl | kernel_rfl
  rw [e] at this
  simpa using this
/- the live slots of internal/stringslite.Index -/
def ks_87 : Nat → List Nat
  | 0 => [0, 1]
  | 1 => [0, 1, 5]
  | 2 => [0, 1, 5, 16]
  | 3 => [4]
  | 4 => [0, 1, 5, 24]
  | 5 => [4]
  | 6 => [0, 1, 5, 31]
  | 7 => [4]
  | 8 => [0, 1, 5, 36]
  | 9 => [4]
  | 10 => [0, 1, 5, 6]
  | 11 => [0, 1, 5, 6, 7]
  | 12 => [0, 1, 5, 6, 7, 8]
  | 13 => [0, 1, 5, 6, 7, 8, 9]
  | 14 => [0, 1, 5, 6, 7, 8, 9, 10]
  | 15 => [0, 1, 5, 6, 7, 8, 9, 10, 59]
  | 16 => [0, 1, 5, 6, 7, 8, 9, 10, 64]
  | 17 => [0, 1, 5, 6, 7, 8, 9, 10, 11]
  | 18 => [0, 1, 5, 6, 7, 8, 9, 10, 11, 73]
  | 19 => [4]
  | 20 => [0, 1, 5, 6, 7, 8, 9, 10]
  | 21 => [0, 1, 5, 6, 7, 8, 9, 10, 93]
  | 22 => [4]
  | 23 => [0, 1, 5, 6, 7, 8, 9, 10]
  | 24 => [0, 1, 5, 6, 7, 8, 9, 10]
  | 25 => [0, 1, 5, 6, 7, 8, 9, 10, 107]
  | 26 => [8, 12]
  | 27 => [8, 12, 114]
  | 28 => [4]
  | 29 => [4]
  | 30 => [0, 1, 5, 6, 7, 8, 9, 10, 132]
  | 31 => [8, 13]
  | 32 => [8, 13, 139]
  | 33 => [4]
  | 34 => [4]
  | 35 => [4]
  | _ => []
def mu_87 : List Nat := []
def in_87 : List Nat := [0, 1]
theorem sIndex_A (l : List UInt8) (hl : l.length ≤ 9223372036854775807) (H : Heap) (K : V → Heap → Prop) (hk : K (.d (.i .i64 (Lib.indexByte l 34))) H) : ACalls Tryd.prog 87 [.d (.s l), .d (.s [34])] H K := by
  refine ACalls_of Tryd.func87 rfl in_87 (Nat.le_of_ble_eq_true rfl) ?_
  intro F hF
  simp (dsimp := false) only [go_sem, Nat.reduceAdd, Nat.reduceBEq, Nat.reduceEqDiff, Nat.reduceLT, Nat.reduceLeDiff, Nat.reduceMul, Int.reduceToNat, reduceCtorEq, ↓reduceIte, Tryd.ntmps87, Tryd.results87, ks_87, mu_87, ti_ag3, ti_hb118, ti_hb120, ti_hb121, ti_st9, in_87] at hF
  subst hF
  repeat' (first
    | with_reducible refine And.intro ?_ ?_
    | with_reducible intro _
    | with_reducible refine AWp_seq ?_
    | with_reducible refine AWp_block ?_
    | (with_reducible refine hKv _ _ (AWp_nop ?_); clear hKv Kv)
    | (with_reducible refine hKv _ _ ?_; clear hKv Kv; simp (dsimp := false) only [go_sem, Nat.reduceAdd, Nat.reduceBEq, Nat.reduceEqDiff, Nat.reduceLT, Nat.reduceLeDiff, Nat.reduceMul, Int.reduceToNat, reduceCtorEq, ↓reduceIte, Tryd.ntmps87, Tryd.results87, ks_87, mu_87, ti_ag3, ti_hb118, ti_hb120, ti_hb121, ti_st9])
    | (with_reducible refine hKA ?_; clear hKA hKB KA KB)
    | (with_reducible refine hKB ?_; clear hKA hKB KA KB)
    | (with_reducible refine AWp_regC mu_87 ks_87 ?_; intro Kv hKv; simp (dsimp := false) only [go_sem, Nat.reduceAdd, Nat.reduceBEq, Nat.reduceEqDiff, Nat.reduceLT, Nat.reduceLeDiff, Nat.reduceMul, Int.reduceToNat, reduceCtorEq, ↓reduceIte, Tryd.ntmps87, Tryd.results87, ks_87, mu_87, ti_ag3, ti_hb118, ti_hb120, ti_hb121, ti_st9])
    | with_reducible refine AWp_skipN ?_
    | with_reducible refine AWp_exitO (by repeat (first | with_reducible exact Out.hit | with_reducible apply Out.thenA | with_reducible apply Out.out rfl)) ?_
    | (with_reducible refine AWp_retR ?_; simp (dsimp := false) only [go_sem, Nat.reduceAdd, Nat.reduceBEq, Nat.reduceEqDiff, Nat.reduceLT, Nat.reduceLeDiff, Nat.reduceMul, Int.reduceToNat, reduceCtorEq, ↓reduceIte, Tryd.ntmps87, Tryd.results87, ks_87, mu_87, ti_ag3, ti_hb118, ti_hb120, ti_hb121, ti_st9])
    | (with_reducible refine AWp_regE mu_87 ks_87 ?_; intro Kv hKv; simp (dsimp := false) only [go_sem, Nat.reduceAdd, Nat.reduceBEq, Nat.reduceEqDiff, Nat.reduceLT, Nat.reduceLeDiff, Nat.reduceMul, Int.reduceToNat, reduceCtorEq, ↓reduceIte, Tryd.ntmps87, Tryd.results87, ks_87, mu_87, ti_ag3, ti_hb118, ti_hb120, ti_hb121, ti_st9])
    | (refine AWp_condC rfl ?_; intro KA KB hKA hKB; try simp only [onB_true, onB_false, onB_dec, onB_ndec, onB_not, onB_and, onB_or])
    | (refine AWp_condA rfl ?_ ?_)
    | (refine sIndexByte_A _ _ _ ?_; try simp (dsimp := false) only [go_sem, Nat.reduceAdd, Nat.reduceBEq, Nat.reduceEqDiff, Nat.reduceLT, Nat.reduceLeDiff, Nat.reduceMul, Int.reduceToNat, reduceCtorEq, ↓reduceIte, Tryd.ntmps87, Tryd.results87, ks_87, mu_87, ti_ag3, ti_hb118, ti_hb120, ti_hb121, ti_st9])
    | with_reducible refine onB_of ?_ ?_
    | with_reducible rfl
    | omega)
  all_goals first
    | exact keepD hk rfl
    | (rename_i h; subst h; exact keepD hk rfl)
/- the live slots of strings.Index -/
def ks_45 : Nat → List Nat
  | 0 => [0, 1]
  | 1 => [4]
  | _ => []
def mu_45 : List Nat := []
def in_45 : List Nat := [0, 1]
theorem strIndex_A (l : List UInt8) (hl : l.length ≤ 9223372036854775807) (H : Heap) (K : V → Heap → Prop) (hk : K (.d (.i .i64 (Lib.indexByte l 34))) H) : ACalls Tryd.prog 45 [.d (.s l), .d (.s [34])] H K := by
  refine ACalls_of Tryd.func45 rfl in_45 (Nat.le_of_ble_eq_true rfl) ?_
  intro F hF
  simp (dsimp := false) only [go_sem, Nat.reduceAdd, Nat.reduceBEq, Nat.reduceEqDiff, Nat.reduceLT, Nat.reduceLeDiff, Nat.reduceMul, Int.reduceToNat, reduceCtorEq, ↓reduceIte, Tryd.ntmps45, Tryd.results45, ks_45, mu_45, ti_hb87, in_45] at hF
  subst hF
  repeat' (first
    | with_reducible refine And.intro ?_ ?_
    | with_reducible intro _
    | with_reducible refine AWp_seq ?_
    | with_reducible refine AWp_block ?_
    | (with_reducible refine hKv _ _ (AWp_nop ?_); clear hKv Kv)
    | (with_reducible refine hKv _ _ ?_; clear hKv Kv; simp (dsimp := false) only [go_sem, Nat.reduceAdd, Nat.reduceBEq, Nat.reduceEqDiff, Nat.reduceLT, Nat.reduceLeDiff, Nat.reduceMul, Int.reduceToNat, reduceCtorEq, ↓reduceIte, Tryd.ntmps45, Tryd.results45, ks_45, mu_45, ti_hb87])
    | (with_reducible refine hKA ?_; clear hKA hKB KA KB)
    | (with_reducible refine hKB ?_; clear hKA hKB KA KB)
    | (with_reducible refine AWp_regC mu_45 ks_45 ?_; intro Kv hKv; simp (dsimp := false) only [go_sem, Nat.reduceAdd, Nat.reduceBEq, Nat.reduceEqDiff, Nat.reduceLT, Nat.reduceLeDiff, Nat.reduceMul, Int.reduceToNat, reduceCtorEq, ↓reduceIte, Tryd.ntmps45, Tryd.results45, ks_45, mu_45, ti_hb87])
    | with_reducible refine AWp_skipN ?_
    | with_reducible refine AWp_exitO (by repeat (first | with_reducible exact Out.hit | with_reducible apply Out.thenA | with_reducible apply Out.out rfl)) ?_
    | (with_reducible refine AWp_retR ?_; simp (dsimp := false) only [go_sem, Nat.reduceAdd, Nat.reduceBEq, Nat.reduceEqDiff, Nat.reduceLT, Nat.reduceLeDiff, Nat.reduceMul, Int.reduceToNat, reduceCtorEq, ↓reduceIte, Tryd.ntmps45, Tryd.results45, ks_45, mu_45, ti_hb87])
    | (with_reducible refine AWp_regE mu_45 ks_45 ?_; intro Kv hKv; simp (dsimp := false) only [go_sem, Nat.reduceAdd, Nat.reduceBEq, Nat.reduceEqDiff, Nat.reduceLT, Nat.reduceLeDiff, Nat.reduceMul, Int.reduceToNat, reduceCtorEq, ↓reduceIte, Tryd.ntmps45, Tryd.results45, ks_45, mu_45, ti_hb87])
    | (refine AWp_condC rfl ?_; intro KA KB hKA hKB; try simp only [onB_true, onB_false, onB_dec, onB_ndec, onB_not, onB_and, onB_or])
    | (refine AWp_condA rfl ?_ ?_)
    | (refine sIndex_A _ hl _ _ ?_; try simp (dsimp := false) only [go_sem, Nat.reduceAdd, Nat.reduceBEq, Nat.reduceEqDiff, Nat.reduceLT, Nat.reduceLeDiff, Nat.reduceMul, Int.reduceToNat, reduceCtorEq, ↓reduceIte, Tryd.ntmps45, Tryd.results45, ks_45, mu_45, ti_hb87])
    | with_reducible refine onB_of ?_ ?_
    | with_reducible rfl
    | omega)
  all_goals first
    | exact keepD hk rfl
    | (trace_state; sorry)
/- the live slots of strings.Contains -/
def ks_21 : Nat → List Nat
  | 0 => [0, 1]
  | 1 => [4]
  | _ => []
def mu_21 : List Nat := []
def in_21 : List Nat := [0, 1]
theorem strContains_A (l : List UInt8) (hl : l.length ≤ 9223372036854775807) (H : Heap) (K : V → Heap → Prop) (hk : K (.d (.b (!decide (qAt l 0 = l.length)))) H) : ACalls Tryd.prog 21 [.d (.s l), .d (.s [34])] H K := by
  have hq := indexByte_q l _ 0 (Nat.le_refl _) (Nat.zero_le _)
  rw [List.drop_zero] at hq
  have hle := qAt_le l _ 0 (Nat.le_refl _) (Nat.zero_le _)
  refine ACalls_of Tryd.func21 rfl in_21 (Nat.le_of_ble_eq_true rfl) ?_
  intro F hF
  simp (dsimp := false) only [go_sem, Nat.reduceAdd, Nat.reduceBEq, Nat.reduceEqDiff, Nat.reduceLT, Nat.reduceLeDiff, Nat.reduceMul, Int.reduceToNat, reduceCtorEq, ↓reduceIte, Tryd.ntmps21, Tryd.results21, ks_21, mu_21, ti_hb45, in_21] at hF
  subst hF
  repeat' (first
    | with_reducible refine And.intro ?_ ?_
    | with_reducible intro _
    | with_reducible refine AWp_seq ?_
    | with_reducible refine AWp_block ?_
    | (with_reducible refine hKv _ _ (AWp_nop ?_); clear hKv Kv)
    | (with_reducible refine hKv _ _ ?_; clear hKv Kv; simp (dsimp := false) only [go_sem, Nat.reduceAdd, Nat.reduceBEq, Nat.reduceEqDiff, Nat.reduceLT, Nat.reduceLeDiff, Nat.reduceMul, Int.reduceToNat, reduceCtorEq, ↓reduceIte, Tryd.ntmps21, Tryd.results21, ks_21, mu_21, ti_hb45])
    | (with_reducible refine hKA ?_; clear hKA hKB KA KB)
    | (with_reducible refine hKB ?_; clear hKA hKB KA KB)
    | (with_reducible refine AWp_regC mu_21 ks_21 ?_; intro Kv hKv; simp (dsimp := false) only [go_sem, Nat.reduceAdd, Nat.reduceBEq, Nat.reduceEqDiff, Nat.reduceLT, Nat.reduceLeDiff, Nat.reduceMul, Int.reduceToNat, reduceCtorEq, ↓reduceIte, Tryd.ntmps21, Tryd.results21, ks_21, mu_21, ti_hb45])
    | with_reducible refine AWp_skipN ?_
    | with_reducible refine AWp_exitO (by repeat (first | with_reducible exact Out.hit | with_reducible apply Out.thenA | with_reducible apply Out.out rfl)) ?_
    | (with_reducible refine AWp_retR ?_; simp (dsimp := false) only [go_sem, Nat.reduceAdd, Nat.reduceBEq, Nat.reduceEqDiff, Nat.reduceLT, Nat.reduceLeDiff, Nat.reduceMul, Int.reduceToNat, reduceCtorEq, ↓reduceIte, Tryd.ntmps21, Tryd.results21, ks_21, mu_21, ti_hb45])
    | (with_reducible refine AWp_regE mu_21 ks_21 ?_; intro Kv hKv; simp (dsimp := false) only [go_sem, Nat.reduceAdd, Nat.reduceBEq, Nat.reduceEqDiff, Nat.reduceLT, Nat.reduceLeDiff, Nat.reduceMul, Int.reduceToNat, reduceCtorEq, ↓reduceIte, Tryd.ntmps21, Tryd.results21, ks_21, mu_21, ti_hb45])
    | (refine AWp_condC rfl ?_; intro KA KB hKA hKB; try simp only [onB_true, onB_false, onB_dec, onB_ndec, onB_not, onB_and, onB_or])
    | (refine AWp_condA rfl ?_ ?_)
    | (refine strIndex_A _ hl _ _ ?_; try simp (dsimp := false) only [go_sem, Nat.reduceAdd, Nat.reduceBEq, Nat.reduceEqDiff, Nat.reduceLT, Nat.reduceLeDiff, Nat.reduceMul, Int.reduceToNat, reduceCtorEq, ↓reduceIte, Tryd.ntmps21, Tryd.results21, ks_21, mu_21, ti_hb45])
    | with_reducible refine onB_of ?_ ?_
    | with_reducible rfl
    | omega)
  have e : decide (0 ≤ Lib.indexByte l 34) = !decide (qAt l 0 = l.length) := by
    rw [hq]
    by_cases h : qAt l 0 = l.length
    · rw [if_pos h, h]; simp
    · rw [if_neg h]; simp [h]
  exact keepD hk (by rw [e])
/- the live slots of pleacher/pleacherref.hasText -/
def ks_27 : Nat → List Nat
  | 0 => [0, 1]
  | 1 => [0, 1, 5]
  | 2 => [0, 1, 5, 9]
  | 3 => [0, 1, 5]
  | 4 => [0, 1, 5, 17]
  | 5 => [4]
  | 6 => [4]
  | _ => []
def mu_27 : List Nat := []
def in_27 : List Nat := [0, 1]
theorem hasText_A (l : List (List UInt8)) (s : List UInt8) (hlen : l.length ≤ 9223372036854775807) (H : Heap) (K : V → Heap → Prop) (hk : K (.d (.b (decide (s ∈ l)))) H) :
    ACalls Tryd.prog 27 [.d (.sl 1 (l.map strRow)), .d (.s s)] H K := by
  refine ACalls_of Tryd.func27 rfl in_27 (Nat.le_of_ble_eq_true rfl) ?_
  intro F hF
  simp (dsimp := false) only [go_sem, Nat.reduceAdd, Nat.reduceBEq, Nat.reduceEqDiff, Nat.reduceLT, Nat.reduceLeDiff, Nat.reduceMul, Int.reduceToNat, reduceCtorEq, ↓reduceIte, Tryd.ntmps27, Tryd.results27, ks_27, mu_27, ti_ag9, ti_sb59, ti_sl59, in_27] at hF
  subst hF
  repeat' (first
    | with_reducible refine And.intro ?_ ?_
    | with_reducible intro _
    | with_reducible refine AWp_seq ?_
    | with_reducible refine AWp_block ?_
    | (with_reducible refine hKv _ _ (AWp_nop ?_); clear hKv Kv)
    | (with_reducible refine hKv _ _ ?_; clear hKv Kv; simp (dsimp := false) only [go_sem, Nat.reduceAdd, Nat.reduceBEq, Nat.reduceEqDiff, Nat.reduceLT, Nat.reduceLeDiff, Nat.reduceMul, Int.reduceToNat, reduceCtorEq, ↓reduceIte, Tryd.ntmps27, Tryd.results27, ks_27, mu_27, ti_ag9, ti_sb59, ti_sl59])
    | (with_reducible refine hKA ?_; clear hKA hKB KA KB)
    | (with_reducible refine hKB ?_; clear hKA hKB KA KB)
    | (with_reducible refine AWp_regC mu_27 ks_27 ?_; intro Kv hKv; simp (dsimp := false) only [go_sem, Nat.reduceAdd, Nat.reduceBEq, Nat.reduceEqDiff, Nat.reduceLT, Nat.reduceLeDiff, Nat.reduceMul, Int.reduceToNat, reduceCtorEq, ↓reduceIte, Tryd.ntmps27, Tryd.results27, ks_27, mu_27, ti_ag9, ti_sb59, ti_sl59])
    | with_reducible refine AWp_skipN ?_
    | with_reducible refine AWp_exitO (by repeat (first | with_reducible exact Out.hit | with_reducible apply Out.thenA | with_reducible apply Out.out rfl)) ?_
    | (with_reducible refine AWp_retR ?_; simp (dsimp := false) only [go_sem, Nat.reduceAdd, Nat.reduceBEq, Nat.reduceEqDiff, Nat.reduceLT, Nat.reduceLeDiff, Nat.reduceMul, Int.reduceToNat, reduceCtorEq, ↓reduceIte, Tryd.ntmps27, Tryd.results27, ks_27, mu_27, ti_ag9, ti_sb59, ti_sl59])
    | (with_reducible refine AWp_regE mu_27 ks_27 ?_; intro Kv hKv; simp (dsimp := false) only [go_sem, Nat.reduceAdd, Nat.reduceBEq, Nat.reduceEqDiff, Nat.reduceLT, Nat.reduceLeDiff, Nat.reduceMul, Int.reduceToNat, reduceCtorEq, ↓reduceIte, Tryd.ntmps27, Tryd.results27, ks_27, mu_27, ti_ag9, ti_sb59, ti_sl59])
    | (refine AWp_condC rfl ?_; intro KA KB hKA hKB; try simp only [onB_true, onB_false, onB_dec, onB_ndec, onB_not, onB_and, onB_or])
    | (refine AWp_condA rfl ?_ ?_)
    | with_reducible refine onB_of ?_ ?_
    | with_reducible rfl
    | omega)
  refine AWp_while0 (fun i : Nat => i ≤ l.length ∧ (s ∈ l ↔ s ∈ l.drop i)) (fun i => [(0, .d (.sl 1 (l.map strRow))), (1, .d (.s s)), (5, .d (.i .i64 i))]) (fun i => l.length - i) 0 ⟨Nat.zero_le _, by simp⟩ ?_ ?_
  · simp (dsimp := false) only [go_sem, Nat.reduceAdd, Nat.reduceBEq, Nat.reduceEqDiff, Nat.reduceLT, Nat.reduceLeDiff, Nat.reduceMul, Int.reduceToNat, reduceCtorEq, ↓reduceIte, Tryd.ntmps27, Tryd.results27, ks_27, mu_27, ti_ag9, ti_sb59, ti_sl59]
    first | done | simp
  rintro i ⟨hi, hm⟩
  by_cases hil : i < l.length
  · obtain ⟨x, hx⟩ : ∃ x, l[i]? = some x := ⟨l[i], List.getElem?_eq_getElem hil⟩
    rw [drop_of_get hx, List.mem_cons] at hm
    
    repeat' (first
      | with_reducible refine And.intro ?_ ?_
      | with_reducible intro _
      | with_reducible refine AWp_seq ?_
      | with_reducible refine AWp_block ?_
      | (with_reducible refine hKv _ _ (AWp_nop ?_); clear hKv Kv)
      | (with_reducible refine hKv _ _ ?_; clear hKv Kv; simp (dsimp := false) only [go_sem, Nat.reduceAdd, Nat.reduceBEq, Nat.reduceEqDiff, Nat.reduceLT, Nat.reduceLeDiff, Nat.reduceMul, Int.reduceToNat, reduceCtorEq, ↓reduceIte, Tryd.ntmps27, Tryd.results27, ks_27, mu_27, ti_ag9, ti_sb59, ti_sl59, hx])
      | (with_reducible refine hKA ?_; clear hKA hKB KA KB)
      | (with_reducible refine hKB ?_; clear hKA hKB KA KB)
      | (with_reducible refine AWp_regC mu_27 ks_27 ?_; intro Kv hKv; simp (dsimp := false) only [go_sem, Nat.reduceAdd, Nat.reduceBEq, Nat.reduceEqDiff, Nat.reduceLT, Nat.reduceLeDiff, Nat.reduceMul, Int.reduceToNat, reduceCtorEq, ↓reduceIte, Tryd.ntmps27, Tryd.results27, ks_27, mu_27, ti_ag9, ti_sb59, ti_sl59, hx])
      | with_reducible refine AWp_skipN ?_
      | with_reducible refine AWp_exitO (by repeat (first | with_reducible exact Out.hit | with_reducible apply Out.thenA | with_reducible apply Out.out rfl)) ?_
      | (with_reducible refine AWp_retR ?_; simp (dsimp := false) only [go_sem, Nat.reduceAdd, Nat.reduceBEq, Nat.reduceEqDiff, Nat.reduceLT, Nat.reduceLeDiff, Nat.reduceMul, Int.reduceToNat, reduceCtorEq, ↓reduceIte, Tryd.ntmps27, Tryd.results27, ks_27, mu_27, ti_ag9, ti_sb59, ti_sl59, hx])
      | (with_reducible refine AWp_regE mu_27 ks_27 ?_; intro Kv hKv; simp (dsimp := false) only [go_sem, Nat.reduceAdd, Nat.reduceBEq, Nat.reduceEqDiff, Nat.reduceLT, Nat.reduceLeDiff, Nat.reduceMul, Int.reduceToNat, reduceCtorEq, ↓reduceIte, Tryd.ntmps27, Tryd.results27, ks_27, mu_27, ti_ag9, ti_sb59, ti_sl59, hx])
      | (refine AWp_condC rfl ?_; intro KA KB hKA hKB; try simp only [onB_true, onB_false, onB_dec, onB_ndec, onB_not, onB_and, onB_or])
      | (refine AWp_condA rfl ?_ ?_)
      | with_reducible refine onB_of ?_ ?_
      | with_reducible rfl
      | omega)
    all_goals first
      | exact keepD hk (by rw [decide_eq_true (hm.2 (.inl (by first | assumption | (symm; assumption))))])
      | exact ⟨i + 1, ⟨by omega, hm.trans ⟨fun h => h.elim (fun e => absurd e.symm (by assumption)) id, .inr⟩⟩, by omega, by omega⟩
      | exact ⟨i + 1, ⟨by omega, hm.trans ⟨fun h => h.elim (fun e => absurd e (by assumption)) id, .inr⟩⟩, by omega, by omega⟩
      | (trace_state; sorry)
  · 
    repeat' (first
      | with_reducible refine And.intro ?_ ?_
      | with_reducible intro _
      | with_reducible refine AWp_seq ?_
      | with_reducible refine AWp_block ?_
      | (with_reducible refine hKv _ _ (AWp_nop ?_); clear hKv Kv)
      | (with_reducible refine hKv _ _ ?_; clear hKv Kv; simp (dsimp := false) only [go_sem, Nat.reduceAdd, Nat.reduceBEq, Nat.reduceEqDiff, Nat.reduceLT, Nat.reduceLeDiff, Nat.reduceMul, Int.reduceToNat, reduceCtorEq, ↓reduceIte, Tryd.ntmps27, Tryd.results27, ks_27, mu_27, ti_ag9, ti_sb59, ti_sl59])
      | (with_reducible refine hKA ?_; clear hKA hKB KA KB)
      | (with_reducible refine hKB ?_; clear hKA hKB KA KB)
      | (with_reducible refine AWp_regC mu_27 ks_27 ?_; intro Kv hKv; simp (dsimp := false) only [go_sem, Nat.reduceAdd, Nat.reduceBEq, Nat.reduceEqDiff, Nat.reduceLT, Nat.reduceLeDiff, Nat.reduceMul, Int.reduceToNat, reduceCtorEq, ↓reduceIte, Tryd.ntmps27, Tryd.results27, ks_27, mu_27, ti_ag9, ti_sb59, ti_sl59])
      | with_reducible refine AWp_skipN ?_
      | with_reducible refine AWp_exitO (by repeat (first | with_reducible exact Out.hit | with_reducible apply Out.thenA | with_reducible apply Out.out rfl)) ?_
      | (with_reducible refine AWp_retR ?_; simp (dsimp := false) only [go_sem, Nat.reduceAdd, Nat.reduceBEq, Nat.reduceEqDiff, Nat.reduceLT, Nat.reduceLeDiff, Nat.reduceMul, Int.reduceToNat, reduceCtorEq, ↓reduceIte, Tryd.ntmps27, Tryd.results27, ks_27, mu_27, ti_ag9, ti_sb59, ti_sl59])
      | (with_reducible refine AWp_regE mu_27 ks_27 ?_; intro Kv hKv; simp (dsimp := false) only [go_sem, Nat.reduceAdd, Nat.reduceBEq, Nat.reduceEqDiff, Nat.reduceLT, Nat.reduceLeDiff, Nat.reduceMul, Int.reduceToNat, reduceCtorEq, ↓reduceIte, Tryd.ntmps27, Tryd.results27, ks_27, mu_27, ti_ag9, ti_sb59, ti_sl59])
      | (refine AWp_condC rfl ?_; intro KA KB hKA hKB; try simp only [onB_true, onB_false, onB_dec, onB_ndec, onB_not, onB_and, onB_or])
      | (refine AWp_condA rfl ?_ ?_)
      | with_reducible refine onB_of ?_ ?_
      | with_reducible rfl
      | omega)
    rw [List.drop_eq_nil_of_le (by omega)] at hm
    all_goals exact keepD hk (by rw [decide_eq_false (fun h => by simpa using hm.1 h)])

/- the live slots of pleacher/read.CheckToken -/
def ks_9 : Nat → List Nat
  | 0 => [1]
  | 1 => [1, 11]
  | 2 => [2]
  | 3 => [1, 14]
  | 4 => [1, 22]
  | 5 => [2]
  | 6 => [25]
  | 7 => [2]
  | 8 => [2]
  | 9 => [1, 28]
  | 10 => [2]
  | 11 => [1, 30]
  | 12 => [1, 30, 31]
  | 13 => [1, 35]
  | 14 => [2]
  | 15 => [2]
  | 16 => [1, 39]
  | 17 => [45]
  | 18 => [2]
  | 19 => [2]
  | 20 => [1, 54]
  | 21 => [2]
  | 22 => [1, 3]
  | 23 => [64]
  | 24 => [2]
  | 25 => [2]
  | _ => []
def mu_9 : List Nat := [58]
def in_9 : List Nat := [0]
def nd_9 : Nat → Nat
  | 17 => 4
  | 23 => 5
  | _ => 0
theorem checkToken_A (t : Tk) (hs : t.s.length ≤ 1048576) (H : Heap) (K : V → Heap → Prop) (hk : K (.d (.i .i64 (tokFault t))) H) : ACalls Tryd.prog 9 [tkV t] H K := by
  have hmk : glob 0 = some marksRow := Mk.marks
  have hml : marksRow.length = 26 := rfl
  have hmr : (marksRow.map fun x => [x]) = marksL.map strRow := by simp [marksRow, strRow]
  
  refine ACalls_of Tryd.func9 rfl in_9 (Nat.le_of_ble_eq_true rfl) ?_
  intro F hF
  simp (dsimp := false) only [go_sem, Nat.reduceAdd, Nat.reduceBEq, Nat.reduceEqDiff, Nat.reduceLT, Nat.reduceLeDiff, Nat.reduceMul, Int.reduceToNat, reduceCtorEq, ↓reduceIte, Tryd.ntmps9, Tryd.results9, ks_9, mu_9, nd_9, ti_ag3, ti_ag9, ti_av60_26, ti_fl33_0, ti_fl33_1, ti_fl33_2, ti_hb21, ti_hb22, ti_hb23, ti_hb24, ti_pl63, ti_st9, ti_zr63, tkD, tkV, hmk, hml, hmr, in_9] at hF
  subst hF
  repeat' (first
    | with_reducible refine And.intro ?_ ?_
    | with_reducible intro _
    | with_reducible refine AWp_seq ?_
    | with_reducible refine AWp_block ?_
    | (with_reducible refine hKv _ _ (AWp_nop ?_); clear hKv Kv)
    | (with_reducible refine hKv _ _ ?_; clear hKv Kv; simp (dsimp := false) only [go_sem, Nat.reduceAdd, Nat.reduceBEq, Nat.reduceEqDiff, Nat.reduceLT, Nat.reduceLeDiff, Nat.reduceMul, Int.reduceToNat, reduceCtorEq, ↓reduceIte, Tryd.ntmps9, Tryd.results9, ks_9, mu_9, nd_9, ti_ag3, ti_ag9, ti_av60_26, ti_fl33_0, ti_fl33_1, ti_fl33_2, ti_hb21, ti_hb22, ti_hb23, ti_hb24, ti_pl63, ti_st9, ti_zr63, tkD, tkV, hmk, hml, hmr])
    | (with_reducible refine hKA ?_; clear hKA hKB KA KB)
    | (with_reducible refine hKB ?_; clear hKA hKB KA KB)
    | (with_reducible refine AWp_regC mu_9 ks_9 ?_; intro Kv hKv; simp (dsimp := false) only [go_sem, Nat.reduceAdd, Nat.reduceBEq, Nat.reduceEqDiff, Nat.reduceLT, Nat.reduceLeDiff, Nat.reduceMul, Int.reduceToNat, reduceCtorEq, ↓reduceIte, Tryd.ntmps9, Tryd.results9, ks_9, mu_9, nd_9, ti_ag3, ti_ag9, ti_av60_26, ti_fl33_0, ti_fl33_1, ti_fl33_2, ti_hb21, ti_hb22, ti_hb23, ti_hb24, ti_pl63, ti_st9, ti_zr63, tkD, tkV, hmk, hml, hmr])
    | (with_reducible refine AWp_draw nd_9 mu_9 ks_9 ti_mixed (by kernel_rfl) ?_; intro Kv hKv; simp (dsimp := false) only [go_sem, Nat.reduceAdd, Nat.reduceBEq, Nat.reduceEqDiff, Nat.reduceLT, Nat.reduceLeDiff, Nat.reduceMul, Int.reduceToNat, reduceCtorEq, ↓reduceIte, Tryd.ntmps9, Tryd.results9, ks_9, mu_9, nd_9, ti_ag3, ti_ag9, ti_av60_26, ti_fl33_0, ti_fl33_1, ti_fl33_2, ti_hb21, ti_hb22, ti_hb23, ti_hb24, ti_pl63, ti_st9, ti_zr63, tkD, tkV, hmk, hml, hmr])
    | with_reducible refine AWp_skipN ?_
    | with_reducible refine AWp_exitO (by repeat (first | with_reducible exact Out.hit | with_reducible apply Out.thenA | with_reducible apply Out.out rfl)) ?_
    | (with_reducible refine AWp_retR ?_; simp (dsimp := false) only [go_sem, Nat.reduceAdd, Nat.reduceBEq, Nat.reduceEqDiff, Nat.reduceLT, Nat.reduceLeDiff, Nat.reduceMul, Int.reduceToNat, reduceCtorEq, ↓reduceIte, Tryd.ntmps9, Tryd.results9, ks_9, mu_9, nd_9, ti_ag3, ti_ag9, ti_av60_26, ti_fl33_0, ti_fl33_1, ti_fl33_2, ti_hb21, ti_hb22, ti_hb23, ti_hb24, ti_pl63, ti_st9, ti_zr63, tkD, tkV, hmk, hml, hmr])
    | (with_reducible refine AWp_regE mu_9 ks_9 ?_; intro Kv hKv; simp (dsimp := false) only [go_sem, Nat.reduceAdd, Nat.reduceBEq, Nat.reduceEqDiff, Nat.reduceLT, Nat.reduceLeDiff, Nat.reduceMul, Int.reduceToNat, reduceCtorEq, ↓reduceIte, Tryd.ntmps9, Tryd.results9, ks_9, mu_9, nd_9, ti_ag3, ti_ag9, ti_av60_26, ti_fl33_0, ti_fl33_1, ti_fl33_2, ti_hb21, ti_hb22, ti_hb23, ti_hb24, ti_pl63, ti_st9, ti_zr63, tkD, tkV, hmk, hml, hmr])
    | (with_reducible refine AWp_drawE nd_9 mu_9 ks_9 ti_mixed (by kernel_rfl) ?_; intro Kv hKv; simp (dsimp := false) only [go_sem, Nat.reduceAdd, Nat.reduceBEq, Nat.reduceEqDiff, Nat.reduceLT, Nat.reduceLeDiff, Nat.reduceMul, Int.reduceToNat, reduceCtorEq, ↓reduceIte, Tryd.ntmps9, Tryd.results9, ks_9, mu_9, nd_9, ti_ag3, ti_ag9, ti_av60_26, ti_fl33_0, ti_fl33_1, ti_fl33_2, ti_hb21, ti_hb22, ti_hb23, ti_hb24, ti_pl63, ti_st9, ti_zr63, tkD, tkV, hmk, hml, hmr])
    | (refine AWp_condC rfl ?_; intro KA KB hKA hKB; try simp only [onB_true, onB_false, onB_dec, onB_ndec, onB_not, onB_and, onB_or])
    | (refine AWp_condA rfl ?_ ?_)
    | (refine strContains_A _ (by omega) _ _ ?_; try simp (dsimp := false) only [go_sem, Nat.reduceAdd, Nat.reduceBEq, Nat.reduceEqDiff, Nat.reduceLT, Nat.reduceLeDiff, Nat.reduceMul, Int.reduceToNat, reduceCtorEq, ↓reduceIte, Tryd.ntmps9, Tryd.results9, ks_9, mu_9, nd_9, ti_ag3, ti_ag9, ti_av60_26, ti_fl33_0, ti_fl33_1, ti_fl33_2, ti_hb21, ti_hb22, ti_hb23, ti_hb24, ti_pl63, ti_st9, ti_zr63, tkD, tkV, hmk, hml, hmr])
    | (refine QCall_of (strContains_A _ (by omega) _ _ (Two_intro _ _)) ?_; try simp (dsimp := false) only [go_sem, Nat.reduceAdd, Nat.reduceBEq, Nat.reduceEqDiff, Nat.reduceLT, Nat.reduceLeDiff, Nat.reduceMul, Int.reduceToNat, reduceCtorEq, ↓reduceIte, Tryd.ntmps9, Tryd.results9, ks_9, mu_9, nd_9, ti_ag3, ti_ag9, ti_av60_26, ti_fl33_0, ti_fl33_1, ti_fl33_2, ti_hb21, ti_hb22, ti_hb23, ti_hb24, ti_pl63, ti_st9, ti_zr63, tkD, tkV, hmk, hml, hmr])
    | (refine checkText_A _ (by omega) _ _ ?_; try simp (dsimp := false) only [go_sem, Nat.reduceAdd, Nat.reduceBEq, Nat.reduceEqDiff, Nat.reduceLT, Nat.reduceLeDiff, Nat.reduceMul, Int.reduceToNat, reduceCtorEq, ↓reduceIte, Tryd.ntmps9, Tryd.results9, ks_9, mu_9, nd_9, ti_ag3, ti_ag9, ti_av60_26, ti_fl33_0, ti_fl33_1, ti_fl33_2, ti_hb21, ti_hb22, ti_hb23, ti_hb24, ti_pl63, ti_st9, ti_zr63, tkD, tkV, hmk, hml, hmr])
    | (refine QCall_of (checkText_A _ (by omega) _ _ (Two_intro _ _)) ?_; try simp (dsimp := false) only [go_sem, Nat.reduceAdd, Nat.reduceBEq, Nat.reduceEqDiff, Nat.reduceLT, Nat.reduceLeDiff, Nat.reduceMul, Int.reduceToNat, reduceCtorEq, ↓reduceIte, Tryd.ntmps9, Tryd.results9, ks_9, mu_9, nd_9, ti_ag3, ti_ag9, ti_av60_26, ti_fl33_0, ti_fl33_1, ti_fl33_2, ti_hb21, ti_hb22, ti_hb23, ti_hb24, ti_pl63, ti_st9, ti_zr63, tkD, tkV, hmk, hml, hmr])
    | (refine contains_A marksL _ (by decide) _ _ ?_; try simp (dsimp := false) only [go_sem, Nat.reduceAdd, Nat.reduceBEq, Nat.reduceEqDiff, Nat.reduceLT, Nat.reduceLeDiff, Nat.reduceMul, Int.reduceToNat, reduceCtorEq, ↓reduceIte, Tryd.ntmps9, Tryd.results9, ks_9, mu_9, nd_9, ti_ag3, ti_ag9, ti_av60_26, ti_fl33_0, ti_fl33_1, ti_fl33_2, ti_hb21, ti_hb22, ti_hb23, ti_hb24, ti_pl63, ti_st9, ti_zr63, tkD, tkV, hmk, hml, hmr])
    | (refine QCall_of (contains_A marksL _ (by decide) _ _ (Two_intro _ _)) ?_; try simp (dsimp := false) only [go_sem, Nat.reduceAdd, Nat.reduceBEq, Nat.reduceEqDiff, Nat.reduceLT, Nat.reduceLeDiff, Nat.reduceMul, Int.reduceToNat, reduceCtorEq, ↓reduceIte, Tryd.ntmps9, Tryd.results9, ks_9, mu_9, nd_9, ti_ag3, ti_ag9, ti_av60_26, ti_fl33_0, ti_fl33_1, ti_fl33_2, ti_hb21, ti_hb22, ti_hb23, ti_hb24, ti_pl63, ti_st9, ti_zr63, tkD, tkV, hmk, hml, hmr])
    | (refine word_A H.length t.s 0 0 _ (by omega) (by omega) _ _ (get_app0 _ _) ?_; try simp (dsimp := false) only [go_sem, Nat.reduceAdd, Nat.reduceBEq, Nat.reduceEqDiff, Nat.reduceLT, Nat.reduceLeDiff, Nat.reduceMul, Int.reduceToNat, reduceCtorEq, ↓reduceIte, Tryd.ntmps9, Tryd.results9, ks_9, mu_9, nd_9, ti_ag3, ti_ag9, ti_av60_26, ti_fl33_0, ti_fl33_1, ti_fl33_2, ti_hb21, ti_hb22, ti_hb23, ti_hb24, ti_pl63, ti_st9, ti_zr63, tkD, tkV, hmk, hml, hmr])
    | (refine QCall_of (word_A H.length t.s 0 0 _ (by omega) (by omega) _ _ (get_app0 _ _) (Two_intro _ _)) ?_; try simp (dsimp := false) only [go_sem, Nat.reduceAdd, Nat.reduceBEq, Nat.reduceEqDiff, Nat.reduceLT, Nat.reduceLeDiff, Nat.reduceMul, Int.reduceToNat, reduceCtorEq, ↓reduceIte, Tryd.ntmps9, Tryd.results9, ks_9, mu_9, nd_9, ti_ag3, ti_ag9, ti_av60_26, ti_fl33_0, ti_fl33_1, ti_fl33_2, ti_hb21, ti_hb22, ti_hb23, ti_hb24, ti_pl63, ti_st9, ti_zr63, tkD, tkV, hmk, hml, hmr])
    | with_reducible refine onB_of ?_ ?_
    | with_reducible rfl
    | omega)
  all_goals first
    | exact keepD hk (by (simp only [V.d.injEq, D.i.injEq, D.b.injEq, D.s.injEq, true_and]; grind [tokFault]))
    | exact dropD hk (by (simp only [V.d.injEq, D.i.injEq, D.b.injEq, D.s.injEq, true_and]; grind [tokFault]))
    | (trace_state; sorry)

/- the live slots of pleacher/pleacherref.TokenFault -/
def ks_10 : Nat → List Nat
  | 0 => [1]
  | 1 => [1, 7]
  | 2 => [2]
  | 3 => [1, 10]
  | 4 => [1, 14]
  | 5 => [2]
  | 6 => [17]
  | 7 => [2]
  | 8 => [2]
  | 9 => [1, 20]
  | 10 => [2]
  | 11 => [1, 23]
  | 12 => [1, 3]
  | 13 => [1, 3, 28]
  | 14 => [1, 3]
  | 15 => [1, 3, 35]
  | 16 => [2]
  | 17 => [2]
  | 18 => [1, 41]
  | 19 => [46]
  | 20 => [2]
  | 21 => [2]
  | 22 => [60]
  | 23 => [2]
  | 24 => [2]
  | _ => []
def mu_10 : List Nat := []
def in_10 : List Nat := [0]
def nd_10 : Nat → Nat
  | 19 => 4
  | 22 => 13
  | _ => 0
theorem tokenFault_A (t : Tk) (hs : t.s.length ≤ 1048576) (H : Heap) (K : V → Heap → Prop) (hk : K (.d (.i .i64 (tokFault t))) H) : ACalls Tryd.prog 10 [tkV t] H K := by
  refine ACalls_of Tryd.func10 rfl in_10 (Nat.le_of_ble_eq_true rfl) ?_
  intro F hF
  simp (dsimp := false) only [go_sem, Nat.reduceAdd, Nat.reduceBEq, Nat.reduceEqDiff, Nat.reduceLT, Nat.reduceLeDiff, Nat.reduceMul, Int.reduceToNat, reduceCtorEq, ↓reduceIte, Tryd.ntmps10, Tryd.results10, ks_10, mu_10, nd_10, ti_ag3, ti_ag9, ti_fl33_0, ti_fl33_1, ti_fl33_2, ti_hb25, ti_hb26, ti_hb27, ti_hb28, ti_hb29, ti_st9, tkD, tkV, in_10] at hF
  subst hF
  repeat' (first
    | with_reducible refine And.intro ?_ ?_
    | with_reducible intro _
    | with_reducible refine AWp_seq ?_
    | with_reducible refine AWp_block ?_
    | (with_reducible refine hKv _ _ (AWp_nop ?_); clear hKv Kv)
    | (with_reducible refine hKv _ _ ?_; clear hKv Kv; simp (dsimp := false) only [go_sem, Nat.reduceAdd, Nat.reduceBEq, Nat.reduceEqDiff, Nat.reduceLT, Nat.reduceLeDiff, Nat.reduceMul, Int.reduceToNat, reduceCtorEq, ↓reduceIte, Tryd.ntmps10, Tryd.results10, ks_10, mu_10, nd_10, ti_ag3, ti_ag9, ti_fl33_0, ti_fl33_1, ti_fl33_2, ti_hb25, ti_hb26, ti_hb27, ti_hb28, ti_hb29, ti_st9, tkD, tkV])
    | (with_reducible refine hKA ?_; clear hKA hKB KA KB)
    | (with_reducible refine hKB ?_; clear hKA hKB KA KB)
    | (with_reducible refine AWp_regC mu_10 ks_10 ?_; intro Kv hKv; simp (dsimp := false) only [go_sem, Nat.reduceAdd, Nat.reduceBEq, Nat.reduceEqDiff, Nat.reduceLT, Nat.reduceLeDiff, Nat.reduceMul, Int.reduceToNat, reduceCtorEq, ↓reduceIte, Tryd.ntmps10, Tryd.results10, ks_10, mu_10, nd_10, ti_ag3, ti_ag9, ti_fl33_0, ti_fl33_1, ti_fl33_2, ti_hb25, ti_hb26, ti_hb27, ti_hb28, ti_hb29, ti_st9, tkD, tkV])
    | (with_reducible refine AWp_draw nd_10 mu_10 ks_10 ti_mixed (by kernel_rfl) ?_; intro Kv hKv; simp (dsimp := false) only [go_sem, Nat.reduceAdd, Nat.reduceBEq, Nat.reduceEqDiff, Nat.reduceLT, Nat.reduceLeDiff, Nat.reduceMul, Int.reduceToNat, reduceCtorEq, ↓reduceIte, Tryd.ntmps10, Tryd.results10, ks_10, mu_10, nd_10, ti_ag3, ti_ag9, ti_fl33_0, ti_fl33_1, ti_fl33_2, ti_hb25, ti_hb26, ti_hb27, ti_hb28, ti_hb29, ti_st9, tkD, tkV])
    | with_reducible refine AWp_skipN ?_
    | with_reducible refine AWp_exitO (by repeat (first | with_reducible exact Out.hit | with_reducible apply Out.thenA | with_reducible apply Out.out rfl)) ?_
    | (with_reducible refine AWp_retR ?_; simp (dsimp := false) only [go_sem, Nat.reduceAdd, Nat.reduceBEq, Nat.reduceEqDiff, Nat.reduceLT, Nat.reduceLeDiff, Nat.reduceMul, Int.reduceToNat, reduceCtorEq, ↓reduceIte, Tryd.ntmps10, Tryd.results10, ks_10, mu_10, nd_10, ti_ag3, ti_ag9, ti_fl33_0, ti_fl33_1, ti_fl33_2, ti_hb25, ti_hb26, ti_hb27, ti_hb28, ti_hb29, ti_st9, tkD, tkV])
    | (with_reducible refine AWp_regE mu_10 ks_10 ?_; intro Kv hKv; simp (dsimp := false) only [go_sem, Nat.reduceAdd, Nat.reduceBEq, Nat.reduceEqDiff, Nat.reduceLT, Nat.reduceLeDiff, Nat.reduceMul, Int.reduceToNat, reduceCtorEq, ↓reduceIte, Tryd.ntmps10, Tryd.results10, ks_10, mu_10, nd_10, ti_ag3, ti_ag9, ti_fl33_0, ti_fl33_1, ti_fl33_2, ti_hb25, ti_hb26, ti_hb27, ti_hb28, ti_hb29, ti_st9, tkD, tkV])
    | (with_reducible refine AWp_drawE nd_10 mu_10 ks_10 ti_mixed (by kernel_rfl) ?_; intro Kv hKv; simp (dsimp := false) only [go_sem, Nat.reduceAdd, Nat.reduceBEq, Nat.reduceEqDiff, Nat.reduceLT, Nat.reduceLeDiff, Nat.reduceMul, Int.reduceToNat, reduceCtorEq, ↓reduceIte, Tryd.ntmps10, Tryd.results10, ks_10, mu_10, nd_10, ti_ag3, ti_ag9, ti_fl33_0, ti_fl33_1, ti_fl33_2, ti_hb25, ti_hb26, ti_hb27, ti_hb28, ti_hb29, ti_st9, tkD, tkV])
    | (refine AWp_condC rfl ?_; intro KA KB hKA hKB; try simp only [onB_true, onB_false, onB_dec, onB_ndec, onB_not, onB_and, onB_or])
    | (refine AWp_condA rfl ?_ ?_)
    | (refine in_A _ _ _ _ _ ?_; try simp (dsimp := false) only [go_sem, Nat.reduceAdd, Nat.reduceBEq, Nat.reduceEqDiff, Nat.reduceLT, Nat.reduceLeDiff, Nat.reduceMul, Int.reduceToNat, reduceCtorEq, ↓reduceIte, Tryd.ntmps10, Tryd.results10, ks_10, mu_10, nd_10, ti_ag3, ti_ag9, ti_fl33_0, ti_fl33_1, ti_fl33_2, ti_hb25, ti_hb26, ti_hb27, ti_hb28, ti_hb29, ti_st9, tkD, tkV])
    | (refine QCall_of (in_A _ _ _ _ _ (Two_intro _ _)) ?_; try simp (dsimp := false) only [go_sem, Nat.reduceAdd, Nat.reduceBEq, Nat.reduceEqDiff, Nat.reduceLT, Nat.reduceLeDiff, Nat.reduceMul, Int.reduceToNat, reduceCtorEq, ↓reduceIte, Tryd.ntmps10, Tryd.results10, ks_10, mu_10, nd_10, ti_ag3, ti_ag9, ti_fl33_0, ti_fl33_1, ti_fl33_2, ti_hb25, ti_hb26, ti_hb27, ti_hb28, ti_hb29, ti_st9, tkD, tkV])
    | (refine allMarks_A _ _ ?_; try simp (dsimp := false) only [go_sem, Nat.reduceAdd, Nat.reduceBEq, Nat.reduceEqDiff, Nat.reduceLT, Nat.reduceLeDiff, Nat.reduceMul, Int.reduceToNat, reduceCtorEq, ↓reduceIte, Tryd.ntmps10, Tryd.results10, ks_10, mu_10, nd_10, ti_ag3, ti_ag9, ti_fl33_0, ti_fl33_1, ti_fl33_2, ti_hb25, ti_hb26, ti_hb27, ti_hb28, ti_hb29, ti_st9, tkD, tkV])
    | (refine QCall_of (allMarks_A _ _ (Two_intro _ _)) ?_; try simp (dsimp := false) only [go_sem, Nat.reduceAdd, Nat.reduceBEq, Nat.reduceEqDiff, Nat.reduceLT, Nat.reduceLeDiff, Nat.reduceMul, Int.reduceToNat, reduceCtorEq, ↓reduceIte, Tryd.ntmps10, Tryd.results10, ks_10, mu_10, nd_10, ti_ag3, ti_ag9, ti_fl33_0, ti_fl33_1, ti_fl33_2, ti_hb25, ti_hb26, ti_hb27, ti_hb28, ti_hb29, ti_st9, tkD, tkV])
    | (refine hasText_A _ _ (by decide) _ _ ?_; try simp (dsimp := false) only [go_sem, Nat.reduceAdd, Nat.reduceBEq, Nat.reduceEqDiff, Nat.reduceLT, Nat.reduceLeDiff, Nat.reduceMul, Int.reduceToNat, reduceCtorEq, ↓reduceIte, Tryd.ntmps10, Tryd.results10, ks_10, mu_10, nd_10, ti_ag3, ti_ag9, ti_fl33_0, ti_fl33_1, ti_fl33_2, ti_hb25, ti_hb26, ti_hb27, ti_hb28, ti_hb29, ti_st9, tkD, tkV])
    | (refine QCall_of (hasText_A _ _ (by decide) _ _ (Two_intro _ _)) ?_; try simp (dsimp := false) only [go_sem, Nat.reduceAdd, Nat.reduceBEq, Nat.reduceEqDiff, Nat.reduceLT, Nat.reduceLeDiff, Nat.reduceMul, Int.reduceToNat, reduceCtorEq, ↓reduceIte, Tryd.ntmps10, Tryd.results10, ks_10, mu_10, nd_10, ti_ag3, ti_ag9, ti_fl33_0, ti_fl33_1, ti_fl33_2, ti_hb25, ti_hb26, ti_hb27, ti_hb28, ti_hb29, ti_st9, tkD, tkV])
    | (refine wordTo_A _ 0 hs (by omega) _ _ ?_; try simp (dsimp := false) only [go_sem, Nat.reduceAdd, Nat.reduceBEq, Nat.reduceEqDiff, Nat.reduceLT, Nat.reduceLeDiff, Nat.reduceMul, Int.reduceToNat, reduceCtorEq, ↓reduceIte, Tryd.ntmps10, Tryd.results10, ks_10, mu_10, nd_10, ti_ag3, ti_ag9, ti_fl33_0, ti_fl33_1, ti_fl33_2, ti_hb25, ti_hb26, ti_hb27, ti_hb28, ti_hb29, ti_st9, tkD, tkV])
    | (refine QCall_of (wordTo_A _ 0 hs (by omega) _ _ (Two_intro _ _)) ?_; try simp (dsimp := false) only [go_sem, Nat.reduceAdd, Nat.reduceBEq, Nat.reduceEqDiff, Nat.reduceLT, Nat.reduceLeDiff, Nat.reduceMul, Int.reduceToNat, reduceCtorEq, ↓reduceIte, Tryd.ntmps10, Tryd.results10, ks_10, mu_10, nd_10, ti_ag3, ti_ag9, ti_fl33_0, ti_fl33_1, ti_fl33_2, ti_hb25, ti_hb26, ti_hb27, ti_hb28, ti_hb29, ti_st9, tkD, tkV])
    | (refine valueFault_A _ (by omega) _ _ ?_; try simp (dsimp := false) only [go_sem, Nat.reduceAdd, Nat.reduceBEq, Nat.reduceEqDiff, Nat.reduceLT, Nat.reduceLeDiff, Nat.reduceMul, Int.reduceToNat, reduceCtorEq, ↓reduceIte, Tryd.ntmps10, Tryd.results10, ks_10, mu_10, nd_10, ti_ag3, ti_ag9, ti_fl33_0, ti_fl33_1, ti_fl33_2, ti_hb25, ti_hb26, ti_hb27, ti_hb28, ti_hb29, ti_st9, tkD, tkV])
    | (refine QCall_of (valueFault_A _ (by omega) _ _ (Two_intro _ _)) ?_; try simp (dsimp := false) only [go_sem, Nat.reduceAdd, Nat.reduceBEq, Nat.reduceEqDiff, Nat.reduceLT, Nat.reduceLeDiff, Nat.reduceMul, Int.reduceToNat, reduceCtorEq, ↓reduceIte, Tryd.ntmps10, Tryd.results10, ks_10, mu_10, nd_10, ti_ag3, ti_ag9, ti_fl33_0, ti_fl33_1, ti_fl33_2, ti_hb25, ti_hb26, ti_hb27, ti_hb28, ti_hb29, ti_st9, tkD, tkV])
    | with_reducible refine onB_of ?_ ?_
    | with_reducible rfl
    | omega)
  all_goals first
    | exact keepD hk (by (simp only [V.d.injEq, D.i.injEq, D.b.injEq, D.s.injEq, true_and]; grind [tokFault]))
    | (have hlen : ¬ (1 ≤ (t.s.length : Int) ∧ (t.s.length : Int) ≤ 20) := by assumption
       have h10 : t.s = [] ∨ 20 < t.s.length ∨ wEnd t.s 0 0 ≠ t.s.length := by
         by_cases h0 : t.s.length = 0
         · exact .inl (List.length_eq_zero_iff.1 h0)
         · exact .inr (.inl (by omega))
       exact keepD hk (by (simp only [V.d.injEq, D.i.injEq, D.b.injEq, D.s.injEq, true_and]; grind [tokFault])))
    | skip
  rename_i h1 h2 h3 h4
  refine AWp_while0 (fun j : Nat => j ≤ t.s.length ∧ qAt t.s 0 = qAt t.s j) (fun j => [(1, .rp (tkD t)), (3, .d (.i .i64 j))]) (fun j => t.s.length - j) 0 ⟨Nat.zero_le _, rfl⟩ ?_ ?_
  · simp (dsimp := false) only [go_sem, Nat.reduceAdd, Nat.reduceBEq, Nat.reduceEqDiff, Nat.reduceLT, Nat.reduceLeDiff, Nat.reduceMul, Int.reduceToNat, reduceCtorEq, ↓reduceIte, Tryd.ntmps10, Tryd.results10, ks_10, mu_10, nd_10, ti_ag3, ti_ag9, ti_fl33_0, ti_fl33_1, ti_fl33_2, ti_hb25, ti_hb26, ti_hb27, ti_hb28, ti_hb29, ti_st9, tkD, tkV]
    first | done | simp
  rintro j ⟨hj, hq⟩
  by_cases hjl : j < t.s.length
  · obtain ⟨c, hc⟩ : ∃ c, t.s[j]? = some c := ⟨t.s[j], List.getElem?_eq_getElem hjl⟩
    have hle := qAt_le t.s _ (j + 1) (Nat.le_refl _) (by omega)
    by_cases h34 : c = 34
    · have h34' : (c.toNat : Int) = 34 := by subst h34; rfl
      rw [qAt_hit hc h34] at hq
      
      repeat' (first
        | with_reducible refine And.intro ?_ ?_
        | with_reducible intro _
        | with_reducible refine AWp_seq ?_
        | with_reducible refine AWp_block ?_
        | (with_reducible refine hKv _ _ (AWp_nop ?_); clear hKv Kv)
        | (with_reducible refine hKv _ _ ?_; clear hKv Kv; simp (dsimp := false) only [go_sem, Nat.reduceAdd, Nat.reduceBEq, Nat.reduceEqDiff, Nat.reduceLT, Nat.reduceLeDiff, Nat.reduceMul, Int.reduceToNat, reduceCtorEq, ↓reduceIte, Tryd.ntmps10, Tryd.results10, ks_10, mu_10, nd_10, ti_ag3, ti_ag9, ti_fl33_0, ti_fl33_1, ti_fl33_2, ti_hb25, ti_hb26, ti_hb27, ti_hb28, ti_hb29, ti_st9, tkD, tkV, hc, h34'])
        | (with_reducible refine hKA ?_; clear hKA hKB KA KB)
        | (with_reducible refine hKB ?_; clear hKA hKB KA KB)
        | (with_reducible refine AWp_regC mu_10 ks_10 ?_; intro Kv hKv; simp (dsimp := false) only [go_sem, Nat.reduceAdd, Nat.reduceBEq, Nat.reduceEqDiff, Nat.reduceLT, Nat.reduceLeDiff, Nat.reduceMul, Int.reduceToNat, reduceCtorEq, ↓reduceIte, Tryd.ntmps10, Tryd.results10, ks_10, mu_10, nd_10, ti_ag3, ti_ag9, ti_fl33_0, ti_fl33_1, ti_fl33_2, ti_hb25, ti_hb26, ti_hb27, ti_hb28, ti_hb29, ti_st9, tkD, tkV, hc, h34'])
        | (with_reducible refine AWp_draw nd_10 mu_10 ks_10 ti_mixed (by kernel_rfl) ?_; intro Kv hKv; simp (dsimp := false) only [go_sem, Nat.reduceAdd, Nat.reduceBEq, Nat.reduceEqDiff, Nat.reduceLT, Nat.reduceLeDiff, Nat.reduceMul, Int.reduceToNat, reduceCtorEq, ↓reduceIte, Tryd.ntmps10, Tryd.results10, ks_10, mu_10, nd_10, ti_ag3, ti_ag9, ti_fl33_0, ti_fl33_1, ti_fl33_2, ti_hb25, ti_hb26, ti_hb27, ti_hb28, ti_hb29, ti_st9, tkD, tkV, hc, h34'])
        | with_reducible refine AWp_skipN ?_
        | with_reducible refine AWp_exitO (by repeat (first | with_reducible exact Out.hit | with_reducible apply Out.thenA | with_reducible apply Out.out rfl)) ?_
        | (with_reducible refine AWp_retR ?_; simp (dsimp := false) only [go_sem, Nat.reduceAdd, Nat.reduceBEq, Nat.reduceEqDiff, Nat.reduceLT, Nat.reduceLeDiff, Nat.reduceMul, Int.reduceToNat, reduceCtorEq, ↓reduceIte, Tryd.ntmps10, Tryd.results10, ks_10, mu_10, nd_10, ti_ag3, ti_ag9, ti_fl33_0, ti_fl33_1, ti_fl33_2, ti_hb25, ti_hb26, ti_hb27, ti_hb28, ti_hb29, ti_st9, tkD, tkV, hc, h34'])
        | (with_reducible refine AWp_regE mu_10 ks_10 ?_; intro Kv hKv; simp (dsimp := false) only [go_sem, Nat.reduceAdd, Nat.reduceBEq, Nat.reduceEqDiff, Nat.reduceLT, Nat.reduceLeDiff, Nat.reduceMul, Int.reduceToNat, reduceCtorEq, ↓reduceIte, Tryd.ntmps10, Tryd.results10, ks_10, mu_10, nd_10, ti_ag3, ti_ag9, ti_fl33_0, ti_fl33_1, ti_fl33_2, ti_hb25, ti_hb26, ti_hb27, ti_hb28, ti_hb29, ti_st9, tkD, tkV, hc, h34'])
        | (with_reducible refine AWp_drawE nd_10 mu_10 ks_10 ti_mixed (by kernel_rfl) ?_; intro Kv hKv; simp (dsimp := false) only [go_sem, Nat.reduceAdd, Nat.reduceBEq, Nat.reduceEqDiff, Nat.reduceLT, Nat.reduceLeDiff, Nat.reduceMul, Int.reduceToNat, reduceCtorEq, ↓reduceIte, Tryd.ntmps10, Tryd.results10, ks_10, mu_10, nd_10, ti_ag3, ti_ag9, ti_fl33_0, ti_fl33_1, ti_fl33_2, ti_hb25, ti_hb26, ti_hb27, ti_hb28, ti_hb29, ti_st9, tkD, tkV, hc, h34'])
        | (refine AWp_condC rfl ?_; intro KA KB hKA hKB; try simp only [onB_true, onB_false, onB_dec, onB_ndec, onB_not, onB_and, onB_or])
        | (refine AWp_condA rfl ?_ ?_)
        | with_reducible refine onB_of ?_ ?_
        | with_reducible rfl
        | omega)
      all_goals exact keepD hk (by (simp only [V.d.injEq, D.i.injEq, D.b.injEq, D.s.injEq, true_and]; grind [tokFault]))
    · have h34' : ¬ (c.toNat : Int) = 34 := fun h => h34 (UInt8.toNat_inj.1 (by simpa using (by omega : c.toNat = 34)))
      rw [qAt_next hc h34] at hq
      
      repeat' (first
        | with_reducible refine And.intro ?_ ?_
        | with_reducible intro _
        | with_reducible refine AWp_seq ?_
        | with_reducible refine AWp_block ?_
        | (with_reducible refine hKv _ _ (AWp_nop ?_); clear hKv Kv)
        | (with_reducible refine hKv _ _ ?_; clear hKv Kv; simp (dsimp := false) only [go_sem, Nat.reduceAdd, Nat.reduceBEq, Nat.reduceEqDiff, Nat.reduceLT, Nat.reduceLeDiff, Nat.reduceMul, Int.reduceToNat, reduceCtorEq, ↓reduceIte, Tryd.ntmps10, Tryd.results10, ks_10, mu_10, nd_10, ti_ag3, ti_ag9, ti_fl33_0, ti_fl33_1, ti_fl33_2, ti_hb25, ti_hb26, ti_hb27, ti_hb28, ti_hb29, ti_st9, tkD, tkV, hc, h34'])
        | (with_reducible refine hKA ?_; clear hKA hKB KA KB)
        | (with_reducible refine hKB ?_; clear hKA hKB KA KB)
        | (with_reducible refine AWp_regC mu_10 ks_10 ?_; intro Kv hKv; simp (dsimp := false) only [go_sem, Nat.reduceAdd, Nat.reduceBEq, Nat.reduceEqDiff, Nat.reduceLT, Nat.reduceLeDiff, Nat.reduceMul, Int.reduceToNat, reduceCtorEq, ↓reduceIte, Tryd.ntmps10, Tryd.results10, ks_10, mu_10, nd_10, ti_ag3, ti_ag9, ti_fl33_0, ti_fl33_1, ti_fl33_2, ti_hb25, ti_hb26, ti_hb27, ti_hb28, ti_hb29, ti_st9, tkD, tkV, hc, h34'])
        | (with_reducible refine AWp_draw nd_10 mu_10 ks_10 ti_mixed (by kernel_rfl) ?_; intro Kv hKv; simp (dsimp := false) only [go_sem, Nat.reduceAdd, Nat.reduceBEq, Nat.reduceEqDiff, Nat.reduceLT, Nat.reduceLeDiff, Nat.reduceMul, Int.reduceToNat, reduceCtorEq, ↓reduceIte, Tryd.ntmps10, Tryd.results10, ks_10, mu_10, nd_10, ti_ag3, ti_ag9, ti_fl33_0, ti_fl33_1, ti_fl33_2, ti_hb25, ti_hb26, ti_hb27, ti_hb28, ti_hb29, ti_st9, tkD, tkV, hc, h34'])
        | with_reducible refine AWp_skipN ?_
        | with_reducible refine AWp_exitO (by repeat (first | with_reducible exact Out.hit | with_reducible apply Out.thenA | with_reducible apply Out.out rfl)) ?_
        | (with_reducible refine AWp_retR ?_; simp (dsimp := false) only [go_sem, Nat.reduceAdd, Nat.reduceBEq, Nat.reduceEqDiff, Nat.reduceLT, Nat.reduceLeDiff, Nat.reduceMul, Int.reduceToNat, reduceCtorEq, ↓reduceIte, Tryd.ntmps10, Tryd.results10, ks_10, mu_10, nd_10, ti_ag3, ti_ag9, ti_fl33_0, ti_fl33_1, ti_fl33_2, ti_hb25, ti_hb26, ti_hb27, ti_hb28, ti_hb29, ti_st9, tkD, tkV, hc, h34'])
        | (with_reducible refine AWp_regE mu_10 ks_10 ?_; intro Kv hKv; simp (dsimp := false) only [go_sem, Nat.reduceAdd, Nat.reduceBEq, Nat.reduceEqDiff, Nat.reduceLT, Nat.reduceLeDiff, Nat.reduceMul, Int.reduceToNat, reduceCtorEq, ↓reduceIte, Tryd.ntmps10, Tryd.results10, ks_10, mu_10, nd_10, ti_ag3, ti_ag9, ti_fl33_0, ti_fl33_1, ti_fl33_2, ti_hb25, ti_hb26, ti_hb27, ti_hb28, ti_hb29, ti_st9, tkD, tkV, hc, h34'])
        | (with_reducible refine AWp_drawE nd_10 mu_10 ks_10 ti_mixed (by kernel_rfl) ?_; intro Kv hKv; simp (dsimp := false) only [go_sem, Nat.reduceAdd, Nat.reduceBEq, Nat.reduceEqDiff, Nat.reduceLT, Nat.reduceLeDiff, Nat.reduceMul, Int.reduceToNat, reduceCtorEq, ↓reduceIte, Tryd.ntmps10, Tryd.results10, ks_10, mu_10, nd_10, ti_ag3, ti_ag9, ti_fl33_0, ti_fl33_1, ti_fl33_2, ti_hb25, ti_hb26, ti_hb27, ti_hb28, ti_hb29, ti_st9, tkD, tkV, hc, h34'])
        | (refine AWp_condC rfl ?_; intro KA KB hKA hKB; try simp only [onB_true, onB_false, onB_dec, onB_ndec, onB_not, onB_and, onB_or])
        | (refine AWp_condA rfl ?_ ?_)
        | with_reducible refine onB_of ?_ ?_
        | with_reducible rfl
        | omega)
      all_goals exact ⟨j + 1, ⟨by omega, hq⟩, by omega, by omega⟩
  · have e : j = t.s.length := by omega
    subst e
    rw [qAt_end (Nat.le_refl _)] at hq
    
    repeat' (first
      | with_reducible refine And.intro ?_ ?_
      | with_reducible intro _
      | with_reducible refine AWp_seq ?_
      | with_reducible refine AWp_block ?_
      | (with_reducible refine hKv _ _ (AWp_nop ?_); clear hKv Kv)
      | (with_reducible refine hKv _ _ ?_; clear hKv Kv; simp (dsimp := false) only [go_sem, Nat.reduceAdd, Nat.reduceBEq, Nat.reduceEqDiff, Nat.reduceLT, Nat.reduceLeDiff, Nat.reduceMul, Int.reduceToNat, reduceCtorEq, ↓reduceIte, Tryd.ntmps10, Tryd.results10, ks_10, mu_10, nd_10, ti_ag3, ti_ag9, ti_fl33_0, ti_fl33_1, ti_fl33_2, ti_hb25, ti_hb26, ti_hb27, ti_hb28, ti_hb29, ti_st9, tkD, tkV])
      | (with_reducible refine hKA ?_; clear hKA hKB KA KB)
      | (with_reducible refine hKB ?_; clear hKA hKB KA KB)
      | (with_reducible refine AWp_regC mu_10 ks_10 ?_; intro Kv hKv; simp (dsimp := false) only [go_sem, Nat.reduceAdd, Nat.reduceBEq, Nat.reduceEqDiff, Nat.reduceLT, Nat.reduceLeDiff, Nat.reduceMul, Int.reduceToNat, reduceCtorEq, ↓reduceIte, Tryd.ntmps10, Tryd.results10, ks_10, mu_10, nd_10, ti_ag3, ti_ag9, ti_fl33_0, ti_fl33_1, ti_fl33_2, ti_hb25, ti_hb26, ti_hb27, ti_hb28, ti_hb29, ti_st9, tkD, tkV])
      | (with_reducible refine AWp_draw nd_10 mu_10 ks_10 ti_mixed (by kernel_rfl) ?_; intro Kv hKv; simp (dsimp := false) only [go_sem, Nat.reduceAdd, Nat.reduceBEq, Nat.reduceEqDiff, Nat.reduceLT, Nat.reduceLeDiff, Nat.reduceMul, Int.reduceToNat, reduceCtorEq, ↓reduceIte, Tryd.ntmps10, Tryd.results10, ks_10, mu_10, nd_10, ti_ag3, ti_ag9, ti_fl33_0, ti_fl33_1, ti_fl33_2, ti_hb25, ti_hb26, ti_hb27, ti_hb28, ti_hb29, ti_st9, tkD, tkV])
      | with_reducible refine AWp_skipN ?_
      | with_reducible refine AWp_exitO (by repeat (first | with_reducible exact Out.hit | with_reducible apply Out.thenA | with_reducible apply Out.out rfl)) ?_
      | (with_reducible refine AWp_retR ?_; simp (dsimp := false) only [go_sem, Nat.reduceAdd, Nat.reduceBEq, Nat.reduceEqDiff, Nat.reduceLT, Nat.reduceLeDiff, Nat.reduceMul, Int.reduceToNat, reduceCtorEq, ↓reduceIte, Tryd.ntmps10, Tryd.results10, ks_10, mu_10, nd_10, ti_ag3, ti_ag9, ti_fl33_0, ti_fl33_1, ti_fl33_2, ti_hb25, ti_hb26, ti_hb27, ti_hb28, ti_hb29, ti_st9, tkD, tkV])
      | (with_reducible refine AWp_regE mu_10 ks_10 ?_; intro Kv hKv; simp (dsimp := false) only [go_sem, Nat.reduceAdd, Nat.reduceBEq, Nat.reduceEqDiff, Nat.reduceLT, Nat.reduceLeDiff, Nat.reduceMul, Int.reduceToNat, reduceCtorEq, ↓reduceIte, Tryd.ntmps10, Tryd.results10, ks_10, mu_10, nd_10, ti_ag3, ti_ag9, ti_fl33_0, ti_fl33_1, ti_fl33_2, ti_hb25, ti_hb26, ti_hb27, ti_hb28, ti_hb29, ti_st9, tkD, tkV])
      | (with_reducible refine AWp_drawE nd_10 mu_10 ks_10 ti_mixed (by kernel_rfl) ?_; intro Kv hKv; simp (dsimp := false) only [go_sem, Nat.reduceAdd, Nat.reduceBEq, Nat.reduceEqDiff, Nat.reduceLT, Nat.reduceLeDiff, Nat.reduceMul, Int.reduceToNat, reduceCtorEq, ↓reduceIte, Tryd.ntmps10, Tryd.results10, ks_10, mu_10, nd_10, ti_ag3, ti_ag9, ti_fl33_0, ti_fl33_1, ti_fl33_2, ti_hb25, ti_hb26, ti_hb27, ti_hb28, ti_hb29, ti_st9, tkD, tkV])
      | (refine AWp_condC rfl ?_; intro KA KB hKA hKB; try simp only [onB_true, onB_false, onB_dec, onB_ndec, onB_not, onB_and, onB_or])
      | (refine AWp_condA rfl ?_ ?_)
      | (refine valueFault_A _ (by omega) _ _ ?_; try simp (dsimp := false) only [go_sem, Nat.reduceAdd, Nat.reduceBEq, Nat.reduceEqDiff, Nat.reduceLT, Nat.reduceLeDiff, Nat.reduceMul, Int.reduceToNat, reduceCtorEq, ↓reduceIte, Tryd.ntmps10, Tryd.results10, ks_10, mu_10, nd_10, ti_ag3, ti_ag9, ti_fl33_0, ti_fl33_1, ti_fl33_2, ti_hb25, ti_hb26, ti_hb27, ti_hb28, ti_hb29, ti_st9, tkD, tkV])
      | (refine QCall_of (valueFault_A _ (by omega) _ _ (Two_intro _ _)) ?_; try simp (dsimp := false) only [go_sem, Nat.reduceAdd, Nat.reduceBEq, Nat.reduceEqDiff, Nat.reduceLT, Nat.reduceLeDiff, Nat.reduceMul, Int.reduceToNat, reduceCtorEq, ↓reduceIte, Tryd.ntmps10, Tryd.results10, ks_10, mu_10, nd_10, ti_ag3, ti_ag9, ti_fl33_0, ti_fl33_1, ti_fl33_2, ti_hb25, ti_hb26, ti_hb27, ti_hb28, ti_hb29, ti_st9, tkD, tkV])
      | with_reducible refine onB_of ?_ ?_
      | with_reducible rfl
      | omega)
    all_goals exact keepD hk (by (simp only [V.d.injEq, D.i.injEq, D.b.injEq, D.s.injEq, true_and]; grind [tokFault]))
end Go.Proofs.YtjmofmianlefdaaDoor
