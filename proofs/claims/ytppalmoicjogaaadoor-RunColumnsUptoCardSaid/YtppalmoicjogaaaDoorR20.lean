/- Names: what the reference and the program check of them. No condition. -/
import Derived.Test.YtppalmoicjogaaaDoorR18
import Derived.Test.YtppalmoicjogaaaDoorR19
import Derived.Test.YtppalmoicjogaaaDoorR17
set_option linter.all false
set_option linter.unusedSimpArgs false
set_option linter.unusedVariables false
namespace Go.Proofs.YtppalmoicjogaaaDoor
open Go Go.Proofs.YtppalmoicjogaaaDoor.Ab
variable [Glo]
set_option maxHeartbeats 1000000
set_option maxRecDepth 20000
def letterB (c : Int) : Bool := decide ((97 ≤ c ∧ c ≤ 122) ∨ (65 ≤ c ∧ c ≤ 90) ∨ c = 95)
def ks_81 : Nat → List Nat
  | 0 => [0]
  | 1 => [2]
  | _ => []
def mu_81 : List Nat := []
def in_81 : List Nat := [0]
theorem letter_A (c : Int) (H : Heap) (K : V → Heap → Prop) (hk : K (.d (.b (letterB c))) H) : ACalls Tryd.prog 81 [.d (.i .u8 c)] H K := by
  refine ACalls_of Tryd.func81 rfl in_81 (Nat.le_of_ble_eq_true rfl) ?_
  intro F hF
  simp (dsimp := false) only [go_sem, Nat.reduceAdd, Nat.reduceBEq, Nat.reduceEqDiff, Nat.reduceLT, Nat.reduceLeDiff, Nat.reduceMul, Int.reduceToNat, reduceCtorEq, ↓reduceIte, Tryd.ntmps81, Tryd.results81, ks_81, mu_81, in_81] at hF
  subst hF
  repeat' (first | with_reducible (first | refine And.intro ?_ ?_ | intro _ | refine AWp_seq ?_ | refine AWp_block ?_ | (refine hKv _ _ (AWp_nop ?_); clear hKv Kv) | (refine hKA ?_; clear hKA hKB KA KB) | (refine hKB ?_; clear hKA hKB KA KB) | refine AWp_skipN ?_ | refine AWp_exitO (by repeat (first | exact Out.hit | apply Out.thenA | apply Out.out rfl)) ?_) | (with_reducible (first | (refine hKv _ _ ?_; clear hKv Kv) | ((first | refine AWp_regC mu_81 ks_81 ?_ | refine AWp_regE mu_81 ks_81 ?_); intro Kv hKv) | refine AWp_retR ?_); try simp (dsimp := false) only [go_sem, Nat.reduceAdd, Nat.reduceBEq, Nat.reduceEqDiff, Nat.reduceLT, Nat.reduceLeDiff, Nat.reduceMul, Int.reduceToNat, reduceCtorEq, ↓reduceIte, Tryd.ntmps81, Tryd.results81, ks_81, mu_81]) | (refine AWp_condC rfl ?_; intro KA KB hKA hKB; try simp only [onB_true, onB_false, onB_dec, onB_ndec, onB_not, onB_and, onB_or]) | (refine AWp_condA rfl ?_ ?_) | with_reducible (first | refine onB_of ?_ ?_ | rfl) | omega)
  all_goals refine keepD hk ?_
  all_goals (simp only [letterB, V.d.injEq, D.b.injEq]; grind)
def nameB (c : Int) (first : Bool) : Bool := letterB c || (!first && decide ((48 ≤ c ∧ c ≤ 57) ∨ c = 45 ∨ c = 46))
def ks_101 : Nat → List Nat
  | 0 => [0, 1]
  | 1 => [0, 1, 22]
  | 2 => [4]
  | 3 => [4]
  | _ => []
def mu_101 : List Nat := []
def in_101 : List Nat := [0, 1]
theorem nameByte_A (c : Int) (t : Bool) (H : Heap) (K : V → Heap → Prop) (hk : K (.d (.b (nameB c t))) H) : ACalls Tryd.prog 101 [.d (.i .u8 c), .d (.b t)] H K := by
  refine ACalls_of Tryd.func101 rfl in_101 (Nat.le_of_ble_eq_true rfl) ?_
  intro F hF
  simp (dsimp := false) only [go_sem, Nat.reduceAdd, Nat.reduceBEq, Nat.reduceEqDiff, Nat.reduceLT, Nat.reduceLeDiff, Nat.reduceMul, Int.reduceToNat, reduceCtorEq, ↓reduceIte, Tryd.ntmps101, Tryd.results101, ks_101, mu_101, in_101] at hF
  subst hF
  repeat' (first | with_reducible (first | refine And.intro ?_ ?_ | intro _ | refine AWp_seq ?_ | refine AWp_block ?_ | (refine hKv _ _ (AWp_nop ?_); clear hKv Kv) | (refine hKA ?_; clear hKA hKB KA KB) | (refine hKB ?_; clear hKA hKB KA KB) | refine AWp_skipN ?_ | refine AWp_exitO (by repeat (first | exact Out.hit | apply Out.thenA | apply Out.out rfl)) ?_) | (with_reducible (first | (refine hKv _ _ ?_; clear hKv Kv) | ((first | refine AWp_regC mu_101 ks_101 ?_ | refine AWp_regE mu_101 ks_101 ?_); intro Kv hKv) | refine AWp_retR ?_); try simp (dsimp := false) only [go_sem, Nat.reduceAdd, Nat.reduceBEq, Nat.reduceEqDiff, Nat.reduceLT, Nat.reduceLeDiff, Nat.reduceMul, Int.reduceToNat, reduceCtorEq, ↓reduceIte, Tryd.ntmps101, Tryd.results101, ks_101, mu_101]) | (refine AWp_condC rfl ?_; intro KA KB hKA hKB; try simp only [onB_true, onB_false, onB_dec, onB_ndec, onB_not, onB_and, onB_or]) | (refine AWp_condA rfl ?_ ?_) | with_reducible (first | refine onB_of ?_ ?_ | rfl) | omega)
  all_goals refine keepD hk ?_
  all_goals cases t
  all_goals (simp only [nameB, letterB, V.d.injEq, D.b.injEq]; grind)
def nameAll : List UInt8 → Bool → Bool
  | [], _ => true
  | c :: r, first => nameB c.toNat first && nameAll r false
def nameFault (l : List UInt8) : Int := if 1 ≤ l.length ∧ l.length ≤ 20 then (if nameAll l true = true then 0 else 10) else 1
theorem nameAll_step {l : List UInt8} {i : Nat} {c : UInt8} (hc : l[i]? = some c) : nameAll (l.drop i) (decide (i = 0)) = (nameB c.toNat (decide (i = 0)) && nameAll (l.drop (i + 1)) (decide (i + 1 = 0))) := by
  have hi : i < l.length := (List.getElem?_eq_some_iff.1 hc).1
  have : l.drop i = c :: l.drop (i + 1) := by
    rw [List.drop_eq_getElem_cons hi]
    rw [List.getElem?_eq_getElem hi] at hc
    rw [Option.some.inj hc]
  rw [this, nameAll]
  simp
def ks_35 : Nat → List Nat
  | 0 => [0]
  | 1 => [0, 11]
  | 2 => [2]
  | 3 => [0, 13, 14]
  | 4 => [0, 13, 14, 15]
  | 5 => [0, 3, 13, 14]
  | 6 => [0, 3, 4, 13, 14]
  | 7 => [0, 13, 14, 42]
  | 8 => [2]
  | 9 => [0, 13, 14]
  | 10 => [2]
  | _ => []
def mu_35 : List Nat := []
def in_35 : List Nat := [0]
theorem checkName_A (l : List UInt8) (hlen : l.length ≤ 9223372036854775807) (H : Heap) (K : V → Heap → Prop) (hk : K (.d (.i .i64 (nameFault l))) H) : ACalls Tryd.prog 35 [.d (.s l)] H K := by
  refine ACalls_of Tryd.func35 rfl in_35 (Nat.le_of_ble_eq_true rfl) ?_
  intro F hF
  simp (dsimp := false) only [go_sem, Nat.reduceAdd, Nat.reduceBEq, Nat.reduceEqDiff, Nat.reduceLT, Nat.reduceLeDiff, Nat.reduceMul, Int.reduceToNat, reduceCtorEq, ↓reduceIte, Tryd.ntmps35, Tryd.results35, ks_35, mu_35, ti_hb81, ti_st9, in_35] at hF
  subst hF
  repeat' (first | with_reducible (first | refine And.intro ?_ ?_ | intro _ | refine AWp_seq ?_ | refine AWp_block ?_ | (refine hKv _ _ (AWp_nop ?_); clear hKv Kv) | (refine hKA ?_; clear hKA hKB KA KB) | (refine hKB ?_; clear hKA hKB KA KB) | refine AWp_skipN ?_ | refine AWp_exitO (by repeat (first | exact Out.hit | apply Out.thenA | apply Out.out rfl)) ?_) | (with_reducible (first | (refine hKv _ _ ?_; clear hKv Kv) | ((first | refine AWp_regC mu_35 ks_35 ?_ | refine AWp_regE mu_35 ks_35 ?_); intro Kv hKv) | refine AWp_retR ?_); try simp (dsimp := false) only [go_sem, Nat.reduceAdd, Nat.reduceBEq, Nat.reduceEqDiff, Nat.reduceLT, Nat.reduceLeDiff, Nat.reduceMul, Int.reduceToNat, reduceCtorEq, ↓reduceIte, Tryd.ntmps35, Tryd.results35, ks_35, mu_35, ti_hb81, ti_st9]) | (refine AWp_condC rfl ?_; intro KA KB hKA hKB; try simp only [onB_true, onB_false, onB_dec, onB_ndec, onB_not, onB_and, onB_or]) | (refine AWp_condA rfl ?_ ?_) | with_reducible (first | refine onB_of ?_ ?_ | rfl) | omega)
  · exact keepD hk (by simp_all [nameFault])
  · exact keepD hk (by simp_all [nameFault]; omega)
  rename_i h1 h2
  have h3 : 1 ≤ l.length ∧ l.length ≤ 20 := by cases l <;> simp_all; omega
  refine AWp_while0 (fun i : Nat => i ≤ l.length ∧ nameAll l true = nameAll (l.drop i) (decide (i = 0))) (fun i => [(0, .d (.s l)), (13, .d (.i .i64 l.length)), (14, .d (.i .i64 i))]) (fun i => l.length - i) 0 ?_ ?_ ?_
  · simp
  · simp (dsimp := false) only [go_sem, Nat.reduceAdd, Nat.reduceBEq, Nat.reduceEqDiff, Nat.reduceLT, Nat.reduceLeDiff, Nat.reduceMul, Int.reduceToNat, reduceCtorEq, ↓reduceIte, Tryd.ntmps35, Tryd.results35, ks_35, mu_35, ti_hb81, ti_st9]
    omega
  rintro i ⟨hi, hall⟩
  repeat' (first | with_reducible (first | refine And.intro ?_ ?_ | intro _ | refine AWp_seq ?_ | refine AWp_block ?_ | (refine hKv _ _ (AWp_nop ?_); clear hKv Kv) | (refine hKA ?_; clear hKA hKB KA KB) | (refine hKB ?_; clear hKA hKB KA KB) | refine AWp_skipN ?_ | refine AWp_exitO (by repeat (first | exact Out.hit | apply Out.thenA | apply Out.out rfl)) ?_) | ((first | with_reducible (first | (refine hKv _ _ ?_; clear hKv Kv) | ((first | refine AWp_regC mu_35 ks_35 ?_ | refine AWp_regE mu_35 ks_35 ?_); intro Kv hKv) | refine AWp_retR ?_) | refine letter_A _ _ _ ?_); try simp (dsimp := false) only [go_sem, Nat.reduceAdd, Nat.reduceBEq, Nat.reduceEqDiff, Nat.reduceLT, Nat.reduceLeDiff, Nat.reduceMul, Int.reduceToNat, reduceCtorEq, ↓reduceIte, Tryd.ntmps35, Tryd.results35, ks_35, mu_35, ti_hb81, ti_st9]) | (refine AWp_condC rfl ?_; intro KA KB hKA hKB; try simp only [onB_true, onB_false, onB_dec, onB_ndec, onB_not, onB_and, onB_or]) | (refine AWp_condA rfl ?_ ?_) | with_reducible (first | refine onB_of ?_ ?_ | rfl) | omega)
  all_goals try have hc := ‹l[((i : Int)).toNat]? = some _›
  all_goals try rw [Int.toNat_natCast] at hc
  all_goals try have hst := nameAll_step hc
  all_goals try (refine ⟨i + 1, ⟨by omega, ?_⟩, by omega, by omega⟩)
  all_goals try refine keepD hk ?_
  all_goals try simp only [V.d.injEq, D.i.injEq, true_and, nameFault, if_pos h3]
  all_goals rw [hall]
  all_goals try rw [hst]
  all_goals first
    | (have : i = l.length := by omega
       subst this; simp [nameAll])
    | grind [nameB]
def ks_84 : Nat → List Nat
  | 0 => [0]
  | 1 => [0, 7]
  | 2 => [2]
  | 3 => [0, 3]
  | 4 => [0, 3, 11]
  | 5 => [0, 3]
  | 6 => [0, 3, 20]
  | 7 => [2]
  | 8 => [2]
  | _ => []
def mu_84 : List Nat := []
def in_84 : List Nat := [0]
theorem nameFault_A (l : List UInt8) (hlen : l.length ≤ 9223372036854775807) (H : Heap) (K : V → Heap → Prop) (hk : K (.d (.i .i64 (nameFault l))) H) : ACalls Tryd.prog 84 [.d (.s l)] H K := by
  refine ACalls_of Tryd.func84 rfl in_84 (Nat.le_of_ble_eq_true rfl) ?_
  intro F hF
  simp (dsimp := false) only [go_sem, Nat.reduceAdd, Nat.reduceBEq, Nat.reduceEqDiff, Nat.reduceLT, Nat.reduceLeDiff, Nat.reduceMul, Int.reduceToNat, reduceCtorEq, ↓reduceIte, Tryd.ntmps84, Tryd.results84, ks_84, mu_84, ti_hb17, ti_hb101, ti_st9, in_84] at hF
  subst hF
  repeat' (first | with_reducible (first | refine And.intro ?_ ?_ | intro _ | refine AWp_seq ?_ | refine AWp_block ?_ | (refine hKv _ _ (AWp_nop ?_); clear hKv Kv) | (refine hKA ?_; clear hKA hKB KA KB) | (refine hKB ?_; clear hKA hKB KA KB) | refine AWp_skipN ?_ | refine AWp_exitO (by repeat (first | exact Out.hit | apply Out.thenA | apply Out.out rfl)) ?_) | ((first | with_reducible (first | (refine hKv _ _ ?_; clear hKv Kv) | ((first | refine AWp_regC mu_84 ks_84 ?_ | refine AWp_regE mu_84 ks_84 ?_); intro Kv hKv) | refine AWp_retR ?_) | refine in_A _ _ _ _ _ ?_); try simp (dsimp := false) only [go_sem, Nat.reduceAdd, Nat.reduceBEq, Nat.reduceEqDiff, Nat.reduceLT, Nat.reduceLeDiff, Nat.reduceMul, Int.reduceToNat, reduceCtorEq, ↓reduceIte, Tryd.ntmps84, Tryd.results84, ks_84, mu_84, ti_hb17, ti_hb101, ti_st9]) | (refine AWp_condC rfl ?_; intro KA KB hKA hKB; try simp only [onB_true, onB_false, onB_dec, onB_ndec, onB_not, onB_and, onB_or]) | (refine AWp_condA rfl ?_ ?_) | with_reducible (first | refine onB_of ?_ ?_ | rfl) | omega)
  rotate_left
  · rename_i h
    exact keepD hk (by simp_all [nameFault]; omega)
  rename_i h
  have h3 : 1 ≤ l.length ∧ l.length ≤ 20 := by omega
  refine AWp_while0 (fun i : Nat => i ≤ l.length ∧ nameAll l true = nameAll (l.drop i) (decide (i = 0))) (fun i => [(0, .d (.s l)), (3, .d (.i .i64 i))]) (fun i => l.length - i) 0 ?_ ?_ ?_
  · simp
  · simp (dsimp := false) only [go_sem, Nat.reduceAdd, Nat.reduceBEq, Nat.reduceEqDiff, Nat.reduceLT, Nat.reduceLeDiff, Nat.reduceMul, Int.reduceToNat, reduceCtorEq, ↓reduceIte, Tryd.ntmps84, Tryd.results84, ks_84, mu_84, ti_hb17, ti_hb101, ti_st9]
    omega
  rintro i ⟨hi, hall⟩
  repeat' (first | with_reducible (first | refine And.intro ?_ ?_ | intro _ | refine AWp_seq ?_ | refine AWp_block ?_ | (refine hKv _ _ (AWp_nop ?_); clear hKv Kv) | (refine hKA ?_; clear hKA hKB KA KB) | (refine hKB ?_; clear hKA hKB KA KB) | refine AWp_skipN ?_ | refine AWp_exitO (by repeat (first | exact Out.hit | apply Out.thenA | apply Out.out rfl)) ?_) | ((first | with_reducible (first | (refine hKv _ _ ?_; clear hKv Kv) | ((first | refine AWp_regC mu_84 ks_84 ?_ | refine AWp_regE mu_84 ks_84 ?_); intro Kv hKv) | refine AWp_retR ?_) | refine nameByte_A _ _ _ _ ?_); try simp (dsimp := false) only [go_sem, Nat.reduceAdd, Nat.reduceBEq, Nat.reduceEqDiff, Nat.reduceLT, Nat.reduceLeDiff, Nat.reduceMul, Int.reduceToNat, reduceCtorEq, ↓reduceIte, Tryd.ntmps84, Tryd.results84, ks_84, mu_84, ti_hb17, ti_hb101, ti_st9]) | (refine AWp_condC rfl ?_; intro KA KB hKA hKB; try simp only [onB_true, onB_false, onB_dec, onB_ndec, onB_not, onB_and, onB_or]) | (refine AWp_condA rfl ?_ ?_) | with_reducible (first | refine onB_of ?_ ?_ | rfl) | omega)
  all_goals try have hc := ‹l[((i : Int)).toNat]? = some _›
  all_goals try rw [Int.toNat_natCast] at hc
  all_goals try have hst := nameAll_step hc
  all_goals try (refine ⟨i + 1, ⟨by omega, ?_⟩, by omega, by omega⟩)
  all_goals try refine keepD hk ?_
  all_goals try simp only [V.d.injEq, D.i.injEq, true_and, nameFault, if_pos h3]
  all_goals rw [hall]
  all_goals try rw [hst]
  all_goals first
    | (have : i = l.length := by omega
       subst this; simp [nameAll])
    | grind [nameB]
end Go.Proofs.YtppalmoicjogaaaDoor
namespace Go.Proofs.YtppalmoicjogaaaDoor
open Go Go.Proofs.YtppalmoicjogaaaDoor.Ab
variable [Glo]
structure Opp where
  kind : Int
  inn : List Int
  new : List UInt8
  cols : List (List UInt8)
  olds : List (List UInt8)
  part : List UInt8
  name : List UInt8
  n : Int
  axis : Int
  tk : Int
  tn : List UInt8
  rel : Rl
def inR1 (z : Int) : List D := [.i .i64 z]
def opD (o : Opp) : List D := [.i .i64 o.kind, .sl 1 (o.inn.map inR1), .s o.new, .sl 1 (o.cols.map strRow), .sl 1 (o.olds.map strRow), .s o.part, .s o.name, .i .i64 o.n, .i .i64 o.axis, .i .i64 o.tk, .s o.tn, .sl 1 (o.rel.cols.map strRow), .sl 1 (o.rel.rows.map rowD)]
def opV (o : Opp) : V := .ag ((opD o).map .d)
def sIter : List UInt8 := [105, 116, 101, 114]
def sPos : List UInt8 := [112, 111, 115]
def sItem : List UInt8 := [105, 116, 101, 109]
def sAggs : List (List UInt8) := [[99, 111, 117, 110, 116], [115, 117, 109], [109, 105, 110], [109, 97, 120]]
def arE : List (List UInt8 × Int) := [([33, 61], 2), ([42], 2), ([43], 2), ([45], 2), ([60], 2), ([60, 60], 2), ([60, 61], 2), ([61], 2), ([62], 2), ([62, 61], 2), ([62, 62], 2), ([97, 110, 100], 2), ([99, 111, 110, 99, 97, 116], 2), ([99, 111, 110, 116, 97, 105, 110, 115], 2), ([100, 97, 116, 97], 1), ([100, 105, 118], 2), ([101, 98, 118], 2), ([104, 111, 108, 100, 115], 3), ([105, 110, 116, 101, 103, 101, 114], 1), ([105, 115], 2), ([108, 101, 110, 103, 116, 104], 1), ([109, 111, 100], 2), ([110, 97, 109, 101], 1), ([110, 101, 103], 1), ([110, 111, 100, 101], 1), ([110, 111, 116], 1), ([111, 110, 101], 1), ([111, 114], 2), ([115, 112, 97, 110], 2), ([115, 116, 97, 114, 116, 115], 2), ([115, 116, 114, 105, 110, 103], 1), ([115, 117, 98, 115, 116, 114, 105, 110, 103], 3)]
theorem arE_nodup : (arE.map (·.1)).Nodup := by decide
def inCnt (k : Int) : Nat := if k = 1 ∨ k = 14 then 0 else if k = 4 ∨ k = 5 ∨ k = 6 ∨ k = 7 ∨ k = 13 then 2 else 1
def inputsRow : List D := ([0, 0, 1, 1, 2, 2, 2, 2, 1, 1, 1, 1, 1, 2, 0, 1] : List Int).map fun n => .i .i64 n
theorem inputs_get (k : Int) (h1 : 1 ≤ k) (h2 : k ≤ 15) : inputsRow[k.toNat]? = some (.i .i64 (inCnt k)) := by
  have : k = 1 ∨ k = 2 ∨ k = 3 ∨ k = 4 ∨ k = 5 ∨ k = 6 ∨ k = 7 ∨ k = 8 ∨ k = 9 ∨ k = 10 ∨ k = 11 ∨ k = 12 ∨ k = 13 ∨ k = 14 ∨ k = 15 := by omega
  rcases this with h | h | h | h | h | h | h | h | h | h | h | h | h | h | h <;> subst h <;> rfl
def hasQ (cols l : List (List UInt8)) : Bool := l.all fun s => decide (s ∈ cols)
def nodeIn (r : Rl) : Bool := r.rows.any fun row => row.any fun x => decide (x.k = 1)
def okC (t : Bool) (l : List (List UInt8)) : Int × List (List UInt8) := if t = true then (0, l) else (9, [])
def opCols (o : Opp) (a b : List (List UInt8)) : Int × List (List UInt8) :=
  if o.kind = 1 then (if relFault o.rel ≠ 0 then (relFault o.rel, []) else if nodeIn o.rel = true then (12, []) else (0, o.rel.cols))
  else if o.kind = 2 then okC (decide (o.cols.length = o.olds.length) && hasQ a o.olds) o.cols
  else if o.kind = 3 then okC (decide (o.cols.length = 1) && hasQ a o.cols) a
  else if o.kind = 4 then okC (decide (o.cols.length = 2) && (hasQ a (o.cols.take 1) && hasQ b (o.cols.drop 1))) (a ++ b)
  else if o.kind = 5 then (0, a ++ b)
  else if o.kind = 6 then okC (decide (a = b)) a
  else if o.kind = 7 then okC (hasQ a o.cols && hasQ b o.cols) a
  else if o.kind = 8 ∨ o.kind = 15 then okC (hasQ a o.cols) a
  else if o.kind = 9 then okC (hasQ a o.cols && (decide (o.part = []) || decide (o.part ∈ a))) (a ++ [o.new])
  else if o.kind = 10 then (if o.name ∈ sAggs then okC (decide (o.cols.length = 1) && (hasQ a (o.cols.take 1) && decide (o.part ∈ a))) [o.part, o.new] else (6, []))
  else if o.kind = 11 then (match lookE arE o.name with
    | some n => okC (decide (n = o.cols.length) && hasQ a o.cols) (a ++ [o.new])
    | none => (6, []))
  else if o.kind = 12 then (if 1 ≤ o.axis ∧ o.axis ≤ 12 ∧ 1 ≤ o.tk ∧ o.tk ≤ 5 then okC (hasQ a [sIter, sItem]) [sIter, sItem] else (3, []))
  else if o.kind = 13 then (if o.n = 1 ∨ o.n = 2 ∨ o.n = 3 then (if o.n ≠ 3 ∧ nameFault o.name ≠ 0 then (nameFault o.name, []) else okC (decide (sIter ∈ a) && hasQ b [sIter, sPos, sItem]) [sIter, sItem]) else (3, []))
  else (0, [sItem])
def namedQ (r : Int × List (List UInt8)) : Int × List (List UInt8) := if r.1 = 0 then (if colsFault r.2 = 0 then r else (colsFault r.2, [])) else (r.1, [])
def colsQ (o : Opp) (a b : List (List UInt8)) : Int × List (List UInt8) := namedQ (opCols o a b)
def inAt (out : List (List (List UInt8))) (inn : List Int) (k : Nat) : List (List UInt8) := match inn[k]? with | some n => (out[n.toNat]?).getD [] | none => []
def stepQ (out : List (List (List UInt8))) (o : Opp) : Int × List (List UInt8) :=
  if 1 ≤ o.kind ∧ o.kind ≤ 15 then (if o.inn.length = inCnt o.kind then (if (o.inn.all fun n => decide (0 ≤ n ∧ n < out.length)) = true then colsQ o (inAt out o.inn 0) (inAt out o.inn 1) else (2, [])) else (11, [])) else (3, [])
def planQ : List Opp → List (List (List UInt8)) → Int × List (List (List UInt8))
  | [], out => (0, out)
  | o :: r, out => if (stepQ out o).1 = 0 then planQ r (out ++ [(stepQ out o).2]) else ((stepQ out o).1, [])
def columnsQ (p : List Opp) : Int × List (List (List UInt8)) :=
  if 200000 < p.length then (1, []) else if p = [] then (5, []) else
    if (planQ p []).1 = 0 then (if hasQ ((planQ p []).2.getLastD []) [sPos, sItem] = true then planQ p [] else (9, [])) else ((planQ p []).1, [])
theorem okC_cases (t : Bool) (l : List (List UInt8)) : (t = true ∧ okC t l = (0, l)) ∨ (t = false ∧ okC t l = (9, [])) := by
  cases t
  · exact .inr ⟨rfl, rfl⟩
  · exact .inl ⟨rfl, rfl⟩
theorem colsQ_ok {o : Opp} {a b : List (List UInt8)} (h : (colsQ o a b).1 = 0) : colsFault (colsQ o a b).2 = 0 := by
  unfold colsQ namedQ at h ⊢
  split at h
  · rename_i h1
    rw [if_pos h1]
    split at h
    · rename_i h2
      rw [if_pos h2]; exact h2
    · rename_i h2
      exact absurd h h2
  · rename_i h1
    exact absurd h h1
theorem colsFault_short {l : List (List UInt8)} (h : colsFault l = 0) : l.length ≤ 8 := by
  unfold colsFault at h
  split at h
  · assumption
  · omega
theorem relCols (c : List (List UInt8)) : relFault ⟨c, []⟩ = colsFault c := by
  unfold relFault
  split
  · rename_i h
    rw [if_pos (by simp)]
    rw [h]; rfl
  · rfl
theorem planQ_next {p : List Opp} {i : Nat} {o : Opp} {out : List (List (List UInt8))} (h : p[i]? = some o) : planQ (p.drop i) out = if (stepQ out o).1 = 0 then planQ (p.drop (i + 1)) (out ++ [(stepQ out o).2]) else ((stepQ out o).1, []) := by
  rw [drop_of_get h, planQ]
theorem planQ_end (p : List Opp) (out : List (List (List UInt8))) : planQ (p.drop p.length) out = (0, out) := by rw [List.drop_length]; rfl
theorem stepQ_ok {out : List (List (List UInt8))} {o : Opp} (h : (stepQ out o).1 = 0) : colsFault (stepQ out o).2 = 0 := by
  unfold stepQ at h ⊢
  split at h
  · rename_i h1
    rw [if_pos h1]
    split at h
    · rename_i h2
      rw [if_pos h2]
      split at h
      · rename_i h3
        rw [if_pos h3]
        exact colsQ_ok h
      · contradiction
    · contradiction
  · contradiction
end Go.Proofs.YtppalmoicjogaaaDoor
