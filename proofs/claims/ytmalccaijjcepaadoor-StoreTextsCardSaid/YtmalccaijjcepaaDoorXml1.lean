/- Names: what the reference and the program check of them. No condition. -/
import Derived.Test.YtmalccaijjcepaaDoorIn
set_option linter.all false
set_option linter.unusedSimpArgs false
set_option linter.unusedVariables false
namespace Go.Proofs.YtmalccaijjcepaaDoor
open Go Go.Proofs.YtmalccaijjcepaaDoor.Ab
variable [Glo]
set_option maxHeartbeats 1000000
set_option maxRecDepth 20000
def letterB (c : Int) : Bool := decide ((97 ≤ c ∧ c ≤ 122) ∨ (65 ≤ c ∧ c ≤ 90) ∨ c = 95)
/- the live slots of pleacher/xml.letter -/
def ks_72 : Nat → List Nat
  | 0 => [0]
  | 1 => [2]
  | _ => []
def mu_72 : List Nat := []
def in_72 : List Nat := [0]
theorem letter_A (c : Int) (H : Heap) (K : V → Heap → Prop) (hk : K (.d (.b (letterB c))) H) : ACalls Tryd.prog 72 [.d (.i .u8 c)] H K := by
  refine ACalls_of Tryd.func72 rfl in_72 (Nat.le_of_ble_eq_true rfl) ?_
  intro F hF
  simp (dsimp := false) only [go_sem, Nat.reduceAdd, Nat.reduceBEq, Nat.reduceEqDiff, Nat.reduceLT, Nat.reduceLeDiff, Nat.reduceMul, Int.reduceToNat, reduceCtorEq, ↓reduceIte, Tryd.ntmps72, Tryd.results72, ks_72, mu_72, in_72] at hF
  subst hF
  repeat' (first | with_reducible (first | refine And.intro ?_ ?_ | intro _ | refine AWp_seq ?_ | refine AWp_block ?_ | (refine hKv _ _ (AWp_nop ?_); clear hKv Kv) | (refine hKA ?_; clear hKA hKB KA KB) | (refine hKB ?_; clear hKA hKB KA KB) | refine AWp_skipN ?_ | refine AWp_exitO (by repeat (first | exact Out.hit | apply Out.thenA | apply Out.out rfl)) ?_) | (with_reducible (first | (refine hKv _ _ ?_; clear hKv Kv) | ((first | refine AWp_regC mu_72 ks_72 ?_ | refine AWp_regE mu_72 ks_72 ?_); intro Kv hKv) | refine AWp_retR ?_); try simp (dsimp := false) only [go_sem, Nat.reduceAdd, Nat.reduceBEq, Nat.reduceEqDiff, Nat.reduceLT, Nat.reduceLeDiff, Nat.reduceMul, Int.reduceToNat, reduceCtorEq, ↓reduceIte, Tryd.ntmps72, Tryd.results72, ks_72, mu_72]) | (refine AWp_condC rfl ?_; intro KA KB hKA hKB; try simp only [onB_true, onB_false, onB_dec, onB_ndec, onB_not, onB_and, onB_or]) | (refine AWp_condA rfl ?_ ?_) | with_reducible (first | refine onB_of ?_ ?_ | rfl) | omega)
  all_goals refine keepD hk ?_
  all_goals (simp only [letterB, V.d.injEq, D.b.injEq]; grind)

def nameB (c : Int) (first : Bool) : Bool := letterB c || (!first && decide ((48 ≤ c ∧ c ≤ 57) ∨ c = 45 ∨ c = 46))
/- the live slots of pleacher/pleacherref.nameByte -/
def ks_73 : Nat → List Nat
  | 0 => [0, 1]
  | 1 => [0, 1, 22]
  | 2 => [4]
  | 3 => [4]
  | _ => []
def mu_73 : List Nat := []
def in_73 : List Nat := [0, 1]
theorem nameByte_A (c : Int) (t : Bool) (H : Heap) (K : V → Heap → Prop) (hk : K (.d (.b (nameB c t))) H) : ACalls Tryd.prog 73 [.d (.i .u8 c), .d (.b t)] H K := by
  refine ACalls_of Tryd.func73 rfl in_73 (Nat.le_of_ble_eq_true rfl) ?_
  intro F hF
  simp (dsimp := false) only [go_sem, Nat.reduceAdd, Nat.reduceBEq, Nat.reduceEqDiff, Nat.reduceLT, Nat.reduceLeDiff, Nat.reduceMul, Int.reduceToNat, reduceCtorEq, ↓reduceIte, Tryd.ntmps73, Tryd.results73, ks_73, mu_73, in_73] at hF
  subst hF
  repeat' (first | with_reducible (first | refine And.intro ?_ ?_ | intro _ | refine AWp_seq ?_ | refine AWp_block ?_ | (refine hKv _ _ (AWp_nop ?_); clear hKv Kv) | (refine hKA ?_; clear hKA hKB KA KB) | (refine hKB ?_; clear hKA hKB KA KB) | refine AWp_skipN ?_ | refine AWp_exitO (by repeat (first | exact Out.hit | apply Out.thenA | apply Out.out rfl)) ?_) | (with_reducible (first | (refine hKv _ _ ?_; clear hKv Kv) | ((first | refine AWp_regC mu_73 ks_73 ?_ | refine AWp_regE mu_73 ks_73 ?_); intro Kv hKv) | refine AWp_retR ?_); try simp (dsimp := false) only [go_sem, Nat.reduceAdd, Nat.reduceBEq, Nat.reduceEqDiff, Nat.reduceLT, Nat.reduceLeDiff, Nat.reduceMul, Int.reduceToNat, reduceCtorEq, ↓reduceIte, Tryd.ntmps73, Tryd.results73, ks_73, mu_73]) | (refine AWp_condC rfl ?_; intro KA KB hKA hKB; try simp only [onB_true, onB_false, onB_dec, onB_ndec, onB_not, onB_and, onB_or]) | (refine AWp_condA rfl ?_ ?_) | with_reducible (first | refine onB_of ?_ ?_ | rfl) | omega)
  all_goals refine keepD hk ?_
  all_goals cases t
  all_goals (simp only [nameB, letterB, V.d.injEq, D.b.injEq]; grind)

def nameAll : List UInt8 → Bool → Bool
  | [], _ => true
  | c :: r, first => nameB c.toNat first && nameAll r false
def nameFault (l : List UInt8) : Int := if 1 ≤ l.length ∧ l.length ≤ 20 then (if nameAll l true = true then 0 else 10) else 1
theorem nameAll_step {l : List UInt8} {i : Nat} {c : UInt8} (hc : l[i]? = some c) : nameAll (l.drop i) (decide (i = 0)) = (nameB c.toNat (decide (i = 0)) && nameAll (l.drop (i + 1)) (decide (i + 1 = 0))) := by
  have hi : i < l.length := (List.getElem?_eq_some_iff.1 hc).1
  have : l.drop i = c :: l.drop (i + 1) := by
    rw [List.drop_eq_getElem_cons hi]
    rw [List.getElem?_eq_getElem hi] at hc
    rw [Option.some.inj hc]
  rw [this, nameAll]
  simp
/- the live slots of pleacher/xml.CheckName -/
def ks_62 : Nat → List Nat
  | 0 => [0]
  | 1 => [0, 11]
  | 2 => [2]
  | 3 => [0, 13, 14]
  | 4 => [0, 13, 14, 15]
  | 5 => [0, 3, 13, 14]
  | 6 => [0, 3, 4, 13, 14]
  | 7 => [0, 13, 14, 42]
  | 8 => [2]
  | 9 => [0, 13, 14]
  | 10 => [2]
  | _ => []
def mu_62 : List Nat := []
def in_62 : List Nat := [0]
theorem checkName_A (l : List UInt8) (hlen : l.length ≤ 9223372036854775807) (H : Heap) (K : V → Heap → Prop) (hk : K (.d (.i .i64 (nameFault l))) H) : ACalls Tryd.prog 62 [.d (.s l)] H K := by
  refine ACalls_of Tryd.func62 rfl in_62 (Nat.le_of_ble_eq_true rfl) ?_
  intro F hF
  simp (dsimp := false) only [go_sem, Nat.reduceAdd, Nat.reduceBEq, Nat.reduceEqDiff, Nat.reduceLT, Nat.reduceLeDiff, Nat.reduceMul, Int.reduceToNat, reduceCtorEq, ↓reduceIte, Tryd.ntmps62, Tryd.results62, ks_62, mu_62, ti_hb72, ti_st9, in_62] at hF
  subst hF
  repeat' (first | with_reducible (first | refine And.intro ?_ ?_ | intro _ | refine AWp_seq ?_ | refine AWp_block ?_ | (refine hKv _ _ (AWp_nop ?_); clear hKv Kv) | (refine hKA ?_; clear hKA hKB KA KB) | (refine hKB ?_; clear hKA hKB KA KB) | refine AWp_skipN ?_ | refine AWp_exitO (by repeat (first | exact Out.hit | apply Out.thenA | apply Out.out rfl)) ?_) | (with_reducible (first | (refine hKv _ _ ?_; clear hKv Kv) | ((first | refine AWp_regC mu_62 ks_62 ?_ | refine AWp_regE mu_62 ks_62 ?_); intro Kv hKv) | refine AWp_retR ?_); try simp (dsimp := false) only [go_sem, Nat.reduceAdd, Nat.reduceBEq, Nat.reduceEqDiff, Nat.reduceLT, Nat.reduceLeDiff, Nat.reduceMul, Int.reduceToNat, reduceCtorEq, ↓reduceIte, Tryd.ntmps62, Tryd.results62, ks_62, mu_62, ti_hb72, ti_st9]) | (refine AWp_condC rfl ?_; intro KA KB hKA hKB; try simp only [onB_true, onB_false, onB_dec, onB_ndec, onB_not, onB_and, onB_or]) | (refine AWp_condA rfl ?_ ?_) | with_reducible (first | refine onB_of ?_ ?_ | rfl) | omega)
  · exact keepD hk (by simp_all [nameFault])
  · exact keepD hk (by simp_all [nameFault]; omega)
  rename_i h1 h2
  have h3 : 1 ≤ l.length ∧ l.length ≤ 20 := by cases l <;> simp_all; omega
  refine AWp_while0 (fun i : Nat => i ≤ l.length ∧ nameAll l true = nameAll (l.drop i) (decide (i = 0))) (fun i => [(0, .d (.s l)), (13, .d (.i .i64 l.length)), (14, .d (.i .i64 i))]) (fun i => l.length - i) 0 ?_ ?_ ?_
  · simp
  · simp (dsimp := false) only [go_sem, Nat.reduceAdd, Nat.reduceBEq, Nat.reduceEqDiff, Nat.reduceLT, Nat.reduceLeDiff, Nat.reduceMul, Int.reduceToNat, reduceCtorEq, ↓reduceIte, Tryd.ntmps62, Tryd.results62, ks_62, mu_62, ti_hb72, ti_st9]
    omega
  rintro i ⟨hi, hall⟩
  repeat' (first | with_reducible (first | refine And.intro ?_ ?_ | intro _ | refine AWp_seq ?_ | refine AWp_block ?_ | (refine hKv _ _ (AWp_nop ?_); clear hKv Kv) | (refine hKA ?_; clear hKA hKB KA KB) | (refine hKB ?_; clear hKA hKB KA KB) | refine AWp_skipN ?_ | refine AWp_exitO (by repeat (first | exact Out.hit | apply Out.thenA | apply Out.out rfl)) ?_) | ((first | with_reducible (first | (refine hKv _ _ ?_; clear hKv Kv) | ((first | refine AWp_regC mu_62 ks_62 ?_ | refine AWp_regE mu_62 ks_62 ?_); intro Kv hKv) | refine AWp_retR ?_) | refine letter_A _ _ _ ?_); try simp (dsimp := false) only [go_sem, Nat.reduceAdd, Nat.reduceBEq, Nat.reduceEqDiff, Nat.reduceLT, Nat.reduceLeDiff, Nat.reduceMul, Int.reduceToNat, reduceCtorEq, ↓reduceIte, Tryd.ntmps62, Tryd.results62, ks_62, mu_62, ti_hb72, ti_st9]) | (refine AWp_condC rfl ?_; intro KA KB hKA hKB; try simp only [onB_true, onB_false, onB_dec, onB_ndec, onB_not, onB_and, onB_or]) | (refine AWp_condA rfl ?_ ?_) | with_reducible (first | refine onB_of ?_ ?_ | rfl) | omega)
  all_goals try have hc := ‹l[((i : Int)).toNat]? = some _›
  all_goals try rw [Int.toNat_natCast] at hc
  all_goals try have hst := nameAll_step hc
  all_goals try (refine ⟨i + 1, ⟨by omega, ?_⟩, by omega, by omega⟩)
  all_goals try refine keepD hk ?_
  all_goals try simp only [V.d.injEq, D.i.injEq, true_and, nameFault, if_pos h3]
  all_goals rw [hall]
  all_goals try rw [hst]
  all_goals first
    | (have : i = l.length := by omega
       subst this; simp [nameAll])
    | grind [nameB]
/- the live slots of pleacher/pleacherref.NameFault -/
def ks_63 : Nat → List Nat
  | 0 => [0]
  | 1 => [0, 7]
  | 2 => [2]
  | 3 => [0, 3]
  | 4 => [0, 3, 11]
  | 5 => [0, 3]
  | 6 => [0, 3, 20]
  | 7 => [2]
  | 8 => [2]
  | _ => []
def mu_63 : List Nat := []
def in_63 : List Nat := [0]
theorem nameFault_A (l : List UInt8) (hlen : l.length ≤ 9223372036854775807) (H : Heap) (K : V → Heap → Prop) (hk : K (.d (.i .i64 (nameFault l))) H) : ACalls Tryd.prog 63 [.d (.s l)] H K := by
  refine ACalls_of Tryd.func63 rfl in_63 (Nat.le_of_ble_eq_true rfl) ?_
  intro F hF
  simp (dsimp := false) only [go_sem, Nat.reduceAdd, Nat.reduceBEq, Nat.reduceEqDiff, Nat.reduceLT, Nat.reduceLeDiff, Nat.reduceMul, Int.reduceToNat, reduceCtorEq, ↓reduceIte, Tryd.ntmps63, Tryd.results63, ks_63, mu_63, ti_hb36, ti_hb73, ti_st9, in_63] at hF
  subst hF
  repeat' (first | with_reducible (first | refine And.intro ?_ ?_ | intro _ | refine AWp_seq ?_ | refine AWp_block ?_ | (refine hKv _ _ (AWp_nop ?_); clear hKv Kv) | (refine hKA ?_; clear hKA hKB KA KB) | (refine hKB ?_; clear hKA hKB KA KB) | refine AWp_skipN ?_ | refine AWp_exitO (by repeat (first | exact Out.hit | apply Out.thenA | apply Out.out rfl)) ?_) | ((first | with_reducible (first | (refine hKv _ _ ?_; clear hKv Kv) | ((first | refine AWp_regC mu_63 ks_63 ?_ | refine AWp_regE mu_63 ks_63 ?_); intro Kv hKv) | refine AWp_retR ?_) | refine in_A _ _ _ _ _ ?_); try simp (dsimp := false) only [go_sem, Nat.reduceAdd, Nat.reduceBEq, Nat.reduceEqDiff, Nat.reduceLT, Nat.reduceLeDiff, Nat.reduceMul, Int.reduceToNat, reduceCtorEq, ↓reduceIte, Tryd.ntmps63, Tryd.results63, ks_63, mu_63, ti_hb36, ti_hb73, ti_st9]) | (refine AWp_condC rfl ?_; intro KA KB hKA hKB; try simp only [onB_true, onB_false, onB_dec, onB_ndec, onB_not, onB_and, onB_or]) | (refine AWp_condA rfl ?_ ?_) | with_reducible (first | refine onB_of ?_ ?_ | rfl) | omega)
  rotate_left
  · rename_i h
    exact keepD hk (by simp_all [nameFault]; omega)
  rename_i h
  have h3 : 1 ≤ l.length ∧ l.length ≤ 20 := by omega
  refine AWp_while0 (fun i : Nat => i ≤ l.length ∧ nameAll l true = nameAll (l.drop i) (decide (i = 0))) (fun i => [(0, .d (.s l)), (3, .d (.i .i64 i))]) (fun i => l.length - i) 0 ?_ ?_ ?_
  · simp
  · simp (dsimp := false) only [go_sem, Nat.reduceAdd, Nat.reduceBEq, Nat.reduceEqDiff, Nat.reduceLT, Nat.reduceLeDiff, Nat.reduceMul, Int.reduceToNat, reduceCtorEq, ↓reduceIte, Tryd.ntmps63, Tryd.results63, ks_63, mu_63, ti_hb36, ti_hb73, ti_st9]
    omega
  rintro i ⟨hi, hall⟩
  repeat' (first | with_reducible (first | refine And.intro ?_ ?_ | intro _ | refine AWp_seq ?_ | refine AWp_block ?_ | (refine hKv _ _ (AWp_nop ?_); clear hKv Kv) | (refine hKA ?_; clear hKA hKB KA KB) | (refine hKB ?_; clear hKA hKB KA KB) | refine AWp_skipN ?_ | refine AWp_exitO (by repeat (first | exact Out.hit | apply Out.thenA | apply Out.out rfl)) ?_) | ((first | with_reducible (first | (refine hKv _ _ ?_; clear hKv Kv) | ((first | refine AWp_regC mu_63 ks_63 ?_ | refine AWp_regE mu_63 ks_63 ?_); intro Kv hKv) | refine AWp_retR ?_) | refine nameByte_A _ _ _ _ ?_); try simp (dsimp := false) only [go_sem, Nat.reduceAdd, Nat.reduceBEq, Nat.reduceEqDiff, Nat.reduceLT, Nat.reduceLeDiff, Nat.reduceMul, Int.reduceToNat, reduceCtorEq, ↓reduceIte, Tryd.ntmps63, Tryd.results63, ks_63, mu_63, ti_hb36, ti_hb73, ti_st9]) | (refine AWp_condC rfl ?_; intro KA KB hKA hKB; try simp only [onB_true, onB_false, onB_dec, onB_ndec, onB_not, onB_and, onB_or]) | (refine AWp_condA rfl ?_ ?_) | with_reducible (first | refine onB_of ?_ ?_ | rfl) | omega)
  all_goals try have hc := ‹l[((i : Int)).toNat]? = some _›
  all_goals try rw [Int.toNat_natCast] at hc
  all_goals try have hst := nameAll_step hc
  all_goals try (refine ⟨i + 1, ⟨by omega, ?_⟩, by omega, by omega⟩)
  all_goals try refine keepD hk ?_
  all_goals try simp only [V.d.injEq, D.i.injEq, true_and, nameFault, if_pos h3]
  all_goals rw [hall]
  all_goals try rw [hst]
  all_goals first
    | (have : i = l.length := by omega
       subst this; simp [nameAll])
    | grind [nameB]
end Go.Proofs.YtmalccaijjcepaaDoor
