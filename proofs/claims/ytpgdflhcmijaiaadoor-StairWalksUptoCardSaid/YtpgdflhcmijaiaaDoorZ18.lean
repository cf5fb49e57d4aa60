/- Names: what the reference and the program check of them. No condition. -/
import Derived.Test.YtpgdflhcmijaiaaDoorZ17
import Derived.Ground.NamesProg
import Derived.Shelf.Small.Strs
import Derived.Shelf.Strings.Search1
import Derived.Shelf.Unicode.ValidAny
import Derived.Shelf.Strings.Builder1
import Derived.Test.YtpgdflhcmijaiaaDoorProg
import Derived.Test.YtpgdflhcmijaiaaDoorZ16
import Derived.Lib.LaidU8T
set_option linter.all false
set_option linter.unusedSimpArgs false
set_option linter.unusedVariables false
namespace Go.Proofs.YtpgdflhcmijaiaaDoor
open Go Go.Proofs.YtpgdflhcmijaiaaDoor.Ab
variable [Glo]
set_option maxHeartbeats 1000000
set_option maxRecDepth 20000
def letterB (c : Int) : Bool := decide ((97 ≤ c ∧ c ≤ 122) ∨ (65 ≤ c ∧ c ≤ 90) ∨ c = 95)
def ks_114 : Nat → List Nat
  | 0 => [0]
  | 1 => [2]
  | _ => []
def mu_114 : List Nat := []
def in_114 : List Nat := [0]
theorem letter_A (c : Int) (H : Heap) (K : V → Heap → Prop) (hk : K (.d (.b (letterB c))) H) : ACalls Tryd.prog 114 [.d (.i .u8 c)] H K := by
  refine ACalls_of Tryd.func114 rfl in_114 (Nat.le_of_ble_eq_true rfl) ?_
  intro F hF
  simp (dsimp := false) only [go_sem, Nat.reduceAdd, Nat.reduceBEq, Nat.reduceEqDiff, Nat.reduceLT, Nat.reduceLeDiff, Nat.reduceMul, Int.reduceToNat, reduceCtorEq, ↓reduceIte, Tryd.ntmps114, Tryd.results114, ks_114, mu_114, in_114] at hF
  subst hF
  repeat' (first | with_reducible (first | refine And.intro ?_ ?_ | intro _ | refine AWp_seq ?_ | refine AWp_block ?_ | (refine hKv _ _ (AWp_nop ?_); clear hKv Kv) | (refine hKA ?_; clear hKA hKB KA KB) | (refine hKB ?_; clear hKA hKB KA KB) | refine AWp_skipN ?_ | refine AWp_exitO (by repeat (first | exact Out.hit | apply Out.thenA | apply Out.out rfl)) ?_) | (with_reducible (first | (refine hKv _ _ ?_; clear hKv Kv) | ((first | refine AWp_regC mu_114 ks_114 ?_ | refine AWp_regE mu_114 ks_114 ?_); intro Kv hKv) | refine AWp_retR ?_); try simp (dsimp := false) only [go_sem, Nat.reduceAdd, Nat.reduceBEq, Nat.reduceEqDiff, Nat.reduceLT, Nat.reduceLeDiff, Nat.reduceMul, Int.reduceToNat, reduceCtorEq, ↓reduceIte, Tryd.ntmps114, Tryd.results114, ks_114, mu_114]) | (refine AWp_condC rfl ?_; intro KA KB hKA hKB; try simp only [onB_true, onB_false, onB_dec, onB_ndec, onB_not, onB_and, onB_or]) | (refine AWp_condA rfl ?_ ?_) | with_reducible (first | refine onB_of ?_ ?_ | rfl) | omega)
  all_goals refine keepD hk ?_
  all_goals (simp only [letterB, V.d.injEq, D.b.injEq]; grind)
def nameB (c : Int) (first : Bool) : Bool := letterB c || (!first && decide ((48 ≤ c ∧ c ≤ 57) ∨ c = 45 ∨ c = 46))
def ks_120 : Nat → List Nat
  | 0 => [0, 1]
  | 1 => [0, 1, 22]
  | 2 => [4]
  | 3 => [4]
  | _ => []
def mu_120 : List Nat := []
def in_120 : List Nat := [0, 1]
theorem nameByte_A (c : Int) (t : Bool) (H : Heap) (K : V → Heap → Prop) (hk : K (.d (.b (nameB c t))) H) : ACalls Tryd.prog 120 [.d (.i .u8 c), .d (.b t)] H K := by
  refine ACalls_of Tryd.func120 rfl in_120 (Nat.le_of_ble_eq_true rfl) ?_
  intro F hF
  simp (dsimp := false) only [go_sem, Nat.reduceAdd, Nat.reduceBEq, Nat.reduceEqDiff, Nat.reduceLT, Nat.reduceLeDiff, Nat.reduceMul, Int.reduceToNat, reduceCtorEq, ↓reduceIte, Tryd.ntmps120, Tryd.results120, ks_120, mu_120, in_120] at hF
  subst hF
  repeat' (first | with_reducible (first | refine And.intro ?_ ?_ | intro _ | refine AWp_seq ?_ | refine AWp_block ?_ | (refine hKv _ _ (AWp_nop ?_); clear hKv Kv) | (refine hKA ?_; clear hKA hKB KA KB) | (refine hKB ?_; clear hKA hKB KA KB) | refine AWp_skipN ?_ | refine AWp_exitO (by repeat (first | exact Out.hit | apply Out.thenA | apply Out.out rfl)) ?_) | (with_reducible (first | (refine hKv _ _ ?_; clear hKv Kv) | ((first | refine AWp_regC mu_120 ks_120 ?_ | refine AWp_regE mu_120 ks_120 ?_); intro Kv hKv) | refine AWp_retR ?_); try simp (dsimp := false) only [go_sem, Nat.reduceAdd, Nat.reduceBEq, Nat.reduceEqDiff, Nat.reduceLT, Nat.reduceLeDiff, Nat.reduceMul, Int.reduceToNat, reduceCtorEq, ↓reduceIte, Tryd.ntmps120, Tryd.results120, ks_120, mu_120]) | (refine AWp_condC rfl ?_; intro KA KB hKA hKB; try simp only [onB_true, onB_false, onB_dec, onB_ndec, onB_not, onB_and, onB_or]) | (refine AWp_condA rfl ?_ ?_) | with_reducible (first | refine onB_of ?_ ?_ | rfl) | omega)
  all_goals refine keepD hk ?_
  all_goals cases t
  all_goals (simp only [nameB, letterB, V.d.injEq, D.b.injEq]; grind)
def nameAll : List UInt8 → Bool → Bool
  | [], _ => true
  | c :: r, first => nameB c.toNat first && nameAll r false
def nameFault (l : List UInt8) : Int := if 1 ≤ l.length ∧ l.length ≤ 20 then (if nameAll l true = true then 0 else 10) else 1
theorem nameAll_step {l : List UInt8} {i : Nat} {c : UInt8} (hc : l[i]? = some c) : nameAll (l.drop i) (decide (i = 0)) = (nameB c.toNat (decide (i = 0)) && nameAll (l.drop (i + 1)) (decide (i + 1 = 0))) := by
  have hi : i < l.length := (List.getElem?_eq_some_iff.1 hc).1
  have : l.drop i = c :: l.drop (i + 1) := by
    rw [List.drop_eq_getElem_cons hi]
    rw [List.getElem?_eq_getElem hi] at hc
    rw [Option.some.inj hc]
  rw [this, nameAll]
  simp
def ks_93 : Nat → List Nat
  | 0 => [0]
  | 1 => [0, 11]
  | 2 => [2]
  | 3 => [0, 13, 14]
  | 4 => [0, 13, 14, 15]
  | 5 => [0, 3, 13, 14]
  | 6 => [0, 3, 4, 13, 14]
  | 7 => [0, 13, 14, 42]
  | 8 => [2]
  | 9 => [0, 13, 14]
  | 10 => [2]
  | _ => []
def mu_93 : List Nat := []
def in_93 : List Nat := [0]
theorem checkName_A (l : List UInt8) (hlen : l.length ≤ 9223372036854775807) (H : Heap) (K : V → Heap → Prop) (hk : K (.d (.i .i64 (nameFault l))) H) : ACalls Tryd.prog 93 [.d (.s l)] H K := by
  refine ACalls_of Tryd.func93 rfl in_93 (Nat.le_of_ble_eq_true rfl) ?_
  intro F hF
  simp (dsimp := false) only [go_sem, Nat.reduceAdd, Nat.reduceBEq, Nat.reduceEqDiff, Nat.reduceLT, Nat.reduceLeDiff, Nat.reduceMul, Int.reduceToNat, reduceCtorEq, ↓reduceIte, Tryd.ntmps93, Tryd.results93, ks_93, mu_93, ti_hb114, ti_st9, in_93] at hF
  subst hF
  repeat' (first | with_reducible (first | refine And.intro ?_ ?_ | intro _ | refine AWp_seq ?_ | refine AWp_block ?_ | (refine hKv _ _ (AWp_nop ?_); clear hKv Kv) | (refine hKA ?_; clear hKA hKB KA KB) | (refine hKB ?_; clear hKA hKB KA KB) | refine AWp_skipN ?_ | refine AWp_exitO (by repeat (first | exact Out.hit | apply Out.thenA | apply Out.out rfl)) ?_) | (with_reducible (first | (refine hKv _ _ ?_; clear hKv Kv) | ((first | refine AWp_regC mu_93 ks_93 ?_ | refine AWp_regE mu_93 ks_93 ?_); intro Kv hKv) | refine AWp_retR ?_); try simp (dsimp := false) only [go_sem, Nat.reduceAdd, Nat.reduceBEq, Nat.reduceEqDiff, Nat.reduceLT, Nat.reduceLeDiff, Nat.reduceMul, Int.reduceToNat, reduceCtorEq, ↓reduceIte, Tryd.ntmps93, Tryd.results93, ks_93, mu_93, ti_hb114, ti_st9]) | (refine AWp_condC rfl ?_; intro KA KB hKA hKB; try simp only [onB_true, onB_false, onB_dec, onB_ndec, onB_not, onB_and, onB_or]) | (refine AWp_condA rfl ?_ ?_) | with_reducible (first | refine onB_of ?_ ?_ | rfl) | omega)
  · exact keepD hk (by simp_all [nameFault])
  · exact keepD hk (by simp_all [nameFault]; omega)
  rename_i h1 h2
  have h3 : 1 ≤ l.length ∧ l.length ≤ 20 := by cases l <;> simp_all; omega
  refine AWp_while0 (fun i : Nat => i ≤ l.length ∧ nameAll l true = nameAll (l.drop i) (decide (i = 0))) (fun i => [(0, .d (.s l)), (13, .d (.i .i64 l.length)), (14, .d (.i .i64 i))]) (fun i => l.length - i) 0 ?_ ?_ ?_
  · simp
  · simp (dsimp := false) only [go_sem, Nat.reduceAdd, Nat.reduceBEq, Nat.reduceEqDiff, Nat.reduceLT, Nat.reduceLeDiff, Nat.reduceMul, Int.reduceToNat, reduceCtorEq, ↓reduceIte, Tryd.ntmps93, Tryd.results93, ks_93, mu_93, ti_hb114, ti_st9]
    omega
  rintro i ⟨hi, hall⟩
  repeat' (first | with_reducible (first | refine And.intro ?_ ?_ | intro _ | refine AWp_seq ?_ | refine AWp_block ?_ | (refine hKv _ _ (AWp_nop ?_); clear hKv Kv) | (refine hKA ?_; clear hKA hKB KA KB) | (refine hKB ?_; clear hKA hKB KA KB) | refine AWp_skipN ?_ | refine AWp_exitO (by repeat (first | exact Out.hit | apply Out.thenA | apply Out.out rfl)) ?_) | ((first | with_reducible (first | (refine hKv _ _ ?_; clear hKv Kv) | ((first | refine AWp_regC mu_93 ks_93 ?_ | refine AWp_regE mu_93 ks_93 ?_); intro Kv hKv) | refine AWp_retR ?_) | refine letter_A _ _ _ ?_); try simp (dsimp := false) only [go_sem, Nat.reduceAdd, Nat.reduceBEq, Nat.reduceEqDiff, Nat.reduceLT, Nat.reduceLeDiff, Nat.reduceMul, Int.reduceToNat, reduceCtorEq, ↓reduceIte, Tryd.ntmps93, Tryd.results93, ks_93, mu_93, ti_hb114, ti_st9]) | (refine AWp_condC rfl ?_; intro KA KB hKA hKB; try simp only [onB_true, onB_false, onB_dec, onB_ndec, onB_not, onB_and, onB_or]) | (refine AWp_condA rfl ?_ ?_) | with_reducible (first | refine onB_of ?_ ?_ | rfl) | omega)
  all_goals try have hc := ‹l[((i : Int)).toNat]? = some _›
  all_goals try rw [Int.toNat_natCast] at hc
  all_goals try have hst := nameAll_step hc
  all_goals try (refine ⟨i + 1, ⟨by omega, ?_⟩, by omega, by omega⟩)
  all_goals try refine keepD hk ?_
  all_goals try simp only [V.d.injEq, D.i.injEq, true_and, nameFault, if_pos h3]
  all_goals rw [hall]
  all_goals try rw [hst]
  all_goals first
    | (have : i = l.length := by omega
       subst this; simp [nameAll])
    | grind [nameB]
def ks_105 : Nat → List Nat
  | 0 => [0]
  | 1 => [0, 7]
  | 2 => [2]
  | 3 => [0, 3]
  | 4 => [0, 3, 11]
  | 5 => [0, 3]
  | 6 => [0, 3, 20]
  | 7 => [2]
  | 8 => [2]
  | _ => []
def mu_105 : List Nat := []
def in_105 : List Nat := [0]
theorem nameFault_A (l : List UInt8) (hlen : l.length ≤ 9223372036854775807) (H : Heap) (K : V → Heap → Prop) (hk : K (.d (.i .i64 (nameFault l))) H) : ACalls Tryd.prog 105 [.d (.s l)] H K := by
  refine ACalls_of Tryd.func105 rfl in_105 (Nat.le_of_ble_eq_true rfl) ?_
  intro F hF
  simp (dsimp := false) only [go_sem, Nat.reduceAdd, Nat.reduceBEq, Nat.reduceEqDiff, Nat.reduceLT, Nat.reduceLeDiff, Nat.reduceMul, Int.reduceToNat, reduceCtorEq, ↓reduceIte, Tryd.ntmps105, Tryd.results105, ks_105, mu_105, ti_hb55, ti_hb120, ti_st9, in_105] at hF
  subst hF
  repeat' (first | with_reducible (first | refine And.intro ?_ ?_ | intro _ | refine AWp_seq ?_ | refine AWp_block ?_ | (refine hKv _ _ (AWp_nop ?_); clear hKv Kv) | (refine hKA ?_; clear hKA hKB KA KB) | (refine hKB ?_; clear hKA hKB KA KB) | refine AWp_skipN ?_ | refine AWp_exitO (by repeat (first | exact Out.hit | apply Out.thenA | apply Out.out rfl)) ?_) | ((first | with_reducible (first | (refine hKv _ _ ?_; clear hKv Kv) | ((first | refine AWp_regC mu_105 ks_105 ?_ | refine AWp_regE mu_105 ks_105 ?_); intro Kv hKv) | refine AWp_retR ?_) | refine in_A _ _ _ _ _ ?_); try simp (dsimp := false) only [go_sem, Nat.reduceAdd, Nat.reduceBEq, Nat.reduceEqDiff, Nat.reduceLT, Nat.reduceLeDiff, Nat.reduceMul, Int.reduceToNat, reduceCtorEq, ↓reduceIte, Tryd.ntmps105, Tryd.results105, ks_105, mu_105, ti_hb55, ti_hb120, ti_st9]) | (refine AWp_condC rfl ?_; intro KA KB hKA hKB; try simp only [onB_true, onB_false, onB_dec, onB_ndec, onB_not, onB_and, onB_or]) | (refine AWp_condA rfl ?_ ?_) | with_reducible (first | refine onB_of ?_ ?_ | rfl) | omega)
  rotate_left
  · rename_i h
    exact keepD hk (by simp_all [nameFault]; omega)
  rename_i h
  have h3 : 1 ≤ l.length ∧ l.length ≤ 20 := by omega
  refine AWp_while0 (fun i : Nat => i ≤ l.length ∧ nameAll l true = nameAll (l.drop i) (decide (i = 0))) (fun i => [(0, .d (.s l)), (3, .d (.i .i64 i))]) (fun i => l.length - i) 0 ?_ ?_ ?_
  · simp
  · simp (dsimp := false) only [go_sem, Nat.reduceAdd, Nat.reduceBEq, Nat.reduceEqDiff, Nat.reduceLT, Nat.reduceLeDiff, Nat.reduceMul, Int.reduceToNat, reduceCtorEq, ↓reduceIte, Tryd.ntmps105, Tryd.results105, ks_105, mu_105, ti_hb55, ti_hb120, ti_st9]
    omega
  rintro i ⟨hi, hall⟩
  repeat' (first | with_reducible (first | refine And.intro ?_ ?_ | intro _ | refine AWp_seq ?_ | refine AWp_block ?_ | (refine hKv _ _ (AWp_nop ?_); clear hKv Kv) | (refine hKA ?_; clear hKA hKB KA KB) | (refine hKB ?_; clear hKA hKB KA KB) | refine AWp_skipN ?_ | refine AWp_exitO (by repeat (first | exact Out.hit | apply Out.thenA | apply Out.out rfl)) ?_) | ((first | with_reducible (first | (refine hKv _ _ ?_; clear hKv Kv) | ((first | refine AWp_regC mu_105 ks_105 ?_ | refine AWp_regE mu_105 ks_105 ?_); intro Kv hKv) | refine AWp_retR ?_) | refine nameByte_A _ _ _ _ ?_); try simp (dsimp := false) only [go_sem, Nat.reduceAdd, Nat.reduceBEq, Nat.reduceEqDiff, Nat.reduceLT, Nat.reduceLeDiff, Nat.reduceMul, Int.reduceToNat, reduceCtorEq, ↓reduceIte, Tryd.ntmps105, Tryd.results105, ks_105, mu_105, ti_hb55, ti_hb120, ti_st9]) | (refine AWp_condC rfl ?_; intro KA KB hKA hKB; try simp only [onB_true, onB_false, onB_dec, onB_ndec, onB_not, onB_and, onB_or]) | (refine AWp_condA rfl ?_ ?_) | with_reducible (first | refine onB_of ?_ ?_ | rfl) | omega)
  all_goals try have hc := ‹l[((i : Int)).toNat]? = some _›
  all_goals try rw [Int.toNat_natCast] at hc
  all_goals try have hst := nameAll_step hc
  all_goals try (refine ⟨i + 1, ⟨by omega, ?_⟩, by omega, by omega⟩)
  all_goals try refine keepD hk ?_
  all_goals try simp only [V.d.injEq, D.i.injEq, true_and, nameFault, if_pos h3]
  all_goals rw [hall]
  all_goals try rw [hst]
  all_goals first
    | (have : i = l.length := by omega
       subst this; simp [nameAll])
    | grind [nameB]
end Go.Proofs.YtpgdflhcmijaiaaDoor
namespace Go.Proofs
open Go.Shelf
def Tryd.laysValid_ren : Go.Shelf.Ren := ⟨fun | 196 => 108 | 259 => 121 | n => n, fun | 9 => 9 | 4 => 4 | 3 => 3 | 5 => 5 | 12 => 12 | 119 => 149 | 0 => 0 | 46 => 106 | 139 => 152 | 138 => 151 | 53 => 134 | n => n, fun | 3 => 0 | 4 => 1 | n => n⟩
theorem Tryd.laysValid : Go.Proofs.Lays.n196 Tryd.prog Tryd.laysValid_ren := {
  mixed := by kernel_rfl
  f196 := Tryd.func108.trans (congrArg some (by kernel_rfl))
  f259 := Tryd.func121.trans (congrArg some (by kernel_rfl))
  t0 := Tryd.underlying0
  a0 := Tryd.isAgg0
  z0 := Tryd.sizeOf0
  v0 := Tryd.zeroValue0
  t3 := Tryd.underlying3
  a3 := Tryd.isAgg3
  z3 := Tryd.sizeOf3
  v3 := Tryd.zeroValue3
  t4 := Tryd.underlying4
  a4 := Tryd.isAgg4
  z4 := Tryd.sizeOf4
  v4 := Tryd.zeroValue4
  t5 := Tryd.underlying5
  a5 := Tryd.isAgg5
  z5 := Tryd.sizeOf5
  v5 := Tryd.zeroValue5
  t9 := Tryd.underlying9
  a9 := Tryd.isAgg9
  z9 := Tryd.sizeOf9
  v9 := Tryd.zeroValue9
  t12 := Tryd.underlying12
  a12 := Tryd.isAgg12
  z12 := Tryd.sizeOf12
  v12 := Tryd.zeroValue12
  t46 := Tryd.underlying106
  a46 := Tryd.isAgg106
  z46 := Tryd.sizeOf106
  v46 := Tryd.zeroValue106
  t53 := Tryd.underlying134
  a53 := Tryd.isAgg134
  z53 := Tryd.sizeOf134
  v53 := Tryd.zeroValue134
  t119 := Tryd.underlying149
  a119 := Tryd.isAgg149
  z119 := Tryd.sizeOf149
  t138 := Tryd.underlying151
  a138 := Tryd.isAgg151
  z138 := Tryd.sizeOf151
  v138 := Tryd.zeroValue151
  t139 := Tryd.underlying152
  a139 := Tryd.isAgg152
  z139 := Tryd.sizeOf152
  v139 := Tryd.zeroValue152
  g3 := by kernel_rfl
  g4 := by kernel_rfl }
end Go.Proofs
namespace Go.Proofs.YtpgdflhcmijaiaaDoor
open Go Go.Proofs.YtpgdflhcmijaiaaDoor.Ab
variable [Glo]
def firstRow : List D := Lib.firstTab.map fun z => .i .u8 z
def acceptRow : List D := (List.range 16).flatMap fun i => [.i .u8 (Lib.accLo i), .i .u8 (Lib.accHi i)]
class U8 [Glo] : Prop where
  first : glob 0 = some firstRow
  accept : glob 1 = some acceptRow
theorem firstRow_get (c : Nat) (hc : c < 256) : firstRow[c]? = some (.i .u8 (Lib.firstT c)) := by
  simp [firstRow, Lib.firstTab, hc]
theorem acceptRow_get (i : Nat) (hi : i < 16) : acceptRow[2 * i]? = some (.i .u8 (Lib.accLo i)) ∧ acceptRow[2 * i + 1]? = some (.i .u8 (Lib.accHi i)) := by
  match i, hi with
  | 0, _ | 1, _ | 2, _ | 3, _ | 4, _ | 5, _ | 6, _ | 7, _ | 8, _ | 9, _ | 10, _ | 11, _ | 12, _ | 13, _ | 14, _ | 15, _ => exact ⟨rfl, rfl⟩
  | n + 16, h => exact absurd h (by omega)
theorem tabs_of [U8] {w : World} {H : Heap} {σ : Conc} (hw : WOk w H σ) : Lib.Utf8Tabs 0 1 w := by
  obtain ⟨_, _, f, f1, f2⟩ := hw.glob _ _ U8.first
  obtain ⟨_, _, a, a1, a2⟩ := hw.glob _ _ U8.accept
  refine ⟨fun c hc => ?_, fun i hi => ⟨?_, ?_⟩⟩
  · rw [f1 c _ (firstRow_get c hc), (f2 c _ (firstRow_get c hc)).inv_i]
  · rw [a1 _ _ (acceptRow_get i hi).1, (a2 _ _ (acceptRow_get i hi).1).inv_i]
  · rw [a1 _ _ (acceptRow_get i hi).2, (a2 _ _ (acceptRow_get i hi).2).inv_i]
theorem valid_A [U8] (l : List UInt8) (hl : l.length ≤ 9223372036854775807) (H : Heap) (K : V → Heap → Prop) (hk : K (.d (.b (Lib.validD l))) H) : ACalls Tryd.prog 108 [.d (.s l)] H K := by
  refine ACalls_below _ hk fun w σ args hw hlen hr => ?_
  obtain ⟨u, rfl⟩ := Array.size_eq_one_iff.1 (by simpa using hlen.symm)
  obtain rfl := (hr 0 _ u rfl rfl).inv_d.inv_s
  refine ⟨.bool (Lib.validD l), fun w' _ => .d _ _ (.b _), ?_⟩
  have := Any.utf8_ValidString Tryd.laysValid ⟨l.toArray⟩ w (by rw [size_mk]; exact hl) (tabs_of hw)
  have e : (⟨l.toArray⟩ : ByteArray).data.toList = l := by simp
  rw [e] at this
  exact this
end Go.Proofs.YtpgdflhcmijaiaaDoor
namespace Go.Proofs.YtpgdflhcmijaiaaDoor
open Go Go.Proofs.YtpgdflhcmijaiaaDoor.Ab
variable [Glo] [U8]
set_option maxHeartbeats 1000000
set_option maxRecDepth 20000
def okByte (c : Int) : Bool := decide (32 ≤ c ∨ c = 9 ∨ c = 10)
def okBytes (l : List UInt8) : Bool := l.all fun c => okByte c.toNat
def textFault (l : List UInt8) : Int := if l.length ≤ 20000 then (if (Lib.validD l && okBytes l) = true then 0 else 4) else 1
theorem okBytes_drop {l : List UInt8} {i : Nat} {c : UInt8} (h : l[i]? = some c) : okBytes (l.drop i) = (okByte c.toNat && okBytes (l.drop (i + 1))) := all_drop _ h
def ks_83 : Nat → List Nat
  | 0 => [0]
  | 1 => [0, 6]
  | 2 => [2]
  | 3 => [0, 9]
  | 4 => [2]
  | 5 => [0, 11, 12]
  | 6 => [0, 11, 12, 13]
  | 7 => [0, 3, 11, 12]
  | 8 => [0, 11, 12, 30]
  | 9 => [2]
  | 10 => [0, 11, 12]
  | 11 => [2]
  | _ => []
def mu_83 : List Nat := []
def in_83 : List Nat := [0]
theorem checkText_A (l : List UInt8) (hlen : l.length ≤ 9223372036854775807) (H : Heap) (K : V → Heap → Prop) (hk : K (.d (.i .i64 (textFault l))) H) : ACalls Tryd.prog 83 [.d (.s l)] H K := by
  refine ACalls_of Tryd.func83 rfl in_83 (Nat.le_of_ble_eq_true rfl) ?_
  intro F hF
  simp (dsimp := false) only [go_sem, Nat.reduceAdd, Nat.reduceBEq, Nat.reduceEqDiff, Nat.reduceLT, Nat.reduceLeDiff, Nat.reduceMul, Int.reduceToNat, reduceCtorEq, ↓reduceIte, Tryd.ntmps83, Tryd.results83, ks_83, mu_83, ti_hb108, ti_st9, in_83] at hF
  subst hF
  repeat' (first | with_reducible (first | refine And.intro ?_ ?_ | intro _ | refine AWp_seq ?_ | refine AWp_block ?_ | (refine hKv _ _ (AWp_nop ?_); clear hKv Kv) | (refine hKA ?_; clear hKA hKB KA KB) | (refine hKB ?_; clear hKA hKB KA KB) | refine AWp_skipN ?_ | refine AWp_exitO (by repeat (first | exact Out.hit | apply Out.thenA | apply Out.out rfl)) ?_) | ((first | with_reducible (first | (refine hKv _ _ ?_; clear hKv Kv) | ((first | refine AWp_regC mu_83 ks_83 ?_ | refine AWp_regE mu_83 ks_83 ?_); intro Kv hKv) | refine AWp_retR ?_) | refine valid_A _ hlen _ _ ?_); try simp (dsimp := false) only [go_sem, Nat.reduceAdd, Nat.reduceBEq, Nat.reduceEqDiff, Nat.reduceLT, Nat.reduceLeDiff, Nat.reduceMul, Int.reduceToNat, reduceCtorEq, ↓reduceIte, Tryd.ntmps83, Tryd.results83, ks_83, mu_83, ti_hb108, ti_st9]) | (refine AWp_condC rfl ?_; intro KA KB hKA hKB; try simp only [onB_true, onB_false, onB_dec, onB_ndec, onB_not, onB_and, onB_or]) | (refine AWp_condA rfl ?_ ?_) | with_reducible (first | refine onB_of ?_ ?_ | rfl) | omega)
  all_goals try exact keepD hk (by (simp only [V.d.injEq, D.i.injEq, D.b.injEq, D.s.injEq, true_and]; grind [textFault]))
  rename_i h1 h2
  have h1 : l.length ≤ 20000 := by omega
  have h2 : Lib.validD l = true := by simpa using h2
  refine AWp_while0 (fun i : Nat => i ≤ l.length ∧ okBytes l = okBytes (l.drop i)) (fun i => [(0, .d (.s l)), (11, .d (.i .i64 l.length)), (12, .d (.i .i64 i))]) (fun i => l.length - i) 0 ?_ ?_ ?_
  · simp
  · simp (dsimp := false) only [go_sem, Nat.reduceAdd, Nat.reduceBEq, Nat.reduceEqDiff, Nat.reduceLT, Nat.reduceLeDiff, Nat.reduceMul, Int.reduceToNat, reduceCtorEq, ↓reduceIte, Tryd.ntmps83, Tryd.results83, ks_83, mu_83, ti_hb108, ti_st9]
    omega
  rintro i ⟨hi, hall⟩
  repeat' (first | with_reducible (first | refine And.intro ?_ ?_ | intro _ | refine AWp_seq ?_ | refine AWp_block ?_ | (refine hKv _ _ (AWp_nop ?_); clear hKv Kv) | (refine hKA ?_; clear hKA hKB KA KB) | (refine hKB ?_; clear hKA hKB KA KB) | refine AWp_skipN ?_ | refine AWp_exitO (by repeat (first | exact Out.hit | apply Out.thenA | apply Out.out rfl)) ?_) | (with_reducible (first | (refine hKv _ _ ?_; clear hKv Kv) | ((first | refine AWp_regC mu_83 ks_83 ?_ | refine AWp_regE mu_83 ks_83 ?_); intro Kv hKv) | refine AWp_retR ?_); try simp (dsimp := false) only [go_sem, Nat.reduceAdd, Nat.reduceBEq, Nat.reduceEqDiff, Nat.reduceLT, Nat.reduceLeDiff, Nat.reduceMul, Int.reduceToNat, reduceCtorEq, ↓reduceIte, Tryd.ntmps83, Tryd.results83, ks_83, mu_83, ti_hb108, ti_st9]) | (refine AWp_condC rfl ?_; intro KA KB hKA hKB; try simp only [onB_true, onB_false, onB_dec, onB_ndec, onB_not, onB_and, onB_or]) | (refine AWp_condA rfl ?_ ?_) | with_reducible (first | refine onB_of ?_ ?_ | rfl) | omega)
  all_goals try have hst := okBytes_drop ‹l[i]? = some _›
  all_goals try (refine ⟨i + 1, ⟨by omega, ?_⟩, by omega, by omega⟩)
  all_goals try refine keepD hk ?_
  all_goals try simp only [V.d.injEq, D.i.injEq, true_and, textFault, if_pos h1, h2]
  all_goals rw [hall]
  all_goals try rw [hst]
  all_goals first
    | (have : i = l.length := by omega
       subst this; simp [okBytes])
    | grind [okByte]
def ks_89 : Nat → List Nat
  | 0 => [0]
  | 1 => [0, 7]
  | 2 => [2]
  | 3 => [0, 3]
  | 4 => [0, 3, 4]
  | 5 => [0, 3, 4, 13]
  | 6 => [0, 3, 4]
  | 7 => [0, 3, 4]
  | 8 => [36]
  | 9 => [2]
  | 10 => [2]
  | _ => []
def mu_89 : List Nat := []
def in_89 : List Nat := [0]
theorem valueFault_A (l : List UInt8) (hlen : l.length ≤ 9223372036854775807) (H : Heap) (K : V → Heap → Prop) (hk : K (.d (.i .i64 (textFault l))) H) : ACalls Tryd.prog 89 [.d (.s l)] H K := by
  refine ACalls_of Tryd.func89 rfl in_89 (Nat.le_of_ble_eq_true rfl) ?_
  intro F hF
  simp (dsimp := false) only [go_sem, Nat.reduceAdd, Nat.reduceBEq, Nat.reduceEqDiff, Nat.reduceLT, Nat.reduceLeDiff, Nat.reduceMul, Int.reduceToNat, reduceCtorEq, ↓reduceIte, Tryd.ntmps89, Tryd.results89, ks_89, mu_89, ti_hb108, ti_st9, in_89] at hF
  subst hF
  repeat' (first | with_reducible (first | refine And.intro ?_ ?_ | intro _ | refine AWp_seq ?_ | refine AWp_block ?_ | (refine hKv _ _ (AWp_nop ?_); clear hKv Kv) | (refine hKA ?_; clear hKA hKB KA KB) | (refine hKB ?_; clear hKA hKB KA KB) | refine AWp_skipN ?_ | refine AWp_exitO (by repeat (first | exact Out.hit | apply Out.thenA | apply Out.out rfl)) ?_) | ((first | with_reducible (first | (refine hKv _ _ ?_; clear hKv Kv) | ((first | refine AWp_regC mu_89 ks_89 ?_ | refine AWp_regE mu_89 ks_89 ?_); intro Kv hKv) | refine AWp_retR ?_) | refine valid_A _ hlen _ _ ?_); try simp (dsimp := false) only [go_sem, Nat.reduceAdd, Nat.reduceBEq, Nat.reduceEqDiff, Nat.reduceLT, Nat.reduceLeDiff, Nat.reduceMul, Int.reduceToNat, reduceCtorEq, ↓reduceIte, Tryd.ntmps89, Tryd.results89, ks_89, mu_89, ti_hb108, ti_st9]) | (refine AWp_condC rfl ?_; intro KA KB hKA hKB; try simp only [onB_true, onB_false, onB_dec, onB_ndec, onB_not, onB_and, onB_or]) | (refine AWp_condA rfl ?_ ?_) | with_reducible (first | refine onB_of ?_ ?_ | rfl) | omega)
  all_goals try exact keepD hk (by (simp only [V.d.injEq, D.i.injEq, D.b.injEq, D.s.injEq, true_and]; grind [textFault]))
  rename_i h1
  have h1 : l.length ≤ 20000 := by omega
  refine AWp_while0 (fun x : Nat × Bool => x.1 ≤ l.length ∧ (Lib.validD l && okBytes l) = (x.2 && okBytes (l.drop x.1))) (fun x => [(0, .d (.s l)), (3, .d (.b x.2)), (4, .d (.i .i64 x.1))]) (fun x => l.length - x.1) (0, Lib.validD l) ?_ ?_ ?_
  · simp
  · simp (dsimp := false) only [go_sem, Nat.reduceAdd, Nat.reduceBEq, Nat.reduceEqDiff, Nat.reduceLT, Nat.reduceLeDiff, Nat.reduceMul, Int.reduceToNat, reduceCtorEq, ↓reduceIte, Tryd.ntmps89, Tryd.results89, ks_89, mu_89, ti_hb108, ti_st9]
    first | done | omega
  rintro ⟨i, ok⟩ ⟨hi, hall⟩
  simp only [] at hi hall
  repeat' (first | with_reducible (first | refine And.intro ?_ ?_ | intro _ | refine AWp_seq ?_ | refine AWp_block ?_ | (refine hKv _ _ (AWp_nop ?_); clear hKv Kv) | (refine hKA ?_; clear hKA hKB KA KB) | (refine hKB ?_; clear hKA hKB KA KB) | refine AWp_skipN ?_ | refine AWp_exitO (by repeat (first | exact Out.hit | apply Out.thenA | apply Out.out rfl)) ?_) | (with_reducible (first | (refine hKv _ _ ?_; clear hKv Kv) | ((first | refine AWp_regC mu_89 ks_89 ?_ | refine AWp_regE mu_89 ks_89 ?_); intro Kv hKv) | refine AWp_retR ?_); try simp (dsimp := false) only [go_sem, Nat.reduceAdd, Nat.reduceBEq, Nat.reduceEqDiff, Nat.reduceLT, Nat.reduceLeDiff, Nat.reduceMul, Int.reduceToNat, reduceCtorEq, ↓reduceIte, Tryd.ntmps89, Tryd.results89, ks_89, mu_89, ti_hb108, ti_st9]) | (refine AWp_condC rfl ?_; intro KA KB hKA hKB; try simp only [onB_true, onB_false, onB_dec, onB_ndec, onB_not, onB_and, onB_or]) | (refine AWp_condA rfl ?_ ?_) | with_reducible (first | refine onB_of ?_ ?_ | rfl) | omega)
  all_goals try have hst := okBytes_drop ‹l[i]? = some _›
  all_goals try (apply Exists.intro (i + 1, _); dsimp only; refine ⟨⟨by omega, ?_⟩, by omega, rfl, by omega⟩)
  all_goals try refine keepD hk ?_
  all_goals try simp only [V.d.injEq, D.i.injEq, true_and, textFault, if_pos h1]
  all_goals rw [hall]
  all_goals try rw [hst]
  all_goals first
    | grind [okByte]
    | (have : i = l.length := by omega
       subst this; simp_all [okBytes])
    | trace_state
end Go.Proofs.YtpgdflhcmijaiaaDoor
namespace Go.Proofs.YtpgdflhcmijaiaaDoor
open Go Go.Proofs.YtpgdflhcmijaiaaDoor.Ab
variable [Glo]
structure It where
  k : Int
  n : Int
  s : List UInt8
  deriving DecidableEq
def itD (x : It) : List D := [.i .i64 x.k, .i .i64 x.n, .s x.s]
def itV (x : It) : V := .ag [.d (.i .i64 x.k), .d (.i .i64 x.n), .d (.s x.s)]
structure Nd where
  k : Int
  nm : List UInt8
  vl : List UInt8
  sz : Int
  lv : Int
  up : Int
  deriving DecidableEq
def ndD (x : Nd) : List D := [.i .i64 x.k, .s x.nm, .s x.vl, .i .i64 x.sz, .i .i64 x.lv, .i .i64 x.up]
def ndV (x : Nd) : V := .ag [.d (.i .i64 x.k), .d (.s x.nm), .d (.s x.vl), .d (.i .i64 x.sz), .d (.i .i64 x.lv), .d (.i .i64 x.up)]
structure Ev where
  k : Int
  nm : List UInt8
  vl : List UInt8
  deriving DecidableEq
def evD (x : Ev) : List D := [.i .i64 x.k, .s x.nm, .s x.vl]
def evV (x : Ev) : V := .ag [.d (.i .i64 x.k), .d (.s x.nm), .d (.s x.vl)]
structure Tk where
  k : Int
  s : List UInt8
  n : Int
  deriving DecidableEq
def tkD (x : Tk) : List D := [.i .i64 x.k, .s x.s, .i .i64 x.n]
def tkV (x : Tk) : V := .ag [.d (.i .i64 x.k), .d (.s x.s), .d (.i .i64 x.n)]
abbrev tyIt : Ty := .cons (.i .i64) (.cons (.i .i64) (.cons .s .nil))
abbrev tyNd : Ty := .cons (.i .i64) (.cons .s (.cons .s (.cons (.i .i64) (.cons (.i .i64) (.cons (.i .i64) .nil)))))
abbrev tyEv : Ty := .cons (.i .i64) (.cons .s (.cons .s .nil))
abbrev tyTk : Ty := .cons (.i .i64) (.cons .s (.cons (.i .i64) .nil))
theorem inR_le {n : Int} (h : inR .i64 n) : -9223372036854775808 ≤ n ∧ n ≤ 9223372036854775807 := by rwa [inR_i64] at h
theorem typed_it {ds : List D} {m : Nat} (h : Typed tyIt ds m) : ∃ x : It, ds = itD x ∧ x.s.length + 3 ≤ m ∧ inR .i64 x.n ∧ inR .i64 x.k := by
  obtain ⟨_, _, _, _, rfl, e1, h1, g1⟩ := typed_cons h
  obtain ⟨_, _, _, _, rfl, e2, h2, g2⟩ := typed_cons g1
  obtain ⟨_, _, _, _, rfl, e3, h3, g3⟩ := typed_cons g2
  obtain ⟨a, rfl, ra, la⟩ := typed_i h1
  obtain ⟨b, rfl, rb, lb⟩ := typed_i h2
  obtain ⟨s, rfl, ls⟩ := typed_s h3
  obtain rfl := typed_nil g3
  exact ⟨⟨a, b, s⟩, rfl, by simp only []; omega, rb, ra⟩
theorem typed_nd {ds : List D} {m : Nat} (h : Typed tyNd ds m) : ∃ x : Nd, ds = ndD x ∧ x.nm.length + x.vl.length + 6 ≤ m ∧ inR .i64 x.k ∧ inR .i64 x.sz ∧ inR .i64 x.lv ∧ inR .i64 x.up := by
  obtain ⟨_, _, _, _, rfl, e1, h1, g1⟩ := typed_cons h
  obtain ⟨_, _, _, _, rfl, e2, h2, g2⟩ := typed_cons g1
  obtain ⟨_, _, _, _, rfl, e3, h3, g3⟩ := typed_cons g2
  obtain ⟨_, _, _, _, rfl, e4, h4, g4⟩ := typed_cons g3
  obtain ⟨_, _, _, _, rfl, e5, h5, g5⟩ := typed_cons g4
  obtain ⟨_, _, _, _, rfl, e6, h6, g6⟩ := typed_cons g5
  obtain ⟨a, rfl, ra, la⟩ := typed_i h1
  obtain ⟨b, rfl, lb⟩ := typed_s h2
  obtain ⟨c, rfl, lc⟩ := typed_s h3
  obtain ⟨d, rfl, rd, ld⟩ := typed_i h4
  obtain ⟨e, rfl, re, le⟩ := typed_i h5
  obtain ⟨f, rfl, rf, lf⟩ := typed_i h6
  obtain rfl := typed_nil g6
  exact ⟨⟨a, b, c, d, e, f⟩, rfl, by simp only []; omega, ra, rd, re, rf⟩
theorem typed_ev {ds : List D} {m : Nat} (h : Typed tyEv ds m) : ∃ x : Ev, ds = evD x ∧ x.nm.length + x.vl.length + 3 ≤ m ∧ inR .i64 x.k := by
  obtain ⟨_, _, _, _, rfl, e1, h1, g1⟩ := typed_cons h
  obtain ⟨_, _, _, _, rfl, e2, h2, g2⟩ := typed_cons g1
  obtain ⟨_, _, _, _, rfl, e3, h3, g3⟩ := typed_cons g2
  obtain ⟨a, rfl, ra, la⟩ := typed_i h1
  obtain ⟨b, rfl, lb⟩ := typed_s h2
  obtain ⟨s, rfl, ls⟩ := typed_s h3
  obtain rfl := typed_nil g3
  exact ⟨⟨a, b, s⟩, rfl, by simp only []; omega, ra⟩
theorem typed_tk {ds : List D} {m : Nat} (h : Typed tyTk ds m) : ∃ x : Tk, ds = tkD x ∧ x.s.length + 3 ≤ m ∧ inR .i64 x.k ∧ inR .i64 x.n := by
  obtain ⟨_, _, _, _, rfl, e1, h1, g1⟩ := typed_cons h
  obtain ⟨_, _, _, _, rfl, e2, h2, g2⟩ := typed_cons g1
  obtain ⟨_, _, _, _, rfl, e3, h3, g3⟩ := typed_cons g2
  obtain ⟨a, rfl, ra, la⟩ := typed_i h1
  obtain ⟨b, rfl, lb⟩ := typed_s h2
  obtain ⟨s, rfl, rs, ls⟩ := typed_i h3
  obtain rfl := typed_nil g3
  exact ⟨⟨a, b, s⟩, rfl, by simp only []; omega, ra, rs⟩
theorem typed_list {α : Type} {E : Ty} {f : α → List D} {p : α → Nat → Prop} (hE : ∀ ds m, Typed E ds m → ∃ x, ds = f x ∧ p x m) {ds : List D} {m : Nat} (h : Typed (.sl E) ds m) :
    ∃ (xs : List α) (ws : List Nat), ds = [.sl E.size (xs.map f)] ∧ ws.length = xs.length ∧ ws.sum + 1 ≤ m ∧ ∀ (i : Nat) (x : α) (w : Nat), xs[i]? = some x → ws[i]? = some w → p x w := by
  obtain ⟨rows, rfl, ws, h1, h2, h3⟩ := typed_sl h
  have : ∀ (rows : List (List D)) (ws : List Nat), ws.length = rows.length → (∀ (i : Nat) (row : List D) (w : Nat), rows[i]? = some row → ws[i]? = some w → Typed E row w) → ∃ xs : List α, rows = xs.map f ∧ ∀ (i : Nat) (x : α) (w : Nat), xs[i]? = some x → ws[i]? = some w → p x w := by
    intro rows
    induction rows with
    | nil => intro ws _ _; exact ⟨[], rfl, by simp⟩
    | cons r rows ih =>
      intro ws hl hw
      cases ws with
      | nil => simp at hl
      | cons w ws =>
        obtain ⟨x, rfl, hx⟩ := hE r w (hw 0 r w rfl rfl)
        obtain ⟨xs, rfl, hxs⟩ := ih ws (by simpa using hl) (fun i row w' h1 h2 => hw (i + 1) row w' (by simpa using h1) (by simpa using h2))
        refine ⟨x :: xs, rfl, fun i y w' h1 h2 => ?_⟩
        cases i with
        | zero => simp at h1 h2; subst h1 h2; exact hx
        | succ i => exact hxs i y w' (by simpa using h1) (by simpa using h2)
  obtain ⟨xs, rfl, hxs⟩ := this rows ws h1 h3
  exact ⟨xs, ws, rfl, by simpa using h1, h2, hxs⟩
theorem le_sum : ∀ {ws : List Nat} {i w : Nat}, ws[i]? = some w → w ≤ ws.sum
  | [], i, w, h => by simp at h
  | x :: ws, 0, w, h => by simp at h; subst h; simp
  | x :: ws, i + 1, w, h => by
    have := le_sum (ws := ws) (i := i) (w := w) (by simpa using h)
    simp only [List.sum_cons]
    omega
theorem len_sum {ws : List Nat} (c : Nat) (h : ∀ (i w : Nat), ws[i]? = some w → c ≤ w) : c * ws.length ≤ ws.sum := by
  induction ws with
  | nil => simp
  | cons x ws ih =>
    have h1 := h 0 x rfl
    have h2 := ih fun i w hw => h (i + 1) w (by simpa using hw)
    simp only [List.length_cons, List.sum_cons, Nat.mul_add]
    omega
end Go.Proofs.YtpgdflhcmijaiaaDoor
