/- Names: what the reference and the program check of them. No condition. -/
import Derived.Test.YtdmkfkjdielmiaaDoorP19
import Derived.Test.YtdmkfkjdielmiaaDoorP21
import Derived.Ground.NamesProg
import Derived.Shelf.Small.Strs
import Derived.Shelf.Strings.Search1
import Derived.Shelf.Unicode.ValidAny
import Derived.Shelf.Strings.Builder1
import Derived.Test.YtdmkfkjdielmiaaDoorProg
import Derived.Test.YtdmkfkjdielmiaaDoorP20
import Derived.Lib.LaidU8T
set_option linter.all false
set_option linter.unusedSimpArgs false
set_option linter.unusedVariables false
namespace Go.Proofs.YtdmkfkjdielmiaaDoor
open Go Go.Proofs.YtdmkfkjdielmiaaDoor.Ab
variable [Glo]
set_option maxHeartbeats 1000000
set_option maxRecDepth 20000
def letterB (c : Int) : Bool := decide ((97 ≤ c ∧ c ≤ 122) ∨ (65 ≤ c ∧ c ≤ 90) ∨ c = 95)
namespace FN137
def tks : Nat → List Nat | 0 => [0] | 1 => [2] | _ => []
def tmu : List Nat := []
def tin : List Nat := [0]
abbrev tfn := @Tryd.func137
end FN137
attribute [go_sem] FN137.tks FN137.tmu FN137.tin Tryd.ntmps137 Tryd.results137
open FN137 in
theorem letter_A (c : Int) (H : Heap) (K : V → Heap → Prop) (hk : K (.d (.b (letterB c))) H) : ACalls Tryd.prog 137 [.d (.i .u8 c)] H K := by
  refine We ?_
  have us := eq_self (0 : Nat)
  (repeat' (first | with_reducible (first | refine And.intro ?_ ?_ | intro _ | (refine hKv _ _ (AWp_nop ?_); clear hKv Kv) | (refine hKA ?_; clear hKA hKB KA KB) | (refine hKB ?_; clear hKA hKB KA KB) | refine Wp ?_ | fail) | ((first | with_reducible (first | (refine hKv _ _ ?_; clear hKv Kv) | (refine Wr ?_; intro Kv hKv) | refine AWp_retR ?_ | fail) | refine Wc ?_ | fail); try simp (dsimp := false) only [go_sem, Nat.reduceAdd, Nat.reduceBEq, Nat.reduceEqDiff, Nat.reduceLT, Nat.reduceLeDiff, Nat.reduceMul, Int.reduceToNat, reduceCtorEq, ↓reduceIte, us]) | (refine AWp_condC rfl ?_; intro KA KB hKA hKB; try simp only [onB_true, onB_false, onB_dec, onB_ndec, onB_not, onB_and, onB_or]) | (refine AWp_condA rfl ?_ ?_) | with_reducible (first | refine onB_of ?_ ?_ | rfl) | omega))
  all_goals refine keepD hk ?_
  all_goals (simp only [letterB, V.d.injEq, D.b.injEq]; grind)
def nameB (c : Int) (first : Bool) : Bool := letterB c || (!first && decide ((48 ≤ c ∧ c ≤ 57) ∨ c = 45 ∨ c = 46))
namespace FN143
def tks : Nat → List Nat | 0 => [0, 1] | 1 => [0, 1, 22] | 2 => [4] | 3 => [4] | _ => []
def tmu : List Nat := []
def tin : List Nat := [0, 1]
abbrev tfn := @Tryd.func143
end FN143
attribute [go_sem] FN143.tks FN143.tmu FN143.tin Tryd.ntmps143 Tryd.results143
open FN143 in
theorem nameByte_A (c : Int) (t : Bool) (H : Heap) (K : V → Heap → Prop) (hk : K (.d (.b (nameB c t))) H) : ACalls Tryd.prog 143 [.d (.i .u8 c), .d (.b t)] H K := by
  refine We ?_
  have us := eq_self (0 : Nat)
  (repeat' (first | with_reducible (first | refine And.intro ?_ ?_ | intro _ | (refine hKv _ _ (AWp_nop ?_); clear hKv Kv) | (refine hKA ?_; clear hKA hKB KA KB) | (refine hKB ?_; clear hKA hKB KA KB) | refine Wp ?_ | fail) | ((first | with_reducible (first | (refine hKv _ _ ?_; clear hKv Kv) | (refine Wr ?_; intro Kv hKv) | refine AWp_retR ?_ | fail) | refine Wc ?_ | fail); try simp (dsimp := false) only [go_sem, Nat.reduceAdd, Nat.reduceBEq, Nat.reduceEqDiff, Nat.reduceLT, Nat.reduceLeDiff, Nat.reduceMul, Int.reduceToNat, reduceCtorEq, ↓reduceIte, us]) | (refine AWp_condC rfl ?_; intro KA KB hKA hKB; try simp only [onB_true, onB_false, onB_dec, onB_ndec, onB_not, onB_and, onB_or]) | (refine AWp_condA rfl ?_ ?_) | with_reducible (first | refine onB_of ?_ ?_ | rfl) | omega))
  all_goals refine keepD hk ?_
  all_goals cases t
  all_goals (simp only [nameB, letterB, V.d.injEq, D.b.injEq]; grind)
def nameAll : List UInt8 → Bool → Bool
  | [], _ => true
  | c :: r, first => nameB c.toNat first && nameAll r false
def nameFault (l : List UInt8) : Int := if 1 ≤ l.length ∧ l.length ≤ 20 then (if nameAll l true = true then 0 else 10) else 1
theorem nameAll_step {l : List UInt8} {i : Nat} {c : UInt8} (hc : l[i]? = some c) : nameAll (l.drop i) (decide (i = 0)) = (nameB c.toNat (decide (i = 0)) && nameAll (l.drop (i + 1)) (decide (i + 1 = 0))) := by
  have hi : i < l.length := (List.getElem?_eq_some_iff.1 hc).1
  have : l.drop i = c :: l.drop (i + 1) := by
    rw [List.drop_eq_getElem_cons hi]
    rw [List.getElem?_eq_getElem hi] at hc
    rw [Option.some.inj hc]
  rw [this, nameAll]
  simp
namespace FN94
def tks : Nat → List Nat | 0 => [0] | 1 => [0, 11] | 2 => [2] | 3 => [0, 13, 14] | 4 => [0, 13, 14, 15] | 5 => [0, 3, 13, 14] | 6 => [0, 3, 4, 13, 14] | 7 => [0, 13, 14, 42] | 8 => [2] | 9 => [0, 13, 14] | 10 => [2] | _ => []
def tmu : List Nat := []
def tin : List Nat := [0]
abbrev tfn := @Tryd.func94
end FN94
attribute [go_sem] FN94.tks FN94.tmu FN94.tin Tryd.ntmps94 Tryd.results94
open FN94 in
theorem checkName_A (l : List UInt8) (hlen : l.length ≤ 9223372036854775807) (H : Heap) (K : V → Heap → Prop) (hk : K (.d (.i .i64 (nameFault l))) H) : ACalls Tryd.prog 94 [.d (.s l)] H K := by
  refine We ?_
  have us := eq_self (0 : Nat)
  (repeat' (first | with_reducible (first | refine And.intro ?_ ?_ | intro _ | (refine hKv _ _ (AWp_nop ?_); clear hKv Kv) | (refine hKA ?_; clear hKA hKB KA KB) | (refine hKB ?_; clear hKA hKB KA KB) | refine Wp ?_ | fail) | ((first | with_reducible (first | (refine hKv _ _ ?_; clear hKv Kv) | (refine Wr ?_; intro Kv hKv) | refine AWp_retR ?_ | fail) | refine Wc ?_ | fail); try simp (dsimp := false) only [go_sem, Nat.reduceAdd, Nat.reduceBEq, Nat.reduceEqDiff, Nat.reduceLT, Nat.reduceLeDiff, Nat.reduceMul, Int.reduceToNat, reduceCtorEq, ↓reduceIte, us]) | (refine AWp_condC rfl ?_; intro KA KB hKA hKB; try simp only [onB_true, onB_false, onB_dec, onB_ndec, onB_not, onB_and, onB_or]) | (refine AWp_condA rfl ?_ ?_) | with_reducible (first | refine onB_of ?_ ?_ | rfl) | omega))
  · exact keepD hk (by simp_all [nameFault])
  · exact keepD hk (by simp_all [nameFault]; omega)
  rename_i h1 h2
  have h3 : 1 ≤ l.length ∧ l.length ≤ 20 := by cases l <;> simp_all; omega
  refine AWp_while0 (fun i : Nat => i ≤ l.length ∧ nameAll l true = nameAll (l.drop i) (decide (i = 0))) (fun i => [(0, .d (.s l)), (13, .d (.i .i64 l.length)), (14, .d (.i .i64 i))]) (fun i => l.length - i) 0 ?_ ?_ ?_
  · simp
  · simp (dsimp := false) only [go_sem, Nat.reduceAdd, Nat.reduceBEq, Nat.reduceEqDiff, Nat.reduceLT, Nat.reduceLeDiff, Nat.reduceMul, Int.reduceToNat, reduceCtorEq, ↓reduceIte]
    omega
  rintro i ⟨hi, hall⟩
  have us := eq_self (0 : Nat)
  (repeat' (first | with_reducible (first | refine And.intro ?_ ?_ | intro _ | (refine hKv _ _ (AWp_nop ?_); clear hKv Kv) | (refine hKA ?_; clear hKA hKB KA KB) | (refine hKB ?_; clear hKA hKB KA KB) | refine Wp ?_ | fail) | ((first | with_reducible (first | (refine hKv _ _ ?_; clear hKv Kv) | (refine Wr ?_; intro Kv hKv) | refine AWp_retR ?_ | fail) | refine Wc ?_ | refine letter_A _ _ _ ?_ | refine QCall_of (letter_A _ _ _ (Two_intro _ _)) ?_ | refine ECall_of (letter_A _ _ _ (Two_intro _ _)) ?_ | fail); try simp (dsimp := false) only [go_sem, Nat.reduceAdd, Nat.reduceBEq, Nat.reduceEqDiff, Nat.reduceLT, Nat.reduceLeDiff, Nat.reduceMul, Int.reduceToNat, reduceCtorEq, ↓reduceIte, us]) | (refine AWp_condC rfl ?_; intro KA KB hKA hKB; try simp only [onB_true, onB_false, onB_dec, onB_ndec, onB_not, onB_and, onB_or]) | (refine AWp_condA rfl ?_ ?_) | with_reducible (first | refine onB_of ?_ ?_ | rfl) | omega))
  all_goals try have hc := ‹l[((i : Int)).toNat]? = some _›
  all_goals try rw [Int.toNat_natCast] at hc
  all_goals try have hst := nameAll_step hc
  all_goals try (refine ⟨i + 1, ⟨by omega, ?_⟩, by omega, by omega⟩)
  all_goals try refine keepD hk ?_
  all_goals try simp only [V.d.injEq, D.i.injEq, true_and, nameFault, if_pos h3]
  all_goals rw [hall]
  all_goals try rw [hst]
  all_goals first
    | (have : i = l.length := by omega
       subst this; simp [nameAll])
    | grind [nameB]
namespace FN112
def tks : Nat → List Nat | 0 => [0] | 1 => [0, 7] | 2 => [2] | 3 => [0, 3] | 4 => [0, 3, 11] | 5 => [0, 3] | 6 => [0, 3, 20] | 7 => [2] | 8 => [2] | _ => []
def tmu : List Nat := []
def tin : List Nat := [0]
abbrev tfn := @Tryd.func112
end FN112
attribute [go_sem] FN112.tks FN112.tmu FN112.tin Tryd.ntmps112 Tryd.results112
open FN112 in
theorem nameFault_A (l : List UInt8) (hlen : l.length ≤ 9223372036854775807) (H : Heap) (K : V → Heap → Prop) (hk : K (.d (.i .i64 (nameFault l))) H) : ACalls Tryd.prog 112 [.d (.s l)] H K := by
  refine We ?_
  have us := eq_self (0 : Nat)
  (repeat' (first | with_reducible (first | refine And.intro ?_ ?_ | intro _ | (refine hKv _ _ (AWp_nop ?_); clear hKv Kv) | (refine hKA ?_; clear hKA hKB KA KB) | (refine hKB ?_; clear hKA hKB KA KB) | refine Wp ?_ | fail) | ((first | with_reducible (first | (refine hKv _ _ ?_; clear hKv Kv) | (refine Wr ?_; intro Kv hKv) | refine AWp_retR ?_ | fail) | refine Wc ?_ | refine in_A _ _ _ _ _ ?_ | refine QCall_of (in_A _ _ _ _ _ (Two_intro _ _)) ?_ | refine ECall_of (in_A _ _ _ _ _ (Two_intro _ _)) ?_ | fail); try simp (dsimp := false) only [go_sem, Nat.reduceAdd, Nat.reduceBEq, Nat.reduceEqDiff, Nat.reduceLT, Nat.reduceLeDiff, Nat.reduceMul, Int.reduceToNat, reduceCtorEq, ↓reduceIte, us]) | (refine AWp_condC rfl ?_; intro KA KB hKA hKB; try simp only [onB_true, onB_false, onB_dec, onB_ndec, onB_not, onB_and, onB_or]) | (refine AWp_condA rfl ?_ ?_) | with_reducible (first | refine onB_of ?_ ?_ | rfl) | omega))
  rotate_left
  · rename_i h
    exact keepD hk (by simp_all [nameFault]; omega)
  rename_i h
  have h3 : 1 ≤ l.length ∧ l.length ≤ 20 := by omega
  refine AWp_while0 (fun i : Nat => i ≤ l.length ∧ nameAll l true = nameAll (l.drop i) (decide (i = 0))) (fun i => [(0, .d (.s l)), (3, .d (.i .i64 i))]) (fun i => l.length - i) 0 ?_ ?_ ?_
  · simp
  · simp (dsimp := false) only [go_sem, Nat.reduceAdd, Nat.reduceBEq, Nat.reduceEqDiff, Nat.reduceLT, Nat.reduceLeDiff, Nat.reduceMul, Int.reduceToNat, reduceCtorEq, ↓reduceIte]
    omega
  rintro i ⟨hi, hall⟩
  have us := eq_self (0 : Nat)
  (repeat' (first | with_reducible (first | refine And.intro ?_ ?_ | intro _ | (refine hKv _ _ (AWp_nop ?_); clear hKv Kv) | (refine hKA ?_; clear hKA hKB KA KB) | (refine hKB ?_; clear hKA hKB KA KB) | refine Wp ?_ | fail) | ((first | with_reducible (first | (refine hKv _ _ ?_; clear hKv Kv) | (refine Wr ?_; intro Kv hKv) | refine AWp_retR ?_ | fail) | refine Wc ?_ | refine nameByte_A _ _ _ _ ?_ | refine QCall_of (nameByte_A _ _ _ _ (Two_intro _ _)) ?_ | refine ECall_of (nameByte_A _ _ _ _ (Two_intro _ _)) ?_ | fail); try simp (dsimp := false) only [go_sem, Nat.reduceAdd, Nat.reduceBEq, Nat.reduceEqDiff, Nat.reduceLT, Nat.reduceLeDiff, Nat.reduceMul, Int.reduceToNat, reduceCtorEq, ↓reduceIte, us]) | (refine AWp_condC rfl ?_; intro KA KB hKA hKB; try simp only [onB_true, onB_false, onB_dec, onB_ndec, onB_not, onB_and, onB_or]) | (refine AWp_condA rfl ?_ ?_) | with_reducible (first | refine onB_of ?_ ?_ | rfl) | omega))
  all_goals try have hc := ‹l[((i : Int)).toNat]? = some _›
  all_goals try rw [Int.toNat_natCast] at hc
  all_goals try have hst := nameAll_step hc
  all_goals try (refine ⟨i + 1, ⟨by omega, ?_⟩, by omega, by omega⟩)
  all_goals try refine keepD hk ?_
  all_goals try simp only [V.d.injEq, D.i.injEq, true_and, nameFault, if_pos h3]
  all_goals rw [hall]
  all_goals try rw [hst]
  all_goals first
    | (have : i = l.length := by omega
       subst this; simp [nameAll])
    | grind [nameB]
end Go.Proofs.YtdmkfkjdielmiaaDoor
namespace Go.Proofs
open Go.Shelf
def Tryd.laysValid_ren : Go.Shelf.Ren := ⟨fun | 196 => 115 | 259 => 145 | n => n, fun | 9 => 9 | 4 => 4 | 3 => 3 | 5 => 5 | 12 => 12 | 119 => 165 | 0 => 0 | 46 => 169 | 139 => 168 | 138 => 167 | 53 => 171 | n => n, fun | 3 => 5 | 4 => 6 | n => n⟩
theorem Tryd.laysValid : Go.Proofs.Lays.n196 Tryd.prog Tryd.laysValid_ren := {
  mixed := by kernel_rfl
  f196 := Tryd.func115.trans (congrArg some (by kernel_rfl))
  f259 := Tryd.func145.trans (congrArg some (by kernel_rfl))
  t0 := Tryd.underlying0
  a0 := Tryd.isAgg0
  z0 := Tryd.sizeOf0
  v0 := Tryd.zeroValue0
  t3 := Tryd.underlying3
  a3 := Tryd.isAgg3
  z3 := Tryd.sizeOf3
  v3 := Tryd.zeroValue3
  t4 := Tryd.underlying4
  a4 := Tryd.isAgg4
  z4 := Tryd.sizeOf4
  v4 := Tryd.zeroValue4
  t5 := Tryd.underlying5
  a5 := Tryd.isAgg5
  z5 := Tryd.sizeOf5
  v5 := Tryd.zeroValue5
  t9 := Tryd.underlying9
  a9 := Tryd.isAgg9
  z9 := Tryd.sizeOf9
  v9 := Tryd.zeroValue9
  t12 := Tryd.underlying12
  a12 := Tryd.isAgg12
  z12 := Tryd.sizeOf12
  v12 := Tryd.zeroValue12
  t46 := Tryd.underlying169
  a46 := Tryd.isAgg169
  z46 := Tryd.sizeOf169
  v46 := Tryd.zeroValue169
  t53 := Tryd.underlying171
  a53 := Tryd.isAgg171
  z53 := Tryd.sizeOf171
  v53 := Tryd.zeroValue171
  t119 := Tryd.underlying165
  a119 := Tryd.isAgg165
  z119 := Tryd.sizeOf165
  t138 := Tryd.underlying167
  a138 := Tryd.isAgg167
  z138 := Tryd.sizeOf167
  v138 := Tryd.zeroValue167
  t139 := Tryd.underlying168
  a139 := Tryd.isAgg168
  z139 := Tryd.sizeOf168
  v139 := Tryd.zeroValue168
  g3 := by kernel_rfl
  g4 := by kernel_rfl }
def Tryd.lays217_ren : Go.Shelf.Ren := ⟨fun | 217 => 157 | 266 => 171 | n => n, fun | 9 => 9 | 5 => 5 | 3 => 3 | n => n, fun | n => n⟩
theorem Tryd.lays217 : Go.Proofs.Lays.n217 Tryd.prog Tryd.lays217_ren := {
  mixed := by kernel_rfl
  f217 := Tryd.func157.trans (congrArg some (by kernel_rfl))
  f266 := Tryd.func171.trans (congrArg some (by kernel_rfl))
  t3 := Tryd.underlying3
  a3 := Tryd.isAgg3
  z3 := Tryd.sizeOf3
  v3 := Tryd.zeroValue3
  t5 := Tryd.underlying5
  a5 := Tryd.isAgg5
  z5 := Tryd.sizeOf5
  v5 := Tryd.zeroValue5
  t9 := Tryd.underlying9
  a9 := Tryd.isAgg9
  z9 := Tryd.sizeOf9
  v9 := Tryd.zeroValue9 }
end Go.Proofs
namespace Go.Proofs.YtdmkfkjdielmiaaDoor
open Go Go.Proofs.YtdmkfkjdielmiaaDoor.Ab
variable [Glo]
def firstRow : List D := Lib.firstTab.map fun z => .i .u8 z
def acceptRow : List D := (List.range 16).flatMap fun i => [.i .u8 (Lib.accLo i), .i .u8 (Lib.accHi i)]
class U8 [Glo] : Prop where
  first : glob 5 = some firstRow
  accept : glob 6 = some acceptRow
theorem firstRow_get (c : Nat) (hc : c < 256) : firstRow[c]? = some (.i .u8 (Lib.firstT c)) := by
  simp [firstRow, Lib.firstTab, hc]
theorem acceptRow_get (i : Nat) (hi : i < 16) : acceptRow[2 * i]? = some (.i .u8 (Lib.accLo i)) ∧ acceptRow[2 * i + 1]? = some (.i .u8 (Lib.accHi i)) := by
  match i, hi with
  | 0, _ | 1, _ | 2, _ | 3, _ | 4, _ | 5, _ | 6, _ | 7, _ | 8, _ | 9, _ | 10, _ | 11, _ | 12, _ | 13, _ | 14, _ | 15, _ => exact ⟨rfl, rfl⟩
  | n + 16, h => exact absurd h (by omega)
theorem tabs_of [U8] {w : World} {H : Heap} {σ : Conc} (hw : WOk w H σ) : Lib.Utf8Tabs 5 6 w := by
  obtain ⟨_, _, f, f1, f2⟩ := hw.glob _ _ U8.first
  obtain ⟨_, _, a, a1, a2⟩ := hw.glob _ _ U8.accept
  refine ⟨fun c hc => ?_, fun i hi => ⟨?_, ?_⟩⟩
  · rw [f1 c _ (firstRow_get c hc), (f2 c _ (firstRow_get c hc)).inv_i]
  · rw [a1 _ _ (acceptRow_get i hi).1, (a2 _ _ (acceptRow_get i hi).1).inv_i]
  · rw [a1 _ _ (acceptRow_get i hi).2, (a2 _ _ (acceptRow_get i hi).2).inv_i]
theorem valid_A [U8] (l : List UInt8) (hl : l.length ≤ 9223372036854775807) (H : Heap) (K : V → Heap → Prop) (hk : K (.d (.b (Lib.validD l))) H) : ACalls Tryd.prog 115 [.d (.s l)] H K := by
  refine ACalls_below _ hk fun w σ args hw hlen hr => ?_
  obtain ⟨u, rfl⟩ := Array.size_eq_one_iff.1 (by simpa using hlen.symm)
  obtain rfl := (hr 0 _ u rfl rfl).inv_d.inv_s
  refine ⟨.bool (Lib.validD l), fun w' _ => .d _ _ (.b _), ?_⟩
  have := Any.utf8_ValidString Tryd.laysValid ⟨l.toArray⟩ w (by rw [size_mk]; exact hl) (tabs_of hw)
  have e : (⟨l.toArray⟩ : ByteArray).data.toList = l := by simp
  rw [e] at this
  exact this
end Go.Proofs.YtdmkfkjdielmiaaDoor
namespace Go.Proofs.YtdmkfkjdielmiaaDoor
open Go Go.Proofs.YtdmkfkjdielmiaaDoor.Ab
variable [Glo] [U8]
set_option maxHeartbeats 1000000
set_option maxRecDepth 20000
def okByte (c : Int) : Bool := decide (32 ≤ c ∨ c = 9 ∨ c = 10)
def okBytes (l : List UInt8) : Bool := l.all fun c => okByte c.toNat
def textFault (l : List UInt8) : Int := if l.length ≤ 20000 then (if (Lib.validD l && okBytes l) = true then 0 else 4) else 1
theorem okBytes_drop {l : List UInt8} {i : Nat} {c : UInt8} (h : l[i]? = some c) : okBytes (l.drop i) = (okByte c.toNat && okBytes (l.drop (i + 1))) := all_drop _ h
namespace FN65
def tks : Nat → List Nat | 0 => [0] | 1 => [0, 6] | 2 => [2] | 3 => [0, 9] | 4 => [2] | 5 => [0, 11, 12] | 6 => [0, 11, 12, 13] | 7 => [0, 3, 11, 12] | 8 => [0, 11, 12, 30] | 9 => [2] | 10 => [0, 11, 12] | 11 => [2] | _ => []
def tmu : List Nat := []
def tin : List Nat := [0]
abbrev tfn := @Tryd.func65
end FN65
attribute [go_sem] FN65.tks FN65.tmu FN65.tin Tryd.ntmps65 Tryd.results65
open FN65 in
theorem checkText_A (l : List UInt8) (hlen : l.length ≤ 9223372036854775807) (H : Heap) (K : V → Heap → Prop) (hk : K (.d (.i .i64 (textFault l))) H) : ACalls Tryd.prog 65 [.d (.s l)] H K := by
  refine We ?_
  have us := eq_self (0 : Nat)
  (repeat' (first | with_reducible (first | refine And.intro ?_ ?_ | intro _ | (refine hKv _ _ (AWp_nop ?_); clear hKv Kv) | (refine hKA ?_; clear hKA hKB KA KB) | (refine hKB ?_; clear hKA hKB KA KB) | refine Wp ?_ | fail) | ((first | with_reducible (first | (refine hKv _ _ ?_; clear hKv Kv) | (refine Wr ?_; intro Kv hKv) | refine AWp_retR ?_ | fail) | refine Wc ?_ | refine valid_A _ hlen _ _ ?_ | refine QCall_of (valid_A _ hlen _ _ (Two_intro _ _)) ?_ | refine ECall_of (valid_A _ hlen _ _ (Two_intro _ _)) ?_ | fail); try simp (dsimp := false) only [go_sem, Nat.reduceAdd, Nat.reduceBEq, Nat.reduceEqDiff, Nat.reduceLT, Nat.reduceLeDiff, Nat.reduceMul, Int.reduceToNat, reduceCtorEq, ↓reduceIte, us]) | (refine AWp_condC rfl ?_; intro KA KB hKA hKB; try simp only [onB_true, onB_false, onB_dec, onB_ndec, onB_not, onB_and, onB_or]) | (refine AWp_condA rfl ?_ ?_) | with_reducible (first | refine onB_of ?_ ?_ | rfl) | omega))
  all_goals try exact keepD hk (by (simp only [V.d.injEq, D.i.injEq, D.b.injEq, D.s.injEq, true_and]; grind [textFault]))
  rename_i h1 h2
  have h1 : l.length ≤ 20000 := by omega
  have h2 : Lib.validD l = true := by simpa using h2
  refine AWp_while0 (fun i : Nat => i ≤ l.length ∧ okBytes l = okBytes (l.drop i)) (fun i => [(0, .d (.s l)), (11, .d (.i .i64 l.length)), (12, .d (.i .i64 i))]) (fun i => l.length - i) 0 ?_ ?_ ?_
  · simp
  · simp (dsimp := false) only [go_sem, Nat.reduceAdd, Nat.reduceBEq, Nat.reduceEqDiff, Nat.reduceLT, Nat.reduceLeDiff, Nat.reduceMul, Int.reduceToNat, reduceCtorEq, ↓reduceIte]
    omega
  rintro i ⟨hi, hall⟩
  have us := eq_self (0 : Nat)
  (repeat' (first | with_reducible (first | refine And.intro ?_ ?_ | intro _ | (refine hKv _ _ (AWp_nop ?_); clear hKv Kv) | (refine hKA ?_; clear hKA hKB KA KB) | (refine hKB ?_; clear hKA hKB KA KB) | refine Wp ?_ | fail) | ((first | with_reducible (first | (refine hKv _ _ ?_; clear hKv Kv) | (refine Wr ?_; intro Kv hKv) | refine AWp_retR ?_ | fail) | refine Wc ?_ | fail); try simp (dsimp := false) only [go_sem, Nat.reduceAdd, Nat.reduceBEq, Nat.reduceEqDiff, Nat.reduceLT, Nat.reduceLeDiff, Nat.reduceMul, Int.reduceToNat, reduceCtorEq, ↓reduceIte, us]) | (refine AWp_condC rfl ?_; intro KA KB hKA hKB; try simp only [onB_true, onB_false, onB_dec, onB_ndec, onB_not, onB_and, onB_or]) | (refine AWp_condA rfl ?_ ?_) | with_reducible (first | refine onB_of ?_ ?_ | rfl) | omega))
  all_goals try have hst := okBytes_drop ‹l[i]? = some _›
  all_goals try (refine ⟨i + 1, ⟨by omega, ?_⟩, by omega, by omega⟩)
  all_goals try refine keepD hk ?_
  all_goals try simp only [V.d.injEq, D.i.injEq, true_and, textFault, if_pos h1, h2]
  all_goals rw [hall]
  all_goals try rw [hst]
  all_goals first
    | (have : i = l.length := by omega
       subst this; simp [okBytes])
    | grind [okByte]
namespace FN73
def tks : Nat → List Nat | 0 => [0] | 1 => [0, 7] | 2 => [2] | 3 => [0, 3] | 4 => [0, 3, 4] | 5 => [0, 3, 4, 13] | 6 => [0, 3, 4] | 7 => [0, 3, 4] | 8 => [36] | 9 => [2] | 10 => [2] | _ => []
def tmu : List Nat := []
def tin : List Nat := [0]
abbrev tfn := @Tryd.func73
end FN73
attribute [go_sem] FN73.tks FN73.tmu FN73.tin Tryd.ntmps73 Tryd.results73
open FN73 in
theorem valueFault_A (l : List UInt8) (hlen : l.length ≤ 9223372036854775807) (H : Heap) (K : V → Heap → Prop) (hk : K (.d (.i .i64 (textFault l))) H) : ACalls Tryd.prog 73 [.d (.s l)] H K := by
  refine We ?_
  have us := eq_self (0 : Nat)
  (repeat' (first | with_reducible (first | refine And.intro ?_ ?_ | intro _ | (refine hKv _ _ (AWp_nop ?_); clear hKv Kv) | (refine hKA ?_; clear hKA hKB KA KB) | (refine hKB ?_; clear hKA hKB KA KB) | refine Wp ?_ | fail) | ((first | with_reducible (first | (refine hKv _ _ ?_; clear hKv Kv) | (refine Wr ?_; intro Kv hKv) | refine AWp_retR ?_ | fail) | refine Wc ?_ | refine valid_A _ hlen _ _ ?_ | refine QCall_of (valid_A _ hlen _ _ (Two_intro _ _)) ?_ | refine ECall_of (valid_A _ hlen _ _ (Two_intro _ _)) ?_ | fail); try simp (dsimp := false) only [go_sem, Nat.reduceAdd, Nat.reduceBEq, Nat.reduceEqDiff, Nat.reduceLT, Nat.reduceLeDiff, Nat.reduceMul, Int.reduceToNat, reduceCtorEq, ↓reduceIte, us]) | (refine AWp_condC rfl ?_; intro KA KB hKA hKB; try simp only [onB_true, onB_false, onB_dec, onB_ndec, onB_not, onB_and, onB_or]) | (refine AWp_condA rfl ?_ ?_) | with_reducible (first | refine onB_of ?_ ?_ | rfl) | omega))
  all_goals try exact keepD hk (by (simp only [V.d.injEq, D.i.injEq, D.b.injEq, D.s.injEq, true_and]; grind [textFault]))
  rename_i h1
  have h1 : l.length ≤ 20000 := by omega
  refine AWp_while0 (fun x : Nat × Bool => x.1 ≤ l.length ∧ (Lib.validD l && okBytes l) = (x.2 && okBytes (l.drop x.1))) (fun x => [(0, .d (.s l)), (3, .d (.b x.2)), (4, .d (.i .i64 x.1))]) (fun x => l.length - x.1) (0, Lib.validD l) ?_ ?_ ?_
  · simp
  · simp (dsimp := false) only [go_sem, Nat.reduceAdd, Nat.reduceBEq, Nat.reduceEqDiff, Nat.reduceLT, Nat.reduceLeDiff, Nat.reduceMul, Int.reduceToNat, reduceCtorEq, ↓reduceIte]
    first | done | omega
  rintro ⟨i, ok⟩ ⟨hi, hall⟩
  simp only [] at hi hall
  have us := eq_self (0 : Nat)
  (repeat' (first | with_reducible (first | refine And.intro ?_ ?_ | intro _ | (refine hKv _ _ (AWp_nop ?_); clear hKv Kv) | (refine hKA ?_; clear hKA hKB KA KB) | (refine hKB ?_; clear hKA hKB KA KB) | refine Wp ?_ | fail) | ((first | with_reducible (first | (refine hKv _ _ ?_; clear hKv Kv) | (refine Wr ?_; intro Kv hKv) | refine AWp_retR ?_ | fail) | refine Wc ?_ | fail); try simp (dsimp := false) only [go_sem, Nat.reduceAdd, Nat.reduceBEq, Nat.reduceEqDiff, Nat.reduceLT, Nat.reduceLeDiff, Nat.reduceMul, Int.reduceToNat, reduceCtorEq, ↓reduceIte, us]) | (refine AWp_condC rfl ?_; intro KA KB hKA hKB; try simp only [onB_true, onB_false, onB_dec, onB_ndec, onB_not, onB_and, onB_or]) | (refine AWp_condA rfl ?_ ?_) | with_reducible (first | refine onB_of ?_ ?_ | rfl) | omega))
  all_goals try have hst := okBytes_drop ‹l[i]? = some _›
  all_goals try (apply Exists.intro (i + 1, _); dsimp only; refine ⟨⟨by omega, ?_⟩, by omega, rfl, by omega⟩)
  all_goals try refine keepD hk ?_
  all_goals try simp only [V.d.injEq, D.i.injEq, true_and, textFault, if_pos h1]
  all_goals rw [hall]
  all_goals try rw [hst]
  all_goals first
    | grind [okByte]
    | (have : i = l.length := by omega
       subst this; simp_all [okBytes])
    | trace_state
end Go.Proofs.YtdmkfkjdielmiaaDoor
namespace Go.Proofs.YtdmkfkjdielmiaaDoor
open Go Go.Proofs.YtdmkfkjdielmiaaDoor.Ab
variable [Glo] [U8]
set_option maxHeartbeats 1000000
set_option maxRecDepth 20000
def itemB (x : It) : Bool :=
  if x.k = 1 then decide (0 ≤ x.n ∧ x.n < 100000 ∧ x.s = [])
  else if x.k = 2 then decide (-1099511627776 ≤ x.n ∧ x.n ≤ 1099511627776 ∧ x.s = [])
  else if x.k = 3 then decide (x.n = 0 ∧ textFault x.s = 0)
  else if x.k = 4 then decide ((x.n = 0 ∨ x.n = 1) ∧ x.s = [])
  else false
def itemFault (x : It) : Int := if itemB x = true then 0 else 12
namespace FN82
def tks : Nat → List Nat | 0 => [1] | 1 => [1, 4] | 2 => [1, 4, 5] | 3 => [2] | 4 => [1, 4, 20] | 5 => [2] | 6 => [1, 4, 35] | 7 => [2] | 8 => [1, 46] | 9 => [2] | 10 => [2] | _ => []
def tmu : List Nat := []
def tin : List Nat := [0]
abbrev tfn := @Tryd.func82
end FN82
attribute [go_sem] FN82.tks FN82.tmu FN82.tin Tryd.ntmps82 Tryd.results82
open FN82 in
theorem item_A (x : It) (hs : x.s.length ≤ 9223372036854775807) (H : Heap) (K : V → Heap → Prop) (hk : K (.d (.b (itemB x))) H) : ACalls Tryd.prog 82 [itV x] H K := by
  refine We ?_
  have us := eq_self (0 : Nat)
  (repeat' (first | with_reducible (first | refine And.intro ?_ ?_ | intro _ | (refine hKv _ _ (AWp_nop ?_); clear hKv Kv) | (refine hKA ?_; clear hKA hKB KA KB) | (refine hKB ?_; clear hKA hKB KA KB) | refine Wp ?_ | fail) | ((first | with_reducible (first | (refine hKv _ _ ?_; clear hKv Kv) | (refine Wr ?_; intro Kv hKv) | refine AWp_retR ?_ | fail) | refine Wc ?_ | refine checkText_A _ hs _ _ ?_ | refine QCall_of (checkText_A _ hs _ _ (Two_intro _ _)) ?_ | refine ECall_of (checkText_A _ hs _ _ (Two_intro _ _)) ?_ | fail); try simp (dsimp := false) only [go_sem, Nat.reduceAdd, Nat.reduceBEq, Nat.reduceEqDiff, Nat.reduceLT, Nat.reduceLeDiff, Nat.reduceMul, Int.reduceToNat, reduceCtorEq, ↓reduceIte, us, itD, itV]) | (refine AWp_condC rfl ?_; intro KA KB hKA hKB; try simp only [onB_true, onB_false, onB_dec, onB_ndec, onB_not, onB_and, onB_or]) | (refine AWp_condA rfl ?_ ?_) | with_reducible (first | refine onB_of ?_ ?_ | rfl) | omega))
  all_goals exact keepD hk (by (simp only [V.d.injEq, D.i.injEq, D.b.injEq, D.s.injEq, true_and]; grind [itemB]))
namespace FN25
def tks : Nat → List Nat | 0 => [1] | 1 => [5] | 2 => [2] | 3 => [2] | _ => []
def tmu : List Nat := []
def tin : List Nat := [0]
abbrev tfn := @Tryd.func25
end FN25
attribute [go_sem] FN25.tks FN25.tmu FN25.tin Tryd.ntmps25 Tryd.results25
open FN25 in
theorem checkItem_A (x : It) (hs : x.s.length ≤ 9223372036854775807) (H : Heap) (K : V → Heap → Prop) (hk : K (.d (.i .i64 (itemFault x))) H) : ACalls Tryd.prog 25 [itV x] H K := by
  refine We ?_
  have us := eq_self (0 : Nat)
  (repeat' (first | with_reducible (first | refine And.intro ?_ ?_ | intro _ | (refine hKv _ _ (AWp_nop ?_); clear hKv Kv) | (refine hKA ?_; clear hKA hKB KA KB) | (refine hKB ?_; clear hKA hKB KA KB) | refine Wp ?_ | fail) | ((first | with_reducible (first | (refine hKv _ _ ?_; clear hKv Kv) | (refine Wr ?_; intro Kv hKv) | refine AWp_retR ?_ | fail) | refine Wc ?_ | refine item_A _ hs _ _ ?_ | refine QCall_of (item_A _ hs _ _ (Two_intro _ _)) ?_ | refine ECall_of (item_A _ hs _ _ (Two_intro _ _)) ?_ | fail); try simp (dsimp := false) only [go_sem, Nat.reduceAdd, Nat.reduceBEq, Nat.reduceEqDiff, Nat.reduceLT, Nat.reduceLeDiff, Nat.reduceMul, Int.reduceToNat, reduceCtorEq, ↓reduceIte, us, itD, itV]) | (refine AWp_condC rfl ?_; intro KA KB hKA hKB; try simp only [onB_true, onB_false, onB_dec, onB_ndec, onB_not, onB_and, onB_or]) | (refine AWp_condA rfl ?_ ?_) | with_reducible (first | refine onB_of ?_ ?_ | rfl) | omega))
  all_goals exact keepD hk (by (simp only [V.d.injEq, D.i.injEq, D.b.injEq, D.s.injEq, true_and]; grind [itemFault]))
namespace FN47
def tks : Nat → List Nat | 0 => [1] | 1 => [1, 4] | 2 => [1, 4, 5] | 3 => [2] | 4 => [1, 4, 15] | 5 => [2] | 6 => [1, 4, 25] | 7 => [2] | 8 => [1, 36] | 9 => [2] | 10 => [2] | _ => []
def tmu : List Nat := []
def tin : List Nat := [0]
abbrev tfn := @Tryd.func47
end FN47
attribute [go_sem] FN47.tks FN47.tmu FN47.tin Tryd.ntmps47 Tryd.results47
open FN47 in
theorem itemMay_A (x : It) (hs : x.s.length ≤ 9223372036854775807) (H : Heap) (K : V → Heap → Prop) (hk : K (.d (.b (itemB x))) H) : ACalls Tryd.prog 47 [itV x] H K := by
  refine We ?_
  have us := eq_self (0 : Nat)
  (repeat' (first | with_reducible (first | refine And.intro ?_ ?_ | intro _ | (refine hKv _ _ (AWp_nop ?_); clear hKv Kv) | (refine hKA ?_; clear hKA hKB KA KB) | (refine hKB ?_; clear hKA hKB KA KB) | refine Wp ?_ | fail) | ((first | with_reducible (first | (refine hKv _ _ ?_; clear hKv Kv) | (refine Wr ?_; intro Kv hKv) | refine AWp_retR ?_ | fail) | refine Wc ?_ | refine valueFault_A _ hs _ _ ?_ | refine QCall_of (valueFault_A _ hs _ _ (Two_intro _ _)) ?_ | refine ECall_of (valueFault_A _ hs _ _ (Two_intro _ _)) ?_ | refine in_A _ _ _ _ _ ?_ | refine QCall_of (in_A _ _ _ _ _ (Two_intro _ _)) ?_ | refine ECall_of (in_A _ _ _ _ _ (Two_intro _ _)) ?_ | fail); try simp (dsimp := false) only [go_sem, Nat.reduceAdd, Nat.reduceBEq, Nat.reduceEqDiff, Nat.reduceLT, Nat.reduceLeDiff, Nat.reduceMul, Int.reduceToNat, reduceCtorEq, ↓reduceIte, us, itD, itV]) | (refine AWp_condC rfl ?_; intro KA KB hKA hKB; try simp only [onB_true, onB_false, onB_dec, onB_ndec, onB_not, onB_and, onB_or]) | (refine AWp_condA rfl ?_ ?_) | with_reducible (first | refine onB_of ?_ ?_ | rfl) | omega))
  all_goals exact keepD hk (by (simp only [V.d.injEq, D.i.injEq, D.b.injEq, D.s.injEq, true_and]; grind [itemB]))
end Go.Proofs.YtdmkfkjdielmiaaDoor
