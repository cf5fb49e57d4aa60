/- Whether a number lies within bounds: the reference's own test. No condition. -/
import Derived.Test.YtmhabdopcbokoaaDoorR18
import Derived.Test.YtmhabdopcbokoaaDoorR19
import Derived.Ground.NamesProg
import Derived.Shelf.Small.Strs
import Derived.Shelf.Strings.Search1
import Derived.Shelf.Unicode.ValidAny
import Derived.Shelf.Strings.Builder1
import Derived.Test.YtmhabdopcbokoaaDoorProg
import Derived.Lib.LaidU8T
set_option linter.all false
set_option linter.unusedSimpArgs false
set_option linter.unusedVariables false
namespace Go.Proofs.YtmhabdopcbokoaaDoor
open Go Go.Proofs.YtmhabdopcbokoaaDoor.Ab
variable [Glo]
set_option maxHeartbeats 1000000
set_option maxRecDepth 20000
namespace FN20
def tks : Nat → List Nat | 0 => [0, 1, 2] | 1 => [6] | _ => []
def tmu : List Nat := []
def tin : List Nat := [0, 1, 2]
abbrev tfn := @Tryd.func20
end FN20
attribute [go_sem] FN20.tks FN20.tmu FN20.tin Tryd.ntmps20 Tryd.results20
open FN20 in
theorem in_A (n l h : Int) (H : Heap) (K : V → Heap → Prop) (hk : K (.d (.b (decide (l ≤ n ∧ n ≤ h)))) H) : ACalls Tryd.prog 20 [.d (.i .i64 n), .d (.i .i64 l), .d (.i .i64 h)] H K := by
  refine We ?_
  have us := eq_self (0 : Nat)
  (repeat' (first | with_reducible (first | refine And.intro ?_ ?_ | intro _ | (refine hKv _ _ (AWp_nop ?_); clear hKv Kv) | (refine hKA ?_; clear hKA hKB KA KB) | (refine hKB ?_; clear hKA hKB KA KB) | refine Wp ?_ | fail) | ((first | with_reducible (first | (refine hKv _ _ ?_; clear hKv Kv) | (refine Wr ?_; intro Kv hKv) | refine AWp_retR ?_ | fail) | refine Wc ?_ | fail); try simp (dsimp := false) only [go_sem, Nat.reduceAdd, Nat.reduceBEq, Nat.reduceEqDiff, Nat.reduceLT, Nat.reduceLeDiff, Nat.reduceMul, Int.reduceToNat, reduceCtorEq, ↓reduceIte, us]) | (refine AWp_condC rfl ?_; intro KA KB hKA hKB; try simp only [onB_true, onB_false, onB_dec, onB_ndec, onB_not, onB_and, onB_or]) | (refine AWp_condA rfl ?_ ?_) | with_reducible (first | refine onB_of ?_ ?_ | rfl) | omega))
  all_goals refine keepD hk ?_
  all_goals simp [*]
end Go.Proofs.YtmhabdopcbokoaaDoor
namespace Go.Proofs.YtmhabdopcbokoaaDoor
open Go Go.Proofs.YtmhabdopcbokoaaDoor.Ab
variable [Glo]
set_option maxHeartbeats 1000000
set_option maxRecDepth 20000
def letterB (c : Int) : Bool := decide ((97 ≤ c ∧ c ≤ 122) ∨ (65 ≤ c ∧ c ≤ 90) ∨ c = 95)
def nameB (c : Int) (first : Bool) : Bool := letterB c || (!first && decide ((48 ≤ c ∧ c ≤ 57) ∨ c = 45 ∨ c = 46))
namespace FN54
def tks : Nat → List Nat | 0 => [0, 1] | 1 => [0, 1, 22] | 2 => [4] | 3 => [4] | _ => []
def tmu : List Nat := []
def tin : List Nat := [0, 1]
abbrev tfn := @Tryd.func54
end FN54
attribute [go_sem] FN54.tks FN54.tmu FN54.tin Tryd.ntmps54 Tryd.results54
open FN54 in
theorem nameByte_A (c : Int) (t : Bool) (H : Heap) (K : V → Heap → Prop) (hk : K (.d (.b (nameB c t))) H) : ACalls Tryd.prog 54 [.d (.i .u8 c), .d (.b t)] H K := by
  refine We ?_
  have us := eq_self (0 : Nat)
  (repeat' (first | with_reducible (first | refine And.intro ?_ ?_ | intro _ | (refine hKv _ _ (AWp_nop ?_); clear hKv Kv) | (refine hKA ?_; clear hKA hKB KA KB) | (refine hKB ?_; clear hKA hKB KA KB) | refine Wp ?_ | fail) | ((first | with_reducible (first | (refine hKv _ _ ?_; clear hKv Kv) | (refine Wr ?_; intro Kv hKv) | refine AWp_retR ?_ | fail) | refine Wc ?_ | fail); try simp (dsimp := false) only [go_sem, Nat.reduceAdd, Nat.reduceBEq, Nat.reduceEqDiff, Nat.reduceLT, Nat.reduceLeDiff, Nat.reduceMul, Int.reduceToNat, reduceCtorEq, ↓reduceIte, us]) | (refine AWp_condC rfl ?_; intro KA KB hKA hKB; try simp only [onB_true, onB_false, onB_dec, onB_ndec, onB_not, onB_and, onB_or]) | (refine AWp_condA rfl ?_ ?_) | with_reducible (first | refine onB_of ?_ ?_ | rfl) | omega))
  all_goals refine keepD hk ?_
  all_goals cases t
  all_goals (simp only [nameB, letterB, V.d.injEq, D.b.injEq]; grind)
end Go.Proofs.YtmhabdopcbokoaaDoor
namespace Go.Proofs
open Go.Shelf
def Tryd.laysValid_ren : Go.Shelf.Ren := ⟨fun | 196 => 30 | 259 => 50 | n => n, fun | 9 => 9 | 4 => 4 | 3 => 3 | 5 => 5 | 12 => 12 | 119 => 77 | 0 => 0 | 46 => 81 | 139 => 80 | 138 => 79 | 53 => 84 | n => n, fun | 3 => 1 | 4 => 2 | n => n⟩
theorem Tryd.laysValid : Go.Proofs.Lays.n196 Tryd.prog Tryd.laysValid_ren := {
  mixed := by kernel_rfl
  f196 := Tryd.func30.trans (congrArg some (by kernel_rfl))
  f259 := Tryd.func50.trans (congrArg some (by kernel_rfl))
  t0 := Tryd.underlying0
  a0 := Tryd.isAgg0
  z0 := Tryd.sizeOf0
  v0 := Tryd.zeroValue0
  t3 := Tryd.underlying3
  a3 := Tryd.isAgg3
  z3 := Tryd.sizeOf3
  v3 := Tryd.zeroValue3
  t4 := Tryd.underlying4
  a4 := Tryd.isAgg4
  z4 := Tryd.sizeOf4
  v4 := Tryd.zeroValue4
  t5 := Tryd.underlying5
  a5 := Tryd.isAgg5
  z5 := Tryd.sizeOf5
  v5 := Tryd.zeroValue5
  t9 := Tryd.underlying9
  a9 := Tryd.isAgg9
  z9 := Tryd.sizeOf9
  v9 := Tryd.zeroValue9
  t12 := Tryd.underlying12
  a12 := Tryd.isAgg12
  z12 := Tryd.sizeOf12
  v12 := Tryd.zeroValue12
  t46 := Tryd.underlying81
  a46 := Tryd.isAgg81
  z46 := Tryd.sizeOf81
  v46 := Tryd.zeroValue81
  t53 := Tryd.underlying84
  a53 := Tryd.isAgg84
  z53 := Tryd.sizeOf84
  v53 := Tryd.zeroValue84
  t119 := Tryd.underlying77
  a119 := Tryd.isAgg77
  z119 := Tryd.sizeOf77
  t138 := Tryd.underlying79
  a138 := Tryd.isAgg79
  z138 := Tryd.sizeOf79
  v138 := Tryd.zeroValue79
  t139 := Tryd.underlying80
  a139 := Tryd.isAgg80
  z139 := Tryd.sizeOf80
  v139 := Tryd.zeroValue80
  g3 := by kernel_rfl
  g4 := by kernel_rfl }
def Tryd.lays217_ren : Go.Shelf.Ren := ⟨fun | 217 => 58 | 266 => 64 | n => n, fun | 9 => 9 | 5 => 5 | 3 => 3 | n => n, fun | n => n⟩
theorem Tryd.lays217 : Go.Proofs.Lays.n217 Tryd.prog Tryd.lays217_ren := {
  mixed := by kernel_rfl
  f217 := Tryd.func58.trans (congrArg some (by kernel_rfl))
  f266 := Tryd.func64.trans (congrArg some (by kernel_rfl))
  t3 := Tryd.underlying3
  a3 := Tryd.isAgg3
  z3 := Tryd.sizeOf3
  v3 := Tryd.zeroValue3
  t5 := Tryd.underlying5
  a5 := Tryd.isAgg5
  z5 := Tryd.sizeOf5
  v5 := Tryd.zeroValue5
  t9 := Tryd.underlying9
  a9 := Tryd.isAgg9
  z9 := Tryd.sizeOf9
  v9 := Tryd.zeroValue9 }
end Go.Proofs
namespace Go.Proofs.YtmhabdopcbokoaaDoor
open Go Go.Proofs.YtmhabdopcbokoaaDoor.Ab
variable [Glo]
def firstRow : List D := Lib.firstTab.map fun z => .i .u8 z
def acceptRow : List D := (List.range 16).flatMap fun i => [.i .u8 (Lib.accLo i), .i .u8 (Lib.accHi i)]
class U8 [Glo] : Prop where
  first : glob 1 = some firstRow
  accept : glob 2 = some acceptRow
theorem firstRow_get (c : Nat) (hc : c < 256) : firstRow[c]? = some (.i .u8 (Lib.firstT c)) := by
  simp [firstRow, Lib.firstTab, hc]
theorem acceptRow_get (i : Nat) (hi : i < 16) : acceptRow[2 * i]? = some (.i .u8 (Lib.accLo i)) ∧ acceptRow[2 * i + 1]? = some (.i .u8 (Lib.accHi i)) := by
  match i, hi with
  | 0, _ | 1, _ | 2, _ | 3, _ | 4, _ | 5, _ | 6, _ | 7, _ | 8, _ | 9, _ | 10, _ | 11, _ | 12, _ | 13, _ | 14, _ | 15, _ => exact ⟨rfl, rfl⟩
  | n + 16, h => exact absurd h (by omega)
theorem tabs_of [U8] {w : World} {H : Heap} {σ : Conc} (hw : WOk w H σ) : Lib.Utf8Tabs 1 2 w := by
  obtain ⟨_, _, f, f1, f2⟩ := hw.glob _ _ U8.first
  obtain ⟨_, _, a, a1, a2⟩ := hw.glob _ _ U8.accept
  refine ⟨fun c hc => ?_, fun i hi => ⟨?_, ?_⟩⟩
  · rw [f1 c _ (firstRow_get c hc), (f2 c _ (firstRow_get c hc)).inv_i]
  · rw [a1 _ _ (acceptRow_get i hi).1, (a2 _ _ (acceptRow_get i hi).1).inv_i]
  · rw [a1 _ _ (acceptRow_get i hi).2, (a2 _ _ (acceptRow_get i hi).2).inv_i]
theorem valid_A [U8] (l : List UInt8) (hl : l.length ≤ 9223372036854775807) (H : Heap) (K : V → Heap → Prop) (hk : K (.d (.b (Lib.validD l))) H) : ACalls Tryd.prog 30 [.d (.s l)] H K := by
  refine ACalls_below _ hk fun w σ args hw hlen hr => ?_
  obtain ⟨u, rfl⟩ := Array.size_eq_one_iff.1 (by simpa using hlen.symm)
  obtain rfl := (hr 0 _ u rfl rfl).inv_d.inv_s
  refine ⟨.bool (Lib.validD l), fun w' _ => .d _ _ (.b _), ?_⟩
  have := Any.utf8_ValidString Tryd.laysValid ⟨l.toArray⟩ w (by rw [size_mk]; exact hl) (tabs_of hw)
  have e : (⟨l.toArray⟩ : ByteArray).data.toList = l := by simp
  rw [e] at this
  exact this
end Go.Proofs.YtmhabdopcbokoaaDoor
namespace Go.Proofs.YtmhabdopcbokoaaDoor
open Go Go.Proofs.YtmhabdopcbokoaaDoor.Ab
variable [Glo] [U8]
set_option maxHeartbeats 1000000
set_option maxRecDepth 20000
def okByte (c : Int) : Bool := decide (32 ≤ c ∨ c = 9 ∨ c = 10)
def okBytes (l : List UInt8) : Bool := l.all fun c => okByte c.toNat
def textFault (l : List UInt8) : Int := if l.length ≤ 20000 then (if (Lib.validD l && okBytes l) = true then 0 else 4) else 1
theorem okBytes_drop {l : List UInt8} {i : Nat} {c : UInt8} (h : l[i]? = some c) : okBytes (l.drop i) = (okByte c.toNat && okBytes (l.drop (i + 1))) := all_drop _ h
namespace FN13
def tks : Nat → List Nat | 0 => [0] | 1 => [0, 6] | 2 => [2] | 3 => [0, 9] | 4 => [2] | 5 => [0, 11, 12] | 6 => [0, 11, 12, 13] | 7 => [0, 3, 11, 12] | 8 => [0, 11, 12, 30] | 9 => [2] | 10 => [0, 11, 12] | 11 => [2] | _ => []
def tmu : List Nat := []
def tin : List Nat := [0]
abbrev tfn := @Tryd.func13
end FN13
attribute [go_sem] FN13.tks FN13.tmu FN13.tin Tryd.ntmps13 Tryd.results13
open FN13 in
theorem checkText_A (l : List UInt8) (hlen : l.length ≤ 9223372036854775807) (H : Heap) (K : V → Heap → Prop) (hk : K (.d (.i .i64 (textFault l))) H) : ACalls Tryd.prog 13 [.d (.s l)] H K := by
  refine We ?_
  have us := eq_self (0 : Nat)
  (repeat' (first | with_reducible (first | refine And.intro ?_ ?_ | intro _ | (refine hKv _ _ (AWp_nop ?_); clear hKv Kv) | (refine hKA ?_; clear hKA hKB KA KB) | (refine hKB ?_; clear hKA hKB KA KB) | refine Wp ?_ | fail) | ((first | with_reducible (first | (refine hKv _ _ ?_; clear hKv Kv) | (refine Wr ?_; intro Kv hKv) | refine AWp_retR ?_ | fail) | refine Wc ?_ | refine valid_A _ hlen _ _ ?_ | refine QCall_of (valid_A _ hlen _ _ (Two_intro _ _)) ?_ | refine ECall_of (valid_A _ hlen _ _ (Two_intro _ _)) ?_ | fail); try simp (dsimp := false) only [go_sem, Nat.reduceAdd, Nat.reduceBEq, Nat.reduceEqDiff, Nat.reduceLT, Nat.reduceLeDiff, Nat.reduceMul, Int.reduceToNat, reduceCtorEq, ↓reduceIte, us]) | (refine AWp_condC rfl ?_; intro KA KB hKA hKB; try simp only [onB_true, onB_false, onB_dec, onB_ndec, onB_not, onB_and, onB_or]) | (refine AWp_condA rfl ?_ ?_) | with_reducible (first | refine onB_of ?_ ?_ | rfl) | omega))
  all_goals try exact keepD hk (by (simp only [V.d.injEq, D.i.injEq, D.b.injEq, D.s.injEq, true_and]; grind [textFault]))
  rename_i h1 h2
  have h1 : l.length ≤ 20000 := by omega
  have h2 : Lib.validD l = true := by simpa using h2
  refine AWp_while0 (fun i : Nat => i ≤ l.length ∧ okBytes l = okBytes (l.drop i)) (fun i => [(0, .d (.s l)), (11, .d (.i .i64 l.length)), (12, .d (.i .i64 i))]) (fun i => l.length - i) 0 ?_ ?_ ?_
  · simp
  · simp (dsimp := false) only [go_sem, Nat.reduceAdd, Nat.reduceBEq, Nat.reduceEqDiff, Nat.reduceLT, Nat.reduceLeDiff, Nat.reduceMul, Int.reduceToNat, reduceCtorEq, ↓reduceIte]
    omega
  rintro i ⟨hi, hall⟩
  have us := eq_self (0 : Nat)
  (repeat' (first | with_reducible (first | refine And.intro ?_ ?_ | intro _ | (refine hKv _ _ (AWp_nop ?_); clear hKv Kv) | (refine hKA ?_; clear hKA hKB KA KB) | (refine hKB ?_; clear hKA hKB KA KB) | refine Wp ?_ | fail) | ((first | with_reducible (first | (refine hKv _ _ ?_; clear hKv Kv) | (refine Wr ?_; intro Kv hKv) | refine AWp_retR ?_ | fail) | refine Wc ?_ | fail); try simp (dsimp := false) only [go_sem, Nat.reduceAdd, Nat.reduceBEq, Nat.reduceEqDiff, Nat.reduceLT, Nat.reduceLeDiff, Nat.reduceMul, Int.reduceToNat, reduceCtorEq, ↓reduceIte, us]) | (refine AWp_condC rfl ?_; intro KA KB hKA hKB; try simp only [onB_true, onB_false, onB_dec, onB_ndec, onB_not, onB_and, onB_or]) | (refine AWp_condA rfl ?_ ?_) | with_reducible (first | refine onB_of ?_ ?_ | rfl) | omega))
  all_goals try have hst := okBytes_drop ‹l[i]? = some _›
  all_goals try (refine ⟨i + 1, ⟨by omega, ?_⟩, by omega, by omega⟩)
  all_goals try refine keepD hk ?_
  all_goals try simp only [V.d.injEq, D.i.injEq, true_and, textFault, if_pos h1, h2]
  all_goals rw [hall]
  all_goals try rw [hst]
  all_goals first
    | (have : i = l.length := by omega
       subst this; simp [okBytes])
    | grind [okByte]
namespace FN21
def tks : Nat → List Nat | 0 => [0] | 1 => [0, 7] | 2 => [2] | 3 => [0, 3] | 4 => [0, 3, 4] | 5 => [0, 3, 4, 13] | 6 => [0, 3, 4] | 7 => [0, 3, 4] | 8 => [36] | 9 => [2] | 10 => [2] | _ => []
def tmu : List Nat := []
def tin : List Nat := [0]
abbrev tfn := @Tryd.func21
end FN21
attribute [go_sem] FN21.tks FN21.tmu FN21.tin Tryd.ntmps21 Tryd.results21
open FN21 in
theorem valueFault_A (l : List UInt8) (hlen : l.length ≤ 9223372036854775807) (H : Heap) (K : V → Heap → Prop) (hk : K (.d (.i .i64 (textFault l))) H) : ACalls Tryd.prog 21 [.d (.s l)] H K := by
  refine We ?_
  have us := eq_self (0 : Nat)
  (repeat' (first | with_reducible (first | refine And.intro ?_ ?_ | intro _ | (refine hKv _ _ (AWp_nop ?_); clear hKv Kv) | (refine hKA ?_; clear hKA hKB KA KB) | (refine hKB ?_; clear hKA hKB KA KB) | refine Wp ?_ | fail) | ((first | with_reducible (first | (refine hKv _ _ ?_; clear hKv Kv) | (refine Wr ?_; intro Kv hKv) | refine AWp_retR ?_ | fail) | refine Wc ?_ | refine valid_A _ hlen _ _ ?_ | refine QCall_of (valid_A _ hlen _ _ (Two_intro _ _)) ?_ | refine ECall_of (valid_A _ hlen _ _ (Two_intro _ _)) ?_ | fail); try simp (dsimp := false) only [go_sem, Nat.reduceAdd, Nat.reduceBEq, Nat.reduceEqDiff, Nat.reduceLT, Nat.reduceLeDiff, Nat.reduceMul, Int.reduceToNat, reduceCtorEq, ↓reduceIte, us]) | (refine AWp_condC rfl ?_; intro KA KB hKA hKB; try simp only [onB_true, onB_false, onB_dec, onB_ndec, onB_not, onB_and, onB_or]) | (refine AWp_condA rfl ?_ ?_) | with_reducible (first | refine onB_of ?_ ?_ | rfl) | omega))
  all_goals try exact keepD hk (by (simp only [V.d.injEq, D.i.injEq, D.b.injEq, D.s.injEq, true_and]; grind [textFault]))
  rename_i h1
  have h1 : l.length ≤ 20000 := by omega
  refine AWp_while0 (fun x : Nat × Bool => x.1 ≤ l.length ∧ (Lib.validD l && okBytes l) = (x.2 && okBytes (l.drop x.1))) (fun x => [(0, .d (.s l)), (3, .d (.b x.2)), (4, .d (.i .i64 x.1))]) (fun x => l.length - x.1) (0, Lib.validD l) ?_ ?_ ?_
  · simp
  · simp (dsimp := false) only [go_sem, Nat.reduceAdd, Nat.reduceBEq, Nat.reduceEqDiff, Nat.reduceLT, Nat.reduceLeDiff, Nat.reduceMul, Int.reduceToNat, reduceCtorEq, ↓reduceIte]
    first | done | omega
  rintro ⟨i, ok⟩ ⟨hi, hall⟩
  simp only [] at hi hall
  have us := eq_self (0 : Nat)
  (repeat' (first | with_reducible (first | refine And.intro ?_ ?_ | intro _ | (refine hKv _ _ (AWp_nop ?_); clear hKv Kv) | (refine hKA ?_; clear hKA hKB KA KB) | (refine hKB ?_; clear hKA hKB KA KB) | refine Wp ?_ | fail) | ((first | with_reducible (first | (refine hKv _ _ ?_; clear hKv Kv) | (refine Wr ?_; intro Kv hKv) | refine AWp_retR ?_ | fail) | refine Wc ?_ | fail); try simp (dsimp := false) only [go_sem, Nat.reduceAdd, Nat.reduceBEq, Nat.reduceEqDiff, Nat.reduceLT, Nat.reduceLeDiff, Nat.reduceMul, Int.reduceToNat, reduceCtorEq, ↓reduceIte, us]) | (refine AWp_condC rfl ?_; intro KA KB hKA hKB; try simp only [onB_true, onB_false, onB_dec, onB_ndec, onB_not, onB_and, onB_or]) | (refine AWp_condA rfl ?_ ?_) | with_reducible (first | refine onB_of ?_ ?_ | rfl) | omega))
  all_goals try have hst := okBytes_drop ‹l[i]? = some _›
  all_goals try (apply Exists.intro (i + 1, _); dsimp only; refine ⟨⟨by omega, ?_⟩, by omega, rfl, by omega⟩)
  all_goals try refine keepD hk ?_
  all_goals try simp only [V.d.injEq, D.i.injEq, true_and, textFault, if_pos h1]
  all_goals rw [hall]
  all_goals try rw [hst]
  all_goals first
    | grind [okByte]
    | (have : i = l.length := by omega
       subst this; simp_all [okBytes])
end Go.Proofs.YtmhabdopcbokoaaDoor
namespace Go.Proofs.YtmhabdopcbokoaaDoor
open Go Go.Proofs.YtmhabdopcbokoaaDoor.Ab
variable [Glo]
structure It where
  k : Int
  n : Int
  s : List UInt8
  deriving DecidableEq
structure Tk where
  k : Int
  s : List UInt8
  n : Int
  deriving DecidableEq
def tkD (x : Tk) : List D := [.i .i64 x.k, .s x.s, .i .i64 x.n]
def tkV (x : Tk) : V := .ag [.d (.i .i64 x.k), .d (.s x.s), .d (.i .i64 x.n)]
abbrev tyTk : Ty := .cons (.i .i64) (.cons .s (.cons (.i .i64) .nil))
theorem typed_tk {ds : List D} {m : Nat} (h : Typed tyTk ds m) : ∃ x : Tk, ds = tkD x ∧ x.s.length + 3 ≤ m ∧ inR .i64 x.k ∧ inR .i64 x.n := by
  obtain ⟨_, _, _, _, rfl, e1, h1, g1⟩ := typed_cons h
  obtain ⟨_, _, _, _, rfl, e2, h2, g2⟩ := typed_cons g1
  obtain ⟨_, _, _, _, rfl, e3, h3, g3⟩ := typed_cons g2
  obtain ⟨a, rfl, ra, la⟩ := typed_i h1
  obtain ⟨b, rfl, lb⟩ := typed_s h2
  obtain ⟨s, rfl, rs, ls⟩ := typed_i h3
  obtain rfl := typed_nil g3
  exact ⟨⟨a, b, s⟩, rfl, by simp only []; omega, ra, rs⟩
theorem typed_list {α : Type} {E : Ty} {f : α → List D} {p : α → Nat → Prop} (hE : ∀ ds m, Typed E ds m → ∃ x, ds = f x ∧ p x m) {ds : List D} {m : Nat} (h : Typed (.sl E) ds m) :
    ∃ (xs : List α) (ws : List Nat), ds = [.sl E.size (xs.map f)] ∧ ws.length = xs.length ∧ ws.sum + 1 ≤ m ∧ ∀ (i : Nat) (x : α) (w : Nat), xs[i]? = some x → ws[i]? = some w → p x w := by
  obtain ⟨rows, rfl, ws, h1, h2, h3⟩ := typed_sl h
  have : ∀ (rows : List (List D)) (ws : List Nat), ws.length = rows.length → (∀ (i : Nat) (row : List D) (w : Nat), rows[i]? = some row → ws[i]? = some w → Typed E row w) → ∃ xs : List α, rows = xs.map f ∧ ∀ (i : Nat) (x : α) (w : Nat), xs[i]? = some x → ws[i]? = some w → p x w := by
    intro rows
    induction rows with
    | nil => intro ws _ _; exact ⟨[], rfl, by simp⟩
    | cons r rows ih =>
      intro ws hl hw
      cases ws with
      | nil => simp at hl
      | cons w ws =>
        obtain ⟨x, rfl, hx⟩ := hE r w (hw 0 r w rfl rfl)
        obtain ⟨xs, rfl, hxs⟩ := ih ws (by simpa using hl) (fun i row w' h1 h2 => hw (i + 1) row w' (by simpa using h1) (by simpa using h2))
        refine ⟨x :: xs, rfl, fun i y w' h1 h2 => ?_⟩
        cases i with
        | zero => simp at h1 h2; subst h1 h2; exact hx
        | succ i => exact hxs i y w' (by simpa using h1) (by simpa using h2)
  obtain ⟨xs, rfl, hxs⟩ := this rows ws h1 h3
  exact ⟨xs, ws, rfl, by simpa using h1, h2, hxs⟩
theorem le_sum : ∀ {ws : List Nat} {i w : Nat}, ws[i]? = some w → w ≤ ws.sum
  | [], i, w, h => by simp at h
  | x :: ws, 0, w, h => by simp at h; subst h; simp
  | x :: ws, i + 1, w, h => by
    have := le_sum (ws := ws) (i := i) (w := w) (by simpa using h)
    simp only [List.sum_cons]
    omega
theorem len_sum {ws : List Nat} (c : Nat) (h : ∀ (i w : Nat), ws[i]? = some w → c ≤ w) : c * ws.length ≤ ws.sum := by
  induction ws with
  | nil => simp
  | cons x ws ih =>
    have h1 := h 0 x rfl
    have h2 := ih fun i w hw => h (i + 1) w (by simpa using hw)
    simp only [List.length_cons, List.sum_cons, Nat.mul_add]
    omega
end Go.Proofs.YtmhabdopcbokoaaDoor
namespace Go.Proofs.YtmhabdopcbokoaaDoor
open Go Go.Proofs.YtmhabdopcbokoaaDoor.Ab
variable [Glo]
def wordB (c : Int) (first : Bool) : Bool := !decide (c = 46) && nameB c first
def wEnd (s : List UInt8) (a j : Nat) : Nat :=
  if h : j < s.length then (if wordB (s[j]).toNat (decide (j = a)) = true then wEnd s a (j + 1) else j) else j
termination_by s.length - j
theorem wEnd_next {s : List UInt8} {a j : Nat} {c : UInt8} (h : s[j]? = some c) (hw : wordB c.toNat (decide (j = a)) = true) : wEnd s a j = wEnd s a (j + 1) := by
  obtain ⟨hj, rfl⟩ := List.getElem?_eq_some_iff.1 h
  rw [wEnd, dif_pos hj, if_pos hw]
theorem wEnd_stop {s : List UInt8} {a j : Nat} {c : UInt8} (h : s[j]? = some c) (hw : wordB c.toNat (decide (j = a)) = false) : wEnd s a j = j := by
  obtain ⟨hj, rfl⟩ := List.getElem?_eq_some_iff.1 h
  rw [wEnd, dif_pos hj, if_neg (by rw [hw]; decide)]
theorem wEnd_end {s : List UInt8} {a j : Nat} (h : s.length ≤ j) : wEnd s a j = j := by rw [wEnd, dif_neg (by omega)]
theorem wEnd_le (s : List UInt8) (a : Nat) : ∀ (m j : Nat), s.length - j ≤ m → j ≤ s.length → j ≤ wEnd s a j ∧ wEnd s a j ≤ s.length
  | 0, j, h, hj => by rw [wEnd_end (by omega)]; omega
  | m + 1, j, h, hj => by
    by_cases hl : j < s.length
    · rw [wEnd, dif_pos hl]
      split
      · have := wEnd_le s a m (j + 1) (by omega) (by omega); omega
      · omega
    · rw [wEnd_end (by omega)]; omega
def digB (c : Int) : Bool := decide (48 ≤ c ∧ c ≤ 57)
def qAt (s : List UInt8) (j : Nat) : Nat :=
  if h : j < s.length then (if s[j] = 34 then j else qAt s (j + 1)) else s.length
termination_by s.length - j
theorem qAt_hit {s : List UInt8} {j : Nat} {c : UInt8} (h : s[j]? = some c) (hc : c = 34) : qAt s j = j := by
  obtain ⟨hj, rfl⟩ := List.getElem?_eq_some_iff.1 h
  rw [qAt, dif_pos hj, if_pos hc]
theorem qAt_next {s : List UInt8} {j : Nat} {c : UInt8} (h : s[j]? = some c) (hc : c ≠ 34) : qAt s j = qAt s (j + 1) := by
  obtain ⟨hj, rfl⟩ := List.getElem?_eq_some_iff.1 h
  rw [qAt, dif_pos hj, if_neg hc]
theorem qAt_end {s : List UInt8} {j : Nat} (h : s.length ≤ j) : qAt s j = s.length := by rw [qAt, dif_neg (by omega)]
theorem qAt_le (s : List UInt8) : ∀ (m j : Nat), s.length - j ≤ m → j ≤ s.length → j ≤ qAt s j ∧ qAt s j ≤ s.length
  | 0, j, h, hj => by rw [qAt_end (by omega)]; omega
  | m + 1, j, h, hj => by
    by_cases hl : j < s.length
    · rw [qAt, dif_pos hl]
      split
      · omega
      · have := qAt_le s m (j + 1) (by omega) (by omega); omega
    · rw [qAt_end (by omega)]; omega
def marksL : List (List UInt8) := [[58, 58], [47, 47], [46, 46], [58, 61], [33, 61], [60, 61], [62, 61], [60, 60], [62, 62], [47], [40], [41], [91], [93], [123], [125], [44], [46], [64], [42], [61], [60], [62], [43], [45], [124]]
end Go.Proofs.YtmhabdopcbokoaaDoor
