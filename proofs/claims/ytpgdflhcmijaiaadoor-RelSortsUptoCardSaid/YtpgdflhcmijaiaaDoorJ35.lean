/-
  DERIVED: THE SHELF's CONTRACTS AT THIS DUMP, IN PLAIN WORDS (tools/lay-plain.mjs out of 'YtpgdflhcmijaiaaDoorSh.lean', which tools/lay-shelf.mjs wrote): THE SAME DECLARATIONS UNDER THE SAME NAMES: 'import', 'namespace', 'open', 'def', 'theorem' AND NOTHING ELSE: no command of the shelf's: FOR A HAND-IN. Each laying: the table of numbers ('.._ren') and one theorem, a field a fact of the dump's own or the kernel's comparison; each contract: ONE APPLICATION.
-/
import Derived.Ground.NamesProg
import Derived.Shelf.Small.Strs
import Derived.Shelf.Strings.Search1
import Derived.Shelf.Unicode.ValidAny
import Derived.Shelf.Strings.Builder1
import Derived.Test.YtpgdflhcmijaiaaDoorProg
import Derived.Test.YtpgdflhcmijaiaaDoorJ18
import Derived.Lib.LaidU8T
import Derived.Test.YtpgdflhcmijaiaaDoorJ23
set_option linter.all false
set_option linter.unusedSimpArgs false
set_option linter.unusedVariables false
namespace Go.Proofs
open Go.Shelf
def Tryd.laysValid_ren : Go.Shelf.Ren := ⟨fun | 196 => 108 | 259 => 121 | n => n, fun | 9 => 9 | 4 => 4 | 3 => 3 | 5 => 5 | 12 => 12 | 119 => 149 | 0 => 0 | 46 => 106 | 139 => 152 | 138 => 151 | 53 => 134 | n => n, fun | 3 => 0 | 4 => 1 | n => n⟩
theorem Tryd.laysValid : Go.Proofs.Lays.n196 Tryd.prog Tryd.laysValid_ren := {
  mixed := by kernel_rfl
  f196 := Tryd.func108.trans (congrArg some (by kernel_rfl))
  f259 := Tryd.func121.trans (congrArg some (by kernel_rfl))
  t0 := Tryd.underlying0
  a0 := Tryd.isAgg0
  z0 := Tryd.sizeOf0
  v0 := Tryd.zeroValue0
  t3 := Tryd.underlying3
  a3 := Tryd.isAgg3
  z3 := Tryd.sizeOf3
  v3 := Tryd.zeroValue3
  t4 := Tryd.underlying4
  a4 := Tryd.isAgg4
  z4 := Tryd.sizeOf4
  v4 := Tryd.zeroValue4
  t5 := Tryd.underlying5
  a5 := Tryd.isAgg5
  z5 := Tryd.sizeOf5
  v5 := Tryd.zeroValue5
  t9 := Tryd.underlying9
  a9 := Tryd.isAgg9
  z9 := Tryd.sizeOf9
  v9 := Tryd.zeroValue9
  t12 := Tryd.underlying12
  a12 := Tryd.isAgg12
  z12 := Tryd.sizeOf12
  v12 := Tryd.zeroValue12
  t46 := Tryd.underlying106
  a46 := Tryd.isAgg106
  z46 := Tryd.sizeOf106
  v46 := Tryd.zeroValue106
  t53 := Tryd.underlying134
  a53 := Tryd.isAgg134
  z53 := Tryd.sizeOf134
  v53 := Tryd.zeroValue134
  t119 := Tryd.underlying149
  a119 := Tryd.isAgg149
  z119 := Tryd.sizeOf149
  t138 := Tryd.underlying151
  a138 := Tryd.isAgg151
  z138 := Tryd.sizeOf151
  v138 := Tryd.zeroValue151
  t139 := Tryd.underlying152
  a139 := Tryd.isAgg152
  z139 := Tryd.sizeOf152
  v139 := Tryd.zeroValue152
  g3 := by kernel_rfl
  g4 := by kernel_rfl }
end Go.Proofs
namespace Go.Proofs.YtpgdflhcmijaiaaDoor
open Go Go.Proofs.YtpgdflhcmijaiaaDoor.Ab
variable [Glo]
def firstRow : List D := Lib.firstTab.map fun z => .i .u8 z
def acceptRow : List D := (List.range 16).flatMap fun i => [.i .u8 (Lib.accLo i), .i .u8 (Lib.accHi i)]
class U8 [Glo] : Prop where
  first : glob 0 = some firstRow
  accept : glob 1 = some acceptRow
theorem firstRow_get (c : Nat) (hc : c < 256) : firstRow[c]? = some (.i .u8 (Lib.firstT c)) := by
  simp [firstRow, Lib.firstTab, hc]
theorem acceptRow_get (i : Nat) (hi : i < 16) : acceptRow[2 * i]? = some (.i .u8 (Lib.accLo i)) ∧ acceptRow[2 * i + 1]? = some (.i .u8 (Lib.accHi i)) := by
  match i, hi with
  | 0, _ | 1, _ | 2, _ | 3, _ | 4, _ | 5, _ | 6, _ | 7, _ | 8, _ | 9, _ | 10, _ | 11, _ | 12, _ | 13, _ | 14, _ | 15, _ => exact ⟨rfl, rfl⟩
  | n + 16, h => exact absurd h (by omega)
theorem tabs_of [U8] {w : World} {H : Heap} {σ : Conc} (hw : WOk w H σ) : Lib.Utf8Tabs 0 1 w := by
  obtain ⟨_, _, f, f1, f2⟩ := hw.glob _ _ U8.first
  obtain ⟨_, _, a, a1, a2⟩ := hw.glob _ _ U8.accept
  refine ⟨fun c hc => ?_, fun i hi => ⟨?_, ?_⟩⟩
  · rw [f1 c _ (firstRow_get c hc), (f2 c _ (firstRow_get c hc)).inv_i]
  · rw [a1 _ _ (acceptRow_get i hi).1, (a2 _ _ (acceptRow_get i hi).1).inv_i]
  · rw [a1 _ _ (acceptRow_get i hi).2, (a2 _ _ (acceptRow_get i hi).2).inv_i]
theorem valid_A [U8] (l : List UInt8) (hl : l.length ≤ 9223372036854775807) (H : Heap) (K : V → Heap → Prop) (hk : K (.d (.b (Lib.validD l))) H) : ACalls Tryd.prog 108 [.d (.s l)] H K := by
  refine ACalls_below _ hk fun w σ args hw hlen hr => ?_
  obtain ⟨u, rfl⟩ := Array.size_eq_one_iff.1 (by simpa using hlen.symm)
  obtain rfl := (hr 0 _ u rfl rfl).inv_d.inv_s
  refine ⟨.bool (Lib.validD l), fun w' _ => .d _ _ (.b _), ?_⟩
  have := Any.utf8_ValidString Tryd.laysValid ⟨l.toArray⟩ w (by rw [size_mk]; exact hl) (tabs_of hw)
  have e : (⟨l.toArray⟩ : ByteArray).data.toList = l := by simp
  rw [e] at this
  exact this
end Go.Proofs.YtpgdflhcmijaiaaDoor
namespace Go.Proofs.YtpgdflhcmijaiaaDoor
open Go Go.Proofs.YtpgdflhcmijaiaaDoor.Ab
variable [Glo] [U8]
set_option maxHeartbeats 1000000
set_option maxRecDepth 20000
def okByte (c : Int) : Bool := decide (32 ≤ c ∨ c = 9 ∨ c = 10)
def okBytes (l : List UInt8) : Bool := l.all fun c => okByte c.toNat
def textFault (l : List UInt8) : Int := if l.length ≤ 20000 then (if (Lib.validD l && okBytes l) = true then 0 else 4) else 1
theorem okBytes_drop {l : List UInt8} {i : Nat} {c : UInt8} (h : l[i]? = some c) : okBytes (l.drop i) = (okByte c.toNat && okBytes (l.drop (i + 1))) := all_drop _ h
def ks_83 : Nat → List Nat
  | 0 => [0]
  | 1 => [0, 6]
  | 2 => [2]
  | 3 => [0, 9]
  | 4 => [2]
  | 5 => [0, 11, 12]
  | 6 => [0, 11, 12, 13]
  | 7 => [0, 3, 11, 12]
  | 8 => [0, 11, 12, 30]
  | 9 => [2]
  | 10 => [0, 11, 12]
  | 11 => [2]
  | _ => []
def mu_83 : List Nat := []
def in_83 : List Nat := [0]
theorem checkText_A (l : List UInt8) (hlen : l.length ≤ 9223372036854775807) (H : Heap) (K : V → Heap → Prop) (hk : K (.d (.i .i64 (textFault l))) H) : ACalls Tryd.prog 83 [.d (.s l)] H K := by
  refine ACalls_of Tryd.func83 rfl in_83 (Nat.le_of_ble_eq_true rfl) ?_
  intro F hF
  simp (dsimp := false) only [go_sem, Nat.reduceAdd, Nat.reduceBEq, Nat.reduceEqDiff, Nat.reduceLT, Nat.reduceLeDiff, Nat.reduceMul, Int.reduceToNat, reduceCtorEq, ↓reduceIte, Tryd.ntmps83, Tryd.results83, ks_83, mu_83, ti_hb108, ti_st9, in_83] at hF
  subst hF
  repeat' (first | with_reducible (first | refine And.intro ?_ ?_ | intro _ | refine AWp_seq ?_ | refine AWp_block ?_ | (refine hKv _ _ (AWp_nop ?_); clear hKv Kv) | (refine hKA ?_; clear hKA hKB KA KB) | (refine hKB ?_; clear hKA hKB KA KB) | refine AWp_skipN ?_ | refine AWp_exitO (by repeat (first | exact Out.hit | apply Out.thenA | apply Out.out rfl)) ?_) | ((first | with_reducible (first | (refine hKv _ _ ?_; clear hKv Kv) | ((first | refine AWp_regC mu_83 ks_83 ?_ | refine AWp_regE mu_83 ks_83 ?_); intro Kv hKv) | refine AWp_retR ?_) | refine valid_A _ hlen _ _ ?_); try simp (dsimp := false) only [go_sem, Nat.reduceAdd, Nat.reduceBEq, Nat.reduceEqDiff, Nat.reduceLT, Nat.reduceLeDiff, Nat.reduceMul, Int.reduceToNat, reduceCtorEq, ↓reduceIte, Tryd.ntmps83, Tryd.results83, ks_83, mu_83, ti_hb108, ti_st9]) | (refine AWp_condC rfl ?_; intro KA KB hKA hKB; try simp only [onB_true, onB_false, onB_dec, onB_ndec, onB_not, onB_and, onB_or]) | (refine AWp_condA rfl ?_ ?_) | with_reducible (first | refine onB_of ?_ ?_ | rfl) | omega)
  all_goals try exact keepD hk (by (simp only [V.d.injEq, D.i.injEq, D.b.injEq, D.s.injEq, true_and]; grind [textFault]))
  rename_i h1 h2
  have h1 : l.length ≤ 20000 := by omega
  have h2 : Lib.validD l = true := by simpa using h2
  refine AWp_while0 (fun i : Nat => i ≤ l.length ∧ okBytes l = okBytes (l.drop i)) (fun i => [(0, .d (.s l)), (11, .d (.i .i64 l.length)), (12, .d (.i .i64 i))]) (fun i => l.length - i) 0 ?_ ?_ ?_
  · simp
  · simp (dsimp := false) only [go_sem, Nat.reduceAdd, Nat.reduceBEq, Nat.reduceEqDiff, Nat.reduceLT, Nat.reduceLeDiff, Nat.reduceMul, Int.reduceToNat, reduceCtorEq, ↓reduceIte, Tryd.ntmps83, Tryd.results83, ks_83, mu_83, ti_hb108, ti_st9]
    omega
  rintro i ⟨hi, hall⟩
  repeat' (first | with_reducible (first | refine And.intro ?_ ?_ | intro _ | refine AWp_seq ?_ | refine AWp_block ?_ | (refine hKv _ _ (AWp_nop ?_); clear hKv Kv) | (refine hKA ?_; clear hKA hKB KA KB) | (refine hKB ?_; clear hKA hKB KA KB) | refine AWp_skipN ?_ | refine AWp_exitO (by repeat (first | exact Out.hit | apply Out.thenA | apply Out.out rfl)) ?_) | (with_reducible (first | (refine hKv _ _ ?_; clear hKv Kv) | ((first | refine AWp_regC mu_83 ks_83 ?_ | refine AWp_regE mu_83 ks_83 ?_); intro Kv hKv) | refine AWp_retR ?_); try simp (dsimp := false) only [go_sem, Nat.reduceAdd, Nat.reduceBEq, Nat.reduceEqDiff, Nat.reduceLT, Nat.reduceLeDiff, Nat.reduceMul, Int.reduceToNat, reduceCtorEq, ↓reduceIte, Tryd.ntmps83, Tryd.results83, ks_83, mu_83, ti_hb108, ti_st9]) | (refine AWp_condC rfl ?_; intro KA KB hKA hKB; try simp only [onB_true, onB_false, onB_dec, onB_ndec, onB_not, onB_and, onB_or]) | (refine AWp_condA rfl ?_ ?_) | with_reducible (first | refine onB_of ?_ ?_ | rfl) | omega)
  all_goals try have hst := okBytes_drop ‹l[i]? = some _›
  all_goals try (refine ⟨i + 1, ⟨by omega, ?_⟩, by omega, by omega⟩)
  all_goals try refine keepD hk ?_
  all_goals try simp only [V.d.injEq, D.i.injEq, true_and, textFault, if_pos h1, h2]
  all_goals rw [hall]
  all_goals try rw [hst]
  all_goals first
    | (have : i = l.length := by omega
       subst this; simp [okBytes])
    | grind [okByte]
def ks_89 : Nat → List Nat
  | 0 => [0]
  | 1 => [0, 7]
  | 2 => [2]
  | 3 => [0, 3]
  | 4 => [0, 3, 4]
  | 5 => [0, 3, 4, 13]
  | 6 => [0, 3, 4]
  | 7 => [0, 3, 4]
  | 8 => [36]
  | 9 => [2]
  | 10 => [2]
  | _ => []
def mu_89 : List Nat := []
def in_89 : List Nat := [0]
theorem valueFault_A (l : List UInt8) (hlen : l.length ≤ 9223372036854775807) (H : Heap) (K : V → Heap → Prop) (hk : K (.d (.i .i64 (textFault l))) H) : ACalls Tryd.prog 89 [.d (.s l)] H K := by
  refine ACalls_of Tryd.func89 rfl in_89 (Nat.le_of_ble_eq_true rfl) ?_
  intro F hF
  simp (dsimp := false) only [go_sem, Nat.reduceAdd, Nat.reduceBEq, Nat.reduceEqDiff, Nat.reduceLT, Nat.reduceLeDiff, Nat.reduceMul, Int.reduceToNat, reduceCtorEq, ↓reduceIte, Tryd.ntmps89, Tryd.results89, ks_89, mu_89, ti_hb108, ti_st9, in_89] at hF
  subst hF
  repeat' (first | with_reducible (first | refine And.intro ?_ ?_ | intro _ | refine AWp_seq ?_ | refine AWp_block ?_ | (refine hKv _ _ (AWp_nop ?_); clear hKv Kv) | (refine hKA ?_; clear hKA hKB KA KB) | (refine hKB ?_; clear hKA hKB KA KB) | refine AWp_skipN ?_ | refine AWp_exitO (by repeat (first | exact Out.hit | apply Out.thenA | apply Out.out rfl)) ?_) | ((first | with_reducible (first | (refine hKv _ _ ?_; clear hKv Kv) | ((first | refine AWp_regC mu_89 ks_89 ?_ | refine AWp_regE mu_89 ks_89 ?_); intro Kv hKv) | refine AWp_retR ?_) | refine valid_A _ hlen _ _ ?_); try simp (dsimp := false) only [go_sem, Nat.reduceAdd, Nat.reduceBEq, Nat.reduceEqDiff, Nat.reduceLT, Nat.reduceLeDiff, Nat.reduceMul, Int.reduceToNat, reduceCtorEq, ↓reduceIte, Tryd.ntmps89, Tryd.results89, ks_89, mu_89, ti_hb108, ti_st9]) | (refine AWp_condC rfl ?_; intro KA KB hKA hKB; try simp only [onB_true, onB_false, onB_dec, onB_ndec, onB_not, onB_and, onB_or]) | (refine AWp_condA rfl ?_ ?_) | with_reducible (first | refine onB_of ?_ ?_ | rfl) | omega)
  all_goals try exact keepD hk (by (simp only [V.d.injEq, D.i.injEq, D.b.injEq, D.s.injEq, true_and]; grind [textFault]))
  rename_i h1
  have h1 : l.length ≤ 20000 := by omega
  refine AWp_while0 (fun x : Nat × Bool => x.1 ≤ l.length ∧ (Lib.validD l && okBytes l) = (x.2 && okBytes (l.drop x.1))) (fun x => [(0, .d (.s l)), (3, .d (.b x.2)), (4, .d (.i .i64 x.1))]) (fun x => l.length - x.1) (0, Lib.validD l) ?_ ?_ ?_
  · simp
  · simp (dsimp := false) only [go_sem, Nat.reduceAdd, Nat.reduceBEq, Nat.reduceEqDiff, Nat.reduceLT, Nat.reduceLeDiff, Nat.reduceMul, Int.reduceToNat, reduceCtorEq, ↓reduceIte, Tryd.ntmps89, Tryd.results89, ks_89, mu_89, ti_hb108, ti_st9]
    first | done | omega
  rintro ⟨i, ok⟩ ⟨hi, hall⟩
  simp only [] at hi hall
  repeat' (first | with_reducible (first | refine And.intro ?_ ?_ | intro _ | refine AWp_seq ?_ | refine AWp_block ?_ | (refine hKv _ _ (AWp_nop ?_); clear hKv Kv) | (refine hKA ?_; clear hKA hKB KA KB) | (refine hKB ?_; clear hKA hKB KA KB) | refine AWp_skipN ?_ | refine AWp_exitO (by repeat (first | exact Out.hit | apply Out.thenA | apply Out.out rfl)) ?_) | (with_reducible (first | (refine hKv _ _ ?_; clear hKv Kv) | ((first | refine AWp_regC mu_89 ks_89 ?_ | refine AWp_regE mu_89 ks_89 ?_); intro Kv hKv) | refine AWp_retR ?_); try simp (dsimp := false) only [go_sem, Nat.reduceAdd, Nat.reduceBEq, Nat.reduceEqDiff, Nat.reduceLT, Nat.reduceLeDiff, Nat.reduceMul, Int.reduceToNat, reduceCtorEq, ↓reduceIte, Tryd.ntmps89, Tryd.results89, ks_89, mu_89, ti_hb108, ti_st9]) | (refine AWp_condC rfl ?_; intro KA KB hKA hKB; try simp only [onB_true, onB_false, onB_dec, onB_ndec, onB_not, onB_and, onB_or]) | (refine AWp_condA rfl ?_ ?_) | with_reducible (first | refine onB_of ?_ ?_ | rfl) | omega)
  all_goals try have hst := okBytes_drop ‹l[i]? = some _›
  all_goals try (apply Exists.intro (i + 1, _); dsimp only; refine ⟨⟨by omega, ?_⟩, by omega, rfl, by omega⟩)
  all_goals try refine keepD hk ?_
  all_goals try simp only [V.d.injEq, D.i.injEq, true_and, textFault, if_pos h1]
  all_goals rw [hall]
  all_goals try rw [hst]
  all_goals first
    | grind [okByte]
    | (have : i = l.length := by omega
       subst this; simp_all [okBytes])
    | trace_state
end Go.Proofs.YtpgdflhcmijaiaaDoor
namespace Go.Proofs.YtpgdflhcmijaiaaDoor
open Go Go.Proofs.YtpgdflhcmijaiaaDoor.Ab
variable [Glo]
set_option maxHeartbeats 1000000
set_option maxRecDepth 20000
def ks_55 : Nat → List Nat
  | 0 => [0, 1, 2]
  | 1 => [6]
  | _ => []
def mu_55 : List Nat := []
def in_55 : List Nat := [0, 1, 2]
theorem in_A (n l h : Int) (H : Heap) (K : V → Heap → Prop) (hk : K (.d (.b (decide (l ≤ n ∧ n ≤ h)))) H) : ACalls Tryd.prog 55 [.d (.i .i64 n), .d (.i .i64 l), .d (.i .i64 h)] H K := by
  refine ACalls_of Tryd.func55 rfl in_55 (Nat.le_of_ble_eq_true rfl) ?_
  intro F hF
  simp (dsimp := false) only [go_sem, Nat.reduceAdd, Nat.reduceBEq, Nat.reduceEqDiff, Nat.reduceLT, Nat.reduceLeDiff, Nat.reduceMul, Int.reduceToNat, reduceCtorEq, ↓reduceIte, Tryd.ntmps55, Tryd.results55, ks_55, mu_55, in_55] at hF
  subst hF
  repeat' (first | with_reducible (first | refine And.intro ?_ ?_ | intro _ | refine AWp_seq ?_ | refine AWp_block ?_ | (refine hKv _ _ (AWp_nop ?_); clear hKv Kv) | (refine hKA ?_; clear hKA hKB KA KB) | (refine hKB ?_; clear hKA hKB KA KB) | refine AWp_skipN ?_ | refine AWp_exitO (by repeat (first | exact Out.hit | apply Out.thenA | apply Out.out rfl)) ?_) | (with_reducible (first | (refine hKv _ _ ?_; clear hKv Kv) | ((first | refine AWp_regC mu_55 ks_55 ?_ | refine AWp_regE mu_55 ks_55 ?_); intro Kv hKv) | refine AWp_retR ?_); try simp (dsimp := false) only [go_sem, Nat.reduceAdd, Nat.reduceBEq, Nat.reduceEqDiff, Nat.reduceLT, Nat.reduceLeDiff, Nat.reduceMul, Int.reduceToNat, reduceCtorEq, ↓reduceIte, Tryd.ntmps55, Tryd.results55, ks_55, mu_55]) | (refine AWp_condC rfl ?_; intro KA KB hKA hKB; try simp only [onB_true, onB_false, onB_dec, onB_ndec, onB_not, onB_and, onB_or]) | (refine AWp_condA rfl ?_ ?_) | with_reducible (first | refine onB_of ?_ ?_ | rfl) | omega)
  all_goals refine keepD hk ?_
  all_goals simp [*]
end Go.Proofs.YtpgdflhcmijaiaaDoor
namespace Go.Proofs.YtpgdflhcmijaiaaDoor
open Go Go.Proofs.YtpgdflhcmijaiaaDoor.Ab
variable [Glo] [U8]
set_option maxHeartbeats 1000000
set_option maxRecDepth 20000
def itemB (x : It) : Bool :=
  if x.k = 1 then decide (0 ≤ x.n ∧ x.n < 100000 ∧ x.s = [])
  else if x.k = 2 then decide (-1099511627776 ≤ x.n ∧ x.n ≤ 1099511627776 ∧ x.s = [])
  else if x.k = 3 then decide (x.n = 0 ∧ textFault x.s = 0)
  else if x.k = 4 then decide ((x.n = 0 ∨ x.n = 1) ∧ x.s = [])
  else false
def itemFault (x : It) : Int := if itemB x = true then 0 else 12
def ks_60 : Nat → List Nat
  | 0 => [1]
  | 1 => [1, 4]
  | 2 => [1, 4, 5]
  | 3 => [2]
  | 4 => [1, 4, 20]
  | 5 => [2]
  | 6 => [1, 4, 35]
  | 7 => [2]
  | 8 => [1, 46]
  | 9 => [2]
  | 10 => [2]
  | _ => []
def mu_60 : List Nat := []
def in_60 : List Nat := [0]
theorem item_A (x : It) (hs : x.s.length ≤ 9223372036854775807) (H : Heap) (K : V → Heap → Prop) (hk : K (.d (.b (itemB x))) H) : ACalls Tryd.prog 60 [itV x] H K := by
  refine ACalls_of Tryd.func60 rfl in_60 (Nat.le_of_ble_eq_true rfl) ?_
  intro F hF
  simp (dsimp := false) only [go_sem, Nat.reduceAdd, Nat.reduceBEq, Nat.reduceEqDiff, Nat.reduceLT, Nat.reduceLeDiff, Nat.reduceMul, Int.reduceToNat, reduceCtorEq, ↓reduceIte, Tryd.ntmps60, Tryd.results60, ks_60, mu_60, ti_ag3, ti_ag9, ti_fl49_0, ti_fl49_1, ti_fl49_2, ti_hb83, itD, itV, in_60] at hF
  subst hF
  repeat' (first | with_reducible (first | refine And.intro ?_ ?_ | intro _ | refine AWp_seq ?_ | refine AWp_block ?_ | (refine hKv _ _ (AWp_nop ?_); clear hKv Kv) | (refine hKA ?_; clear hKA hKB KA KB) | (refine hKB ?_; clear hKA hKB KA KB) | refine AWp_skipN ?_ | refine AWp_exitO (by repeat (first | exact Out.hit | apply Out.thenA | apply Out.out rfl)) ?_) | ((first | with_reducible (first | (refine hKv _ _ ?_; clear hKv Kv) | ((first | refine AWp_regC mu_60 ks_60 ?_ | refine AWp_regE mu_60 ks_60 ?_); intro Kv hKv) | refine AWp_retR ?_) | refine checkText_A _ hs _ _ ?_); try simp (dsimp := false) only [go_sem, Nat.reduceAdd, Nat.reduceBEq, Nat.reduceEqDiff, Nat.reduceLT, Nat.reduceLeDiff, Nat.reduceMul, Int.reduceToNat, reduceCtorEq, ↓reduceIte, Tryd.ntmps60, Tryd.results60, ks_60, mu_60, ti_ag3, ti_ag9, ti_fl49_0, ti_fl49_1, ti_fl49_2, ti_hb83, itD, itV]) | (refine AWp_condC rfl ?_; intro KA KB hKA hKB; try simp only [onB_true, onB_false, onB_dec, onB_ndec, onB_not, onB_and, onB_or]) | (refine AWp_condA rfl ?_ ?_) | with_reducible (first | refine onB_of ?_ ?_ | rfl) | omega)
  all_goals exact keepD hk (by (simp only [V.d.injEq, D.i.injEq, D.b.injEq, D.s.injEq, true_and]; grind [itemB]))
def ks_66 : Nat → List Nat
  | 0 => [1]
  | 1 => [1, 4]
  | 2 => [1, 4, 5]
  | 3 => [2]
  | 4 => [1, 4, 15]
  | 5 => [2]
  | 6 => [1, 4, 25]
  | 7 => [2]
  | 8 => [1, 36]
  | 9 => [2]
  | 10 => [2]
  | _ => []
def mu_66 : List Nat := []
def in_66 : List Nat := [0]
theorem itemMay_A (x : It) (hs : x.s.length ≤ 9223372036854775807) (H : Heap) (K : V → Heap → Prop) (hk : K (.d (.b (itemB x))) H) : ACalls Tryd.prog 66 [itV x] H K := by
  refine ACalls_of Tryd.func66 rfl in_66 (Nat.le_of_ble_eq_true rfl) ?_
  intro F hF
  simp (dsimp := false) only [go_sem, Nat.reduceAdd, Nat.reduceBEq, Nat.reduceEqDiff, Nat.reduceLT, Nat.reduceLeDiff, Nat.reduceMul, Int.reduceToNat, reduceCtorEq, ↓reduceIte, Tryd.ntmps66, Tryd.results66, ks_66, mu_66, ti_ag3, ti_ag9, ti_fl49_0, ti_fl49_1, ti_fl49_2, ti_hb55, ti_hb89, itD, itV, in_66] at hF
  subst hF
  repeat' (first | with_reducible (first | refine And.intro ?_ ?_ | intro _ | refine AWp_seq ?_ | refine AWp_block ?_ | (refine hKv _ _ (AWp_nop ?_); clear hKv Kv) | (refine hKA ?_; clear hKA hKB KA KB) | (refine hKB ?_; clear hKA hKB KA KB) | refine AWp_skipN ?_ | refine AWp_exitO (by repeat (first | exact Out.hit | apply Out.thenA | apply Out.out rfl)) ?_) | ((first | with_reducible (first | (refine hKv _ _ ?_; clear hKv Kv) | ((first | refine AWp_regC mu_66 ks_66 ?_ | refine AWp_regE mu_66 ks_66 ?_); intro Kv hKv) | refine AWp_retR ?_) | refine valueFault_A _ hs _ _ ?_ | refine in_A _ _ _ _ _ ?_); try simp (dsimp := false) only [go_sem, Nat.reduceAdd, Nat.reduceBEq, Nat.reduceEqDiff, Nat.reduceLT, Nat.reduceLeDiff, Nat.reduceMul, Int.reduceToNat, reduceCtorEq, ↓reduceIte, Tryd.ntmps66, Tryd.results66, ks_66, mu_66, ti_ag3, ti_ag9, ti_fl49_0, ti_fl49_1, ti_fl49_2, ti_hb55, ti_hb89, itD, itV]) | (refine AWp_condC rfl ?_; intro KA KB hKA hKB; try simp only [onB_true, onB_false, onB_dec, onB_ndec, onB_not, onB_and, onB_or]) | (refine AWp_condA rfl ?_ ?_) | with_reducible (first | refine onB_of ?_ ?_ | rfl) | omega)
  all_goals exact keepD hk (by (simp only [V.d.injEq, D.i.injEq, D.b.injEq, D.s.injEq, true_and]; grind [itemB]))
end Go.Proofs.YtpgdflhcmijaiaaDoor
