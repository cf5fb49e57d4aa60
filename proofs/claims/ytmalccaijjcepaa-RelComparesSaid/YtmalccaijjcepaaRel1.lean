/- The order of items: what the reference and the program say of it. No condition. -/
import Derived.Test.YtmalccaijjcepaaTi
import Derived.WalkKit
import Derived.Lib.Bytealg
import Derived.Lib.Strings
import Derived.Lib.Walk
set_option linter.all false
set_option linter.unusedSimpArgs false
set_option linter.unusedVariables false
namespace Go.Proofs.Ytmalccaijjcepaa
open Go Go.Proofs.Ytmalccaijjcepaa.Ab
variable [Glo]
set_option maxHeartbeats 1000000
set_option maxRecDepth 20000
/- the live slots of cmp.isNaN[int] -/
def ks_17 : Nat → List Nat
  | 0 => [0]
  | 1 => [2]
  | _ => []
def mu_17 : List Nat := []
def in_17 : List Nat := [0]
theorem isNaN_A (n : Int) (H : Heap) (K : V → Heap → Prop) (hk : K (.d (.b false)) H) : ACalls Try.prog 17 [.d (.i .i64 n)] H K := by
  refine ACalls_of Try.func17 rfl in_17 (Nat.le_of_ble_eq_true rfl) ?_
  intro F hF
  simp (dsimp := false) only [go_sem, Nat.reduceAdd, Nat.reduceBEq, Nat.reduceEqDiff, Nat.reduceLT, Nat.reduceLeDiff, Nat.reduceMul, Int.reduceToNat, reduceCtorEq, ↓reduceIte, Try.ntmps17, Try.results17, ks_17, mu_17, in_17] at hF
  subst hF
  repeat' (first | with_reducible (first | refine And.intro ?_ ?_ | intro _ | refine AWp_seq ?_ | refine AWp_block ?_ | (refine hKv _ _ (AWp_nop ?_); clear hKv Kv) | (refine hKA ?_; clear hKA hKB KA KB) | (refine hKB ?_; clear hKA hKB KA KB) | refine AWp_skipN ?_ | refine AWp_exitO (by repeat (first | exact Out.hit | apply Out.thenA | apply Out.out rfl)) ?_) | (with_reducible (first | (refine hKv _ _ ?_; clear hKv Kv) | ((first | refine AWp_regC mu_17 ks_17 ?_ | refine AWp_regE mu_17 ks_17 ?_); intro Kv hKv) | refine AWp_retR ?_); try simp (dsimp := false) only [go_sem, Nat.reduceAdd, Nat.reduceBEq, Nat.reduceEqDiff, Nat.reduceLT, Nat.reduceLeDiff, Nat.reduceMul, Int.reduceToNat, reduceCtorEq, ↓reduceIte, Try.ntmps17, Try.results17, ks_17, mu_17]) | (refine AWp_condC rfl ?_; intro KA KB hKA hKB; try simp only [onB_true, onB_false, onB_dec, onB_ndec, onB_not, onB_and, onB_or]) | (refine AWp_condA rfl ?_ ?_) | with_reducible (first | refine onB_of ?_ ?_ | rfl) | omega)
  all_goals exact keepD hk (by simp)

def cmpI (a b : Int) : Int := if a < b then -1 else if b < a then 1 else 0
/- the live slots of cmp.Compare[int] -/
def ks_14 : Nat → List Nat
  | 0 => [0, 1]
  | 1 => [0, 1, 5]
  | 2 => [0, 1, 5, 6]
  | 3 => [0, 1, 6, 11]
  | 4 => [12]
  | 5 => [4]
  | 6 => [4]
  | 7 => [0, 1, 13]
  | 8 => [4]
  | 9 => [0, 1, 16]
  | 10 => [4]
  | 11 => [19]
  | 12 => [4]
  | 13 => [4]
  | _ => []
def mu_14 : List Nat := []
def in_14 : List Nat := [0, 1]
theorem cmpInt_A (a b : Int) (H : Heap) (K : V → Heap → Prop) (hk : K (.d (.i .i64 (cmpI a b))) H) : ACalls Try.prog 14 [.d (.i .i64 a), .d (.i .i64 b)] H K := by
  refine ACalls_of Try.func14 rfl in_14 (Nat.le_of_ble_eq_true rfl) ?_
  intro F hF
  simp (dsimp := false) only [go_sem, Nat.reduceAdd, Nat.reduceBEq, Nat.reduceEqDiff, Nat.reduceLT, Nat.reduceLeDiff, Nat.reduceMul, Int.reduceToNat, reduceCtorEq, ↓reduceIte, Try.ntmps14, Try.results14, ks_14, mu_14, ti_hb17, in_14] at hF
  subst hF
  repeat' (first | with_reducible (first | refine And.intro ?_ ?_ | intro _ | refine AWp_seq ?_ | refine AWp_block ?_ | (refine hKv _ _ (AWp_nop ?_); clear hKv Kv) | (refine hKA ?_; clear hKA hKB KA KB) | (refine hKB ?_; clear hKA hKB KA KB) | refine AWp_skipN ?_ | refine AWp_exitO (by repeat (first | exact Out.hit | apply Out.thenA | apply Out.out rfl)) ?_) | ((first | with_reducible (first | (refine hKv _ _ ?_; clear hKv Kv) | ((first | refine AWp_regC mu_14 ks_14 ?_ | refine AWp_regE mu_14 ks_14 ?_); intro Kv hKv) | refine AWp_retR ?_) | refine isNaN_A _ _ _ ?_); try simp (dsimp := false) only [go_sem, Nat.reduceAdd, Nat.reduceBEq, Nat.reduceEqDiff, Nat.reduceLT, Nat.reduceLeDiff, Nat.reduceMul, Int.reduceToNat, reduceCtorEq, ↓reduceIte, Try.ntmps14, Try.results14, ks_14, mu_14, ti_hb17]) | (refine AWp_condC rfl ?_; intro KA KB hKA hKB; try simp only [onB_true, onB_false, onB_dec, onB_ndec, onB_not, onB_and, onB_or]) | (refine AWp_condA rfl ?_ ?_) | with_reducible (first | refine onB_of ?_ ?_ | rfl) | omega)
  all_goals exact keepD hk (by simp_all [cmpI]; try omega)

def orI : List Int → Int
  | [] => 0
  | x :: r => if x = 0 then orI r else x
theorem orI_drop {xs : List Int} {i : Nat} {x : Int} (h : xs[i]? = some x) : orI (xs.drop i) = if x = 0 then orI (xs.drop (i + 1)) else x := by
  have hi : i < xs.length := (List.getElem?_eq_some_iff.1 h).1
  rw [List.drop_eq_getElem_cons hi]
  rw [List.getElem?_eq_getElem hi] at h
  rw [Option.some.inj h, orI]
/- the live slots of cmp.Or[int] -/
def ks_13 : Nat → List Nat
  | 0 => [0]
  | 1 => [0, 3]
  | 2 => [3, 6, 7, 8]
  | 3 => [3, 6, 7, 8, 9]
  | 4 => [3, 5, 6, 7, 8]
  | 5 => [3, 5, 6, 7, 8, 14]
  | 6 => [2]
  | 7 => [3, 6, 7, 8]
  | 8 => [2]
  | _ => []
def mu_13 : List Nat := []
def in_13 : List Nat := [0]
theorem or_A (xs : List Int) (hlen : xs.length ≤ 9223372036854775807) (H : Heap) (K : V → Heap → Prop) (hk : K (.d (.i .i64 (orI xs))) H) : ACalls Try.prog 13 [.d (.sl 1 (xs.map intRow))] H K := by
  refine ACalls_of Try.func13 rfl in_13 (Nat.le_of_ble_eq_true rfl) ?_
  intro F hF
  simp (dsimp := false) only [go_sem, Nat.reduceAdd, Nat.reduceBEq, Nat.reduceEqDiff, Nat.reduceLT, Nat.reduceLeDiff, Nat.reduceMul, Int.reduceToNat, reduceCtorEq, ↓reduceIte, Try.ntmps13, Try.results13, ks_13, mu_13, ti_ag3, ti_sb24, ti_sl24, in_13] at hF
  subst hF
  repeat' (first | with_reducible (first | refine And.intro ?_ ?_ | intro _ | refine AWp_seq ?_ | refine AWp_block ?_ | (refine hKv _ _ (AWp_nop ?_); clear hKv Kv) | (refine hKA ?_; clear hKA hKB KA KB) | (refine hKB ?_; clear hKA hKB KA KB) | refine AWp_skipN ?_ | refine AWp_exitO (by repeat (first | exact Out.hit | apply Out.thenA | apply Out.out rfl)) ?_) | (with_reducible (first | (refine hKv _ _ ?_; clear hKv Kv) | ((first | refine AWp_regC mu_13 ks_13 ?_ | refine AWp_regE mu_13 ks_13 ?_); intro Kv hKv) | refine AWp_retR ?_); try simp (dsimp := false) only [go_sem, Nat.reduceAdd, Nat.reduceBEq, Nat.reduceEqDiff, Nat.reduceLT, Nat.reduceLeDiff, Nat.reduceMul, Int.reduceToNat, reduceCtorEq, ↓reduceIte, Try.ntmps13, Try.results13, ks_13, mu_13, ti_ag3, ti_sb24, ti_sl24]) | (refine AWp_condC rfl ?_; intro KA KB hKA hKB; try simp only [onB_true, onB_false, onB_dec, onB_ndec, onB_not, onB_and, onB_or]) | (refine AWp_condA rfl ?_ ?_) | with_reducible (first | refine onB_of ?_ ?_ | rfl) | omega)
  refine AWp_while0 (fun i : Nat => i ≤ xs.length ∧ orI xs = orI (xs.drop i)) (fun i => [(3, .d (.i .i64 0)), (6, .d (.sl 1 (xs.map intRow))), (7, .d (.i .i64 xs.length)), (8, .d (.i .i64 i))]) (fun i => xs.length - i) 0 ?_ ?_ ?_
  · simp
  · simp (dsimp := false) only [go_sem, Nat.reduceAdd, Nat.reduceBEq, Nat.reduceEqDiff, Nat.reduceLT, Nat.reduceLeDiff, Nat.reduceMul, Int.reduceToNat, reduceCtorEq, ↓reduceIte, Try.ntmps13, Try.results13, ks_13, mu_13, ti_ag3, ti_sb24, ti_sl24]
    omega
  rintro i ⟨hi, hall⟩
  repeat' (first | with_reducible (first | refine And.intro ?_ ?_ | intro _ | refine AWp_seq ?_ | refine AWp_block ?_ | (refine hKv _ _ (AWp_nop ?_); clear hKv Kv) | (refine hKA ?_; clear hKA hKB KA KB) | (refine hKB ?_; clear hKA hKB KA KB) | refine AWp_skipN ?_ | refine AWp_exitO (by repeat (first | exact Out.hit | apply Out.thenA | apply Out.out rfl)) ?_) | (with_reducible (first | (refine hKv _ _ ?_; clear hKv Kv) | ((first | refine AWp_regC mu_13 ks_13 ?_ | refine AWp_regE mu_13 ks_13 ?_); intro Kv hKv) | refine AWp_retR ?_); try simp (dsimp := false) only [go_sem, Nat.reduceAdd, Nat.reduceBEq, Nat.reduceEqDiff, Nat.reduceLT, Nat.reduceLeDiff, Nat.reduceMul, Int.reduceToNat, reduceCtorEq, ↓reduceIte, Try.ntmps13, Try.results13, ks_13, mu_13, ti_ag3, ti_sb24, ti_sl24]) | (refine AWp_condC rfl ?_; intro KA KB hKA hKB; try simp only [onB_true, onB_false, onB_dec, onB_ndec, onB_not, onB_and, onB_or]) | (refine AWp_condA rfl ?_ ?_) | with_reducible (first | refine onB_of ?_ ?_ | rfl) | omega)
  all_goals try have hst := orI_drop ‹xs[i]? = some _›
  all_goals try (refine ⟨i + 1, ⟨by omega, ?_⟩, by omega, by omega⟩)
  all_goals try refine keepD hk ?_
  all_goals rw [hall]
  all_goals first
    | (have : i = xs.length := by omega
       subst this; simp [orI])
    | simp_all
theorem or3_A (a b c : Int) (H : Heap) (K : V → Heap → Prop) (hk : K (.d (.i .i64 (if a = 0 then if b = 0 then c else b else a))) H) : ACalls Try.prog 13 [.d (.sl 1 [[.i .i64 a], [.i .i64 b], [.i .i64 c]])] H K := by
  refine or_A [a, b, c] (by simp) H K ?_
  have : orI [a, b, c] = if a = 0 then if b = 0 then c else b else a := by
    simp only [orI]
    by_cases h1 : a = 0 <;> by_cases h2 : b = 0 <;> by_cases h3 : c = 0 <;> simp [h1, h2, h3]
  rw [this]
  exact hk

theorem cmpStr (a b : ByteArray) (w : World) : Calls Try.prog 18 #[.string a, .string b] w fun e w' => e = .returned (.int .i64 (Lib.compareBytes a.data.toList b.data.toList)) ∧ w' = w := by
  go_enter Try.func18, Try.ntmps18
  go_wp2
  rw [run_callFunc_extern Try.func19 (by kernel_rfl) (by kernel_rfl) (by kernel_rfl) (e := Extern.BytealgCompare.compare) (by kernel_rfl), Lib.run_compareString]
  simp only [Result.andThen]
  rw [Oper.upon_value]
  go_wp2
  go_ret
  exact ⟨rfl, rfl⟩
theorem cmpStr_A (a b : List UInt8) (H : Heap) (K : V → Heap → Prop) (hk : K (.d (.i .i64 (Lib.compareBytes a b))) H) : ACalls Try.prog 18 [.d (.s a), .d (.s b)] H K := by
  refine ACalls_still _ hk fun w σ args hl hr => ?_
  obtain ⟨u, v, rfl⟩ := two_of_size (xs := args) (by simpa using hl.symm)
  obtain rfl := (hr 0 _ u rfl rfl).inv_d.inv_s
  obtain rfl := (hr 1 _ v rfl rfl).inv_d.inv_s
  refine ⟨.int .i64 (Lib.compareBytes a b), .d _ _ (.i _ _), ?_⟩
  have := cmpStr ⟨a.toArray⟩ ⟨b.toArray⟩ w
  simpa using this
/- the live slots of strings.Compare -/
def ks_15 : Nat → List Nat
  | 0 => [0, 1]
  | 1 => [4]
  | _ => []
def mu_15 : List Nat := []
def in_15 : List Nat := [0, 1]
theorem strCompare_A (a b : List UInt8) (H : Heap) (K : V → Heap → Prop) (hk : K (.d (.i .i64 (Lib.compareBytes a b))) H) : ACalls Try.prog 15 [.d (.s a), .d (.s b)] H K := by
  refine ACalls_of Try.func15 rfl in_15 (Nat.le_of_ble_eq_true rfl) ?_
  intro F hF
  simp (dsimp := false) only [go_sem, Nat.reduceAdd, Nat.reduceBEq, Nat.reduceEqDiff, Nat.reduceLT, Nat.reduceLeDiff, Nat.reduceMul, Int.reduceToNat, reduceCtorEq, ↓reduceIte, Try.ntmps15, Try.results15, ks_15, mu_15, ti_hb18, in_15] at hF
  subst hF
  repeat' (first | with_reducible (first | refine And.intro ?_ ?_ | intro _ | refine AWp_seq ?_ | refine AWp_block ?_ | (refine hKv _ _ (AWp_nop ?_); clear hKv Kv) | (refine hKA ?_; clear hKA hKB KA KB) | (refine hKB ?_; clear hKA hKB KA KB) | refine AWp_skipN ?_ | refine AWp_exitO (by repeat (first | exact Out.hit | apply Out.thenA | apply Out.out rfl)) ?_) | ((first | with_reducible (first | (refine hKv _ _ ?_; clear hKv Kv) | ((first | refine AWp_regC mu_15 ks_15 ?_ | refine AWp_regE mu_15 ks_15 ?_); intro Kv hKv) | refine AWp_retR ?_) | refine cmpStr_A _ _ _ _ ?_); try simp (dsimp := false) only [go_sem, Nat.reduceAdd, Nat.reduceBEq, Nat.reduceEqDiff, Nat.reduceLT, Nat.reduceLeDiff, Nat.reduceMul, Int.reduceToNat, reduceCtorEq, ↓reduceIte, Try.ntmps15, Try.results15, ks_15, mu_15, ti_hb18]) | (refine AWp_condC rfl ?_; intro KA KB hKA hKB; try simp only [onB_true, onB_false, onB_dec, onB_ndec, onB_not, onB_and, onB_or]) | (refine AWp_condA rfl ?_ ?_) | with_reducible (first | refine onB_of ?_ ?_ | rfl) | omega)
  all_goals exact keepD hk rfl

/-- An item as it lies in memory. -/
def itemCells (a b : Int) (s : List UInt8) : V := .ag [.d (.i .i64 a), .d (.i .i64 b), .d (.s s)]
def relCompare (a b : Int) (s : List UInt8) (a' b' : Int) (s' : List UInt8) : Int :=
  if cmpI a a' = 0 then if cmpI b b' = 0 then Lib.compareBytes s s' else cmpI b b' else cmpI a a'

/- the live slots of pleacher/rel.Compare -/
def ks_8 : Nat → List Nat
  | 0 => [2, 3]
  | 1 => [4]
  | _ => []
def mu_8 : List Nat := []
def in_8 : List Nat := [0, 1]
def nd_8 : Nat → Nat
  | 1 => 17
  | _ => 0
theorem relCompare_A (a b : Int) (s : List UInt8) (a' b' : Int) (s' : List UInt8) (H : Heap) (K : V → Heap → Prop) (hk : K (.d (.i .i64 (relCompare a b s a' b' s'))) H) :
    ACalls Try.prog 8 [itemCells a b s, itemCells a' b' s'] H K := by
  refine ACalls_of Try.func8 rfl in_8 (Nat.le_of_ble_eq_true rfl) ?_
  intro F hF
  simp (dsimp := false) only [go_sem, Nat.reduceAdd, Nat.reduceBEq, Nat.reduceEqDiff, Nat.reduceLT, Nat.reduceLeDiff, Nat.reduceMul, Int.reduceToNat, reduceCtorEq, ↓reduceIte, Try.ntmps8, Try.results8, ks_8, mu_8, nd_8, ti_ag3, ti_ag9, ti_fl29_0, ti_fl29_1, ti_fl29_2, ti_hb13, ti_hb14, ti_hb15, ti_sl24, itemCells, in_8] at hF
  subst hF
  repeat' (first | with_reducible (first | refine And.intro ?_ ?_ | intro _ | refine AWp_seq ?_ | refine AWp_block ?_ | (refine hKv _ _ (AWp_nop ?_); clear hKv Kv) | (refine hKA ?_; clear hKA hKB KA KB) | (refine hKB ?_; clear hKA hKB KA KB) | refine AWp_skipN ?_ | refine AWp_exitO (by repeat (first | exact Out.hit | apply Out.thenA | apply Out.out rfl)) ?_) | ((first | with_reducible (first | (refine hKv _ _ ?_; clear hKv Kv) | ((first | refine AWp_regC mu_8 ks_8 ?_ | refine AWp_draw nd_8 mu_8 ks_8 ti_mixed (by kernel_rfl) ?_ | refine AWp_regE mu_8 ks_8 ?_ | refine AWp_drawE nd_8 mu_8 ks_8 ti_mixed (by kernel_rfl) ?_); intro Kv hKv) | refine AWp_retR ?_) | refine cmpInt_A _ _ _ _ ?_ | refine QCall_of (cmpInt_A _ _ _ _ (Two_intro _ _)) ?_ | refine strCompare_A _ _ _ _ ?_ | refine QCall_of (strCompare_A _ _ _ _ (Two_intro _ _)) ?_ | refine or3_A _ _ _ _ _ ?_ | refine QCall_of (or3_A _ _ _ _ _ (Two_intro _ _)) ?_); try simp (dsimp := false) only [go_sem, Nat.reduceAdd, Nat.reduceBEq, Nat.reduceEqDiff, Nat.reduceLT, Nat.reduceLeDiff, Nat.reduceMul, Int.reduceToNat, reduceCtorEq, ↓reduceIte, Try.ntmps8, Try.results8, ks_8, mu_8, nd_8, ti_ag3, ti_ag9, ti_fl29_0, ti_fl29_1, ti_fl29_2, ti_hb13, ti_hb14, ti_hb15, ti_sl24, itemCells]) | (refine AWp_condC rfl ?_; intro KA KB hKA hKB; try simp only [onB_true, onB_false, onB_dec, onB_ndec, onB_not, onB_and, onB_or]) | (refine AWp_condA rfl ?_ ?_) | with_reducible (first | refine onB_of ?_ ?_ | rfl) | omega)
  all_goals exact keepD hk rfl

def lessItem (a b : Int) (s : List UInt8) (a' b' : Int) (s' : List UInt8) : Bool :=
  if a = a' then if b = b' then Op.bytesLess s s' else decide (b < b') else decide (a < a')
/- the live slots of pleacher/pleacherref.lessItem -/
def ks_16 : Nat → List Nat
  | 0 => [2, 3]
  | 1 => [2, 3, 9]
  | 2 => [4]
  | 3 => [2, 3, 19]
  | 4 => [4]
  | 5 => [4]
  | _ => []
def mu_16 : List Nat := []
def in_16 : List Nat := [0, 1]
theorem lessItem_A (a b : Int) (s : List UInt8) (a' b' : Int) (s' : List UInt8) (H : Heap) (K : V → Heap → Prop) (hk : K (.d (.b (lessItem a b s a' b' s'))) H) :
    ACalls Try.prog 16 [itemCells a b s, itemCells a' b' s'] H K := by
  refine ACalls_of Try.func16 rfl in_16 (Nat.le_of_ble_eq_true rfl) ?_
  intro F hF
  simp (dsimp := false) only [go_sem, Nat.reduceAdd, Nat.reduceBEq, Nat.reduceEqDiff, Nat.reduceLT, Nat.reduceLeDiff, Nat.reduceMul, Int.reduceToNat, reduceCtorEq, ↓reduceIte, Try.ntmps16, Try.results16, ks_16, mu_16, ti_ag3, ti_ag9, ti_fl29_0, ti_fl29_1, ti_fl29_2, itemCells, in_16] at hF
  subst hF
  repeat' (first | with_reducible (first | refine And.intro ?_ ?_ | intro _ | refine AWp_seq ?_ | refine AWp_block ?_ | (refine hKv _ _ (AWp_nop ?_); clear hKv Kv) | (refine hKA ?_; clear hKA hKB KA KB) | (refine hKB ?_; clear hKA hKB KA KB) | refine AWp_skipN ?_ | refine AWp_exitO (by repeat (first | exact Out.hit | apply Out.thenA | apply Out.out rfl)) ?_) | (with_reducible (first | (refine hKv _ _ ?_; clear hKv Kv) | ((first | refine AWp_regC mu_16 ks_16 ?_ | refine AWp_regE mu_16 ks_16 ?_); intro Kv hKv) | refine AWp_retR ?_); try simp (dsimp := false) only [go_sem, Nat.reduceAdd, Nat.reduceBEq, Nat.reduceEqDiff, Nat.reduceLT, Nat.reduceLeDiff, Nat.reduceMul, Int.reduceToNat, reduceCtorEq, ↓reduceIte, Try.ntmps16, Try.results16, ks_16, mu_16, ti_ag3, ti_ag9, ti_fl29_0, ti_fl29_1, ti_fl29_2, itemCells]) | (refine AWp_condC rfl ?_; intro KA KB hKA hKB; try simp only [onB_true, onB_false, onB_dec, onB_ndec, onB_not, onB_and, onB_or]) | (refine AWp_condA rfl ?_ ?_) | with_reducible (first | refine onB_of ?_ ?_ | rfl) | omega)
  all_goals exact keepD hk (by simp_all [lessItem])

def comparedOf (a b : Int) (s : List UInt8) (a' b' : Int) (s' : List UInt8) : Int :=
  if lessItem a b s a' b' s' = true then -1 else if lessItem a' b' s' a b s = true then 1 else 0
/- the live slots of pleacher/pleacherref.ComparedOf -/
def ks_9 : Nat → List Nat
  | 0 => [2, 3]
  | 1 => [2, 3, 7]
  | 2 => [4]
  | 3 => [10]
  | 4 => [4]
  | 5 => [4]
  | _ => []
def mu_9 : List Nat := []
def in_9 : List Nat := [0, 1]
theorem comparedOf_A (a b : Int) (s : List UInt8) (a' b' : Int) (s' : List UInt8) (H : Heap) (K : V → Heap → Prop) (hk : K (.d (.i .i64 (comparedOf a b s a' b' s'))) H) :
    ACalls Try.prog 9 [itemCells a b s, itemCells a' b' s'] H K := by
  refine ACalls_of Try.func9 rfl in_9 (Nat.le_of_ble_eq_true rfl) ?_
  intro F hF
  simp (dsimp := false) only [go_sem, Nat.reduceAdd, Nat.reduceBEq, Nat.reduceEqDiff, Nat.reduceLT, Nat.reduceLeDiff, Nat.reduceMul, Int.reduceToNat, reduceCtorEq, ↓reduceIte, Try.ntmps9, Try.results9, ks_9, mu_9, ti_ag29, ti_hb16, ti_sz29, itemCells, in_9] at hF
  subst hF
  repeat' (first | with_reducible (first | refine And.intro ?_ ?_ | intro _ | refine AWp_seq ?_ | refine AWp_block ?_ | (refine hKv _ _ (AWp_nop ?_); clear hKv Kv) | (refine hKA ?_; clear hKA hKB KA KB) | (refine hKB ?_; clear hKA hKB KA KB) | refine AWp_skipN ?_ | refine AWp_exitO (by repeat (first | exact Out.hit | apply Out.thenA | apply Out.out rfl)) ?_) | ((first | with_reducible (first | (refine hKv _ _ ?_; clear hKv Kv) | ((first | refine AWp_regC mu_9 ks_9 ?_ | refine AWp_regE mu_9 ks_9 ?_); intro Kv hKv) | refine AWp_retR ?_) | refine lessItem_A _ _ _ _ _ _ _ _ ?_); try simp (dsimp := false) only [go_sem, Nat.reduceAdd, Nat.reduceBEq, Nat.reduceEqDiff, Nat.reduceLT, Nat.reduceLeDiff, Nat.reduceMul, Int.reduceToNat, reduceCtorEq, ↓reduceIte, Try.ntmps9, Try.results9, ks_9, mu_9, ti_ag29, ti_hb16, ti_sz29, itemCells]) | (refine AWp_condC rfl ?_; intro KA KB hKA hKB; try simp only [onB_true, onB_false, onB_dec, onB_ndec, onB_not, onB_and, onB_or]) | (refine AWp_condA rfl ?_ ?_) | with_reducible (first | refine onB_of ?_ ?_ | rfl) | omega)
  all_goals exact keepD hk (by simp_all [comparedOf])

/-! ### The plain law -/
theorem compareBytes_neg : ∀ (a b : List UInt8), Lib.compareBytes a b < 0 ↔ Op.bytesLess a b = true
  | [], [] => by simp [Lib.compareBytes, Op.bytesLess]
  | [], _ :: _ => by simp [Lib.compareBytes, Op.bytesLess]
  | _ :: _, [] => by simp [Lib.compareBytes, Op.bytesLess]
  | x :: a, y :: b => by
    have ih := compareBytes_neg a b
    simp only [Lib.compareBytes, Op.bytesLess]
    by_cases h1 : x < y
    · simp [h1]
    · by_cases h2 : y < x
      · have : ¬ x = y := fun e => by subst e; exact h1 h2
        simp [h1, h2, this]
      · have : x = y := UInt8.le_antisymm (UInt8.not_lt.1 h2) (UInt8.not_lt.1 h1)
        subst this
        simp [h1, ih]
theorem compareBytes_swap : ∀ (a b : List UInt8), Lib.compareBytes b a = - Lib.compareBytes a b
  | [], [] => by simp [Lib.compareBytes]
  | [], _ :: _ => by simp [Lib.compareBytes]
  | _ :: _, [] => by simp [Lib.compareBytes]
  | x :: a, y :: b => by
    have ih := compareBytes_swap a b
    simp only [Lib.compareBytes]
    by_cases h1 : x < y
    · have : ¬ y < x := UInt8.not_lt.2 (UInt8.le_of_lt h1)
      simp [h1, this]
    · by_cases h2 : y < x
      · simp [h1, h2]
      · simp [h1, h2, ih]
theorem signs (a b : Int) (s : List UInt8) (a' b' : Int) (s' : List UInt8) :
    (relCompare a b s a' b' s' < 0 ↔ lessItem a b s a' b' s' = true) ∧ (0 < relCompare a b s a' b' s' ↔ lessItem a' b' s' a b s = true) := by
  have h1 := compareBytes_neg s s'
  have h2 := compareBytes_neg s' s
  rw [compareBytes_swap] at h2
  simp only [relCompare, lessItem, cmpI]
  constructor
  · grind
  · grind
theorem signs_both (a b : Int) (s : List UInt8) (a' b' : Int) (s' : List UInt8) :
    let x := relCompare a b s a' b' s'; let y := comparedOf a b s a' b' s'
    (x < 0 ∧ y < 0) ∨ (x = 0 ∧ y = 0) ∨ (0 < x ∧ 0 < y) := by
  obtain ⟨h1, h2⟩ := signs a b s a' b' s'
  simp only [comparedOf]
  by_cases c1 : lessItem a b s a' b' s' = true
  · have := h1.2 c1; simp [c1]; omega
  · by_cases c2 : lessItem a' b' s' a b s = true
    · have := h2.2 c2; simp [c1, c2]; omega
    · have e1 := mt h1.1 c1; have e2 := mt h2.1 c2; simp [c1, c2]; omega
/- the live slots of pleacher/pleacherlaw.RelCompares -/
def ks_5 : Nat → List Nat
  | 0 => [2, 3]
  | 1 => [2, 3, 5]
  | 2 => [5, 6]
  | 3 => [4]
  | _ => []
def mu_5 : List Nat := []
def in_5 : List Nat := [0, 1]
theorem relCompares_A (a b : Int) (s : List UInt8) (a' b' : Int) (s' : List UInt8) (H : Heap) (K : V → Heap → Prop) (hk : K (.d (.b true)) H) :
    ACalls Try.prog 5 [itemCells a b s, itemCells a' b' s'] H K := by
  have hs := signs_both a b s a' b' s'
  simp only [] at hs
  refine ACalls_of Try.func5 rfl in_5 (Nat.le_of_ble_eq_true rfl) ?_
  intro F hF
  simp (dsimp := false) only [go_sem, Nat.reduceAdd, Nat.reduceBEq, Nat.reduceEqDiff, Nat.reduceLT, Nat.reduceLeDiff, Nat.reduceMul, Int.reduceToNat, reduceCtorEq, ↓reduceIte, Try.ntmps5, Try.results5, ks_5, mu_5, ti_ag29, ti_hb8, ti_hb9, ti_sz29, itemCells, in_5] at hF
  subst hF
  repeat' (first | with_reducible (first | refine And.intro ?_ ?_ | intro _ | refine AWp_seq ?_ | refine AWp_block ?_ | (refine hKv _ _ (AWp_nop ?_); clear hKv Kv) | (refine hKA ?_; clear hKA hKB KA KB) | (refine hKB ?_; clear hKA hKB KA KB) | refine AWp_skipN ?_ | refine AWp_exitO (by repeat (first | exact Out.hit | apply Out.thenA | apply Out.out rfl)) ?_) | ((first | with_reducible (first | (refine hKv _ _ ?_; clear hKv Kv) | ((first | refine AWp_regC mu_5 ks_5 ?_ | refine AWp_regE mu_5 ks_5 ?_); intro Kv hKv) | refine AWp_retR ?_) | refine relCompare_A _ _ _ _ _ _ _ _ ?_ | refine comparedOf_A _ _ _ _ _ _ _ _ ?_); try simp (dsimp := false) only [go_sem, Nat.reduceAdd, Nat.reduceBEq, Nat.reduceEqDiff, Nat.reduceLT, Nat.reduceLeDiff, Nat.reduceMul, Int.reduceToNat, reduceCtorEq, ↓reduceIte, Try.ntmps5, Try.results5, ks_5, mu_5, ti_ag29, ti_hb8, ti_hb9, ti_sz29, itemCells]) | (refine AWp_condC rfl ?_; intro KA KB hKA hKB; try simp only [onB_true, onB_false, onB_dec, onB_ndec, onB_not, onB_and, onB_or]) | (refine AWp_condA rfl ?_ ?_) | with_reducible (first | refine onB_of ?_ ?_ | rfl) | omega)
  all_goals exact keepD hk (by simp only [V.d.injEq, D.b.injEq, decide_eq_true_eq]; try omega)
end Go.Proofs.Ytmalccaijjcepaa
