/- The order of items: what the reference and the program say of it. No condition. -/
import Derived.Test.YtpgdflhcmijaiaaDoorQ17
import Derived.WalkKit
import Derived.Lib.Bytealg
import Derived.Lib.Strings
import Derived.Lib.Walk
set_option linter.all false
set_option linter.unusedSimpArgs false
set_option linter.unusedVariables false
namespace Go.Proofs.YtpgdflhcmijaiaaDoor
open Go Go.Proofs.YtpgdflhcmijaiaaDoor.Ab
variable [Glo]
set_option maxHeartbeats 1000000
set_option maxRecDepth 20000
def ks_110 : Nat → List Nat
  | 0 => [0]
  | 1 => [2]
  | _ => []
def mu_110 : List Nat := []
def in_110 : List Nat := [0]
theorem isNaN_A (n : Int) (H : Heap) (K : V → Heap → Prop) (hk : K (.d (.b false)) H) : ACalls Tryd.prog 110 [.d (.i .i64 n)] H K := by
  refine ACalls_of Tryd.func110 rfl in_110 (Nat.le_of_ble_eq_true rfl) ?_
  intro F hF
  simp (dsimp := false) only [go_sem, Nat.reduceAdd, Nat.reduceBEq, Nat.reduceEqDiff, Nat.reduceLT, Nat.reduceLeDiff, Nat.reduceMul, Int.reduceToNat, reduceCtorEq, ↓reduceIte, Tryd.ntmps110, Tryd.results110, ks_110, mu_110, in_110] at hF
  subst hF
  repeat' (first | with_reducible (first | refine And.intro ?_ ?_ | intro _ | refine AWp_seq ?_ | refine AWp_block ?_ | (refine hKv _ _ (AWp_nop ?_); clear hKv Kv) | (refine hKA ?_; clear hKA hKB KA KB) | (refine hKB ?_; clear hKA hKB KA KB) | refine AWp_skipN ?_ | refine AWp_exitO (by repeat (first | exact Out.hit | apply Out.thenA | apply Out.out rfl)) ?_) | (with_reducible (first | (refine hKv _ _ ?_; clear hKv Kv) | ((first | refine AWp_regC mu_110 ks_110 ?_ | refine AWp_regE mu_110 ks_110 ?_); intro Kv hKv) | refine AWp_retR ?_); try simp (dsimp := false) only [go_sem, Nat.reduceAdd, Nat.reduceBEq, Nat.reduceEqDiff, Nat.reduceLT, Nat.reduceLeDiff, Nat.reduceMul, Int.reduceToNat, reduceCtorEq, ↓reduceIte, Tryd.ntmps110, Tryd.results110, ks_110, mu_110]) | (refine AWp_condC rfl ?_; intro KA KB hKA hKB; try simp only [onB_true, onB_false, onB_dec, onB_ndec, onB_not, onB_and, onB_or]) | (refine AWp_condA rfl ?_ ?_) | with_reducible (first | refine onB_of ?_ ?_ | rfl) | omega)
  all_goals exact keepD hk (by simp)
def cmpI (a b : Int) : Int := if a < b then -1 else if b < a then 1 else 0
def ks_87 : Nat → List Nat
  | 0 => [0, 1]
  | 1 => [0, 1, 5]
  | 2 => [0, 1, 5, 6]
  | 3 => [0, 1, 6, 11]
  | 4 => [12]
  | 5 => [4]
  | 6 => [4]
  | 7 => [0, 1, 13]
  | 8 => [4]
  | 9 => [0, 1, 16]
  | 10 => [4]
  | 11 => [19]
  | 12 => [4]
  | 13 => [4]
  | _ => []
def mu_87 : List Nat := []
def in_87 : List Nat := [0, 1]
theorem cmpInt_A (a b : Int) (H : Heap) (K : V → Heap → Prop) (hk : K (.d (.i .i64 (cmpI a b))) H) : ACalls Tryd.prog 87 [.d (.i .i64 a), .d (.i .i64 b)] H K := by
  refine ACalls_of Tryd.func87 rfl in_87 (Nat.le_of_ble_eq_true rfl) ?_
  intro F hF
  simp (dsimp := false) only [go_sem, Nat.reduceAdd, Nat.reduceBEq, Nat.reduceEqDiff, Nat.reduceLT, Nat.reduceLeDiff, Nat.reduceMul, Int.reduceToNat, reduceCtorEq, ↓reduceIte, Tryd.ntmps87, Tryd.results87, ks_87, mu_87, ti_hb110, in_87] at hF
  subst hF
  repeat' (first | with_reducible (first | refine And.intro ?_ ?_ | intro _ | refine AWp_seq ?_ | refine AWp_block ?_ | (refine hKv _ _ (AWp_nop ?_); clear hKv Kv) | (refine hKA ?_; clear hKA hKB KA KB) | (refine hKB ?_; clear hKA hKB KA KB) | refine AWp_skipN ?_ | refine AWp_exitO (by repeat (first | exact Out.hit | apply Out.thenA | apply Out.out rfl)) ?_) | ((first | with_reducible (first | (refine hKv _ _ ?_; clear hKv Kv) | ((first | refine AWp_regC mu_87 ks_87 ?_ | refine AWp_regE mu_87 ks_87 ?_); intro Kv hKv) | refine AWp_retR ?_) | refine isNaN_A _ _ _ ?_); try simp (dsimp := false) only [go_sem, Nat.reduceAdd, Nat.reduceBEq, Nat.reduceEqDiff, Nat.reduceLT, Nat.reduceLeDiff, Nat.reduceMul, Int.reduceToNat, reduceCtorEq, ↓reduceIte, Tryd.ntmps87, Tryd.results87, ks_87, mu_87, ti_hb110]) | (refine AWp_condC rfl ?_; intro KA KB hKA hKB; try simp only [onB_true, onB_false, onB_dec, onB_ndec, onB_not, onB_and, onB_or]) | (refine AWp_condA rfl ?_ ?_) | with_reducible (first | refine onB_of ?_ ?_ | rfl) | omega)
  all_goals exact keepD hk (by simp_all [cmpI]; try omega)
def orI : List Int → Int
  | [] => 0
  | x :: r => if x = 0 then orI r else x
theorem orI_drop {xs : List Int} {i : Nat} {x : Int} (h : xs[i]? = some x) : orI (xs.drop i) = if x = 0 then orI (xs.drop (i + 1)) else x := by
  have hi : i < xs.length := (List.getElem?_eq_some_iff.1 h).1
  rw [List.drop_eq_getElem_cons hi]
  rw [List.getElem?_eq_getElem hi] at h
  rw [Option.some.inj h, orI]
def ks_86 : Nat → List Nat
  | 0 => [0]
  | 1 => [0, 3]
  | 2 => [3, 6, 7, 8]
  | 3 => [3, 6, 7, 8, 9]
  | 4 => [3, 5, 6, 7, 8]
  | 5 => [3, 5, 6, 7, 8, 14]
  | 6 => [2]
  | 7 => [3, 6, 7, 8]
  | 8 => [2]
  | _ => []
def mu_86 : List Nat := []
def in_86 : List Nat := [0]
theorem or_A (xs : List Int) (hlen : xs.length ≤ 9223372036854775807) (H : Heap) (K : V → Heap → Prop) (hk : K (.d (.i .i64 (orI xs))) H) : ACalls Tryd.prog 86 [.d (.sl 1 (xs.map intRow))] H K := by
  refine ACalls_of Tryd.func86 rfl in_86 (Nat.le_of_ble_eq_true rfl) ?_
  intro F hF
  simp (dsimp := false) only [go_sem, Nat.reduceAdd, Nat.reduceBEq, Nat.reduceEqDiff, Nat.reduceLT, Nat.reduceLeDiff, Nat.reduceMul, Int.reduceToNat, reduceCtorEq, ↓reduceIte, Tryd.ntmps86, Tryd.results86, ks_86, mu_86, ti_ag3, ti_sb35, ti_sl35, in_86] at hF
  subst hF
  repeat' (first | with_reducible (first | refine And.intro ?_ ?_ | intro _ | refine AWp_seq ?_ | refine AWp_block ?_ | (refine hKv _ _ (AWp_nop ?_); clear hKv Kv) | (refine hKA ?_; clear hKA hKB KA KB) | (refine hKB ?_; clear hKA hKB KA KB) | refine AWp_skipN ?_ | refine AWp_exitO (by repeat (first | exact Out.hit | apply Out.thenA | apply Out.out rfl)) ?_) | (with_reducible (first | (refine hKv _ _ ?_; clear hKv Kv) | ((first | refine AWp_regC mu_86 ks_86 ?_ | refine AWp_regE mu_86 ks_86 ?_); intro Kv hKv) | refine AWp_retR ?_); try simp (dsimp := false) only [go_sem, Nat.reduceAdd, Nat.reduceBEq, Nat.reduceEqDiff, Nat.reduceLT, Nat.reduceLeDiff, Nat.reduceMul, Int.reduceToNat, reduceCtorEq, ↓reduceIte, Tryd.ntmps86, Tryd.results86, ks_86, mu_86, ti_ag3, ti_sb35, ti_sl35]) | (refine AWp_condC rfl ?_; intro KA KB hKA hKB; try simp only [onB_true, onB_false, onB_dec, onB_ndec, onB_not, onB_and, onB_or]) | (refine AWp_condA rfl ?_ ?_) | with_reducible (first | refine onB_of ?_ ?_ | rfl) | omega)
  refine AWp_while0 (fun i : Nat => i ≤ xs.length ∧ orI xs = orI (xs.drop i)) (fun i => [(3, .d (.i .i64 0)), (6, .d (.sl 1 (xs.map intRow))), (7, .d (.i .i64 xs.length)), (8, .d (.i .i64 i))]) (fun i => xs.length - i) 0 ?_ ?_ ?_
  · simp
  · simp (dsimp := false) only [go_sem, Nat.reduceAdd, Nat.reduceBEq, Nat.reduceEqDiff, Nat.reduceLT, Nat.reduceLeDiff, Nat.reduceMul, Int.reduceToNat, reduceCtorEq, ↓reduceIte, Tryd.ntmps86, Tryd.results86, ks_86, mu_86, ti_ag3, ti_sb35, ti_sl35]
    omega
  rintro i ⟨hi, hall⟩
  repeat' (first | with_reducible (first | refine And.intro ?_ ?_ | intro _ | refine AWp_seq ?_ | refine AWp_block ?_ | (refine hKv _ _ (AWp_nop ?_); clear hKv Kv) | (refine hKA ?_; clear hKA hKB KA KB) | (refine hKB ?_; clear hKA hKB KA KB) | refine AWp_skipN ?_ | refine AWp_exitO (by repeat (first | exact Out.hit | apply Out.thenA | apply Out.out rfl)) ?_) | (with_reducible (first | (refine hKv _ _ ?_; clear hKv Kv) | ((first | refine AWp_regC mu_86 ks_86 ?_ | refine AWp_regE mu_86 ks_86 ?_); intro Kv hKv) | refine AWp_retR ?_); try simp (dsimp := false) only [go_sem, Nat.reduceAdd, Nat.reduceBEq, Nat.reduceEqDiff, Nat.reduceLT, Nat.reduceLeDiff, Nat.reduceMul, Int.reduceToNat, reduceCtorEq, ↓reduceIte, Tryd.ntmps86, Tryd.results86, ks_86, mu_86, ti_ag3, ti_sb35, ti_sl35]) | (refine AWp_condC rfl ?_; intro KA KB hKA hKB; try simp only [onB_true, onB_false, onB_dec, onB_ndec, onB_not, onB_and, onB_or]) | (refine AWp_condA rfl ?_ ?_) | with_reducible (first | refine onB_of ?_ ?_ | rfl) | omega)
  all_goals try have hst := orI_drop ‹xs[i]? = some _›
  all_goals try (refine ⟨i + 1, ⟨by omega, ?_⟩, by omega, by omega⟩)
  all_goals try refine keepD hk ?_
  all_goals rw [hall]
  all_goals first
    | (have : i = xs.length := by omega
       subst this; simp [orI])
    | simp_all
theorem or3_A (a b c : Int) (H : Heap) (K : V → Heap → Prop) (hk : K (.d (.i .i64 (if a = 0 then if b = 0 then c else b else a))) H) : ACalls Tryd.prog 86 [.d (.sl 1 [[.i .i64 a], [.i .i64 b], [.i .i64 c]])] H K := by
  refine or_A [a, b, c] (by simp) H K ?_
  have : orI [a, b, c] = if a = 0 then if b = 0 then c else b else a := by
    simp only [orI]
    by_cases h1 : a = 0 <;> by_cases h2 : b = 0 <;> by_cases h3 : c = 0 <;> simp [h1, h2, h3]
  rw [this]
  exact hk
theorem cmpStr (a b : ByteArray) (w : World) : Calls Tryd.prog 111 #[.string a, .string b] w fun e w' => e = .returned (.int .i64 (Lib.compareBytes a.data.toList b.data.toList)) ∧ w' = w := by
  go_enter Tryd.func111, Tryd.ntmps111
  go_wp2
  rw [run_callFunc_extern Tryd.func123 (by kernel_rfl) (by kernel_rfl) (by kernel_rfl) (e := Extern.BytealgCompare.compare) (by kernel_rfl), Lib.run_compareString]
  simp only [Result.andThen]
  rw [Oper.upon_value]
  go_wp2
  go_ret
  exact ⟨rfl, rfl⟩
theorem cmpStr_A (a b : List UInt8) (H : Heap) (K : V → Heap → Prop) (hk : K (.d (.i .i64 (Lib.compareBytes a b))) H) : ACalls Tryd.prog 111 [.d (.s a), .d (.s b)] H K := by
  refine ACalls_still _ hk fun w σ args hl hr => ?_
  obtain ⟨u, v, rfl⟩ := two_of_size (xs := args) (by simpa using hl.symm)
  obtain rfl := (hr 0 _ u rfl rfl).inv_d.inv_s
  obtain rfl := (hr 1 _ v rfl rfl).inv_d.inv_s
  refine ⟨.int .i64 (Lib.compareBytes a b), .d _ _ (.i _ _), ?_⟩
  have := cmpStr ⟨a.toArray⟩ ⟨b.toArray⟩ w
  simpa using this
def ks_88 : Nat → List Nat
  | 0 => [0, 1]
  | 1 => [4]
  | _ => []
def mu_88 : List Nat := []
def in_88 : List Nat := [0, 1]
theorem strCompare_A (a b : List UInt8) (H : Heap) (K : V → Heap → Prop) (hk : K (.d (.i .i64 (Lib.compareBytes a b))) H) : ACalls Tryd.prog 88 [.d (.s a), .d (.s b)] H K := by
  refine ACalls_of Tryd.func88 rfl in_88 (Nat.le_of_ble_eq_true rfl) ?_
  intro F hF
  simp (dsimp := false) only [go_sem, Nat.reduceAdd, Nat.reduceBEq, Nat.reduceEqDiff, Nat.reduceLT, Nat.reduceLeDiff, Nat.reduceMul, Int.reduceToNat, reduceCtorEq, ↓reduceIte, Tryd.ntmps88, Tryd.results88, ks_88, mu_88, ti_hb111, in_88] at hF
  subst hF
  repeat' (first | with_reducible (first | refine And.intro ?_ ?_ | intro _ | refine AWp_seq ?_ | refine AWp_block ?_ | (refine hKv _ _ (AWp_nop ?_); clear hKv Kv) | (refine hKA ?_; clear hKA hKB KA KB) | (refine hKB ?_; clear hKA hKB KA KB) | refine AWp_skipN ?_ | refine AWp_exitO (by repeat (first | exact Out.hit | apply Out.thenA | apply Out.out rfl)) ?_) | ((first | with_reducible (first | (refine hKv _ _ ?_; clear hKv Kv) | ((first | refine AWp_regC mu_88 ks_88 ?_ | refine AWp_regE mu_88 ks_88 ?_); intro Kv hKv) | refine AWp_retR ?_) | refine cmpStr_A _ _ _ _ ?_); try simp (dsimp := false) only [go_sem, Nat.reduceAdd, Nat.reduceBEq, Nat.reduceEqDiff, Nat.reduceLT, Nat.reduceLeDiff, Nat.reduceMul, Int.reduceToNat, reduceCtorEq, ↓reduceIte, Tryd.ntmps88, Tryd.results88, ks_88, mu_88, ti_hb111]) | (refine AWp_condC rfl ?_; intro KA KB hKA hKB; try simp only [onB_true, onB_false, onB_dec, onB_ndec, onB_not, onB_and, onB_or]) | (refine AWp_condA rfl ?_ ?_) | with_reducible (first | refine onB_of ?_ ?_ | rfl) | omega)
  all_goals exact keepD hk rfl
def itemCells (a b : Int) (s : List UInt8) : V := .ag [.d (.i .i64 a), .d (.i .i64 b), .d (.s s)]
def relCompare (a b : Int) (s : List UInt8) (a' b' : Int) (s' : List UInt8) : Int :=
  if cmpI a a' = 0 then if cmpI b b' = 0 then Lib.compareBytes s s' else cmpI b b' else cmpI a a'
def ks_64 : Nat → List Nat
  | 0 => [2, 3]
  | 1 => [4]
  | _ => []
def mu_64 : List Nat := []
def in_64 : List Nat := [0, 1]
def nd_64 : Nat → Nat
  | 1 => 17
  | _ => 0
theorem relCompare_A (a b : Int) (s : List UInt8) (a' b' : Int) (s' : List UInt8) (H : Heap) (K : V → Heap → Prop) (hk : K (.d (.i .i64 (relCompare a b s a' b' s'))) H) :
    ACalls Tryd.prog 64 [itemCells a b s, itemCells a' b' s'] H K := by
  refine ACalls_of Tryd.func64 rfl in_64 (Nat.le_of_ble_eq_true rfl) ?_
  intro F hF
  simp (dsimp := false) only [go_sem, Nat.reduceAdd, Nat.reduceBEq, Nat.reduceEqDiff, Nat.reduceLT, Nat.reduceLeDiff, Nat.reduceMul, Int.reduceToNat, reduceCtorEq, ↓reduceIte, Tryd.ntmps64, Tryd.results64, ks_64, mu_64, nd_64, ti_ag3, ti_ag9, ti_fl49_0, ti_fl49_1, ti_fl49_2, ti_hb86, ti_hb87, ti_hb88, ti_sl35, itemCells, in_64] at hF
  subst hF
  repeat' (first | with_reducible (first | refine And.intro ?_ ?_ | intro _ | refine AWp_seq ?_ | refine AWp_block ?_ | (refine hKv _ _ (AWp_nop ?_); clear hKv Kv) | (refine hKA ?_; clear hKA hKB KA KB) | (refine hKB ?_; clear hKA hKB KA KB) | refine AWp_skipN ?_ | refine AWp_exitO (by repeat (first | exact Out.hit | apply Out.thenA | apply Out.out rfl)) ?_) | ((first | with_reducible (first | (refine hKv _ _ ?_; clear hKv Kv) | ((first | refine AWp_regC mu_64 ks_64 ?_ | refine AWp_draw nd_64 mu_64 ks_64 ti_mixed (by kernel_rfl) ?_ | refine AWp_regE mu_64 ks_64 ?_ | refine AWp_drawE nd_64 mu_64 ks_64 ti_mixed (by kernel_rfl) ?_); intro Kv hKv) | refine AWp_retR ?_) | refine cmpInt_A _ _ _ _ ?_ | refine QCall_of (cmpInt_A _ _ _ _ (Two_intro _ _)) ?_ | refine strCompare_A _ _ _ _ ?_ | refine QCall_of (strCompare_A _ _ _ _ (Two_intro _ _)) ?_ | refine or3_A _ _ _ _ _ ?_ | refine QCall_of (or3_A _ _ _ _ _ (Two_intro _ _)) ?_); try simp (dsimp := false) only [go_sem, Nat.reduceAdd, Nat.reduceBEq, Nat.reduceEqDiff, Nat.reduceLT, Nat.reduceLeDiff, Nat.reduceMul, Int.reduceToNat, reduceCtorEq, ↓reduceIte, Tryd.ntmps64, Tryd.results64, ks_64, mu_64, nd_64, ti_ag3, ti_ag9, ti_fl49_0, ti_fl49_1, ti_fl49_2, ti_hb86, ti_hb87, ti_hb88, ti_sl35, itemCells]) | (refine AWp_condC rfl ?_; intro KA KB hKA hKB; try simp only [onB_true, onB_false, onB_dec, onB_ndec, onB_not, onB_and, onB_or]) | (refine AWp_condA rfl ?_ ?_) | with_reducible (first | refine onB_of ?_ ?_ | rfl) | omega)
  all_goals exact keepD hk rfl
def lessItem (a b : Int) (s : List UInt8) (a' b' : Int) (s' : List UInt8) : Bool :=
  if a = a' then if b = b' then Op.bytesLess s s' else decide (b < b') else decide (a < a')
def ks_67 : Nat → List Nat
  | 0 => [2, 3]
  | 1 => [2, 3, 9]
  | 2 => [4]
  | 3 => [2, 3, 19]
  | 4 => [4]
  | 5 => [4]
  | _ => []
def mu_67 : List Nat := []
def in_67 : List Nat := [0, 1]
theorem lessItem_A (a b : Int) (s : List UInt8) (a' b' : Int) (s' : List UInt8) (H : Heap) (K : V → Heap → Prop) (hk : K (.d (.b (lessItem a b s a' b' s'))) H) :
    ACalls Tryd.prog 67 [itemCells a b s, itemCells a' b' s'] H K := by
  refine ACalls_of Tryd.func67 rfl in_67 (Nat.le_of_ble_eq_true rfl) ?_
  intro F hF
  simp (dsimp := false) only [go_sem, Nat.reduceAdd, Nat.reduceBEq, Nat.reduceEqDiff, Nat.reduceLT, Nat.reduceLeDiff, Nat.reduceMul, Int.reduceToNat, reduceCtorEq, ↓reduceIte, Tryd.ntmps67, Tryd.results67, ks_67, mu_67, ti_ag3, ti_ag9, ti_fl49_0, ti_fl49_1, ti_fl49_2, itemCells, in_67] at hF
  subst hF
  repeat' (first | with_reducible (first | refine And.intro ?_ ?_ | intro _ | refine AWp_seq ?_ | refine AWp_block ?_ | (refine hKv _ _ (AWp_nop ?_); clear hKv Kv) | (refine hKA ?_; clear hKA hKB KA KB) | (refine hKB ?_; clear hKA hKB KA KB) | refine AWp_skipN ?_ | refine AWp_exitO (by repeat (first | exact Out.hit | apply Out.thenA | apply Out.out rfl)) ?_) | (with_reducible (first | (refine hKv _ _ ?_; clear hKv Kv) | ((first | refine AWp_regC mu_67 ks_67 ?_ | refine AWp_regE mu_67 ks_67 ?_); intro Kv hKv) | refine AWp_retR ?_); try simp (dsimp := false) only [go_sem, Nat.reduceAdd, Nat.reduceBEq, Nat.reduceEqDiff, Nat.reduceLT, Nat.reduceLeDiff, Nat.reduceMul, Int.reduceToNat, reduceCtorEq, ↓reduceIte, Tryd.ntmps67, Tryd.results67, ks_67, mu_67, ti_ag3, ti_ag9, ti_fl49_0, ti_fl49_1, ti_fl49_2, itemCells]) | (refine AWp_condC rfl ?_; intro KA KB hKA hKB; try simp only [onB_true, onB_false, onB_dec, onB_ndec, onB_not, onB_and, onB_or]) | (refine AWp_condA rfl ?_ ?_) | with_reducible (first | refine onB_of ?_ ?_ | rfl) | omega)
  all_goals exact keepD hk (by simp_all [lessItem])
def comparedOf (a b : Int) (s : List UInt8) (a' b' : Int) (s' : List UInt8) : Int :=
  if lessItem a b s a' b' s' = true then -1 else if lessItem a' b' s' a b s = true then 1 else 0
theorem compareBytes_neg : ∀ (a b : List UInt8), Lib.compareBytes a b < 0 ↔ Op.bytesLess a b = true
  | [], [] => by simp [Lib.compareBytes, Op.bytesLess]
  | [], _ :: _ => by simp [Lib.compareBytes, Op.bytesLess]
  | _ :: _, [] => by simp [Lib.compareBytes, Op.bytesLess]
  | x :: a, y :: b => by
    have ih := compareBytes_neg a b
    simp only [Lib.compareBytes, Op.bytesLess]
    by_cases h1 : x < y
    · simp [h1]
    · by_cases h2 : y < x
      · have : ¬ x = y := fun e => by subst e; exact h1 h2
        simp [h1, h2, this]
      · have : x = y := UInt8.le_antisymm (UInt8.not_lt.1 h2) (UInt8.not_lt.1 h1)
        subst this
        simp [h1, ih]
theorem compareBytes_swap : ∀ (a b : List UInt8), Lib.compareBytes b a = - Lib.compareBytes a b
  | [], [] => by simp [Lib.compareBytes]
  | [], _ :: _ => by simp [Lib.compareBytes]
  | _ :: _, [] => by simp [Lib.compareBytes]
  | x :: a, y :: b => by
    have ih := compareBytes_swap a b
    simp only [Lib.compareBytes]
    by_cases h1 : x < y
    · have : ¬ y < x := UInt8.not_lt.2 (UInt8.le_of_lt h1)
      simp [h1, this]
    · by_cases h2 : y < x
      · simp [h1, h2]
      · simp [h1, h2, ih]
theorem signs (a b : Int) (s : List UInt8) (a' b' : Int) (s' : List UInt8) :
    (relCompare a b s a' b' s' < 0 ↔ lessItem a b s a' b' s' = true) ∧ (0 < relCompare a b s a' b' s' ↔ lessItem a' b' s' a b s = true) := by
  have h1 := compareBytes_neg s s'
  have h2 := compareBytes_neg s' s
  rw [compareBytes_swap] at h2
  simp only [relCompare, lessItem, cmpI]
  constructor
  · grind
  · grind
theorem signs_both (a b : Int) (s : List UInt8) (a' b' : Int) (s' : List UInt8) :
    let x := relCompare a b s a' b' s'; let y := comparedOf a b s a' b' s'
    (x < 0 ∧ y < 0) ∨ (x = 0 ∧ y = 0) ∨ (0 < x ∧ 0 < y) := by
  obtain ⟨h1, h2⟩ := signs a b s a' b' s'
  simp only [comparedOf]
  by_cases c1 : lessItem a b s a' b' s' = true
  · have := h1.2 c1; simp [c1]; omega
  · by_cases c2 : lessItem a' b' s' a b s = true
    · have := h2.2 c2; simp [c1, c2]; omega
    · have e1 := mt h1.1 c1; have e2 := mt h2.1 c2; simp [c1, c2]; omega
end Go.Proofs.YtpgdflhcmijaiaaDoor
