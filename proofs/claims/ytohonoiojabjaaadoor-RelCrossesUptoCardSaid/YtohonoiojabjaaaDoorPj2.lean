/- Rows of two relations one behind the other: what the program and the reference make. No condition but that the tables of package unicode/utf8 are there. -/
import Derived.Test.YtohonoiojabjaaaDoorPj1
import Derived.Test.YtohonoiojabjaaaDoorCc
set_option linter.all false
set_option linter.unusedSimpArgs false
set_option linter.unusedVariables false
namespace Go.Proofs.YtohonoiojabjaaaDoor
open Go Go.Proofs.YtohonoiojabjaaaDoor.Ab
variable [Glo] [U8]
set_option maxHeartbeats 4000000
set_option maxRecDepth 20000

/- the live slots of pleacher/rel.both -/
def ks_33 : Nat → List Nat
  | 0 => [2, 3]
  | 1 => [3, 5]
  | 2 => [3, 5, 9]
  | 3 => [4]
  | 4 => [4]
  | _ => []
def mu_33 : List Nat := []
def in_33 : List Nat := [0, 1]
theorem both_A (a b : Rl) (hA : ShR a) (hB : ShR b) (H : Heap) (K : V → Heap → Prop) (hk : K (.d (.i .i64 (twoFault a b))) H) : ACalls Tryd.prog 33 [rlV a, rlV b] H K := by
  refine ACalls_of Tryd.func33 rfl in_33 (Nat.le_of_ble_eq_true rfl) ?_
  intro F hF
  simp (dsimp := false) only [go_sem, Nat.reduceAdd, Nat.reduceBEq, Nat.reduceEqDiff, Nat.reduceLT, Nat.reduceLeDiff, Nat.reduceMul, Int.reduceToNat, reduceCtorEq, ↓reduceIte, Tryd.ntmps33, Tryd.results33, ks_33, mu_33, ti_ag32, ti_hb58, ti_sz32, itD, itV, rlV, rowD, rlD, in_33] at hF
  subst hF
  repeat' (first
    | with_reducible refine And.intro ?_ ?_
    | with_reducible intro _
    | with_reducible refine AWp_seq ?_
    | with_reducible refine AWp_block ?_
    | (with_reducible refine hKv _ _ (AWp_nop ?_); clear hKv Kv)
    | (with_reducible refine hKv _ _ ?_; clear hKv Kv; simp (dsimp := false) only [go_sem, Nat.reduceAdd, Nat.reduceBEq, Nat.reduceEqDiff, Nat.reduceLT, Nat.reduceLeDiff, Nat.reduceMul, Int.reduceToNat, reduceCtorEq, ↓reduceIte, Tryd.ntmps33, Tryd.results33, ks_33, mu_33, ti_ag32, ti_hb58, ti_sz32, itD, itV, rlV, rowD, rlD])
    | (with_reducible refine hKA ?_; clear hKA hKB KA KB)
    | (with_reducible refine hKB ?_; clear hKA hKB KA KB)
    | (with_reducible refine AWp_regC mu_33 ks_33 ?_; intro Kv hKv; simp (dsimp := false) only [go_sem, Nat.reduceAdd, Nat.reduceBEq, Nat.reduceEqDiff, Nat.reduceLT, Nat.reduceLeDiff, Nat.reduceMul, Int.reduceToNat, reduceCtorEq, ↓reduceIte, Tryd.ntmps33, Tryd.results33, ks_33, mu_33, ti_ag32, ti_hb58, ti_sz32, itD, itV, rlV, rowD, rlD])
    | with_reducible refine AWp_skipN ?_
    | with_reducible refine AWp_exitO (by repeat (first | with_reducible exact Out.hit | with_reducible apply Out.thenA | with_reducible apply Out.out rfl)) ?_
    | (with_reducible refine AWp_retR ?_; simp (dsimp := false) only [go_sem, Nat.reduceAdd, Nat.reduceBEq, Nat.reduceEqDiff, Nat.reduceLT, Nat.reduceLeDiff, Nat.reduceMul, Int.reduceToNat, reduceCtorEq, ↓reduceIte, Tryd.ntmps33, Tryd.results33, ks_33, mu_33, ti_ag32, ti_hb58, ti_sz32, itD, itV, rlV, rowD, rlD])
    | (with_reducible refine AWp_regE mu_33 ks_33 ?_; intro Kv hKv; simp (dsimp := false) only [go_sem, Nat.reduceAdd, Nat.reduceBEq, Nat.reduceEqDiff, Nat.reduceLT, Nat.reduceLeDiff, Nat.reduceMul, Int.reduceToNat, reduceCtorEq, ↓reduceIte, Tryd.ntmps33, Tryd.results33, ks_33, mu_33, ti_ag32, ti_hb58, ti_sz32, itD, itV, rlV, rowD, rlD])
    | (refine AWp_condC rfl ?_; intro KA KB hKA hKB; try simp only [onB_true, onB_false, onB_dec, onB_ndec, onB_not, onB_and, onB_or])
    | (refine AWp_condA rfl ?_ ?_)
    | (refine relCheck_A a hA _ _ ?_; try simp (dsimp := false) only [go_sem, Nat.reduceAdd, Nat.reduceBEq, Nat.reduceEqDiff, Nat.reduceLT, Nat.reduceLeDiff, Nat.reduceMul, Int.reduceToNat, reduceCtorEq, ↓reduceIte, Tryd.ntmps33, Tryd.results33, ks_33, mu_33, ti_ag32, ti_hb58, ti_sz32, itD, itV, rlV, rowD, rlD])
    | (refine relCheck_A b hB _ _ ?_; try simp (dsimp := false) only [go_sem, Nat.reduceAdd, Nat.reduceBEq, Nat.reduceEqDiff, Nat.reduceLT, Nat.reduceLeDiff, Nat.reduceMul, Int.reduceToNat, reduceCtorEq, ↓reduceIte, Tryd.ntmps33, Tryd.results33, ks_33, mu_33, ti_ag32, ti_hb58, ti_sz32, itD, itV, rlV, rowD, rlD])
    | with_reducible refine onB_of ?_ ?_
    | with_reducible rfl
    | omega)
  all_goals first
    | exact dropD hk (by simp [twoFault, *])
    | exact keepD hk (by simp [twoFault, *])
/- the live slots of pleacher/pleacherref.twoFault -/
def ks_38 : Nat → List Nat
  | 0 => [2, 3]
  | 1 => [3, 5]
  | 2 => [3, 5, 9]
  | 3 => [5]
  | 4 => [4]
  | _ => []
def mu_38 : List Nat := []
def in_38 : List Nat := [0, 1]
theorem refTwoFault_A (a b : Rl) (hA : ShR a) (hB : ShR b) (H : Heap) (K : V → Heap → Prop) (hk : K (.d (.i .i64 (twoFault a b))) H) : ACalls Tryd.prog 38 [rlV a, rlV b] H K := by
  refine ACalls_of Tryd.func38 rfl in_38 (Nat.le_of_ble_eq_true rfl) ?_
  intro F hF
  simp (dsimp := false) only [go_sem, Nat.reduceAdd, Nat.reduceBEq, Nat.reduceEqDiff, Nat.reduceLT, Nat.reduceLeDiff, Nat.reduceMul, Int.reduceToNat, reduceCtorEq, ↓reduceIte, Tryd.ntmps38, Tryd.results38, ks_38, mu_38, ti_ag32, ti_hb61, ti_sz32, itD, itV, rlV, rowD, rlD, in_38] at hF
  subst hF
  repeat' (first
    | with_reducible refine And.intro ?_ ?_
    | with_reducible intro _
    | with_reducible refine AWp_seq ?_
    | with_reducible refine AWp_block ?_
    | (with_reducible refine hKv _ _ (AWp_nop ?_); clear hKv Kv)
    | (with_reducible refine hKv _ _ ?_; clear hKv Kv; simp (dsimp := false) only [go_sem, Nat.reduceAdd, Nat.reduceBEq, Nat.reduceEqDiff, Nat.reduceLT, Nat.reduceLeDiff, Nat.reduceMul, Int.reduceToNat, reduceCtorEq, ↓reduceIte, Tryd.ntmps38, Tryd.results38, ks_38, mu_38, ti_ag32, ti_hb61, ti_sz32, itD, itV, rlV, rowD, rlD])
    | (with_reducible refine hKA ?_; clear hKA hKB KA KB)
    | (with_reducible refine hKB ?_; clear hKA hKB KA KB)
    | (with_reducible refine AWp_regC mu_38 ks_38 ?_; intro Kv hKv; simp (dsimp := false) only [go_sem, Nat.reduceAdd, Nat.reduceBEq, Nat.reduceEqDiff, Nat.reduceLT, Nat.reduceLeDiff, Nat.reduceMul, Int.reduceToNat, reduceCtorEq, ↓reduceIte, Tryd.ntmps38, Tryd.results38, ks_38, mu_38, ti_ag32, ti_hb61, ti_sz32, itD, itV, rlV, rowD, rlD])
    | with_reducible refine AWp_skipN ?_
    | with_reducible refine AWp_exitO (by repeat (first | with_reducible exact Out.hit | with_reducible apply Out.thenA | with_reducible apply Out.out rfl)) ?_
    | (with_reducible refine AWp_retR ?_; simp (dsimp := false) only [go_sem, Nat.reduceAdd, Nat.reduceBEq, Nat.reduceEqDiff, Nat.reduceLT, Nat.reduceLeDiff, Nat.reduceMul, Int.reduceToNat, reduceCtorEq, ↓reduceIte, Tryd.ntmps38, Tryd.results38, ks_38, mu_38, ti_ag32, ti_hb61, ti_sz32, itD, itV, rlV, rowD, rlD])
    | (with_reducible refine AWp_regE mu_38 ks_38 ?_; intro Kv hKv; simp (dsimp := false) only [go_sem, Nat.reduceAdd, Nat.reduceBEq, Nat.reduceEqDiff, Nat.reduceLT, Nat.reduceLeDiff, Nat.reduceMul, Int.reduceToNat, reduceCtorEq, ↓reduceIte, Tryd.ntmps38, Tryd.results38, ks_38, mu_38, ti_ag32, ti_hb61, ti_sz32, itD, itV, rlV, rowD, rlD])
    | (refine AWp_condC rfl ?_; intro KA KB hKA hKB; try simp only [onB_true, onB_false, onB_dec, onB_ndec, onB_not, onB_and, onB_or])
    | (refine AWp_condA rfl ?_ ?_)
    | (refine relFault_A a hA _ _ ?_; try simp (dsimp := false) only [go_sem, Nat.reduceAdd, Nat.reduceBEq, Nat.reduceEqDiff, Nat.reduceLT, Nat.reduceLeDiff, Nat.reduceMul, Int.reduceToNat, reduceCtorEq, ↓reduceIte, Tryd.ntmps38, Tryd.results38, ks_38, mu_38, ti_ag32, ti_hb61, ti_sz32, itD, itV, rlV, rowD, rlD])
    | (refine relFault_A b hB _ _ ?_; try simp (dsimp := false) only [go_sem, Nat.reduceAdd, Nat.reduceBEq, Nat.reduceEqDiff, Nat.reduceLT, Nat.reduceLeDiff, Nat.reduceMul, Int.reduceToNat, reduceCtorEq, ↓reduceIte, Tryd.ntmps38, Tryd.results38, ks_38, mu_38, ti_ag32, ti_hb61, ti_sz32, itD, itV, rlV, rowD, rlD])
    | with_reducible refine onB_of ?_ ?_
    | with_reducible rfl
    | omega)
  all_goals first
    | exact dropD hk (by simp [twoFault, *])
    | exact keepD hk (by simp [twoFault, *])
theorem cat2Str (x y : List (List UInt8)) (hl : x.length + y.length ≤ 1000000000000) (H : Heap) (K : V → Heap → Prop) (hk : K (.d (.sl 1 ((x ++ y).map strRow))) H) :
    ACalls Tryd.prog 35 [.d (.sl 1 [[.sl 1 (x.map strRow)], [.sl 1 (y.map strRow)]])] H K :=
  concatStr_A [x.map strRow, y.map strRow] (by simp) (by simp; omega) H K (by simpa using hk)
theorem cat2Its (x y : List It) (hl : x.length + y.length ≤ 1000000000000) (H : Heap) (K : V → Heap → Prop) (hk : K (.d (.sl 3 ((x ++ y).map itD))) H) :
    ACalls Tryd.prog 36 [.d (.sl 1 [[.sl 3 (x.map itD)], [.sl 3 (y.map itD)]])] H K :=
  concatIts_A [x.map itD, y.map itD] (by simp) (by simp; omega) H K (by simpa using hk)
theorem cat2Rws (x y : List (List It)) (hl : x.length + y.length ≤ 1000000000000) (H : Heap) (K : V → Heap → Prop) (hk : K (.d (.sl 1 ((x ++ y).map rowD))) H) :
    ACalls Tryd.prog 46 [.d (.sl 1 [[.sl 1 (x.map rowD)], [.sl 1 (y.map rowD)]])] H K :=
  concatRws_A [x.map rowD, y.map rowD] (by simp) (by simp; omega) H K (by simpa using hk)
theorem ref2Str (x y : List (List UInt8)) (hx : x.length ≤ 1048576) (hy : y.length ≤ 1048576) (H : Heap) (K : V → Heap → Prop) (hk : K (.d (.sl 1 ((x ++ y).map strRow))) H) :
    ACalls Tryd.prog 40 [.d (.sl 1 [[.sl 1 (x.map strRow)], [.sl 1 (y.map strRow)]])] H K :=
  texts_A [x, y] (by simp) (by simp [hx, hy]) (by simp; omega) H K (by simpa using hk)
theorem ref2Its (x y : List It) (hx : x.length ≤ 1048576) (hy : y.length ≤ 1048576) (H : Heap) (K : V → Heap → Prop) (hk : K (.d (.sl 3 ((x ++ y).map itD))) H) :
    ACalls Tryd.prog 41 [.d (.sl 1 [[.sl 3 (x.map itD)], [.sl 3 (y.map itD)]])] H K :=
  items_A [x, y] (by simp) (by simp [hx, hy]) (by simp; omega) H K (by simpa using hk)
theorem ref1Its (x : List It) (hx : x.length ≤ 1048576) (H : Heap) (K : V → Heap → Prop) (hk : K (.d (.sl 3 (x.map itD))) H) :
    ACalls Tryd.prog 41 [.d (.sl 1 [[.sl 3 (x.map itD)]])] H K :=
  items_A [x] (by simp) (by simp [hx]) (by simp; omega) H K (by simpa using hk)

/- the live slots of slices.Equal[[]string,string] -/
def ks_45 : Nat → List Nat
  | 0 => [0, 1]
  | 1 => [0, 1, 10]
  | 2 => [4]
  | 3 => [0, 1, 12, 13]
  | 4 => [0, 1, 12, 13, 14]
  | 5 => [0, 1, 5, 12, 13]
  | 6 => [0, 1, 12, 13, 24]
  | 7 => [4]
  | 8 => [0, 1, 12, 13]
  | 9 => [4]
  | _ => []
def mu_45 : List Nat := []
def in_45 : List Nat := [0, 1]
def nd_45 : Nat → Nat
  | 6 => 8
  | _ => 0
theorem equalStr_A (x y : List (List UInt8)) (hx : x.length ≤ 9223372036854775807) (hy : y.length ≤ 9223372036854775807) (H : Heap) (K : V → Heap → Prop) (hk : K (.d (.b (decide (x = y)))) H) :
    ACalls Tryd.prog 45 [.d (.sl 1 (x.map strRow)), .d (.sl 1 (y.map strRow))] H K := by
  by_cases hl : x.length = y.length
  · 
    refine ACalls_of Tryd.func45 rfl in_45 (Nat.le_of_ble_eq_true rfl) ?_
    intro F hF
    simp (dsimp := false) only [go_sem, Nat.reduceAdd, Nat.reduceBEq, Nat.reduceEqDiff, Nat.reduceLT, Nat.reduceLeDiff, Nat.reduceMul, Int.reduceToNat, reduceCtorEq, ↓reduceIte, Tryd.ntmps45, Tryd.results45, ks_45, mu_45, nd_45, ti_ag9, ti_sb29, ti_sl29, itD, itV, rlV, rowD, rlD, hl, in_45] at hF
    subst hF
    repeat' (first
      | with_reducible refine And.intro ?_ ?_
      | with_reducible intro _
      | with_reducible refine AWp_seq ?_
      | with_reducible refine AWp_block ?_
      | (with_reducible refine hKv _ _ (AWp_nop ?_); clear hKv Kv)
      | (with_reducible refine hKv _ _ ?_; clear hKv Kv; simp (dsimp := false) only [go_sem, Nat.reduceAdd, Nat.reduceBEq, Nat.reduceEqDiff, Nat.reduceLT, Nat.reduceLeDiff, Nat.reduceMul, Int.reduceToNat, reduceCtorEq, ↓reduceIte, Tryd.ntmps45, Tryd.results45, ks_45, mu_45, nd_45, ti_ag9, ti_sb29, ti_sl29, itD, itV, rlV, rowD, rlD, hl])
      | (with_reducible refine hKA ?_; clear hKA hKB KA KB)
      | (with_reducible refine hKB ?_; clear hKA hKB KA KB)
      | (with_reducible refine AWp_regC mu_45 ks_45 ?_; intro Kv hKv; simp (dsimp := false) only [go_sem, Nat.reduceAdd, Nat.reduceBEq, Nat.reduceEqDiff, Nat.reduceLT, Nat.reduceLeDiff, Nat.reduceMul, Int.reduceToNat, reduceCtorEq, ↓reduceIte, Tryd.ntmps45, Tryd.results45, ks_45, mu_45, nd_45, ti_ag9, ti_sb29, ti_sl29, itD, itV, rlV, rowD, rlD, hl])
      | (with_reducible refine AWp_draw nd_45 mu_45 ks_45 ti_mixed (by kernel_rfl) ?_; intro Kv hKv; simp (dsimp := false) only [go_sem, Nat.reduceAdd, Nat.reduceBEq, Nat.reduceEqDiff, Nat.reduceLT, Nat.reduceLeDiff, Nat.reduceMul, Int.reduceToNat, reduceCtorEq, ↓reduceIte, Tryd.ntmps45, Tryd.results45, ks_45, mu_45, nd_45, ti_ag9, ti_sb29, ti_sl29, itD, itV, rlV, rowD, rlD, hl])
      | with_reducible refine AWp_skipN ?_
      | with_reducible refine AWp_exitO (by repeat (first | with_reducible exact Out.hit | with_reducible apply Out.thenA | with_reducible apply Out.out rfl)) ?_
      | (with_reducible refine AWp_retR ?_; simp (dsimp := false) only [go_sem, Nat.reduceAdd, Nat.reduceBEq, Nat.reduceEqDiff, Nat.reduceLT, Nat.reduceLeDiff, Nat.reduceMul, Int.reduceToNat, reduceCtorEq, ↓reduceIte, Tryd.ntmps45, Tryd.results45, ks_45, mu_45, nd_45, ti_ag9, ti_sb29, ti_sl29, itD, itV, rlV, rowD, rlD, hl])
      | (with_reducible refine AWp_regE mu_45 ks_45 ?_; intro Kv hKv; simp (dsimp := false) only [go_sem, Nat.reduceAdd, Nat.reduceBEq, Nat.reduceEqDiff, Nat.reduceLT, Nat.reduceLeDiff, Nat.reduceMul, Int.reduceToNat, reduceCtorEq, ↓reduceIte, Tryd.ntmps45, Tryd.results45, ks_45, mu_45, nd_45, ti_ag9, ti_sb29, ti_sl29, itD, itV, rlV, rowD, rlD, hl])
      | (with_reducible refine AWp_drawE nd_45 mu_45 ks_45 ti_mixed (by kernel_rfl) ?_; intro Kv hKv; simp (dsimp := false) only [go_sem, Nat.reduceAdd, Nat.reduceBEq, Nat.reduceEqDiff, Nat.reduceLT, Nat.reduceLeDiff, Nat.reduceMul, Int.reduceToNat, reduceCtorEq, ↓reduceIte, Tryd.ntmps45, Tryd.results45, ks_45, mu_45, nd_45, ti_ag9, ti_sb29, ti_sl29, itD, itV, rlV, rowD, rlD, hl])
      | (refine AWp_condC rfl ?_; intro KA KB hKA hKB; try simp only [onB_true, onB_false, onB_dec, onB_ndec, onB_not, onB_and, onB_or])
      | (refine AWp_condA rfl ?_ ?_)
      | with_reducible refine onB_of ?_ ?_
      | with_reducible rfl
      | omega)
    refine AWp_while0 (fun i : Nat => i ≤ y.length ∧ x.take i = y.take i) (fun i => [(0, .d (.sl 1 (x.map strRow))), (1, .d (.sl 1 (y.map strRow))), (12, .d (.i .i64 y.length)), (13, .d (.i .i64 i))]) (fun i => y.length - i) 0 ⟨Nat.zero_le _, by simp⟩ ?_ ?_
    · simp (dsimp := false) only [go_sem, Nat.reduceAdd, Nat.reduceBEq, Nat.reduceEqDiff, Nat.reduceLT, Nat.reduceLeDiff, Nat.reduceMul, Int.reduceToNat, reduceCtorEq, ↓reduceIte, Tryd.ntmps45, Tryd.results45, ks_45, mu_45, nd_45, ti_ag9, ti_sb29, ti_sl29, itD, itV, rlV, rowD, rlD, hl]
      first | done | simp
    rintro i ⟨hi, he⟩
    by_cases hiN : i < y.length
    · obtain ⟨u, hu⟩ : ∃ u, x[i]? = some u := ⟨x[i]'(by omega), List.getElem?_eq_getElem (by omega)⟩
      obtain ⟨v, hv⟩ : ∃ v, y[i]? = some v := ⟨y[i], List.getElem?_eq_getElem hiN⟩
      
      repeat' (first
        | with_reducible refine And.intro ?_ ?_
        | with_reducible intro _
        | with_reducible refine AWp_seq ?_
        | with_reducible refine AWp_block ?_
        | (with_reducible refine hKv _ _ (AWp_nop ?_); clear hKv Kv)
        | (with_reducible refine hKv _ _ ?_; clear hKv Kv; simp (dsimp := false) only [go_sem, Nat.reduceAdd, Nat.reduceBEq, Nat.reduceEqDiff, Nat.reduceLT, Nat.reduceLeDiff, Nat.reduceMul, Int.reduceToNat, reduceCtorEq, ↓reduceIte, Tryd.ntmps45, Tryd.results45, ks_45, mu_45, nd_45, ti_ag9, ti_sb29, ti_sl29, itD, itV, rlV, rowD, rlD, hu, hv, hl])
        | (with_reducible refine hKA ?_; clear hKA hKB KA KB)
        | (with_reducible refine hKB ?_; clear hKA hKB KA KB)
        | (with_reducible refine AWp_regC mu_45 ks_45 ?_; intro Kv hKv; simp (dsimp := false) only [go_sem, Nat.reduceAdd, Nat.reduceBEq, Nat.reduceEqDiff, Nat.reduceLT, Nat.reduceLeDiff, Nat.reduceMul, Int.reduceToNat, reduceCtorEq, ↓reduceIte, Tryd.ntmps45, Tryd.results45, ks_45, mu_45, nd_45, ti_ag9, ti_sb29, ti_sl29, itD, itV, rlV, rowD, rlD, hu, hv, hl])
        | (with_reducible refine AWp_draw nd_45 mu_45 ks_45 ti_mixed (by kernel_rfl) ?_; intro Kv hKv; simp (dsimp := false) only [go_sem, Nat.reduceAdd, Nat.reduceBEq, Nat.reduceEqDiff, Nat.reduceLT, Nat.reduceLeDiff, Nat.reduceMul, Int.reduceToNat, reduceCtorEq, ↓reduceIte, Tryd.ntmps45, Tryd.results45, ks_45, mu_45, nd_45, ti_ag9, ti_sb29, ti_sl29, itD, itV, rlV, rowD, rlD, hu, hv, hl])
        | with_reducible refine AWp_skipN ?_
        | with_reducible refine AWp_exitO (by repeat (first | with_reducible exact Out.hit | with_reducible apply Out.thenA | with_reducible apply Out.out rfl)) ?_
        | (with_reducible refine AWp_retR ?_; simp (dsimp := false) only [go_sem, Nat.reduceAdd, Nat.reduceBEq, Nat.reduceEqDiff, Nat.reduceLT, Nat.reduceLeDiff, Nat.reduceMul, Int.reduceToNat, reduceCtorEq, ↓reduceIte, Tryd.ntmps45, Tryd.results45, ks_45, mu_45, nd_45, ti_ag9, ti_sb29, ti_sl29, itD, itV, rlV, rowD, rlD, hu, hv, hl])
        | (with_reducible refine AWp_regE mu_45 ks_45 ?_; intro Kv hKv; simp (dsimp := false) only [go_sem, Nat.reduceAdd, Nat.reduceBEq, Nat.reduceEqDiff, Nat.reduceLT, Nat.reduceLeDiff, Nat.reduceMul, Int.reduceToNat, reduceCtorEq, ↓reduceIte, Tryd.ntmps45, Tryd.results45, ks_45, mu_45, nd_45, ti_ag9, ti_sb29, ti_sl29, itD, itV, rlV, rowD, rlD, hu, hv, hl])
        | (with_reducible refine AWp_drawE nd_45 mu_45 ks_45 ti_mixed (by kernel_rfl) ?_; intro Kv hKv; simp (dsimp := false) only [go_sem, Nat.reduceAdd, Nat.reduceBEq, Nat.reduceEqDiff, Nat.reduceLT, Nat.reduceLeDiff, Nat.reduceMul, Int.reduceToNat, reduceCtorEq, ↓reduceIte, Tryd.ntmps45, Tryd.results45, ks_45, mu_45, nd_45, ti_ag9, ti_sb29, ti_sl29, itD, itV, rlV, rowD, rlD, hu, hv, hl])
        | (refine AWp_condC rfl ?_; intro KA KB hKA hKB; try simp only [onB_true, onB_false, onB_dec, onB_ndec, onB_not, onB_and, onB_or])
        | (refine AWp_condA rfl ?_ ?_)
        | with_reducible refine onB_of ?_ ?_
        | with_reducible rfl
        | omega)
      · rename_i huv
        exact ⟨i + 1, ⟨by omega, by rw [take_of_get hu, take_of_get hv, he, huv]⟩, by omega, by omega⟩
      · rename_i huv
        have hne : x ≠ y := fun e => huv (by subst e; rw [hu] at hv; exact Option.some.inj hv)
        exact keepD hk (by rw [decide_eq_false hne])
    · have e : i = y.length := by omega
      subst e
      rw [List.take_length, List.take_of_length_le (by omega)] at he
      
      repeat' (first
        | with_reducible refine And.intro ?_ ?_
        | with_reducible intro _
        | with_reducible refine AWp_seq ?_
        | with_reducible refine AWp_block ?_
        | (with_reducible refine hKv _ _ (AWp_nop ?_); clear hKv Kv)
        | (with_reducible refine hKv _ _ ?_; clear hKv Kv; simp (dsimp := false) only [go_sem, Nat.reduceAdd, Nat.reduceBEq, Nat.reduceEqDiff, Nat.reduceLT, Nat.reduceLeDiff, Nat.reduceMul, Int.reduceToNat, reduceCtorEq, ↓reduceIte, Tryd.ntmps45, Tryd.results45, ks_45, mu_45, nd_45, ti_ag9, ti_sb29, ti_sl29, itD, itV, rlV, rowD, rlD, hl])
        | (with_reducible refine hKA ?_; clear hKA hKB KA KB)
        | (with_reducible refine hKB ?_; clear hKA hKB KA KB)
        | (with_reducible refine AWp_regC mu_45 ks_45 ?_; intro Kv hKv; simp (dsimp := false) only [go_sem, Nat.reduceAdd, Nat.reduceBEq, Nat.reduceEqDiff, Nat.reduceLT, Nat.reduceLeDiff, Nat.reduceMul, Int.reduceToNat, reduceCtorEq, ↓reduceIte, Tryd.ntmps45, Tryd.results45, ks_45, mu_45, nd_45, ti_ag9, ti_sb29, ti_sl29, itD, itV, rlV, rowD, rlD, hl])
        | (with_reducible refine AWp_draw nd_45 mu_45 ks_45 ti_mixed (by kernel_rfl) ?_; intro Kv hKv; simp (dsimp := false) only [go_sem, Nat.reduceAdd, Nat.reduceBEq, Nat.reduceEqDiff, Nat.reduceLT, Nat.reduceLeDiff, Nat.reduceMul, Int.reduceToNat, reduceCtorEq, ↓reduceIte, Tryd.ntmps45, Tryd.results45, ks_45, mu_45, nd_45, ti_ag9, ti_sb29, ti_sl29, itD, itV, rlV, rowD, rlD, hl])
        | with_reducible refine AWp_skipN ?_
        | with_reducible refine AWp_exitO (by repeat (first | with_reducible exact Out.hit | with_reducible apply Out.thenA | with_reducible apply Out.out rfl)) ?_
        | (with_reducible refine AWp_retR ?_; simp (dsimp := false) only [go_sem, Nat.reduceAdd, Nat.reduceBEq, Nat.reduceEqDiff, Nat.reduceLT, Nat.reduceLeDiff, Nat.reduceMul, Int.reduceToNat, reduceCtorEq, ↓reduceIte, Tryd.ntmps45, Tryd.results45, ks_45, mu_45, nd_45, ti_ag9, ti_sb29, ti_sl29, itD, itV, rlV, rowD, rlD, hl])
        | (with_reducible refine AWp_regE mu_45 ks_45 ?_; intro Kv hKv; simp (dsimp := false) only [go_sem, Nat.reduceAdd, Nat.reduceBEq, Nat.reduceEqDiff, Nat.reduceLT, Nat.reduceLeDiff, Nat.reduceMul, Int.reduceToNat, reduceCtorEq, ↓reduceIte, Tryd.ntmps45, Tryd.results45, ks_45, mu_45, nd_45, ti_ag9, ti_sb29, ti_sl29, itD, itV, rlV, rowD, rlD, hl])
        | (with_reducible refine AWp_drawE nd_45 mu_45 ks_45 ti_mixed (by kernel_rfl) ?_; intro Kv hKv; simp (dsimp := false) only [go_sem, Nat.reduceAdd, Nat.reduceBEq, Nat.reduceEqDiff, Nat.reduceLT, Nat.reduceLeDiff, Nat.reduceMul, Int.reduceToNat, reduceCtorEq, ↓reduceIte, Tryd.ntmps45, Tryd.results45, ks_45, mu_45, nd_45, ti_ag9, ti_sb29, ti_sl29, itD, itV, rlV, rowD, rlD, hl])
        | (refine AWp_condC rfl ?_; intro KA KB hKA hKB; try simp only [onB_true, onB_false, onB_dec, onB_ndec, onB_not, onB_and, onB_or])
        | (refine AWp_condA rfl ?_ ?_)
        | with_reducible refine onB_of ?_ ?_
        | with_reducible rfl
        | omega)
      all_goals exact keepD hk (by rw [decide_eq_true he])
  · have hl' : ¬ ((x.length : Int) = y.length) := by omega
    have hne : x ≠ y := fun e => hl (by rw [e])
    
    refine ACalls_of Tryd.func45 rfl in_45 (Nat.le_of_ble_eq_true rfl) ?_
    intro F hF
    simp (dsimp := false) only [go_sem, Nat.reduceAdd, Nat.reduceBEq, Nat.reduceEqDiff, Nat.reduceLT, Nat.reduceLeDiff, Nat.reduceMul, Int.reduceToNat, reduceCtorEq, ↓reduceIte, Tryd.ntmps45, Tryd.results45, ks_45, mu_45, nd_45, ti_ag9, ti_sb29, ti_sl29, itD, itV, rlV, rowD, rlD, hl', in_45] at hF
    subst hF
    repeat' (first
      | with_reducible refine And.intro ?_ ?_
      | with_reducible intro _
      | with_reducible refine AWp_seq ?_
      | with_reducible refine AWp_block ?_
      | (with_reducible refine hKv _ _ (AWp_nop ?_); clear hKv Kv)
      | (with_reducible refine hKv _ _ ?_; clear hKv Kv; simp (dsimp := false) only [go_sem, Nat.reduceAdd, Nat.reduceBEq, Nat.reduceEqDiff, Nat.reduceLT, Nat.reduceLeDiff, Nat.reduceMul, Int.reduceToNat, reduceCtorEq, ↓reduceIte, Tryd.ntmps45, Tryd.results45, ks_45, mu_45, nd_45, ti_ag9, ti_sb29, ti_sl29, itD, itV, rlV, rowD, rlD, hl'])
      | (with_reducible refine hKA ?_; clear hKA hKB KA KB)
      | (with_reducible refine hKB ?_; clear hKA hKB KA KB)
      | (with_reducible refine AWp_regC mu_45 ks_45 ?_; intro Kv hKv; simp (dsimp := false) only [go_sem, Nat.reduceAdd, Nat.reduceBEq, Nat.reduceEqDiff, Nat.reduceLT, Nat.reduceLeDiff, Nat.reduceMul, Int.reduceToNat, reduceCtorEq, ↓reduceIte, Tryd.ntmps45, Tryd.results45, ks_45, mu_45, nd_45, ti_ag9, ti_sb29, ti_sl29, itD, itV, rlV, rowD, rlD, hl'])
      | (with_reducible refine AWp_draw nd_45 mu_45 ks_45 ti_mixed (by kernel_rfl) ?_; intro Kv hKv; simp (dsimp := false) only [go_sem, Nat.reduceAdd, Nat.reduceBEq, Nat.reduceEqDiff, Nat.reduceLT, Nat.reduceLeDiff, Nat.reduceMul, Int.reduceToNat, reduceCtorEq, ↓reduceIte, Tryd.ntmps45, Tryd.results45, ks_45, mu_45, nd_45, ti_ag9, ti_sb29, ti_sl29, itD, itV, rlV, rowD, rlD, hl'])
      | with_reducible refine AWp_skipN ?_
      | with_reducible refine AWp_exitO (by repeat (first | with_reducible exact Out.hit | with_reducible apply Out.thenA | with_reducible apply Out.out rfl)) ?_
      | (with_reducible refine AWp_retR ?_; simp (dsimp := false) only [go_sem, Nat.reduceAdd, Nat.reduceBEq, Nat.reduceEqDiff, Nat.reduceLT, Nat.reduceLeDiff, Nat.reduceMul, Int.reduceToNat, reduceCtorEq, ↓reduceIte, Tryd.ntmps45, Tryd.results45, ks_45, mu_45, nd_45, ti_ag9, ti_sb29, ti_sl29, itD, itV, rlV, rowD, rlD, hl'])
      | (with_reducible refine AWp_regE mu_45 ks_45 ?_; intro Kv hKv; simp (dsimp := false) only [go_sem, Nat.reduceAdd, Nat.reduceBEq, Nat.reduceEqDiff, Nat.reduceLT, Nat.reduceLeDiff, Nat.reduceMul, Int.reduceToNat, reduceCtorEq, ↓reduceIte, Tryd.ntmps45, Tryd.results45, ks_45, mu_45, nd_45, ti_ag9, ti_sb29, ti_sl29, itD, itV, rlV, rowD, rlD, hl'])
      | (with_reducible refine AWp_drawE nd_45 mu_45 ks_45 ti_mixed (by kernel_rfl) ?_; intro Kv hKv; simp (dsimp := false) only [go_sem, Nat.reduceAdd, Nat.reduceBEq, Nat.reduceEqDiff, Nat.reduceLT, Nat.reduceLeDiff, Nat.reduceMul, Int.reduceToNat, reduceCtorEq, ↓reduceIte, Tryd.ntmps45, Tryd.results45, ks_45, mu_45, nd_45, ti_ag9, ti_sb29, ti_sl29, itD, itV, rlV, rowD, rlD, hl'])
      | (refine AWp_condC rfl ?_; intro KA KB hKA hKB; try simp only [onB_true, onB_false, onB_dec, onB_ndec, onB_not, onB_and, onB_or])
      | (refine AWp_condA rfl ?_ ?_)
      | with_reducible refine onB_of ?_ ?_
      | with_reducible rfl
      | omega)
    all_goals exact keepD hk (by rw [decide_eq_false hne])

theorem take_le {α : Type} (l : List α) (i : Nat) : (l.take i).length ≤ l.length := by rw [List.length_take]; omega
/- the live slots of pleacher/rel.Union -/
def ks_18 : Nat → List Nat
  | 0 => [2, 3, 4]
  | 1 => [2, 3, 4, 6]
  | 2 => [2, 3, 4, 6, 14]
  | 3 => [4, 5]
  | 4 => [2, 3, 4, 22]
  | 5 => [4, 5]
  | 6 => [2, 3, 4, 7]
  | 7 => [2, 4, 7, 29, 30, 31]
  | 8 => [2, 4, 7, 29, 30, 31, 32]
  | 9 => [2, 4, 7, 9, 29, 30, 31]
  | 10 => [2, 4, 7, 29, 30, 31]
  | 11 => [2, 4, 7, 29, 30, 31]
  | 12 => [4, 5]
  | _ => []
def mu_18 : List Nat := [7]
def in_18 : List Nat := [0, 1]
theorem union_A (a b : Rl) (hA : ShR a) (hB : ShR b) (H : Heap) (K : V → Heap → Prop) (hk : K (relE (united a b).1 (united a b).2) H) : ACalls Tryd.prog 18 [rlV a, rlV b] H K := by
  have q1 := hA.ncols
  have q2 := hA.nrows
  have q3 := hB.ncols
  have q4 := hB.nrows
  by_cases hf : twoFault a b = 0
  · by_cases hl : a.cols = b.cols
    · rw [united, if_pos hf, if_pos hl] at hk
      have hfa : relFault a = 0 ∧ relFault b = 0 := by
        unfold twoFault at hf
        split at hf
        · exact ⟨by assumption, hf⟩
        · contradiction
      have hd : decide (a.cols = b.cols) = true := decide_eq_true hl
      
      refine ACalls_of Tryd.func18 rfl in_18 (Nat.le_of_ble_eq_true rfl) ?_
      intro F hF
      simp (dsimp := false) only [go_sem, Nat.reduceAdd, Nat.reduceBEq, Nat.reduceEqDiff, Nat.reduceLT, Nat.reduceLeDiff, Nat.reduceMul, Int.reduceToNat, reduceCtorEq, ↓reduceIte, Tryd.ntmps18, Tryd.results18, ks_18, mu_18, ti_ag29, ti_ag30, ti_ag32, ti_ag55, ti_fl32_0, ti_fl32_1, ti_hb33, ti_hb37, ti_hb45, ti_hb46, ti_hb47, ti_pl32, ti_sb30, ti_sl30, ti_sl91, ti_sz32, ti_zr32, itD, itV, rlV, rowD, rlD, hf, hd, in_18] at hF
      subst hF
      repeat' (first
        | with_reducible refine And.intro ?_ ?_
        | with_reducible intro _
        | with_reducible refine AWp_seq ?_
        | with_reducible refine AWp_block ?_
        | (with_reducible refine hKv _ _ (AWp_nop ?_); clear hKv Kv)
        | (with_reducible refine hKv _ _ ?_; clear hKv Kv; simp (dsimp := false) only [go_sem, Nat.reduceAdd, Nat.reduceBEq, Nat.reduceEqDiff, Nat.reduceLT, Nat.reduceLeDiff, Nat.reduceMul, Int.reduceToNat, reduceCtorEq, ↓reduceIte, Tryd.ntmps18, Tryd.results18, ks_18, mu_18, ti_ag29, ti_ag30, ti_ag32, ti_ag55, ti_fl32_0, ti_fl32_1, ti_hb33, ti_hb37, ti_hb45, ti_hb46, ti_hb47, ti_pl32, ti_sb30, ti_sl30, ti_sl91, ti_sz32, ti_zr32, itD, itV, rlV, rowD, rlD, hf, hd])
        | (with_reducible refine hKA ?_; clear hKA hKB KA KB)
        | (with_reducible refine hKB ?_; clear hKA hKB KA KB)
        | (with_reducible refine AWp_regC mu_18 ks_18 ?_; intro Kv hKv; simp (dsimp := false) only [go_sem, Nat.reduceAdd, Nat.reduceBEq, Nat.reduceEqDiff, Nat.reduceLT, Nat.reduceLeDiff, Nat.reduceMul, Int.reduceToNat, reduceCtorEq, ↓reduceIte, Tryd.ntmps18, Tryd.results18, ks_18, mu_18, ti_ag29, ti_ag30, ti_ag32, ti_ag55, ti_fl32_0, ti_fl32_1, ti_hb33, ti_hb37, ti_hb45, ti_hb46, ti_hb47, ti_pl32, ti_sb30, ti_sl30, ti_sl91, ti_sz32, ti_zr32, itD, itV, rlV, rowD, rlD, hf, hd])
        | with_reducible refine AWp_skipN ?_
        | with_reducible refine AWp_exitO (by repeat (first | with_reducible exact Out.hit | with_reducible apply Out.thenA | with_reducible apply Out.out rfl)) ?_
        | (with_reducible refine AWp_retR ?_; simp (dsimp := false) only [go_sem, Nat.reduceAdd, Nat.reduceBEq, Nat.reduceEqDiff, Nat.reduceLT, Nat.reduceLeDiff, Nat.reduceMul, Int.reduceToNat, reduceCtorEq, ↓reduceIte, Tryd.ntmps18, Tryd.results18, ks_18, mu_18, ti_ag29, ti_ag30, ti_ag32, ti_ag55, ti_fl32_0, ti_fl32_1, ti_hb33, ti_hb37, ti_hb45, ti_hb46, ti_hb47, ti_pl32, ti_sb30, ti_sl30, ti_sl91, ti_sz32, ti_zr32, itD, itV, rlV, rowD, rlD, hf, hd])
        | (with_reducible refine AWp_regE mu_18 ks_18 ?_; intro Kv hKv; simp (dsimp := false) only [go_sem, Nat.reduceAdd, Nat.reduceBEq, Nat.reduceEqDiff, Nat.reduceLT, Nat.reduceLeDiff, Nat.reduceMul, Int.reduceToNat, reduceCtorEq, ↓reduceIte, Tryd.ntmps18, Tryd.results18, ks_18, mu_18, ti_ag29, ti_ag30, ti_ag32, ti_ag55, ti_fl32_0, ti_fl32_1, ti_hb33, ti_hb37, ti_hb45, ti_hb46, ti_hb47, ti_pl32, ti_sb30, ti_sl30, ti_sl91, ti_sz32, ti_zr32, itD, itV, rlV, rowD, rlD, hf, hd])
        | (refine AWp_condC rfl ?_; intro KA KB hKA hKB; try simp only [onB_true, onB_false, onB_dec, onB_ndec, onB_not, onB_and, onB_or])
        | (refine AWp_condA rfl ?_ ?_)
        | (refine both_A a b hA hB _ _ ?_; try simp (dsimp := false) only [go_sem, Nat.reduceAdd, Nat.reduceBEq, Nat.reduceEqDiff, Nat.reduceLT, Nat.reduceLeDiff, Nat.reduceMul, Int.reduceToNat, reduceCtorEq, ↓reduceIte, Tryd.ntmps18, Tryd.results18, ks_18, mu_18, ti_ag29, ti_ag30, ti_ag32, ti_ag55, ti_fl32_0, ti_fl32_1, ti_hb33, ti_hb37, ti_hb45, ti_hb46, ti_hb47, ti_pl32, ti_sb30, ti_sl30, ti_sl91, ti_sz32, ti_zr32, itD, itV, rlV, rowD, rlD, hf, hd])
        | (refine equalStr_A a.cols b.cols (by omega) (by omega) _ _ ?_; try simp (dsimp := false) only [go_sem, Nat.reduceAdd, Nat.reduceBEq, Nat.reduceEqDiff, Nat.reduceLT, Nat.reduceLeDiff, Nat.reduceMul, Int.reduceToNat, reduceCtorEq, ↓reduceIte, Tryd.ntmps18, Tryd.results18, ks_18, mu_18, ti_ag29, ti_ag30, ti_ag32, ti_ag55, ti_fl32_0, ti_fl32_1, ti_hb33, ti_hb37, ti_hb45, ti_hb46, ti_hb47, ti_pl32, ti_sb30, ti_sl30, ti_sl91, ti_sz32, ti_zr32, itD, itV, rlV, rowD, rlD, hf, hd])
        | (refine cat2Rws a.rows b.rows (by omega) _ _ ?_; try simp (dsimp := false) only [go_sem, Nat.reduceAdd, Nat.reduceBEq, Nat.reduceEqDiff, Nat.reduceLT, Nat.reduceLeDiff, Nat.reduceMul, Int.reduceToNat, reduceCtorEq, ↓reduceIte, Tryd.ntmps18, Tryd.results18, ks_18, mu_18, ti_ag29, ti_ag30, ti_ag32, ti_ag55, ti_fl32_0, ti_fl32_1, ti_hb33, ti_hb37, ti_hb45, ti_hb46, ti_hb47, ti_pl32, ti_sb30, ti_sl30, ti_sl91, ti_sz32, ti_zr32, itD, itV, rlV, rowD, rlD, hf, hd])
        | with_reducible refine onB_of ?_ ?_
        | with_reducible rfl
        | omega)
      generalize hR : a.rows ++ b.rows = R at hk
      have hRl : R.length = a.rows.length + b.rows.length := by rw [← hR, List.length_append]
      rw [show a.rows.length + b.rows.length = R.length from hRl.symm]
      have hRr : ∀ row, row ∈ R → row.length ≤ 1048576 := fun row h => by
        rw [← hR] at h
        rcases List.mem_append.1 h with h | h
        · exact hA.row row h
        · exact hB.row row h
      refine AWp_whileH (fun i : Nat => i ≤ R.length)
        (fun i => [(2, .rp (rlD a)), (4, .pt H.length 0 0 0), (7, .os (H.length + 1) i), (29, .d (.sl 1 (R.map rowD))), (30, .d (.i .i64 R.length)), (31, .d (.i .i64 i))])
        (fun i => [.row 0 32 2 [[.d (.c (.slice none 0 0)), .d (.c (.slice none 0 0))]], .row i 55 1 ((R.take i).map rowC)]) (fun i => R.length - i) 0 (Nat.zero_le _) rfl ?_ ?_ ?_
      · simp (dsimp := false) only [go_sem, Nat.reduceAdd, Nat.reduceBEq, Nat.reduceEqDiff, Nat.reduceLT, Nat.reduceLeDiff, Nat.reduceMul, Int.reduceToNat, reduceCtorEq, ↓reduceIte, Tryd.ntmps18, Tryd.results18, ks_18, mu_18, ti_ag29, ti_ag30, ti_ag32, ti_ag55, ti_fl32_0, ti_fl32_1, ti_hb33, ti_hb37, ti_hb45, ti_hb46, ti_hb47, ti_pl32, ti_sb30, ti_sl30, ti_sl91, ti_sz32, ti_zr32, itD, itV, rlV, rowD, rlD, hf, hd]
        first | done | simp
      · rintro i _ ob hob
        simp only [List.mem_cons, List.not_mem_nil, or_false] at hob
        rcases hob with rfl | rfl
        · exact bel_nil2 _ _ _
        · exact obBel_rows _ _ _ _ _
      rintro i hi
      have hli : (R.take i).length = i := by simp; omega
      by_cases hiN : i < R.length
      · obtain ⟨row, hrow⟩ : ∃ row, R[i]? = some row := ⟨R[i], List.getElem?_eq_getElem hiN⟩
        have hrl := hRr row (List.mem_of_getElem? hrow)
        
        repeat' (first
          | with_reducible refine And.intro ?_ ?_
          | with_reducible intro _
          | with_reducible refine AWp_seq ?_
          | with_reducible refine AWp_block ?_
          | (with_reducible refine hKv _ _ (AWp_nop ?_); clear hKv Kv)
          | (with_reducible refine hKv _ _ ?_; clear hKv Kv; simp (dsimp := false) only [go_sem, Nat.reduceAdd, Nat.reduceBEq, Nat.reduceEqDiff, Nat.reduceLT, Nat.reduceLeDiff, Nat.reduceMul, Int.reduceToNat, reduceCtorEq, ↓reduceIte, Tryd.ntmps18, Tryd.results18, ks_18, mu_18, ti_ag29, ti_ag30, ti_ag32, ti_ag55, ti_fl32_0, ti_fl32_1, ti_hb33, ti_hb37, ti_hb45, ti_hb46, ti_hb47, ti_pl32, ti_sb30, ti_sl30, ti_sl91, ti_sz32, ti_zr32, itD, itV, rlV, rowD, rlD, hrow])
          | (with_reducible refine hKA ?_; clear hKA hKB KA KB)
          | (with_reducible refine hKB ?_; clear hKA hKB KA KB)
          | (with_reducible refine AWp_regC mu_18 ks_18 ?_; intro Kv hKv; simp (dsimp := false) only [go_sem, Nat.reduceAdd, Nat.reduceBEq, Nat.reduceEqDiff, Nat.reduceLT, Nat.reduceLeDiff, Nat.reduceMul, Int.reduceToNat, reduceCtorEq, ↓reduceIte, Tryd.ntmps18, Tryd.results18, ks_18, mu_18, ti_ag29, ti_ag30, ti_ag32, ti_ag55, ti_fl32_0, ti_fl32_1, ti_hb33, ti_hb37, ti_hb45, ti_hb46, ti_hb47, ti_pl32, ti_sb30, ti_sl30, ti_sl91, ti_sz32, ti_zr32, itD, itV, rlV, rowD, rlD, hrow])
          | with_reducible refine AWp_skipN ?_
          | with_reducible refine AWp_exitO (by repeat (first | with_reducible exact Out.hit | with_reducible apply Out.thenA | with_reducible apply Out.out rfl)) ?_
          | (with_reducible refine AWp_retR ?_; simp (dsimp := false) only [go_sem, Nat.reduceAdd, Nat.reduceBEq, Nat.reduceEqDiff, Nat.reduceLT, Nat.reduceLeDiff, Nat.reduceMul, Int.reduceToNat, reduceCtorEq, ↓reduceIte, Tryd.ntmps18, Tryd.results18, ks_18, mu_18, ti_ag29, ti_ag30, ti_ag32, ti_ag55, ti_fl32_0, ti_fl32_1, ti_hb33, ti_hb37, ti_hb45, ti_hb46, ti_hb47, ti_pl32, ti_sb30, ti_sl30, ti_sl91, ti_sz32, ti_zr32, itD, itV, rlV, rowD, rlD, hrow])
          | (with_reducible refine AWp_regE mu_18 ks_18 ?_; intro Kv hKv; simp (dsimp := false) only [go_sem, Nat.reduceAdd, Nat.reduceBEq, Nat.reduceEqDiff, Nat.reduceLT, Nat.reduceLeDiff, Nat.reduceMul, Int.reduceToNat, reduceCtorEq, ↓reduceIte, Tryd.ntmps18, Tryd.results18, ks_18, mu_18, ti_ag29, ti_ag30, ti_ag32, ti_ag55, ti_fl32_0, ti_fl32_1, ti_hb33, ti_hb37, ti_hb45, ti_hb46, ti_hb47, ti_pl32, ti_sb30, ti_sl30, ti_sl91, ti_sz32, ti_zr32, itD, itV, rlV, rowD, rlD, hrow])
          | (refine AWp_condC rfl ?_; intro KA KB hKA hKB; try simp only [onB_true, onB_false, onB_dec, onB_ndec, onB_not, onB_and, onB_or])
          | (refine AWp_condA rfl ?_ ?_)
          | (refine cloneIts_A (row.map itD) (by rw [List.length_map]; omega) _ _ ?_; try simp (dsimp := false) only [go_sem, Nat.reduceAdd, Nat.reduceBEq, Nat.reduceEqDiff, Nat.reduceLT, Nat.reduceLeDiff, Nat.reduceMul, Int.reduceToNat, reduceCtorEq, ↓reduceIte, Tryd.ntmps18, Tryd.results18, ks_18, mu_18, ti_ag29, ti_ag30, ti_ag32, ti_ag55, ti_fl32_0, ti_fl32_1, ti_hb33, ti_hb37, ti_hb45, ti_hb46, ti_hb47, ti_pl32, ti_sb30, ti_sl30, ti_sl91, ti_sz32, ti_zr32, itD, itV, rlV, rowD, rlD, hrow])
          | with_reducible refine onB_of ?_ ?_
          | with_reducible rfl
          | omega)
        · exact ⟨i + 1, by omega, by omega, by rw [take_of_get hrow]; simp [rowC], by omega, rfl, by omega, by omega⟩
      · have e : i = R.length := by omega
        subst e
        rw [List.take_length]
        
        repeat' (first
          | with_reducible refine And.intro ?_ ?_
          | with_reducible intro _
          | with_reducible refine AWp_seq ?_
          | with_reducible refine AWp_block ?_
          | (with_reducible refine hKv _ _ (AWp_nop ?_); clear hKv Kv)
          | (with_reducible refine hKv _ _ ?_; clear hKv Kv; simp (dsimp := false) only [go_sem, Nat.reduceAdd, Nat.reduceBEq, Nat.reduceEqDiff, Nat.reduceLT, Nat.reduceLeDiff, Nat.reduceMul, Int.reduceToNat, reduceCtorEq, ↓reduceIte, Tryd.ntmps18, Tryd.results18, ks_18, mu_18, ti_ag29, ti_ag30, ti_ag32, ti_ag55, ti_fl32_0, ti_fl32_1, ti_hb33, ti_hb37, ti_hb45, ti_hb46, ti_hb47, ti_pl32, ti_sb30, ti_sl30, ti_sl91, ti_sz32, ti_zr32, itD, itV, rlV, rowD, rlD, finQ])
          | (with_reducible refine hKA ?_; clear hKA hKB KA KB)
          | (with_reducible refine hKB ?_; clear hKA hKB KA KB)
          | (with_reducible refine AWp_regC mu_18 ks_18 ?_; intro Kv hKv; simp (dsimp := false) only [go_sem, Nat.reduceAdd, Nat.reduceBEq, Nat.reduceEqDiff, Nat.reduceLT, Nat.reduceLeDiff, Nat.reduceMul, Int.reduceToNat, reduceCtorEq, ↓reduceIte, Tryd.ntmps18, Tryd.results18, ks_18, mu_18, ti_ag29, ti_ag30, ti_ag32, ti_ag55, ti_fl32_0, ti_fl32_1, ti_hb33, ti_hb37, ti_hb45, ti_hb46, ti_hb47, ti_pl32, ti_sb30, ti_sl30, ti_sl91, ti_sz32, ti_zr32, itD, itV, rlV, rowD, rlD, finQ])
          | with_reducible refine AWp_skipN ?_
          | with_reducible refine AWp_exitO (by repeat (first | with_reducible exact Out.hit | with_reducible apply Out.thenA | with_reducible apply Out.out rfl)) ?_
          | (with_reducible refine AWp_retR ?_; simp (dsimp := false) only [go_sem, Nat.reduceAdd, Nat.reduceBEq, Nat.reduceEqDiff, Nat.reduceLT, Nat.reduceLeDiff, Nat.reduceMul, Int.reduceToNat, reduceCtorEq, ↓reduceIte, Tryd.ntmps18, Tryd.results18, ks_18, mu_18, ti_ag29, ti_ag30, ti_ag32, ti_ag55, ti_fl32_0, ti_fl32_1, ti_hb33, ti_hb37, ti_hb45, ti_hb46, ti_hb47, ti_pl32, ti_sb30, ti_sl30, ti_sl91, ti_sz32, ti_zr32, itD, itV, rlV, rowD, rlD, finQ])
          | (with_reducible refine AWp_regE mu_18 ks_18 ?_; intro Kv hKv; simp (dsimp := false) only [go_sem, Nat.reduceAdd, Nat.reduceBEq, Nat.reduceEqDiff, Nat.reduceLT, Nat.reduceLeDiff, Nat.reduceMul, Int.reduceToNat, reduceCtorEq, ↓reduceIte, Tryd.ntmps18, Tryd.results18, ks_18, mu_18, ti_ag29, ti_ag30, ti_ag32, ti_ag55, ti_fl32_0, ti_fl32_1, ti_hb33, ti_hb37, ti_hb45, ti_hb46, ti_hb47, ti_pl32, ti_sb30, ti_sl30, ti_sl91, ti_sz32, ti_zr32, itD, itV, rlV, rowD, rlD, finQ])
          | (refine AWp_condC rfl ?_; intro KA KB hKA hKB; try simp only [onB_true, onB_false, onB_dec, onB_ndec, onB_not, onB_and, onB_or])
          | (refine AWp_condA rfl ?_ ?_)
          | (refine finishedO_A a.cols _ _ _ _ q1 hA.col (by rw [List.length_map]; omega) _ _ ((get_appk _ _ 1).trans rfl) ?_; try simp (dsimp := false) only [go_sem, Nat.reduceAdd, Nat.reduceBEq, Nat.reduceEqDiff, Nat.reduceLT, Nat.reduceLeDiff, Nat.reduceMul, Int.reduceToNat, reduceCtorEq, ↓reduceIte, Tryd.ntmps18, Tryd.results18, ks_18, mu_18, ti_ag29, ti_ag30, ti_ag32, ti_ag55, ti_fl32_0, ti_fl32_1, ti_hb33, ti_hb37, ti_hb45, ti_hb46, ti_hb47, ti_pl32, ti_sb30, ti_sl30, ti_sl91, ti_sz32, ti_zr32, itD, itV, rlV, rowD, rlD, finQ])
          | with_reducible refine onB_of ?_ ?_
          | with_reducible rfl
          | omega)
        · exact fin_ret (acc := R) hk (by assumption) (by omega) (get_appk _ _ 1)
        · exact fin_bad (acc := R) hk rfl (by assumption)
    · rw [united, if_pos hf, if_neg hl] at hk
      
      refine ACalls_of Tryd.func18 rfl in_18 (Nat.le_of_ble_eq_true rfl) ?_
      intro F hF
      simp (dsimp := false) only [go_sem, Nat.reduceAdd, Nat.reduceBEq, Nat.reduceEqDiff, Nat.reduceLT, Nat.reduceLeDiff, Nat.reduceMul, Int.reduceToNat, reduceCtorEq, ↓reduceIte, Tryd.ntmps18, Tryd.results18, ks_18, mu_18, ti_ag29, ti_ag30, ti_ag32, ti_ag55, ti_fl32_0, ti_fl32_1, ti_hb33, ti_hb37, ti_hb45, ti_hb46, ti_hb47, ti_pl32, ti_sb30, ti_sl30, ti_sl91, ti_sz32, ti_zr32, itD, itV, rlV, rowD, rlD, hf, hl, in_18] at hF
      subst hF
      repeat' (first
        | with_reducible refine And.intro ?_ ?_
        | with_reducible intro _
        | with_reducible refine AWp_seq ?_
        | with_reducible refine AWp_block ?_
        | (with_reducible refine hKv _ _ (AWp_nop ?_); clear hKv Kv)
        | (with_reducible refine hKv _ _ ?_; clear hKv Kv; simp (dsimp := false) only [go_sem, Nat.reduceAdd, Nat.reduceBEq, Nat.reduceEqDiff, Nat.reduceLT, Nat.reduceLeDiff, Nat.reduceMul, Int.reduceToNat, reduceCtorEq, ↓reduceIte, Tryd.ntmps18, Tryd.results18, ks_18, mu_18, ti_ag29, ti_ag30, ti_ag32, ti_ag55, ti_fl32_0, ti_fl32_1, ti_hb33, ti_hb37, ti_hb45, ti_hb46, ti_hb47, ti_pl32, ti_sb30, ti_sl30, ti_sl91, ti_sz32, ti_zr32, itD, itV, rlV, rowD, rlD, hf, hl])
        | (with_reducible refine hKA ?_; clear hKA hKB KA KB)
        | (with_reducible refine hKB ?_; clear hKA hKB KA KB)
        | (with_reducible refine AWp_regC mu_18 ks_18 ?_; intro Kv hKv; simp (dsimp := false) only [go_sem, Nat.reduceAdd, Nat.reduceBEq, Nat.reduceEqDiff, Nat.reduceLT, Nat.reduceLeDiff, Nat.reduceMul, Int.reduceToNat, reduceCtorEq, ↓reduceIte, Tryd.ntmps18, Tryd.results18, ks_18, mu_18, ti_ag29, ti_ag30, ti_ag32, ti_ag55, ti_fl32_0, ti_fl32_1, ti_hb33, ti_hb37, ti_hb45, ti_hb46, ti_hb47, ti_pl32, ti_sb30, ti_sl30, ti_sl91, ti_sz32, ti_zr32, itD, itV, rlV, rowD, rlD, hf, hl])
        | with_reducible refine AWp_skipN ?_
        | with_reducible refine AWp_exitO (by repeat (first | with_reducible exact Out.hit | with_reducible apply Out.thenA | with_reducible apply Out.out rfl)) ?_
        | (with_reducible refine AWp_retR ?_; simp (dsimp := false) only [go_sem, Nat.reduceAdd, Nat.reduceBEq, Nat.reduceEqDiff, Nat.reduceLT, Nat.reduceLeDiff, Nat.reduceMul, Int.reduceToNat, reduceCtorEq, ↓reduceIte, Tryd.ntmps18, Tryd.results18, ks_18, mu_18, ti_ag29, ti_ag30, ti_ag32, ti_ag55, ti_fl32_0, ti_fl32_1, ti_hb33, ti_hb37, ti_hb45, ti_hb46, ti_hb47, ti_pl32, ti_sb30, ti_sl30, ti_sl91, ti_sz32, ti_zr32, itD, itV, rlV, rowD, rlD, hf, hl])
        | (with_reducible refine AWp_regE mu_18 ks_18 ?_; intro Kv hKv; simp (dsimp := false) only [go_sem, Nat.reduceAdd, Nat.reduceBEq, Nat.reduceEqDiff, Nat.reduceLT, Nat.reduceLeDiff, Nat.reduceMul, Int.reduceToNat, reduceCtorEq, ↓reduceIte, Tryd.ntmps18, Tryd.results18, ks_18, mu_18, ti_ag29, ti_ag30, ti_ag32, ti_ag55, ti_fl32_0, ti_fl32_1, ti_hb33, ti_hb37, ti_hb45, ti_hb46, ti_hb47, ti_pl32, ti_sb30, ti_sl30, ti_sl91, ti_sz32, ti_zr32, itD, itV, rlV, rowD, rlD, hf, hl])
        | (refine AWp_condC rfl ?_; intro KA KB hKA hKB; try simp only [onB_true, onB_false, onB_dec, onB_ndec, onB_not, onB_and, onB_or])
        | (refine AWp_condA rfl ?_ ?_)
        | (refine both_A a b hA hB _ _ ?_; try simp (dsimp := false) only [go_sem, Nat.reduceAdd, Nat.reduceBEq, Nat.reduceEqDiff, Nat.reduceLT, Nat.reduceLeDiff, Nat.reduceMul, Int.reduceToNat, reduceCtorEq, ↓reduceIte, Tryd.ntmps18, Tryd.results18, ks_18, mu_18, ti_ag29, ti_ag30, ti_ag32, ti_ag55, ti_fl32_0, ti_fl32_1, ti_hb33, ti_hb37, ti_hb45, ti_hb46, ti_hb47, ti_pl32, ti_sb30, ti_sl30, ti_sl91, ti_sz32, ti_zr32, itD, itV, rlV, rowD, rlD, hf, hl])
        | (refine equalStr_A a.cols b.cols (by omega) (by omega) _ _ ?_; try simp (dsimp := false) only [go_sem, Nat.reduceAdd, Nat.reduceBEq, Nat.reduceEqDiff, Nat.reduceLT, Nat.reduceLeDiff, Nat.reduceMul, Int.reduceToNat, reduceCtorEq, ↓reduceIte, Tryd.ntmps18, Tryd.results18, ks_18, mu_18, ti_ag29, ti_ag30, ti_ag32, ti_ag55, ti_fl32_0, ti_fl32_1, ti_hb33, ti_hb37, ti_hb45, ti_hb46, ti_hb47, ti_pl32, ti_sb30, ti_sl30, ti_sl91, ti_sz32, ti_zr32, itD, itV, rlV, rowD, rlD, hf, hl])
        | with_reducible refine onB_of ?_ ?_
        | with_reducible rfl
        | omega)
      all_goals exact dropF hk (fz_rl0 _ _ _) (bel_relE _ _ _)
  · rw [united, if_neg hf] at hk
    
    refine ACalls_of Tryd.func18 rfl in_18 (Nat.le_of_ble_eq_true rfl) ?_
    intro F hF
    simp (dsimp := false) only [go_sem, Nat.reduceAdd, Nat.reduceBEq, Nat.reduceEqDiff, Nat.reduceLT, Nat.reduceLeDiff, Nat.reduceMul, Int.reduceToNat, reduceCtorEq, ↓reduceIte, Tryd.ntmps18, Tryd.results18, ks_18, mu_18, ti_ag29, ti_ag30, ti_ag32, ti_ag55, ti_fl32_0, ti_fl32_1, ti_hb33, ti_hb37, ti_hb45, ti_hb46, ti_hb47, ti_pl32, ti_sb30, ti_sl30, ti_sl91, ti_sz32, ti_zr32, itD, itV, rlV, rowD, rlD, hf, in_18] at hF
    subst hF
    repeat' (first
      | with_reducible refine And.intro ?_ ?_
      | with_reducible intro _
      | with_reducible refine AWp_seq ?_
      | with_reducible refine AWp_block ?_
      | (with_reducible refine hKv _ _ (AWp_nop ?_); clear hKv Kv)
      | (with_reducible refine hKv _ _ ?_; clear hKv Kv; simp (dsimp := false) only [go_sem, Nat.reduceAdd, Nat.reduceBEq, Nat.reduceEqDiff, Nat.reduceLT, Nat.reduceLeDiff, Nat.reduceMul, Int.reduceToNat, reduceCtorEq, ↓reduceIte, Tryd.ntmps18, Tryd.results18, ks_18, mu_18, ti_ag29, ti_ag30, ti_ag32, ti_ag55, ti_fl32_0, ti_fl32_1, ti_hb33, ti_hb37, ti_hb45, ti_hb46, ti_hb47, ti_pl32, ti_sb30, ti_sl30, ti_sl91, ti_sz32, ti_zr32, itD, itV, rlV, rowD, rlD, hf])
      | (with_reducible refine hKA ?_; clear hKA hKB KA KB)
      | (with_reducible refine hKB ?_; clear hKA hKB KA KB)
      | (with_reducible refine AWp_regC mu_18 ks_18 ?_; intro Kv hKv; simp (dsimp := false) only [go_sem, Nat.reduceAdd, Nat.reduceBEq, Nat.reduceEqDiff, Nat.reduceLT, Nat.reduceLeDiff, Nat.reduceMul, Int.reduceToNat, reduceCtorEq, ↓reduceIte, Tryd.ntmps18, Tryd.results18, ks_18, mu_18, ti_ag29, ti_ag30, ti_ag32, ti_ag55, ti_fl32_0, ti_fl32_1, ti_hb33, ti_hb37, ti_hb45, ti_hb46, ti_hb47, ti_pl32, ti_sb30, ti_sl30, ti_sl91, ti_sz32, ti_zr32, itD, itV, rlV, rowD, rlD, hf])
      | with_reducible refine AWp_skipN ?_
      | with_reducible refine AWp_exitO (by repeat (first | with_reducible exact Out.hit | with_reducible apply Out.thenA | with_reducible apply Out.out rfl)) ?_
      | (with_reducible refine AWp_retR ?_; simp (dsimp := false) only [go_sem, Nat.reduceAdd, Nat.reduceBEq, Nat.reduceEqDiff, Nat.reduceLT, Nat.reduceLeDiff, Nat.reduceMul, Int.reduceToNat, reduceCtorEq, ↓reduceIte, Tryd.ntmps18, Tryd.results18, ks_18, mu_18, ti_ag29, ti_ag30, ti_ag32, ti_ag55, ti_fl32_0, ti_fl32_1, ti_hb33, ti_hb37, ti_hb45, ti_hb46, ti_hb47, ti_pl32, ti_sb30, ti_sl30, ti_sl91, ti_sz32, ti_zr32, itD, itV, rlV, rowD, rlD, hf])
      | (with_reducible refine AWp_regE mu_18 ks_18 ?_; intro Kv hKv; simp (dsimp := false) only [go_sem, Nat.reduceAdd, Nat.reduceBEq, Nat.reduceEqDiff, Nat.reduceLT, Nat.reduceLeDiff, Nat.reduceMul, Int.reduceToNat, reduceCtorEq, ↓reduceIte, Tryd.ntmps18, Tryd.results18, ks_18, mu_18, ti_ag29, ti_ag30, ti_ag32, ti_ag55, ti_fl32_0, ti_fl32_1, ti_hb33, ti_hb37, ti_hb45, ti_hb46, ti_hb47, ti_pl32, ti_sb30, ti_sl30, ti_sl91, ti_sz32, ti_zr32, itD, itV, rlV, rowD, rlD, hf])
      | (refine AWp_condC rfl ?_; intro KA KB hKA hKB; try simp only [onB_true, onB_false, onB_dec, onB_ndec, onB_not, onB_and, onB_or])
      | (refine AWp_condA rfl ?_ ?_)
      | (refine both_A a b hA hB _ _ ?_; try simp (dsimp := false) only [go_sem, Nat.reduceAdd, Nat.reduceBEq, Nat.reduceEqDiff, Nat.reduceLT, Nat.reduceLeDiff, Nat.reduceMul, Int.reduceToNat, reduceCtorEq, ↓reduceIte, Tryd.ntmps18, Tryd.results18, ks_18, mu_18, ti_ag29, ti_ag30, ti_ag32, ti_ag55, ti_fl32_0, ti_fl32_1, ti_hb33, ti_hb37, ti_hb45, ti_hb46, ti_hb47, ti_pl32, ti_sb30, ti_sl30, ti_sl91, ti_sz32, ti_zr32, itD, itV, rlV, rowD, rlD, hf])
      | with_reducible refine onB_of ?_ ?_
      | with_reducible rfl
      | omega)
    all_goals exact dropF hk (fz_rl0 _ _ _) (bel_relE _ _ _)
theorem cols_eq_take {x y : List (List UInt8)} {i : Nat} {u v : List UInt8} (h : x.take i = y.take i) (hu : x[i]? = some u) (hv : y[i]? = some v) (huv : u = v) : x.take (i + 1) = y.take (i + 1) := by
  rw [take_of_get hu, take_of_get hv, h, huv]

/- the live slots of pleacher/pleacherref.UnitedOf -/
def ks_19 : Nat → List Nat
  | 0 => [2, 3, 4]
  | 1 => [2, 3, 4, 6]
  | 2 => [2, 3, 4, 6, 15]
  | 3 => [4, 5]
  | 4 => [2, 3, 4, 24]
  | 5 => [4, 5]
  | 6 => [2, 3, 4, 7]
  | 7 => [2, 3, 4, 7, 30]
  | 8 => [2, 3, 4, 7]
  | 9 => [2, 3, 4, 7, 43]
  | 10 => [4, 5]
  | 11 => [2, 3, 4, 8]
  | 12 => [2, 3, 4, 8, 9]
  | 13 => [2, 3, 4, 8, 9, 53]
  | 14 => [2, 3, 4, 8, 9]
  | 15 => [2, 3, 4, 8, 9]
  | 16 => [2, 3, 4, 8, 9, 60]
  | 17 => [2, 3, 4, 8, 9, 10]
  | 18 => [2, 3, 4, 8, 9, 10]
  | 19 => [2, 3, 4, 8, 9]
  | 20 => [4, 5]
  | _ => []
def mu_19 : List Nat := [8]
def in_19 : List Nat := [0, 1]
def nd_19 : Nat → Nat
  | 9 => 10
  | _ => 0
theorem unitedOf_A (a b : Rl) (hA : ShR a) (hB : ShR b) (H : Heap) (K : V → Heap → Prop) (hk : K (relE (united a b).1 (united a b).2) H) : ACalls Tryd.prog 19 [rlV a, rlV b] H K := by
  have q1 := hA.ncols
  have q2 := hA.nrows
  have q3 := hB.ncols
  have q4 := hB.nrows
  by_cases hf : twoFault a b = 0
  · rw [united, if_pos hf] at hk
    by_cases hcl : (a.cols.length : Int) = b.cols.length
    · 
      refine ACalls_of Tryd.func19 rfl in_19 (Nat.le_of_ble_eq_true rfl) ?_
      intro F hF
      simp (dsimp := false) only [go_sem, Nat.reduceAdd, Nat.reduceBEq, Nat.reduceEqDiff, Nat.reduceLT, Nat.reduceLeDiff, Nat.reduceMul, Int.reduceToNat, reduceCtorEq, ↓reduceIte, Tryd.ntmps19, Tryd.results19, ks_19, mu_19, nd_19, ti_ag9, ti_ag29, ti_ag30, ti_ag32, ti_ag55, ti_fl32_0, ti_fl32_1, ti_hb38, ti_hb41, ti_hb42, ti_pl32, ti_sb29, ti_sb30, ti_sl29, ti_sl30, ti_sz32, ti_zr32, itD, itV, rlV, rowD, rlD, hf, hcl, in_19] at hF
      subst hF
      repeat' (first
        | with_reducible refine And.intro ?_ ?_
        | with_reducible intro _
        | with_reducible refine AWp_seq ?_
        | with_reducible refine AWp_block ?_
        | (with_reducible refine hKv _ _ (AWp_nop ?_); clear hKv Kv)
        | (with_reducible refine hKv _ _ ?_; clear hKv Kv; simp (dsimp := false) only [go_sem, Nat.reduceAdd, Nat.reduceBEq, Nat.reduceEqDiff, Nat.reduceLT, Nat.reduceLeDiff, Nat.reduceMul, Int.reduceToNat, reduceCtorEq, ↓reduceIte, Tryd.ntmps19, Tryd.results19, ks_19, mu_19, nd_19, ti_ag9, ti_ag29, ti_ag30, ti_ag32, ti_ag55, ti_fl32_0, ti_fl32_1, ti_hb38, ti_hb41, ti_hb42, ti_pl32, ti_sb29, ti_sb30, ti_sl29, ti_sl30, ti_sz32, ti_zr32, itD, itV, rlV, rowD, rlD, hf, hcl])
        | (with_reducible refine hKA ?_; clear hKA hKB KA KB)
        | (with_reducible refine hKB ?_; clear hKA hKB KA KB)
        | (with_reducible refine AWp_regC mu_19 ks_19 ?_; intro Kv hKv; simp (dsimp := false) only [go_sem, Nat.reduceAdd, Nat.reduceBEq, Nat.reduceEqDiff, Nat.reduceLT, Nat.reduceLeDiff, Nat.reduceMul, Int.reduceToNat, reduceCtorEq, ↓reduceIte, Tryd.ntmps19, Tryd.results19, ks_19, mu_19, nd_19, ti_ag9, ti_ag29, ti_ag30, ti_ag32, ti_ag55, ti_fl32_0, ti_fl32_1, ti_hb38, ti_hb41, ti_hb42, ti_pl32, ti_sb29, ti_sb30, ti_sl29, ti_sl30, ti_sz32, ti_zr32, itD, itV, rlV, rowD, rlD, hf, hcl])
        | (with_reducible refine AWp_draw nd_19 mu_19 ks_19 ti_mixed (by kernel_rfl) ?_; intro Kv hKv; simp (dsimp := false) only [go_sem, Nat.reduceAdd, Nat.reduceBEq, Nat.reduceEqDiff, Nat.reduceLT, Nat.reduceLeDiff, Nat.reduceMul, Int.reduceToNat, reduceCtorEq, ↓reduceIte, Tryd.ntmps19, Tryd.results19, ks_19, mu_19, nd_19, ti_ag9, ti_ag29, ti_ag30, ti_ag32, ti_ag55, ti_fl32_0, ti_fl32_1, ti_hb38, ti_hb41, ti_hb42, ti_pl32, ti_sb29, ti_sb30, ti_sl29, ti_sl30, ti_sz32, ti_zr32, itD, itV, rlV, rowD, rlD, hf, hcl])
        | with_reducible refine AWp_skipN ?_
        | with_reducible refine AWp_exitO (by repeat (first | with_reducible exact Out.hit | with_reducible apply Out.thenA | with_reducible apply Out.out rfl)) ?_
        | (with_reducible refine AWp_retR ?_; simp (dsimp := false) only [go_sem, Nat.reduceAdd, Nat.reduceBEq, Nat.reduceEqDiff, Nat.reduceLT, Nat.reduceLeDiff, Nat.reduceMul, Int.reduceToNat, reduceCtorEq, ↓reduceIte, Tryd.ntmps19, Tryd.results19, ks_19, mu_19, nd_19, ti_ag9, ti_ag29, ti_ag30, ti_ag32, ti_ag55, ti_fl32_0, ti_fl32_1, ti_hb38, ti_hb41, ti_hb42, ti_pl32, ti_sb29, ti_sb30, ti_sl29, ti_sl30, ti_sz32, ti_zr32, itD, itV, rlV, rowD, rlD, hf, hcl])
        | (with_reducible refine AWp_regE mu_19 ks_19 ?_; intro Kv hKv; simp (dsimp := false) only [go_sem, Nat.reduceAdd, Nat.reduceBEq, Nat.reduceEqDiff, Nat.reduceLT, Nat.reduceLeDiff, Nat.reduceMul, Int.reduceToNat, reduceCtorEq, ↓reduceIte, Tryd.ntmps19, Tryd.results19, ks_19, mu_19, nd_19, ti_ag9, ti_ag29, ti_ag30, ti_ag32, ti_ag55, ti_fl32_0, ti_fl32_1, ti_hb38, ti_hb41, ti_hb42, ti_pl32, ti_sb29, ti_sb30, ti_sl29, ti_sl30, ti_sz32, ti_zr32, itD, itV, rlV, rowD, rlD, hf, hcl])
        | (with_reducible refine AWp_drawE nd_19 mu_19 ks_19 ti_mixed (by kernel_rfl) ?_; intro Kv hKv; simp (dsimp := false) only [go_sem, Nat.reduceAdd, Nat.reduceBEq, Nat.reduceEqDiff, Nat.reduceLT, Nat.reduceLeDiff, Nat.reduceMul, Int.reduceToNat, reduceCtorEq, ↓reduceIte, Tryd.ntmps19, Tryd.results19, ks_19, mu_19, nd_19, ti_ag9, ti_ag29, ti_ag30, ti_ag32, ti_ag55, ti_fl32_0, ti_fl32_1, ti_hb38, ti_hb41, ti_hb42, ti_pl32, ti_sb29, ti_sb30, ti_sl29, ti_sl30, ti_sz32, ti_zr32, itD, itV, rlV, rowD, rlD, hf, hcl])
        | (refine AWp_condC rfl ?_; intro KA KB hKA hKB; try simp only [onB_true, onB_false, onB_dec, onB_ndec, onB_not, onB_and, onB_or])
        | (refine AWp_condA rfl ?_ ?_)
        | (refine refTwoFault_A a b hA hB _ _ ?_; try simp (dsimp := false) only [go_sem, Nat.reduceAdd, Nat.reduceBEq, Nat.reduceEqDiff, Nat.reduceLT, Nat.reduceLeDiff, Nat.reduceMul, Int.reduceToNat, reduceCtorEq, ↓reduceIte, Tryd.ntmps19, Tryd.results19, ks_19, mu_19, nd_19, ti_ag9, ti_ag29, ti_ag30, ti_ag32, ti_ag55, ti_fl32_0, ti_fl32_1, ti_hb38, ti_hb41, ti_hb42, ti_pl32, ti_sb29, ti_sb30, ti_sl29, ti_sl30, ti_sz32, ti_zr32, itD, itV, rlV, rowD, rlD, hf, hcl])
        | (refine QCall_of (refTwoFault_A a b hA hB _ _ (Two_intro _ _)) ?_; try simp (dsimp := false) only [go_sem, Nat.reduceAdd, Nat.reduceBEq, Nat.reduceEqDiff, Nat.reduceLT, Nat.reduceLeDiff, Nat.reduceMul, Int.reduceToNat, reduceCtorEq, ↓reduceIte, Tryd.ntmps19, Tryd.results19, ks_19, mu_19, nd_19, ti_ag9, ti_ag29, ti_ag30, ti_ag32, ti_ag55, ti_fl32_0, ti_fl32_1, ti_hb38, ti_hb41, ti_hb42, ti_pl32, ti_sb29, ti_sb30, ti_sl29, ti_sl30, ti_sz32, ti_zr32, itD, itV, rlV, rowD, rlD, hf, hcl])
        | with_reducible refine onB_of ?_ ?_
        | with_reducible rfl
        | omega)
      refine AWp_whileH (fun i : Nat => i ≤ a.cols.length ∧ a.cols.take i = b.cols.take i) (fun i => [(2, .rp (rlD a)), (3, .rp (rlD b)), (4, .pt H.length 0 0 0), (7, .d (.i .i64 i))])
        (fun i => [.row 0 32 2 [[.d (.c (.slice none 0 0)), .d (.c (.slice none 0 0))]]]) (fun i => a.cols.length - i) 0 ⟨Nat.zero_le _, by simp⟩ rfl ?_ ?_ ?_
      · simp (dsimp := false) only [go_sem, Nat.reduceAdd, Nat.reduceBEq, Nat.reduceEqDiff, Nat.reduceLT, Nat.reduceLeDiff, Nat.reduceMul, Int.reduceToNat, reduceCtorEq, ↓reduceIte, Tryd.ntmps19, Tryd.results19, ks_19, mu_19, nd_19, ti_ag9, ti_ag29, ti_ag30, ti_ag32, ti_ag55, ti_fl32_0, ti_fl32_1, ti_hb38, ti_hb41, ti_hb42, ti_pl32, ti_sb29, ti_sb30, ti_sl29, ti_sl30, ti_sz32, ti_zr32, itD, itV, rlV, rowD, rlD, hf, hcl]
        first | done | simp
      · rintro i _ ob hob
        simp only [List.mem_cons, List.not_mem_nil, or_false] at hob
        rcases hob with rfl
        exact bel_nil2 _ _ _
      rintro i ⟨hi, he⟩
      by_cases hiN : i < a.cols.length
      · obtain ⟨u, hu⟩ : ∃ u, a.cols[i]? = some u := ⟨a.cols[i]'(by omega), List.getElem?_eq_getElem (by omega)⟩
        obtain ⟨v, hv⟩ : ∃ v, b.cols[i]? = some v := ⟨b.cols[i]'(by omega), List.getElem?_eq_getElem (by omega)⟩
        
        repeat' (first
          | with_reducible refine And.intro ?_ ?_
          | with_reducible intro _
          | with_reducible refine AWp_seq ?_
          | with_reducible refine AWp_block ?_
          | (with_reducible refine hKv _ _ (AWp_nop ?_); clear hKv Kv)
          | (with_reducible refine hKv _ _ ?_; clear hKv Kv; simp (dsimp := false) only [go_sem, Nat.reduceAdd, Nat.reduceBEq, Nat.reduceEqDiff, Nat.reduceLT, Nat.reduceLeDiff, Nat.reduceMul, Int.reduceToNat, reduceCtorEq, ↓reduceIte, Tryd.ntmps19, Tryd.results19, ks_19, mu_19, nd_19, ti_ag9, ti_ag29, ti_ag30, ti_ag32, ti_ag55, ti_fl32_0, ti_fl32_1, ti_hb38, ti_hb41, ti_hb42, ti_pl32, ti_sb29, ti_sb30, ti_sl29, ti_sl30, ti_sz32, ti_zr32, itD, itV, rlV, rowD, rlD, hu, hv])
          | (with_reducible refine hKA ?_; clear hKA hKB KA KB)
          | (with_reducible refine hKB ?_; clear hKA hKB KA KB)
          | (with_reducible refine AWp_regC mu_19 ks_19 ?_; intro Kv hKv; simp (dsimp := false) only [go_sem, Nat.reduceAdd, Nat.reduceBEq, Nat.reduceEqDiff, Nat.reduceLT, Nat.reduceLeDiff, Nat.reduceMul, Int.reduceToNat, reduceCtorEq, ↓reduceIte, Tryd.ntmps19, Tryd.results19, ks_19, mu_19, nd_19, ti_ag9, ti_ag29, ti_ag30, ti_ag32, ti_ag55, ti_fl32_0, ti_fl32_1, ti_hb38, ti_hb41, ti_hb42, ti_pl32, ti_sb29, ti_sb30, ti_sl29, ti_sl30, ti_sz32, ti_zr32, itD, itV, rlV, rowD, rlD, hu, hv])
          | (with_reducible refine AWp_draw nd_19 mu_19 ks_19 ti_mixed (by kernel_rfl) ?_; intro Kv hKv; simp (dsimp := false) only [go_sem, Nat.reduceAdd, Nat.reduceBEq, Nat.reduceEqDiff, Nat.reduceLT, Nat.reduceLeDiff, Nat.reduceMul, Int.reduceToNat, reduceCtorEq, ↓reduceIte, Tryd.ntmps19, Tryd.results19, ks_19, mu_19, nd_19, ti_ag9, ti_ag29, ti_ag30, ti_ag32, ti_ag55, ti_fl32_0, ti_fl32_1, ti_hb38, ti_hb41, ti_hb42, ti_pl32, ti_sb29, ti_sb30, ti_sl29, ti_sl30, ti_sz32, ti_zr32, itD, itV, rlV, rowD, rlD, hu, hv])
          | with_reducible refine AWp_skipN ?_
          | with_reducible refine AWp_exitO (by repeat (first | with_reducible exact Out.hit | with_reducible apply Out.thenA | with_reducible apply Out.out rfl)) ?_
          | (with_reducible refine AWp_retR ?_; simp (dsimp := false) only [go_sem, Nat.reduceAdd, Nat.reduceBEq, Nat.reduceEqDiff, Nat.reduceLT, Nat.reduceLeDiff, Nat.reduceMul, Int.reduceToNat, reduceCtorEq, ↓reduceIte, Tryd.ntmps19, Tryd.results19, ks_19, mu_19, nd_19, ti_ag9, ti_ag29, ti_ag30, ti_ag32, ti_ag55, ti_fl32_0, ti_fl32_1, ti_hb38, ti_hb41, ti_hb42, ti_pl32, ti_sb29, ti_sb30, ti_sl29, ti_sl30, ti_sz32, ti_zr32, itD, itV, rlV, rowD, rlD, hu, hv])
          | (with_reducible refine AWp_regE mu_19 ks_19 ?_; intro Kv hKv; simp (dsimp := false) only [go_sem, Nat.reduceAdd, Nat.reduceBEq, Nat.reduceEqDiff, Nat.reduceLT, Nat.reduceLeDiff, Nat.reduceMul, Int.reduceToNat, reduceCtorEq, ↓reduceIte, Tryd.ntmps19, Tryd.results19, ks_19, mu_19, nd_19, ti_ag9, ti_ag29, ti_ag30, ti_ag32, ti_ag55, ti_fl32_0, ti_fl32_1, ti_hb38, ti_hb41, ti_hb42, ti_pl32, ti_sb29, ti_sb30, ti_sl29, ti_sl30, ti_sz32, ti_zr32, itD, itV, rlV, rowD, rlD, hu, hv])
          | (with_reducible refine AWp_drawE nd_19 mu_19 ks_19 ti_mixed (by kernel_rfl) ?_; intro Kv hKv; simp (dsimp := false) only [go_sem, Nat.reduceAdd, Nat.reduceBEq, Nat.reduceEqDiff, Nat.reduceLT, Nat.reduceLeDiff, Nat.reduceMul, Int.reduceToNat, reduceCtorEq, ↓reduceIte, Tryd.ntmps19, Tryd.results19, ks_19, mu_19, nd_19, ti_ag9, ti_ag29, ti_ag30, ti_ag32, ti_ag55, ti_fl32_0, ti_fl32_1, ti_hb38, ti_hb41, ti_hb42, ti_pl32, ti_sb29, ti_sb30, ti_sl29, ti_sl30, ti_sz32, ti_zr32, itD, itV, rlV, rowD, rlD, hu, hv])
          | (refine AWp_condC rfl ?_; intro KA KB hKA hKB; try simp only [onB_true, onB_false, onB_dec, onB_ndec, onB_not, onB_and, onB_or])
          | (refine AWp_condA rfl ?_ ?_)
          | with_reducible refine onB_of ?_ ?_
          | with_reducible rfl
          | omega)
        · exact ⟨i + 1, ⟨by omega, cols_eq_take he hu hv (by assumption)⟩, by omega, by omega, by omega⟩
        · rename_i huv
          have hne : a.cols ≠ b.cols := fun e => huv (by rw [e] at hu; rw [hu] at hv; exact Option.some.inj hv)
          rw [if_neg hne] at hk
          exact dropF hk (fz_rl0 _ _ _) (bel_relE _ _ _)
      · have e : i = a.cols.length := by omega
        subst e
        rw [List.take_length, List.take_of_length_le (by omega)] at he
        rw [if_pos he] at hk
        generalize hR : a.rows ++ b.rows = R at hk
        have hRl : R.length = a.rows.length + b.rows.length := by rw [← hR, List.length_append]
        have hRr : ∀ row, row ∈ R → row.length ≤ 1048576 := fun row h => by
          rw [← hR] at h
          rcases List.mem_append.1 h with h | h
          · exact hA.row row h
          · exact hB.row row h
        
        repeat' (first
          | with_reducible refine And.intro ?_ ?_
          | with_reducible intro _
          | with_reducible refine AWp_seq ?_
          | with_reducible refine AWp_block ?_
          | (with_reducible refine hKv _ _ (AWp_nop ?_); clear hKv Kv)
          | (with_reducible refine hKv _ _ ?_; clear hKv Kv; simp (dsimp := false) only [go_sem, Nat.reduceAdd, Nat.reduceBEq, Nat.reduceEqDiff, Nat.reduceLT, Nat.reduceLeDiff, Nat.reduceMul, Int.reduceToNat, reduceCtorEq, ↓reduceIte, Tryd.ntmps19, Tryd.results19, ks_19, mu_19, nd_19, ti_ag9, ti_ag29, ti_ag30, ti_ag32, ti_ag55, ti_fl32_0, ti_fl32_1, ti_hb38, ti_hb41, ti_hb42, ti_pl32, ti_sb29, ti_sb30, ti_sl29, ti_sl30, ti_sz32, ti_zr32, itD, itV, rlV, rowD, rlD])
          | (with_reducible refine hKA ?_; clear hKA hKB KA KB)
          | (with_reducible refine hKB ?_; clear hKA hKB KA KB)
          | (with_reducible refine AWp_regC mu_19 ks_19 ?_; intro Kv hKv; simp (dsimp := false) only [go_sem, Nat.reduceAdd, Nat.reduceBEq, Nat.reduceEqDiff, Nat.reduceLT, Nat.reduceLeDiff, Nat.reduceMul, Int.reduceToNat, reduceCtorEq, ↓reduceIte, Tryd.ntmps19, Tryd.results19, ks_19, mu_19, nd_19, ti_ag9, ti_ag29, ti_ag30, ti_ag32, ti_ag55, ti_fl32_0, ti_fl32_1, ti_hb38, ti_hb41, ti_hb42, ti_pl32, ti_sb29, ti_sb30, ti_sl29, ti_sl30, ti_sz32, ti_zr32, itD, itV, rlV, rowD, rlD])
          | (with_reducible refine AWp_draw nd_19 mu_19 ks_19 ti_mixed (by kernel_rfl) ?_; intro Kv hKv; simp (dsimp := false) only [go_sem, Nat.reduceAdd, Nat.reduceBEq, Nat.reduceEqDiff, Nat.reduceLT, Nat.reduceLeDiff, Nat.reduceMul, Int.reduceToNat, reduceCtorEq, ↓reduceIte, Tryd.ntmps19, Tryd.results19, ks_19, mu_19, nd_19, ti_ag9, ti_ag29, ti_ag30, ti_ag32, ti_ag55, ti_fl32_0, ti_fl32_1, ti_hb38, ti_hb41, ti_hb42, ti_pl32, ti_sb29, ti_sb30, ti_sl29, ti_sl30, ti_sz32, ti_zr32, itD, itV, rlV, rowD, rlD])
          | with_reducible refine AWp_skipN ?_
          | with_reducible refine AWp_exitO (by repeat (first | with_reducible exact Out.hit | with_reducible apply Out.thenA | with_reducible apply Out.out rfl)) ?_
          | (with_reducible refine AWp_retR ?_; simp (dsimp := false) only [go_sem, Nat.reduceAdd, Nat.reduceBEq, Nat.reduceEqDiff, Nat.reduceLT, Nat.reduceLeDiff, Nat.reduceMul, Int.reduceToNat, reduceCtorEq, ↓reduceIte, Tryd.ntmps19, Tryd.results19, ks_19, mu_19, nd_19, ti_ag9, ti_ag29, ti_ag30, ti_ag32, ti_ag55, ti_fl32_0, ti_fl32_1, ti_hb38, ti_hb41, ti_hb42, ti_pl32, ti_sb29, ti_sb30, ti_sl29, ti_sl30, ti_sz32, ti_zr32, itD, itV, rlV, rowD, rlD])
          | (with_reducible refine AWp_regE mu_19 ks_19 ?_; intro Kv hKv; simp (dsimp := false) only [go_sem, Nat.reduceAdd, Nat.reduceBEq, Nat.reduceEqDiff, Nat.reduceLT, Nat.reduceLeDiff, Nat.reduceMul, Int.reduceToNat, reduceCtorEq, ↓reduceIte, Tryd.ntmps19, Tryd.results19, ks_19, mu_19, nd_19, ti_ag9, ti_ag29, ti_ag30, ti_ag32, ti_ag55, ti_fl32_0, ti_fl32_1, ti_hb38, ti_hb41, ti_hb42, ti_pl32, ti_sb29, ti_sb30, ti_sl29, ti_sl30, ti_sz32, ti_zr32, itD, itV, rlV, rowD, rlD])
          | (with_reducible refine AWp_drawE nd_19 mu_19 ks_19 ti_mixed (by kernel_rfl) ?_; intro Kv hKv; simp (dsimp := false) only [go_sem, Nat.reduceAdd, Nat.reduceBEq, Nat.reduceEqDiff, Nat.reduceLT, Nat.reduceLeDiff, Nat.reduceMul, Int.reduceToNat, reduceCtorEq, ↓reduceIte, Tryd.ntmps19, Tryd.results19, ks_19, mu_19, nd_19, ti_ag9, ti_ag29, ti_ag30, ti_ag32, ti_ag55, ti_fl32_0, ti_fl32_1, ti_hb38, ti_hb41, ti_hb42, ti_pl32, ti_sb29, ti_sb30, ti_sl29, ti_sl30, ti_sz32, ti_zr32, itD, itV, rlV, rowD, rlD])
          | (refine AWp_condC rfl ?_; intro KA KB hKA hKB; try simp only [onB_true, onB_false, onB_dec, onB_ndec, onB_not, onB_and, onB_or])
          | (refine AWp_condA rfl ?_ ?_)
          | with_reducible refine onB_of ?_ ?_
          | with_reducible rfl
          | omega)
        refine AWp_whileH (fun i : Nat => i ≤ R.length)
          (fun i => [(2, .rp (rlD a)), (3, .rp (rlD b)), (4, .pt H.length 0 0 0), (8, .os (H.length + 1) i), (9, .d (.i .i64 i))])
          (fun i => [.row 0 32 2 [[.d (.c (.slice none 0 0)), .d (.c (.slice none 0 0))]], .row i 55 1 ((R.take i).map rowC)]) (fun i => R.length - i) 0 (Nat.zero_le _) rfl ?_ ?_ ?_
        · simp (dsimp := false) only [go_sem, Nat.reduceAdd, Nat.reduceBEq, Nat.reduceEqDiff, Nat.reduceLT, Nat.reduceLeDiff, Nat.reduceMul, Int.reduceToNat, reduceCtorEq, ↓reduceIte, Tryd.ntmps19, Tryd.results19, ks_19, mu_19, nd_19, ti_ag9, ti_ag29, ti_ag30, ti_ag32, ti_ag55, ti_fl32_0, ti_fl32_1, ti_hb38, ti_hb41, ti_hb42, ti_pl32, ti_sb29, ti_sb30, ti_sl29, ti_sl30, ti_sz32, ti_zr32, itD, itV, rlV, rowD, rlD]
          first | done | simp
        · rintro i _ ob hob
          simp only [List.mem_cons, List.not_mem_nil, or_false] at hob
          rcases hob with rfl | rfl
          · exact bel_nil2 _ _ _
          · exact obBel_rows _ _ _ _ _
        rintro i hi
        have hli : (R.take i).length = i := by simp; omega
        by_cases hiN : i < R.length
        · obtain ⟨row, hrow⟩ : ∃ row, R[i]? = some row := ⟨R[i], List.getElem?_eq_getElem hiN⟩
          have hrl := hRr row (List.mem_of_getElem? hrow)
          by_cases hia : i < a.rows.length
          · have hrow' : a.rows[i]? = some row := by rw [← hrow, ← hR, List.getElem?_append_left hia]
            
            repeat' (first
              | with_reducible refine And.intro ?_ ?_
              | with_reducible intro _
              | with_reducible refine AWp_seq ?_
              | with_reducible refine AWp_block ?_
              | (with_reducible refine hKv _ _ (AWp_nop ?_); clear hKv Kv)
              | (with_reducible refine hKv _ _ ?_; clear hKv Kv; simp (dsimp := false) only [go_sem, Nat.reduceAdd, Nat.reduceBEq, Nat.reduceEqDiff, Nat.reduceLT, Nat.reduceLeDiff, Nat.reduceMul, Int.reduceToNat, reduceCtorEq, ↓reduceIte, Tryd.ntmps19, Tryd.results19, ks_19, mu_19, nd_19, ti_ag9, ti_ag29, ti_ag30, ti_ag32, ti_ag55, ti_fl32_0, ti_fl32_1, ti_hb38, ti_hb41, ti_hb42, ti_pl32, ti_sb29, ti_sb30, ti_sl29, ti_sl30, ti_sz32, ti_zr32, itD, itV, rlV, rowD, rlD, hrow'])
              | (with_reducible refine hKA ?_; clear hKA hKB KA KB)
              | (with_reducible refine hKB ?_; clear hKA hKB KA KB)
              | (with_reducible refine AWp_regC mu_19 ks_19 ?_; intro Kv hKv; simp (dsimp := false) only [go_sem, Nat.reduceAdd, Nat.reduceBEq, Nat.reduceEqDiff, Nat.reduceLT, Nat.reduceLeDiff, Nat.reduceMul, Int.reduceToNat, reduceCtorEq, ↓reduceIte, Tryd.ntmps19, Tryd.results19, ks_19, mu_19, nd_19, ti_ag9, ti_ag29, ti_ag30, ti_ag32, ti_ag55, ti_fl32_0, ti_fl32_1, ti_hb38, ti_hb41, ti_hb42, ti_pl32, ti_sb29, ti_sb30, ti_sl29, ti_sl30, ti_sz32, ti_zr32, itD, itV, rlV, rowD, rlD, hrow'])
              | (with_reducible refine AWp_draw nd_19 mu_19 ks_19 ti_mixed (by kernel_rfl) ?_; intro Kv hKv; simp (dsimp := false) only [go_sem, Nat.reduceAdd, Nat.reduceBEq, Nat.reduceEqDiff, Nat.reduceLT, Nat.reduceLeDiff, Nat.reduceMul, Int.reduceToNat, reduceCtorEq, ↓reduceIte, Tryd.ntmps19, Tryd.results19, ks_19, mu_19, nd_19, ti_ag9, ti_ag29, ti_ag30, ti_ag32, ti_ag55, ti_fl32_0, ti_fl32_1, ti_hb38, ti_hb41, ti_hb42, ti_pl32, ti_sb29, ti_sb30, ti_sl29, ti_sl30, ti_sz32, ti_zr32, itD, itV, rlV, rowD, rlD, hrow'])
              | with_reducible refine AWp_skipN ?_
              | with_reducible refine AWp_exitO (by repeat (first | with_reducible exact Out.hit | with_reducible apply Out.thenA | with_reducible apply Out.out rfl)) ?_
              | (with_reducible refine AWp_retR ?_; simp (dsimp := false) only [go_sem, Nat.reduceAdd, Nat.reduceBEq, Nat.reduceEqDiff, Nat.reduceLT, Nat.reduceLeDiff, Nat.reduceMul, Int.reduceToNat, reduceCtorEq, ↓reduceIte, Tryd.ntmps19, Tryd.results19, ks_19, mu_19, nd_19, ti_ag9, ti_ag29, ti_ag30, ti_ag32, ti_ag55, ti_fl32_0, ti_fl32_1, ti_hb38, ti_hb41, ti_hb42, ti_pl32, ti_sb29, ti_sb30, ti_sl29, ti_sl30, ti_sz32, ti_zr32, itD, itV, rlV, rowD, rlD, hrow'])
              | (with_reducible refine AWp_regE mu_19 ks_19 ?_; intro Kv hKv; simp (dsimp := false) only [go_sem, Nat.reduceAdd, Nat.reduceBEq, Nat.reduceEqDiff, Nat.reduceLT, Nat.reduceLeDiff, Nat.reduceMul, Int.reduceToNat, reduceCtorEq, ↓reduceIte, Tryd.ntmps19, Tryd.results19, ks_19, mu_19, nd_19, ti_ag9, ti_ag29, ti_ag30, ti_ag32, ti_ag55, ti_fl32_0, ti_fl32_1, ti_hb38, ti_hb41, ti_hb42, ti_pl32, ti_sb29, ti_sb30, ti_sl29, ti_sl30, ti_sz32, ti_zr32, itD, itV, rlV, rowD, rlD, hrow'])
              | (with_reducible refine AWp_drawE nd_19 mu_19 ks_19 ti_mixed (by kernel_rfl) ?_; intro Kv hKv; simp (dsimp := false) only [go_sem, Nat.reduceAdd, Nat.reduceBEq, Nat.reduceEqDiff, Nat.reduceLT, Nat.reduceLeDiff, Nat.reduceMul, Int.reduceToNat, reduceCtorEq, ↓reduceIte, Tryd.ntmps19, Tryd.results19, ks_19, mu_19, nd_19, ti_ag9, ti_ag29, ti_ag30, ti_ag32, ti_ag55, ti_fl32_0, ti_fl32_1, ti_hb38, ti_hb41, ti_hb42, ti_pl32, ti_sb29, ti_sb30, ti_sl29, ti_sl30, ti_sz32, ti_zr32, itD, itV, rlV, rowD, rlD, hrow'])
              | (refine AWp_condC rfl ?_; intro KA KB hKA hKB; try simp only [onB_true, onB_false, onB_dec, onB_ndec, onB_not, onB_and, onB_or])
              | (refine AWp_condA rfl ?_ ?_)
              | (refine ref1Its row (by omega) _ _ ?_; try simp (dsimp := false) only [go_sem, Nat.reduceAdd, Nat.reduceBEq, Nat.reduceEqDiff, Nat.reduceLT, Nat.reduceLeDiff, Nat.reduceMul, Int.reduceToNat, reduceCtorEq, ↓reduceIte, Tryd.ntmps19, Tryd.results19, ks_19, mu_19, nd_19, ti_ag9, ti_ag29, ti_ag30, ti_ag32, ti_ag55, ti_fl32_0, ti_fl32_1, ti_hb38, ti_hb41, ti_hb42, ti_pl32, ti_sb29, ti_sb30, ti_sl29, ti_sl30, ti_sz32, ti_zr32, itD, itV, rlV, rowD, rlD, hrow'])
              | (refine QCall_of (ref1Its row (by omega) _ _ (Two_intro _ _)) ?_; try simp (dsimp := false) only [go_sem, Nat.reduceAdd, Nat.reduceBEq, Nat.reduceEqDiff, Nat.reduceLT, Nat.reduceLeDiff, Nat.reduceMul, Int.reduceToNat, reduceCtorEq, ↓reduceIte, Tryd.ntmps19, Tryd.results19, ks_19, mu_19, nd_19, ti_ag9, ti_ag29, ti_ag30, ti_ag32, ti_ag55, ti_fl32_0, ti_fl32_1, ti_hb38, ti_hb41, ti_hb42, ti_pl32, ti_sb29, ti_sb30, ti_sl29, ti_sl30, ti_sz32, ti_zr32, itD, itV, rlV, rowD, rlD, hrow'])
              | with_reducible refine onB_of ?_ ?_
              | with_reducible rfl
              | omega)
            · exact ⟨i + 1, by omega, by omega, by rw [take_of_get hrow]; simp [rowC], by omega, rfl, by omega, by omega⟩
          · have hrow' : b.rows[((i : Int) - (a.rows.length : Int)).toNat]? = some row := by
              rw [show ((i : Int) - (a.rows.length : Int)).toNat = i - a.rows.length by omega, ← hrow, ← hR, List.getElem?_append_right (by omega)]
            
            repeat' (first
              | with_reducible refine And.intro ?_ ?_
              | with_reducible intro _
              | with_reducible refine AWp_seq ?_
              | with_reducible refine AWp_block ?_
              | (with_reducible refine hKv _ _ (AWp_nop ?_); clear hKv Kv)
              | (with_reducible refine hKv _ _ ?_; clear hKv Kv; simp (dsimp := false) only [go_sem, Nat.reduceAdd, Nat.reduceBEq, Nat.reduceEqDiff, Nat.reduceLT, Nat.reduceLeDiff, Nat.reduceMul, Int.reduceToNat, reduceCtorEq, ↓reduceIte, Tryd.ntmps19, Tryd.results19, ks_19, mu_19, nd_19, ti_ag9, ti_ag29, ti_ag30, ti_ag32, ti_ag55, ti_fl32_0, ti_fl32_1, ti_hb38, ti_hb41, ti_hb42, ti_pl32, ti_sb29, ti_sb30, ti_sl29, ti_sl30, ti_sz32, ti_zr32, itD, itV, rlV, rowD, rlD, hrow'])
              | (with_reducible refine hKA ?_; clear hKA hKB KA KB)
              | (with_reducible refine hKB ?_; clear hKA hKB KA KB)
              | (with_reducible refine AWp_regC mu_19 ks_19 ?_; intro Kv hKv; simp (dsimp := false) only [go_sem, Nat.reduceAdd, Nat.reduceBEq, Nat.reduceEqDiff, Nat.reduceLT, Nat.reduceLeDiff, Nat.reduceMul, Int.reduceToNat, reduceCtorEq, ↓reduceIte, Tryd.ntmps19, Tryd.results19, ks_19, mu_19, nd_19, ti_ag9, ti_ag29, ti_ag30, ti_ag32, ti_ag55, ti_fl32_0, ti_fl32_1, ti_hb38, ti_hb41, ti_hb42, ti_pl32, ti_sb29, ti_sb30, ti_sl29, ti_sl30, ti_sz32, ti_zr32, itD, itV, rlV, rowD, rlD, hrow'])
              | (with_reducible refine AWp_draw nd_19 mu_19 ks_19 ti_mixed (by kernel_rfl) ?_; intro Kv hKv; simp (dsimp := false) only [go_sem, Nat.reduceAdd, Nat.reduceBEq, Nat.reduceEqDiff, Nat.reduceLT, Nat.reduceLeDiff, Nat.reduceMul, Int.reduceToNat, reduceCtorEq, ↓reduceIte, Tryd.ntmps19, Tryd.results19, ks_19, mu_19, nd_19, ti_ag9, ti_ag29, ti_ag30, ti_ag32, ti_ag55, ti_fl32_0, ti_fl32_1, ti_hb38, ti_hb41, ti_hb42, ti_pl32, ti_sb29, ti_sb30, ti_sl29, ti_sl30, ti_sz32, ti_zr32, itD, itV, rlV, rowD, rlD, hrow'])
              | with_reducible refine AWp_skipN ?_
              | with_reducible refine AWp_exitO (by repeat (first | with_reducible exact Out.hit | with_reducible apply Out.thenA | with_reducible apply Out.out rfl)) ?_
              | (with_reducible refine AWp_retR ?_; simp (dsimp := false) only [go_sem, Nat.reduceAdd, Nat.reduceBEq, Nat.reduceEqDiff, Nat.reduceLT, Nat.reduceLeDiff, Nat.reduceMul, Int.reduceToNat, reduceCtorEq, ↓reduceIte, Tryd.ntmps19, Tryd.results19, ks_19, mu_19, nd_19, ti_ag9, ti_ag29, ti_ag30, ti_ag32, ti_ag55, ti_fl32_0, ti_fl32_1, ti_hb38, ti_hb41, ti_hb42, ti_pl32, ti_sb29, ti_sb30, ti_sl29, ti_sl30, ti_sz32, ti_zr32, itD, itV, rlV, rowD, rlD, hrow'])
              | (with_reducible refine AWp_regE mu_19 ks_19 ?_; intro Kv hKv; simp (dsimp := false) only [go_sem, Nat.reduceAdd, Nat.reduceBEq, Nat.reduceEqDiff, Nat.reduceLT, Nat.reduceLeDiff, Nat.reduceMul, Int.reduceToNat, reduceCtorEq, ↓reduceIte, Tryd.ntmps19, Tryd.results19, ks_19, mu_19, nd_19, ti_ag9, ti_ag29, ti_ag30, ti_ag32, ti_ag55, ti_fl32_0, ti_fl32_1, ti_hb38, ti_hb41, ti_hb42, ti_pl32, ti_sb29, ti_sb30, ti_sl29, ti_sl30, ti_sz32, ti_zr32, itD, itV, rlV, rowD, rlD, hrow'])
              | (with_reducible refine AWp_drawE nd_19 mu_19 ks_19 ti_mixed (by kernel_rfl) ?_; intro Kv hKv; simp (dsimp := false) only [go_sem, Nat.reduceAdd, Nat.reduceBEq, Nat.reduceEqDiff, Nat.reduceLT, Nat.reduceLeDiff, Nat.reduceMul, Int.reduceToNat, reduceCtorEq, ↓reduceIte, Tryd.ntmps19, Tryd.results19, ks_19, mu_19, nd_19, ti_ag9, ti_ag29, ti_ag30, ti_ag32, ti_ag55, ti_fl32_0, ti_fl32_1, ti_hb38, ti_hb41, ti_hb42, ti_pl32, ti_sb29, ti_sb30, ti_sl29, ti_sl30, ti_sz32, ti_zr32, itD, itV, rlV, rowD, rlD, hrow'])
              | (refine AWp_condC rfl ?_; intro KA KB hKA hKB; try simp only [onB_true, onB_false, onB_dec, onB_ndec, onB_not, onB_and, onB_or])
              | (refine AWp_condA rfl ?_ ?_)
              | (refine ref1Its row (by omega) _ _ ?_; try simp (dsimp := false) only [go_sem, Nat.reduceAdd, Nat.reduceBEq, Nat.reduceEqDiff, Nat.reduceLT, Nat.reduceLeDiff, Nat.reduceMul, Int.reduceToNat, reduceCtorEq, ↓reduceIte, Tryd.ntmps19, Tryd.results19, ks_19, mu_19, nd_19, ti_ag9, ti_ag29, ti_ag30, ti_ag32, ti_ag55, ti_fl32_0, ti_fl32_1, ti_hb38, ti_hb41, ti_hb42, ti_pl32, ti_sb29, ti_sb30, ti_sl29, ti_sl30, ti_sz32, ti_zr32, itD, itV, rlV, rowD, rlD, hrow'])
              | (refine QCall_of (ref1Its row (by omega) _ _ (Two_intro _ _)) ?_; try simp (dsimp := false) only [go_sem, Nat.reduceAdd, Nat.reduceBEq, Nat.reduceEqDiff, Nat.reduceLT, Nat.reduceLeDiff, Nat.reduceMul, Int.reduceToNat, reduceCtorEq, ↓reduceIte, Tryd.ntmps19, Tryd.results19, ks_19, mu_19, nd_19, ti_ag9, ti_ag29, ti_ag30, ti_ag32, ti_ag55, ti_fl32_0, ti_fl32_1, ti_hb38, ti_hb41, ti_hb42, ti_pl32, ti_sb29, ti_sb30, ti_sl29, ti_sl30, ti_sz32, ti_zr32, itD, itV, rlV, rowD, rlD, hrow'])
              | with_reducible refine onB_of ?_ ?_
              | with_reducible rfl
              | omega)
            · exact ⟨i + 1, by omega, by omega, by rw [take_of_get hrow]; simp [rowC], by omega, rfl, by omega, by omega⟩
        · have e : i = R.length := by omega
          subst e
          rw [List.take_length]
          
          repeat' (first
            | with_reducible refine And.intro ?_ ?_
            | with_reducible intro _
            | with_reducible refine AWp_seq ?_
            | with_reducible refine AWp_block ?_
            | (with_reducible refine hKv _ _ (AWp_nop ?_); clear hKv Kv)
            | (with_reducible refine hKv _ _ ?_; clear hKv Kv; simp (dsimp := false) only [go_sem, Nat.reduceAdd, Nat.reduceBEq, Nat.reduceEqDiff, Nat.reduceLT, Nat.reduceLeDiff, Nat.reduceMul, Int.reduceToNat, reduceCtorEq, ↓reduceIte, Tryd.ntmps19, Tryd.results19, ks_19, mu_19, nd_19, ti_ag9, ti_ag29, ti_ag30, ti_ag32, ti_ag55, ti_fl32_0, ti_fl32_1, ti_hb38, ti_hb41, ti_hb42, ti_pl32, ti_sb29, ti_sb30, ti_sl29, ti_sl30, ti_sz32, ti_zr32, itD, itV, rlV, rowD, rlD, finQ])
            | (with_reducible refine hKA ?_; clear hKA hKB KA KB)
            | (with_reducible refine hKB ?_; clear hKA hKB KA KB)
            | (with_reducible refine AWp_regC mu_19 ks_19 ?_; intro Kv hKv; simp (dsimp := false) only [go_sem, Nat.reduceAdd, Nat.reduceBEq, Nat.reduceEqDiff, Nat.reduceLT, Nat.reduceLeDiff, Nat.reduceMul, Int.reduceToNat, reduceCtorEq, ↓reduceIte, Tryd.ntmps19, Tryd.results19, ks_19, mu_19, nd_19, ti_ag9, ti_ag29, ti_ag30, ti_ag32, ti_ag55, ti_fl32_0, ti_fl32_1, ti_hb38, ti_hb41, ti_hb42, ti_pl32, ti_sb29, ti_sb30, ti_sl29, ti_sl30, ti_sz32, ti_zr32, itD, itV, rlV, rowD, rlD, finQ])
            | (with_reducible refine AWp_draw nd_19 mu_19 ks_19 ti_mixed (by kernel_rfl) ?_; intro Kv hKv; simp (dsimp := false) only [go_sem, Nat.reduceAdd, Nat.reduceBEq, Nat.reduceEqDiff, Nat.reduceLT, Nat.reduceLeDiff, Nat.reduceMul, Int.reduceToNat, reduceCtorEq, ↓reduceIte, Tryd.ntmps19, Tryd.results19, ks_19, mu_19, nd_19, ti_ag9, ti_ag29, ti_ag30, ti_ag32, ti_ag55, ti_fl32_0, ti_fl32_1, ti_hb38, ti_hb41, ti_hb42, ti_pl32, ti_sb29, ti_sb30, ti_sl29, ti_sl30, ti_sz32, ti_zr32, itD, itV, rlV, rowD, rlD, finQ])
            | with_reducible refine AWp_skipN ?_
            | with_reducible refine AWp_exitO (by repeat (first | with_reducible exact Out.hit | with_reducible apply Out.thenA | with_reducible apply Out.out rfl)) ?_
            | (with_reducible refine AWp_retR ?_; simp (dsimp := false) only [go_sem, Nat.reduceAdd, Nat.reduceBEq, Nat.reduceEqDiff, Nat.reduceLT, Nat.reduceLeDiff, Nat.reduceMul, Int.reduceToNat, reduceCtorEq, ↓reduceIte, Tryd.ntmps19, Tryd.results19, ks_19, mu_19, nd_19, ti_ag9, ti_ag29, ti_ag30, ti_ag32, ti_ag55, ti_fl32_0, ti_fl32_1, ti_hb38, ti_hb41, ti_hb42, ti_pl32, ti_sb29, ti_sb30, ti_sl29, ti_sl30, ti_sz32, ti_zr32, itD, itV, rlV, rowD, rlD, finQ])
            | (with_reducible refine AWp_regE mu_19 ks_19 ?_; intro Kv hKv; simp (dsimp := false) only [go_sem, Nat.reduceAdd, Nat.reduceBEq, Nat.reduceEqDiff, Nat.reduceLT, Nat.reduceLeDiff, Nat.reduceMul, Int.reduceToNat, reduceCtorEq, ↓reduceIte, Tryd.ntmps19, Tryd.results19, ks_19, mu_19, nd_19, ti_ag9, ti_ag29, ti_ag30, ti_ag32, ti_ag55, ti_fl32_0, ti_fl32_1, ti_hb38, ti_hb41, ti_hb42, ti_pl32, ti_sb29, ti_sb30, ti_sl29, ti_sl30, ti_sz32, ti_zr32, itD, itV, rlV, rowD, rlD, finQ])
            | (with_reducible refine AWp_drawE nd_19 mu_19 ks_19 ti_mixed (by kernel_rfl) ?_; intro Kv hKv; simp (dsimp := false) only [go_sem, Nat.reduceAdd, Nat.reduceBEq, Nat.reduceEqDiff, Nat.reduceLT, Nat.reduceLeDiff, Nat.reduceMul, Int.reduceToNat, reduceCtorEq, ↓reduceIte, Tryd.ntmps19, Tryd.results19, ks_19, mu_19, nd_19, ti_ag9, ti_ag29, ti_ag30, ti_ag32, ti_ag55, ti_fl32_0, ti_fl32_1, ti_hb38, ti_hb41, ti_hb42, ti_pl32, ti_sb29, ti_sb30, ti_sl29, ti_sl30, ti_sz32, ti_zr32, itD, itV, rlV, rowD, rlD, finQ])
            | (refine AWp_condC rfl ?_; intro KA KB hKA hKB; try simp only [onB_true, onB_false, onB_dec, onB_ndec, onB_not, onB_and, onB_or])
            | (refine AWp_condA rfl ?_ ?_)
            | (refine relOfO_A a.cols _ _ _ _ q1 hA.col (by rw [List.length_map]; omega) _ _ ((get_appk _ _ 1).trans rfl) ?_; try simp (dsimp := false) only [go_sem, Nat.reduceAdd, Nat.reduceBEq, Nat.reduceEqDiff, Nat.reduceLT, Nat.reduceLeDiff, Nat.reduceMul, Int.reduceToNat, reduceCtorEq, ↓reduceIte, Tryd.ntmps19, Tryd.results19, ks_19, mu_19, nd_19, ti_ag9, ti_ag29, ti_ag30, ti_ag32, ti_ag55, ti_fl32_0, ti_fl32_1, ti_hb38, ti_hb41, ti_hb42, ti_pl32, ti_sb29, ti_sb30, ti_sl29, ti_sl30, ti_sz32, ti_zr32, itD, itV, rlV, rowD, rlD, finQ])
            | (refine QCall_of (relOfO_A a.cols _ _ _ _ q1 hA.col (by rw [List.length_map]; omega) _ _ ((get_appk _ _ 1).trans rfl) (Two_intro _ _)) ?_; try simp (dsimp := false) only [go_sem, Nat.reduceAdd, Nat.reduceBEq, Nat.reduceEqDiff, Nat.reduceLT, Nat.reduceLeDiff, Nat.reduceMul, Int.reduceToNat, reduceCtorEq, ↓reduceIte, Tryd.ntmps19, Tryd.results19, ks_19, mu_19, nd_19, ti_ag9, ti_ag29, ti_ag30, ti_ag32, ti_ag55, ti_fl32_0, ti_fl32_1, ti_hb38, ti_hb41, ti_hb42, ti_pl32, ti_sb29, ti_sb30, ti_sl29, ti_sl30, ti_sz32, ti_zr32, itD, itV, rlV, rowD, rlD, finQ])
            | with_reducible refine onB_of ?_ ?_
            | with_reducible rfl
            | omega)
          · exact fin_ret (acc := R) hk (by assumption) (by omega) (get_appk _ _ 1)
          · exact fin_bad (acc := R) hk rfl (by assumption)
    · have hne : a.cols ≠ b.cols := fun e => hcl (by rw [e])
      rw [if_neg hne] at hk
      
      refine ACalls_of Tryd.func19 rfl in_19 (Nat.le_of_ble_eq_true rfl) ?_
      intro F hF
      simp (dsimp := false) only [go_sem, Nat.reduceAdd, Nat.reduceBEq, Nat.reduceEqDiff, Nat.reduceLT, Nat.reduceLeDiff, Nat.reduceMul, Int.reduceToNat, reduceCtorEq, ↓reduceIte, Tryd.ntmps19, Tryd.results19, ks_19, mu_19, nd_19, ti_ag9, ti_ag29, ti_ag30, ti_ag32, ti_ag55, ti_fl32_0, ti_fl32_1, ti_hb38, ti_hb41, ti_hb42, ti_pl32, ti_sb29, ti_sb30, ti_sl29, ti_sl30, ti_sz32, ti_zr32, itD, itV, rlV, rowD, rlD, hf, hcl, in_19] at hF
      subst hF
      repeat' (first
        | with_reducible refine And.intro ?_ ?_
        | with_reducible intro _
        | with_reducible refine AWp_seq ?_
        | with_reducible refine AWp_block ?_
        | (with_reducible refine hKv _ _ (AWp_nop ?_); clear hKv Kv)
        | (with_reducible refine hKv _ _ ?_; clear hKv Kv; simp (dsimp := false) only [go_sem, Nat.reduceAdd, Nat.reduceBEq, Nat.reduceEqDiff, Nat.reduceLT, Nat.reduceLeDiff, Nat.reduceMul, Int.reduceToNat, reduceCtorEq, ↓reduceIte, Tryd.ntmps19, Tryd.results19, ks_19, mu_19, nd_19, ti_ag9, ti_ag29, ti_ag30, ti_ag32, ti_ag55, ti_fl32_0, ti_fl32_1, ti_hb38, ti_hb41, ti_hb42, ti_pl32, ti_sb29, ti_sb30, ti_sl29, ti_sl30, ti_sz32, ti_zr32, itD, itV, rlV, rowD, rlD, hf, hcl])
        | (with_reducible refine hKA ?_; clear hKA hKB KA KB)
        | (with_reducible refine hKB ?_; clear hKA hKB KA KB)
        | (with_reducible refine AWp_regC mu_19 ks_19 ?_; intro Kv hKv; simp (dsimp := false) only [go_sem, Nat.reduceAdd, Nat.reduceBEq, Nat.reduceEqDiff, Nat.reduceLT, Nat.reduceLeDiff, Nat.reduceMul, Int.reduceToNat, reduceCtorEq, ↓reduceIte, Tryd.ntmps19, Tryd.results19, ks_19, mu_19, nd_19, ti_ag9, ti_ag29, ti_ag30, ti_ag32, ti_ag55, ti_fl32_0, ti_fl32_1, ti_hb38, ti_hb41, ti_hb42, ti_pl32, ti_sb29, ti_sb30, ti_sl29, ti_sl30, ti_sz32, ti_zr32, itD, itV, rlV, rowD, rlD, hf, hcl])
        | (with_reducible refine AWp_draw nd_19 mu_19 ks_19 ti_mixed (by kernel_rfl) ?_; intro Kv hKv; simp (dsimp := false) only [go_sem, Nat.reduceAdd, Nat.reduceBEq, Nat.reduceEqDiff, Nat.reduceLT, Nat.reduceLeDiff, Nat.reduceMul, Int.reduceToNat, reduceCtorEq, ↓reduceIte, Tryd.ntmps19, Tryd.results19, ks_19, mu_19, nd_19, ti_ag9, ti_ag29, ti_ag30, ti_ag32, ti_ag55, ti_fl32_0, ti_fl32_1, ti_hb38, ti_hb41, ti_hb42, ti_pl32, ti_sb29, ti_sb30, ti_sl29, ti_sl30, ti_sz32, ti_zr32, itD, itV, rlV, rowD, rlD, hf, hcl])
        | with_reducible refine AWp_skipN ?_
        | with_reducible refine AWp_exitO (by repeat (first | with_reducible exact Out.hit | with_reducible apply Out.thenA | with_reducible apply Out.out rfl)) ?_
        | (with_reducible refine AWp_retR ?_; simp (dsimp := false) only [go_sem, Nat.reduceAdd, Nat.reduceBEq, Nat.reduceEqDiff, Nat.reduceLT, Nat.reduceLeDiff, Nat.reduceMul, Int.reduceToNat, reduceCtorEq, ↓reduceIte, Tryd.ntmps19, Tryd.results19, ks_19, mu_19, nd_19, ti_ag9, ti_ag29, ti_ag30, ti_ag32, ti_ag55, ti_fl32_0, ti_fl32_1, ti_hb38, ti_hb41, ti_hb42, ti_pl32, ti_sb29, ti_sb30, ti_sl29, ti_sl30, ti_sz32, ti_zr32, itD, itV, rlV, rowD, rlD, hf, hcl])
        | (with_reducible refine AWp_regE mu_19 ks_19 ?_; intro Kv hKv; simp (dsimp := false) only [go_sem, Nat.reduceAdd, Nat.reduceBEq, Nat.reduceEqDiff, Nat.reduceLT, Nat.reduceLeDiff, Nat.reduceMul, Int.reduceToNat, reduceCtorEq, ↓reduceIte, Tryd.ntmps19, Tryd.results19, ks_19, mu_19, nd_19, ti_ag9, ti_ag29, ti_ag30, ti_ag32, ti_ag55, ti_fl32_0, ti_fl32_1, ti_hb38, ti_hb41, ti_hb42, ti_pl32, ti_sb29, ti_sb30, ti_sl29, ti_sl30, ti_sz32, ti_zr32, itD, itV, rlV, rowD, rlD, hf, hcl])
        | (with_reducible refine AWp_drawE nd_19 mu_19 ks_19 ti_mixed (by kernel_rfl) ?_; intro Kv hKv; simp (dsimp := false) only [go_sem, Nat.reduceAdd, Nat.reduceBEq, Nat.reduceEqDiff, Nat.reduceLT, Nat.reduceLeDiff, Nat.reduceMul, Int.reduceToNat, reduceCtorEq, ↓reduceIte, Tryd.ntmps19, Tryd.results19, ks_19, mu_19, nd_19, ti_ag9, ti_ag29, ti_ag30, ti_ag32, ti_ag55, ti_fl32_0, ti_fl32_1, ti_hb38, ti_hb41, ti_hb42, ti_pl32, ti_sb29, ti_sb30, ti_sl29, ti_sl30, ti_sz32, ti_zr32, itD, itV, rlV, rowD, rlD, hf, hcl])
        | (refine AWp_condC rfl ?_; intro KA KB hKA hKB; try simp only [onB_true, onB_false, onB_dec, onB_ndec, onB_not, onB_and, onB_or])
        | (refine AWp_condA rfl ?_ ?_)
        | (refine refTwoFault_A a b hA hB _ _ ?_; try simp (dsimp := false) only [go_sem, Nat.reduceAdd, Nat.reduceBEq, Nat.reduceEqDiff, Nat.reduceLT, Nat.reduceLeDiff, Nat.reduceMul, Int.reduceToNat, reduceCtorEq, ↓reduceIte, Tryd.ntmps19, Tryd.results19, ks_19, mu_19, nd_19, ti_ag9, ti_ag29, ti_ag30, ti_ag32, ti_ag55, ti_fl32_0, ti_fl32_1, ti_hb38, ti_hb41, ti_hb42, ti_pl32, ti_sb29, ti_sb30, ti_sl29, ti_sl30, ti_sz32, ti_zr32, itD, itV, rlV, rowD, rlD, hf, hcl])
        | (refine QCall_of (refTwoFault_A a b hA hB _ _ (Two_intro _ _)) ?_; try simp (dsimp := false) only [go_sem, Nat.reduceAdd, Nat.reduceBEq, Nat.reduceEqDiff, Nat.reduceLT, Nat.reduceLeDiff, Nat.reduceMul, Int.reduceToNat, reduceCtorEq, ↓reduceIte, Tryd.ntmps19, Tryd.results19, ks_19, mu_19, nd_19, ti_ag9, ti_ag29, ti_ag30, ti_ag32, ti_ag55, ti_fl32_0, ti_fl32_1, ti_hb38, ti_hb41, ti_hb42, ti_pl32, ti_sb29, ti_sb30, ti_sl29, ti_sl30, ti_sz32, ti_zr32, itD, itV, rlV, rowD, rlD, hf, hcl])
        | with_reducible refine onB_of ?_ ?_
        | with_reducible rfl
        | omega)
      all_goals exact dropF hk (fz_rl0 _ _ _) (bel_relE _ _ _)
  · rw [united, if_neg hf] at hk
    
    refine ACalls_of Tryd.func19 rfl in_19 (Nat.le_of_ble_eq_true rfl) ?_
    intro F hF
    simp (dsimp := false) only [go_sem, Nat.reduceAdd, Nat.reduceBEq, Nat.reduceEqDiff, Nat.reduceLT, Nat.reduceLeDiff, Nat.reduceMul, Int.reduceToNat, reduceCtorEq, ↓reduceIte, Tryd.ntmps19, Tryd.results19, ks_19, mu_19, nd_19, ti_ag9, ti_ag29, ti_ag30, ti_ag32, ti_ag55, ti_fl32_0, ti_fl32_1, ti_hb38, ti_hb41, ti_hb42, ti_pl32, ti_sb29, ti_sb30, ti_sl29, ti_sl30, ti_sz32, ti_zr32, itD, itV, rlV, rowD, rlD, hf, in_19] at hF
    subst hF
    repeat' (first
      | with_reducible refine And.intro ?_ ?_
      | with_reducible intro _
      | with_reducible refine AWp_seq ?_
      | with_reducible refine AWp_block ?_
      | (with_reducible refine hKv _ _ (AWp_nop ?_); clear hKv Kv)
      | (with_reducible refine hKv _ _ ?_; clear hKv Kv; simp (dsimp := false) only [go_sem, Nat.reduceAdd, Nat.reduceBEq, Nat.reduceEqDiff, Nat.reduceLT, Nat.reduceLeDiff, Nat.reduceMul, Int.reduceToNat, reduceCtorEq, ↓reduceIte, Tryd.ntmps19, Tryd.results19, ks_19, mu_19, nd_19, ti_ag9, ti_ag29, ti_ag30, ti_ag32, ti_ag55, ti_fl32_0, ti_fl32_1, ti_hb38, ti_hb41, ti_hb42, ti_pl32, ti_sb29, ti_sb30, ti_sl29, ti_sl30, ti_sz32, ti_zr32, itD, itV, rlV, rowD, rlD, hf])
      | (with_reducible refine hKA ?_; clear hKA hKB KA KB)
      | (with_reducible refine hKB ?_; clear hKA hKB KA KB)
      | (with_reducible refine AWp_regC mu_19 ks_19 ?_; intro Kv hKv; simp (dsimp := false) only [go_sem, Nat.reduceAdd, Nat.reduceBEq, Nat.reduceEqDiff, Nat.reduceLT, Nat.reduceLeDiff, Nat.reduceMul, Int.reduceToNat, reduceCtorEq, ↓reduceIte, Tryd.ntmps19, Tryd.results19, ks_19, mu_19, nd_19, ti_ag9, ti_ag29, ti_ag30, ti_ag32, ti_ag55, ti_fl32_0, ti_fl32_1, ti_hb38, ti_hb41, ti_hb42, ti_pl32, ti_sb29, ti_sb30, ti_sl29, ti_sl30, ti_sz32, ti_zr32, itD, itV, rlV, rowD, rlD, hf])
      | (with_reducible refine AWp_draw nd_19 mu_19 ks_19 ti_mixed (by kernel_rfl) ?_; intro Kv hKv; simp (dsimp := false) only [go_sem, Nat.reduceAdd, Nat.reduceBEq, Nat.reduceEqDiff, Nat.reduceLT, Nat.reduceLeDiff, Nat.reduceMul, Int.reduceToNat, reduceCtorEq, ↓reduceIte, Tryd.ntmps19, Tryd.results19, ks_19, mu_19, nd_19, ti_ag9, ti_ag29, ti_ag30, ti_ag32, ti_ag55, ti_fl32_0, ti_fl32_1, ti_hb38, ti_hb41, ti_hb42, ti_pl32, ti_sb29, ti_sb30, ti_sl29, ti_sl30, ti_sz32, ti_zr32, itD, itV, rlV, rowD, rlD, hf])
      | with_reducible refine AWp_skipN ?_
      | with_reducible refine AWp_exitO (by repeat (first | with_reducible exact Out.hit | with_reducible apply Out.thenA | with_reducible apply Out.out rfl)) ?_
      | (with_reducible refine AWp_retR ?_; simp (dsimp := false) only [go_sem, Nat.reduceAdd, Nat.reduceBEq, Nat.reduceEqDiff, Nat.reduceLT, Nat.reduceLeDiff, Nat.reduceMul, Int.reduceToNat, reduceCtorEq, ↓reduceIte, Tryd.ntmps19, Tryd.results19, ks_19, mu_19, nd_19, ti_ag9, ti_ag29, ti_ag30, ti_ag32, ti_ag55, ti_fl32_0, ti_fl32_1, ti_hb38, ti_hb41, ti_hb42, ti_pl32, ti_sb29, ti_sb30, ti_sl29, ti_sl30, ti_sz32, ti_zr32, itD, itV, rlV, rowD, rlD, hf])
      | (with_reducible refine AWp_regE mu_19 ks_19 ?_; intro Kv hKv; simp (dsimp := false) only [go_sem, Nat.reduceAdd, Nat.reduceBEq, Nat.reduceEqDiff, Nat.reduceLT, Nat.reduceLeDiff, Nat.reduceMul, Int.reduceToNat, reduceCtorEq, ↓reduceIte, Tryd.ntmps19, Tryd.results19, ks_19, mu_19, nd_19, ti_ag9, ti_ag29, ti_ag30, ti_ag32, ti_ag55, ti_fl32_0, ti_fl32_1, ti_hb38, ti_hb41, ti_hb42, ti_pl32, ti_sb29, ti_sb30, ti_sl29, ti_sl30, ti_sz32, ti_zr32, itD, itV, rlV, rowD, rlD, hf])
      | (with_reducible refine AWp_drawE nd_19 mu_19 ks_19 ti_mixed (by kernel_rfl) ?_; intro Kv hKv; simp (dsimp := false) only [go_sem, Nat.reduceAdd, Nat.reduceBEq, Nat.reduceEqDiff, Nat.reduceLT, Nat.reduceLeDiff, Nat.reduceMul, Int.reduceToNat, reduceCtorEq, ↓reduceIte, Tryd.ntmps19, Tryd.results19, ks_19, mu_19, nd_19, ti_ag9, ti_ag29, ti_ag30, ti_ag32, ti_ag55, ti_fl32_0, ti_fl32_1, ti_hb38, ti_hb41, ti_hb42, ti_pl32, ti_sb29, ti_sb30, ti_sl29, ti_sl30, ti_sz32, ti_zr32, itD, itV, rlV, rowD, rlD, hf])
      | (refine AWp_condC rfl ?_; intro KA KB hKA hKB; try simp only [onB_true, onB_false, onB_dec, onB_ndec, onB_not, onB_and, onB_or])
      | (refine AWp_condA rfl ?_ ?_)
      | (refine refTwoFault_A a b hA hB _ _ ?_; try simp (dsimp := false) only [go_sem, Nat.reduceAdd, Nat.reduceBEq, Nat.reduceEqDiff, Nat.reduceLT, Nat.reduceLeDiff, Nat.reduceMul, Int.reduceToNat, reduceCtorEq, ↓reduceIte, Tryd.ntmps19, Tryd.results19, ks_19, mu_19, nd_19, ti_ag9, ti_ag29, ti_ag30, ti_ag32, ti_ag55, ti_fl32_0, ti_fl32_1, ti_hb38, ti_hb41, ti_hb42, ti_pl32, ti_sb29, ti_sb30, ti_sl29, ti_sl30, ti_sz32, ti_zr32, itD, itV, rlV, rowD, rlD, hf])
      | (refine QCall_of (refTwoFault_A a b hA hB _ _ (Two_intro _ _)) ?_; try simp (dsimp := false) only [go_sem, Nat.reduceAdd, Nat.reduceBEq, Nat.reduceEqDiff, Nat.reduceLT, Nat.reduceLeDiff, Nat.reduceMul, Int.reduceToNat, reduceCtorEq, ↓reduceIte, Tryd.ntmps19, Tryd.results19, ks_19, mu_19, nd_19, ti_ag9, ti_ag29, ti_ag30, ti_ag32, ti_ag55, ti_fl32_0, ti_fl32_1, ti_hb38, ti_hb41, ti_hb42, ti_pl32, ti_sb29, ti_sb30, ti_sl29, ti_sl30, ti_sz32, ti_zr32, itD, itV, rlV, rowD, rlD, hf])
      | with_reducible refine onB_of ?_ ?_
      | with_reducible rfl
      | omega)
    all_goals exact dropF hk (fz_rl0 _ _ _) (bel_relE _ _ _)
end Go.Proofs.YtohonoiojabjaaaDoor
