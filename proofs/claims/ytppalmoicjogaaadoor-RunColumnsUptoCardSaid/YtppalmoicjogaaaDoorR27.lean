/- Columns of a relation with new names, rows of two relations side by side or one behind the other: in plain words. No condition. -/
import Derived.Test.YtppalmoicjogaaaDoorR26
import Derived.Test.YtppalmoicjogaaaDoorR22
import Derived.Test.YtppalmoicjogaaaDoorR25
set_option linter.all false
set_option linter.unusedSimpArgs false
set_option linter.unusedVariables false
namespace Go.Proofs.YtppalmoicjogaaaDoor
open Go Go.Proofs.YtppalmoicjogaaaDoor.Ab
variable [Glo] [U8]
def projRow (at_ : List Int) (row : List It) : List It := at_.map fun i => rg row i.toNat
theorem placesGo_mem {cols : List (List UInt8)} : ∀ (l : List (List UInt8)) (acc out : List Int), placesGo cols l acc = some out → (∀ i, i ∈ acc → 0 ≤ i ∧ i < cols.length) → (∀ i, i ∈ out → 0 ≤ i ∧ i < cols.length) ∧ out.length = acc.length + l.length
  | [], acc, out, h, ha => by cases h; exact ⟨ha, by simp⟩
  | s :: l, acc, out, h, ha => by
    rw [placesGo] at h
    split at h
    · cases h
    · rename_i hs
      have hlt := (fidx_lt (fun x => decide (s = x)) cols).2
      obtain ⟨h1, h2⟩ := placesGo_mem l _ out h (fun i hi => by
        rcases List.mem_append.1 hi with h1 | h1
        · exact ha i h1
        · rw [List.mem_singleton] at h1
          subst h1
          exact ⟨by omega, hlt⟩)
      exact ⟨h1, by rw [h2]; simp; omega⟩
theorem places_mem {cols l : List (List UInt8)} {out : List Int} (h : places cols l = some out) : (∀ i, i ∈ out → 0 ≤ i ∧ i < cols.length) ∧ out.length = l.length := by
  have := placesGo_mem l [] out h (by simp)
  simpa using this
def projected (r : Rl) (cols olds : List (List UInt8)) : Rl × Int :=
  if relFault r = 0 then (if cols.length = olds.length then (match places r.cols olds with | some at_ => (made cols (r.rows.map (projRow at_)), madeFault cols r.rows.length) | none => (rl0, 9)) else (rl0, 9))
  else (rl0, relFault r)
theorem projected_sh {r : Rl} (hS : ShR r) (cols olds : List (List UInt8)) (h1 : cols.length ≤ 1048576) (h2 : olds.length ≤ 1048576) : (projected r cols olds).1.cols.length ≤ 9223372036854775807 ∧ (projected r cols olds).1.rows.length ≤ 9223372036854775807 ∧ ∀ l, l ∈ (projected r cols olds).1.rows → l.length ≤ 9223372036854775807 := by
  unfold projected
  split
  · split
    · split
      · rename_i at_ hat
        have hl := (places_mem hat).2
        refine made_sh (by omega) (by have := hS.nrows; simp; omega) fun l hl' => ?_
        obtain ⟨row, _, rfl⟩ := List.mem_map.1 hl'
        simp only [projRow, List.length_map]
        omega
      · exact rl0_sh
    · exact rl0_sh
  · exact rl0_sh
def twoFault (a b : Rl) : Int := if relFault a = 0 then relFault b else relFault a
def crossRows (a b : Rl) : List (List It) := a.rows.flatMap fun x => b.rows.map fun y => x ++ y
def crossed (a b : Rl) : Rl × Int :=
  if twoFault a b = 0 then (if colsFault (a.cols ++ b.cols) = 0 then (if a.rows.length * b.rows.length ≤ 1000000 then (⟨a.cols ++ b.cols, crossRows a b⟩, 0) else (rl0, 1)) else (rl0, colsFault (a.cols ++ b.cols))) else (rl0, twoFault a b)
def united (a b : Rl) : Rl × Int :=
  if twoFault a b = 0 then (if a.cols = b.cols then (made a.cols (a.rows ++ b.rows), madeFault a.cols (a.rows ++ b.rows).length) else (rl0, 9)) else (rl0, twoFault a b)
theorem united_sh {a b : Rl} (hA : ShR a) (hB : ShR b) : (united a b).1.cols.length ≤ 9223372036854775807 ∧ (united a b).1.rows.length ≤ 9223372036854775807 ∧ ∀ l, l ∈ (united a b).1.rows → l.length ≤ 9223372036854775807 := by
  have q1 := hA.ncols
  have q2 := hA.nrows
  have q3 := hB.nrows
  unfold united
  split
  · split
    · refine made_sh (by omega) (by rw [List.length_append]; omega) fun l hl => ?_
      rcases List.mem_append.1 hl with h | h
      · have := hA.row l h
        omega
      · have := hB.row l h
        omega
    · exact rl0_sh
  · exact rl0_sh
theorem crossRows_len (a b : Rl) : (crossRows a b).length = a.rows.length * b.rows.length := by
  unfold crossRows
  induction a.rows with
  | nil => simp
  | cons x l ih => rw [List.flatMap_cons, List.length_append, ih, List.length_map, List.length_cons, Nat.add_mul, Nat.one_mul, Nat.add_comm]
theorem crossed_sh {a b : Rl} (hA : ShR a) (hB : ShR b) : (crossed a b).1.cols.length ≤ 9223372036854775807 ∧ (crossed a b).1.rows.length ≤ 9223372036854775807 ∧ ∀ l, l ∈ (crossed a b).1.rows → l.length ≤ 9223372036854775807 := by
  have q1 := hA.ncols
  have q2 := hB.ncols
  unfold crossed
  split
  · split
    · split
      · rename_i h
        refine ⟨by rw [List.length_append]; omega, by show (crossRows a b).length ≤ _; rw [crossRows_len]; omega, fun l hl => ?_⟩
        have hl : l ∈ crossRows a b := hl
        unfold crossRows at hl
        obtain ⟨x, hx, hl⟩ := List.mem_flatMap.1 hl
        obtain ⟨y, hy, rfl⟩ := List.mem_map.1 hl
        have := hA.row x hx
        have := hB.row y hy
        rw [List.length_append]
        omega
      · exact rl0_sh
    · exact rl0_sh
  · exact rl0_sh
end Go.Proofs.YtppalmoicjogaaaDoor
namespace Go.Proofs.YtppalmoicjogaaaDoor
open Go Go.Proofs.YtppalmoicjogaaaDoor.Ab
variable [Glo] [U8]
set_option maxHeartbeats 4000000
set_option maxRecDepth 20000
theorem obBel_its (m ver e sz : Nat) (xs : List It) : ObBel m (.row ver e sz (xs.map itC)) := obBel_map itD m ver e sz xs
end Go.Proofs.YtppalmoicjogaaaDoor
namespace Go.Proofs.YtppalmoicjogaaaDoor
open Go Go.Proofs.YtppalmoicjogaaaDoor.Ab
variable [Glo] [U8]
set_option maxHeartbeats 4000000
set_option maxRecDepth 20000
def ks_34 : Nat → List Nat
  | 0 => [0, 1]
  | 1 => [0, 1, 10]
  | 2 => [4]
  | 3 => [0, 1, 12, 13]
  | 4 => [0, 1, 12, 13, 14]
  | 5 => [0, 1, 5, 12, 13]
  | 6 => [0, 1, 12, 13, 24]
  | 7 => [4]
  | 8 => [0, 1, 12, 13]
  | 9 => [4]
  | _ => []
def mu_34 : List Nat := []
def in_34 : List Nat := [0, 1]
def nd_34 : Nat → Nat
  | 6 => 8
  | _ => 0
theorem equalStr_A (x y : List (List UInt8)) (hx : x.length ≤ 9223372036854775807) (hy : y.length ≤ 9223372036854775807) (H : Heap) (K : V → Heap → Prop) (hk : K (.d (.b (decide (x = y)))) H) :
    ACalls Tryd.prog 34 [.d (.sl 1 (x.map strRow)), .d (.sl 1 (y.map strRow))] H K := by
  by_cases hl : x.length = y.length
  ·
    refine ACalls_of Tryd.func34 rfl in_34 (Nat.le_of_ble_eq_true rfl) ?_
    intro F hF
    simp (dsimp := false) only [go_sem, Nat.reduceAdd, Nat.reduceBEq, Nat.reduceEqDiff, Nat.reduceLT, Nat.reduceLeDiff, Nat.reduceMul, Int.reduceToNat, reduceCtorEq, ↓reduceIte, Tryd.ntmps34, Tryd.results34, ks_34, mu_34, nd_34, ti_ag9, ti_sb48, ti_sl48, itD, itV, rlV, rowD, rlD, hl, in_34] at hF
    subst hF
    repeat' (first | with_reducible (first | refine And.intro ?_ ?_ | intro _ | refine AWp_seq ?_ | refine AWp_block ?_ | (refine hKv _ _ (AWp_nop ?_); clear hKv Kv) | (refine hKA ?_; clear hKA hKB KA KB) | (refine hKB ?_; clear hKA hKB KA KB) | refine AWp_skipN ?_ | refine AWp_exitO (by repeat (first | exact Out.hit | apply Out.thenA | apply Out.out rfl)) ?_) | (with_reducible (first | (refine hKv _ _ ?_; clear hKv Kv) | ((first | refine AWp_regC mu_34 ks_34 ?_ | refine AWp_draw nd_34 mu_34 ks_34 ti_mixed (by kernel_rfl) ?_ | refine AWp_regE mu_34 ks_34 ?_ | refine AWp_drawE nd_34 mu_34 ks_34 ti_mixed (by kernel_rfl) ?_); intro Kv hKv) | refine AWp_retR ?_); try simp (dsimp := false) only [go_sem, Nat.reduceAdd, Nat.reduceBEq, Nat.reduceEqDiff, Nat.reduceLT, Nat.reduceLeDiff, Nat.reduceMul, Int.reduceToNat, reduceCtorEq, ↓reduceIte, Tryd.ntmps34, Tryd.results34, ks_34, mu_34, nd_34, ti_ag9, ti_sb48, ti_sl48, itD, itV, rlV, rowD, rlD, hl]) | (refine AWp_condC rfl ?_; intro KA KB hKA hKB; try simp only [onB_true, onB_false, onB_dec, onB_ndec, onB_not, onB_and, onB_or]) | (refine AWp_condA rfl ?_ ?_) | with_reducible (first | refine onB_of ?_ ?_ | rfl) | omega)
    refine AWp_while0 (fun i : Nat => i ≤ y.length ∧ x.take i = y.take i) (fun i => [(0, .d (.sl 1 (x.map strRow))), (1, .d (.sl 1 (y.map strRow))), (12, .d (.i .i64 y.length)), (13, .d (.i .i64 i))]) (fun i => y.length - i) 0 ⟨Nat.zero_le _, by simp⟩ ?_ ?_
    · simp (dsimp := false) only [go_sem, Nat.reduceAdd, Nat.reduceBEq, Nat.reduceEqDiff, Nat.reduceLT, Nat.reduceLeDiff, Nat.reduceMul, Int.reduceToNat, reduceCtorEq, ↓reduceIte, Tryd.ntmps34, Tryd.results34, ks_34, mu_34, nd_34, ti_ag9, ti_sb48, ti_sl48, itD, itV, rlV, rowD, rlD, hl]
      first | done | simp
    rintro i ⟨hi, he⟩
    by_cases hiN : i < y.length
    · obtain ⟨u, hu⟩ : ∃ u, x[i]? = some u := ⟨x[i]'(by omega), List.getElem?_eq_getElem (by omega)⟩
      obtain ⟨v, hv⟩ : ∃ v, y[i]? = some v := ⟨y[i], List.getElem?_eq_getElem hiN⟩
      repeat' (first | with_reducible (first | refine And.intro ?_ ?_ | intro _ | refine AWp_seq ?_ | refine AWp_block ?_ | (refine hKv _ _ (AWp_nop ?_); clear hKv Kv) | (refine hKA ?_; clear hKA hKB KA KB) | (refine hKB ?_; clear hKA hKB KA KB) | refine AWp_skipN ?_ | refine AWp_exitO (by repeat (first | exact Out.hit | apply Out.thenA | apply Out.out rfl)) ?_) | (with_reducible (first | (refine hKv _ _ ?_; clear hKv Kv) | ((first | refine AWp_regC mu_34 ks_34 ?_ | refine AWp_draw nd_34 mu_34 ks_34 ti_mixed (by kernel_rfl) ?_ | refine AWp_regE mu_34 ks_34 ?_ | refine AWp_drawE nd_34 mu_34 ks_34 ti_mixed (by kernel_rfl) ?_); intro Kv hKv) | refine AWp_retR ?_); try simp (dsimp := false) only [go_sem, Nat.reduceAdd, Nat.reduceBEq, Nat.reduceEqDiff, Nat.reduceLT, Nat.reduceLeDiff, Nat.reduceMul, Int.reduceToNat, reduceCtorEq, ↓reduceIte, Tryd.ntmps34, Tryd.results34, ks_34, mu_34, nd_34, ti_ag9, ti_sb48, ti_sl48, itD, itV, rlV, rowD, rlD, hu, hv, hl]) | (refine AWp_condC rfl ?_; intro KA KB hKA hKB; try simp only [onB_true, onB_false, onB_dec, onB_ndec, onB_not, onB_and, onB_or]) | (refine AWp_condA rfl ?_ ?_) | with_reducible (first | refine onB_of ?_ ?_ | rfl) | omega)
      · rename_i huv
        exact ⟨i + 1, ⟨by omega, by rw [take_of_get hu, take_of_get hv, he, huv]⟩, by omega, by omega⟩
      · rename_i huv
        have hne : x ≠ y := fun e => huv (by subst e; rw [hu] at hv; exact Option.some.inj hv)
        exact keepD hk (by rw [decide_eq_false hne])
    · have e : i = y.length := by omega
      subst e
      rw [List.take_length, List.take_of_length_le (by omega)] at he
      repeat' (first | with_reducible (first | refine And.intro ?_ ?_ | intro _ | refine AWp_seq ?_ | refine AWp_block ?_ | (refine hKv _ _ (AWp_nop ?_); clear hKv Kv) | (refine hKA ?_; clear hKA hKB KA KB) | (refine hKB ?_; clear hKA hKB KA KB) | refine AWp_skipN ?_ | refine AWp_exitO (by repeat (first | exact Out.hit | apply Out.thenA | apply Out.out rfl)) ?_) | (with_reducible (first | (refine hKv _ _ ?_; clear hKv Kv) | ((first | refine AWp_regC mu_34 ks_34 ?_ | refine AWp_draw nd_34 mu_34 ks_34 ti_mixed (by kernel_rfl) ?_ | refine AWp_regE mu_34 ks_34 ?_ | refine AWp_drawE nd_34 mu_34 ks_34 ti_mixed (by kernel_rfl) ?_); intro Kv hKv) | refine AWp_retR ?_); try simp (dsimp := false) only [go_sem, Nat.reduceAdd, Nat.reduceBEq, Nat.reduceEqDiff, Nat.reduceLT, Nat.reduceLeDiff, Nat.reduceMul, Int.reduceToNat, reduceCtorEq, ↓reduceIte, Tryd.ntmps34, Tryd.results34, ks_34, mu_34, nd_34, ti_ag9, ti_sb48, ti_sl48, itD, itV, rlV, rowD, rlD, hl]) | (refine AWp_condC rfl ?_; intro KA KB hKA hKB; try simp only [onB_true, onB_false, onB_dec, onB_ndec, onB_not, onB_and, onB_or]) | (refine AWp_condA rfl ?_ ?_) | with_reducible (first | refine onB_of ?_ ?_ | rfl) | omega)
      all_goals exact keepD hk (by rw [decide_eq_true he])
  · have hl' : ¬ ((x.length : Int) = y.length) := by omega
    have hne : x ≠ y := fun e => hl (by rw [e])
    refine ACalls_of Tryd.func34 rfl in_34 (Nat.le_of_ble_eq_true rfl) ?_
    intro F hF
    simp (dsimp := false) only [go_sem, Nat.reduceAdd, Nat.reduceBEq, Nat.reduceEqDiff, Nat.reduceLT, Nat.reduceLeDiff, Nat.reduceMul, Int.reduceToNat, reduceCtorEq, ↓reduceIte, Tryd.ntmps34, Tryd.results34, ks_34, mu_34, nd_34, ti_ag9, ti_sb48, ti_sl48, itD, itV, rlV, rowD, rlD, hl', in_34] at hF
    subst hF
    repeat' (first | with_reducible (first | refine And.intro ?_ ?_ | intro _ | refine AWp_seq ?_ | refine AWp_block ?_ | (refine hKv _ _ (AWp_nop ?_); clear hKv Kv) | (refine hKA ?_; clear hKA hKB KA KB) | (refine hKB ?_; clear hKA hKB KA KB) | refine AWp_skipN ?_ | refine AWp_exitO (by repeat (first | exact Out.hit | apply Out.thenA | apply Out.out rfl)) ?_) | (with_reducible (first | (refine hKv _ _ ?_; clear hKv Kv) | ((first | refine AWp_regC mu_34 ks_34 ?_ | refine AWp_draw nd_34 mu_34 ks_34 ti_mixed (by kernel_rfl) ?_ | refine AWp_regE mu_34 ks_34 ?_ | refine AWp_drawE nd_34 mu_34 ks_34 ti_mixed (by kernel_rfl) ?_); intro Kv hKv) | refine AWp_retR ?_); try simp (dsimp := false) only [go_sem, Nat.reduceAdd, Nat.reduceBEq, Nat.reduceEqDiff, Nat.reduceLT, Nat.reduceLeDiff, Nat.reduceMul, Int.reduceToNat, reduceCtorEq, ↓reduceIte, Tryd.ntmps34, Tryd.results34, ks_34, mu_34, nd_34, ti_ag9, ti_sb48, ti_sl48, itD, itV, rlV, rowD, rlD, hl']) | (refine AWp_condC rfl ?_; intro KA KB hKA hKB; try simp only [onB_true, onB_false, onB_dec, onB_ndec, onB_not, onB_and, onB_or]) | (refine AWp_condA rfl ?_ ?_) | with_reducible (first | refine onB_of ?_ ?_ | rfl) | omega)
    all_goals exact keepD hk (by rw [decide_eq_false hne])
theorem take_le {α : Type} (l : List α) (i : Nat) : (l.take i).length ≤ l.length := by rw [List.length_take]; omega
end Go.Proofs.YtppalmoicjogaaaDoor
namespace Go.Proofs.YtppalmoicjogaaaDoor
open Go Go.Proofs.YtppalmoicjogaaaDoor.Ab
variable [Glo] [U8]
set_option maxHeartbeats 4000000
set_option maxRecDepth 20000
structure OkO (o : Opp) : Prop where
  ninn : o.inn.length ≤ 1048576
  ncols : o.cols.length ≤ 1048576
  nolds : o.olds.length ≤ 1048576
  scols : ∀ s, s ∈ o.cols → s.length ≤ 1048576
  solds : ∀ s, s ∈ o.olds → s.length ≤ 1048576
  snew : o.new.length ≤ 1048576
  spart : o.part.length ≤ 1048576
  sname : o.name.length ≤ 1048576
  rel : ShR o.rel
structure OkC (a : List (List UInt8)) : Prop where
  le8 : a.length ≤ 8
  s : ∀ s, s ∈ a → s.length ≤ 1048576
theorem OkC.n {a : List (List UInt8)} (h : OkC a) : a.length ≤ 1048576 := by have := h.le8; omega
theorem OkC.len {a : List (List UInt8)} (h : OkC a) : a.length ≤ 9223372036854775807 := by have := h.le8; omega
theorem Nat.le63 {n : Nat} (h : n ≤ 1048576) : n ≤ 9223372036854775807 := by omega
theorem OkC.app {a b : List (List UInt8)} (ha : OkC a) (hb : OkC b) : (a ++ b).length ≤ 1048576 ∧ ∀ s, s ∈ a ++ b → s.length ≤ 1048576 := by
  have h1 := ha.le8
  have h2 := hb.le8
  refine ⟨by rw [List.length_append]; omega, fun s hs => ?_⟩
  rcases List.mem_append.1 hs with h | h
  · exact ha.s s h
  · exact hb.s s h
def colsV (r : Int × List (List UInt8)) : V := .tu [.d (.sl 1 (r.2.map strRow)), .d (.i .i64 r.1)]
theorem namedV_eq (l : List (List UInt8)) : namedV l = colsV (namedQ (0, l)) := by
  unfold namedV colsV namedQ
  by_cases h : colsFault l = 0
  · simp [h]
  · simp [h]
theorem opV_k {o : Opp} {k : Int} (h : o.kind = k) : opV o = .ag [.d (.i .i64 k), .d (.sl 1 (o.inn.map inR1)), .d (.s o.new), .d (.sl 1 (o.cols.map strRow)), .d (.sl 1 (o.olds.map strRow)), .d (.s o.part), .d (.s o.name), .d (.i .i64 o.n), .d (.i .i64 o.axis), .d (.i .i64 o.tk), .d (.s o.tn), .d (.sl 1 (o.rel.cols.map strRow)), .d (.sl 1 (o.rel.rows.map rowD))] := by
  rw [← h]; rfl
theorem concat2_A (a b : List (List UInt8)) (ha : OkC a) (hb : OkC b) (H : Heap) (K : V → Heap → Prop) (hk : K (.d (.sl 1 ((a ++ b).map strRow))) H) :
    ACalls Tryd.prog 33 [.d (.sl 1 [[.sl 1 (a.map strRow)], [.sl 1 (b.map strRow)]])] H K := by
  have h1 := ha.le8
  have h2 := hb.le8
  refine concatStr_A [a.map strRow, b.map strRow] (by simp) (by simp; omega) H K ?_
  simpa using hk
end Go.Proofs.YtppalmoicjogaaaDoor
namespace Go.Proofs.YtppalmoicjogaaaDoor
open Go Go.Proofs.YtppalmoicjogaaaDoor.Ab
variable [Glo] [U8]
set_option maxHeartbeats 4000000
set_option maxRecDepth 20000
def ks_14 : Nat → List Nat
  | 0 => [1, 2]
  | 1 => [1, 2, 6]
  | 2 => [1, 2, 6]
  | 3 => [1, 2, 6, 15]
  | 4 => [6, 7]
  | 5 => [1, 2, 6, 15, 17]
  | 6 => [2, 8]
  | 7 => [2, 8, 23]
  | 8 => [4, 5]
  | 9 => [2, 27, 28, 29]
  | 10 => [2, 27, 28, 29, 30]
  | 11 => [2, 10, 27, 28, 29]
  | 12 => [2, 27, 28, 29, 34]
  | 13 => [4, 5]
  | 14 => [2, 27, 28, 29]
  | 15 => [4, 5]
  | 16 => [1, 2, 6, 15, 39]
  | 17 => [6, 7]
  | 18 => [1, 2, 6, 15, 58]
  | 19 => [6, 7]
  | 20 => [1, 2, 6, 15, 75]
  | 21 => [6, 7]
  | 22 => [1, 2, 6, 15, 107]
  | 23 => [6, 7]
  | 24 => [1, 2, 6, 15, 117]
  | 25 => [6, 7]
  | 26 => [1, 2, 6, 15, 129]
  | 27 => [6, 7]
  | 28 => [1, 2, 6, 15, 148]
  | 29 => [1, 2, 6, 15, 148]
  | 30 => [6, 7]
  | 31 => [1, 2, 6, 15, 160]
  | 32 => [6, 7]
  | 33 => [1, 2, 6, 15, 190]
  | 34 => [1, 2, 209]
  | 35 => [4, 5]
  | 36 => [6, 7]
  | 37 => [1, 2, 6, 15, 232]
  | 38 => [1, 2, 11, 12]
  | 39 => [1, 2, 11, 242]
  | 40 => [4, 5]
  | 41 => [6, 7]
  | 42 => [1, 2, 6, 15, 264]
  | 43 => [1, 285]
  | 44 => [4, 5]
  | 45 => [6, 7]
  | 46 => [1, 2, 6, 292]
  | 47 => [1, 2, 306]
  | 48 => [4, 5]
  | 49 => [1, 2, 13]
  | 50 => [1, 13, 316]
  | 51 => [4, 5]
  | 52 => [6, 7]
  | 53 => [7, 332]
  | 54 => [4, 5]
  | 55 => [4, 5]
  | _ => []
def mu_14 : List Nat := []
def in_14 : List Nat := [0, 1]
def xt_14 : Nat → Nat × List Cd
  | 32 => (28, [.q 0 0, .q 0 0, .q 0 0, .q 0 0, .q 0 0, .q 0 0, .q 0 0, .q 0 0, .q 0 0, .q 0 0, .q 0 0, .q 0 0, .q 0 0, .q 0 0, .q 0 0, .q 0 0, .q 0 0, .q 0 0, .q 0 2, .q 0 2, .q 0 0, .q 0 0, .q 0 0, .t, .q 1 0, .q 1 0, .q 1 0, .g])
  | 41 => (21, [.q 0 0, .q 0 0, .q 0 0, .q 0 0, .q 0 0, .q 0 0, .q 0 0, .q 0 0, .q 0 0, .q 0 0, .q 0 0, .q 0 0, .q 0 2, .q 0 0, .q 0 0, .q 0 0, .t, .q 1 0, .q 1 0, .q 1 0, .g])
  | _ => (0, [])
def nd_14 : Nat → Nat
  | 17 => 18
  | 19 => 16
  | 21 => 31
  | 23 => 8
  | 25 => 11
  | 27 => 18
  | 30 => 10
  | 36 => 23
  | _ => 0
end Go.Proofs.YtppalmoicjogaaaDoor
namespace Go.Proofs.YtppalmoicjogaaaDoor
open Go Go.Proofs.YtppalmoicjogaaaDoor.Ab
variable [Glo]
set_option maxHeartbeats 4000000
set_option maxRecDepth 20000
class Ar [Glo] where
  L : List (List UInt8 × Int)
  perm : L.Perm arE
  at_ : glob 1 = some (mapRow L)
end Go.Proofs.YtppalmoicjogaaaDoor
namespace Go.Proofs.YtppalmoicjogaaaDoor.RkO
open Go Go.Proofs.YtppalmoicjogaaaDoor Go.Proofs.YtppalmoicjogaaaDoor.Ab
variable [Glo]
theorem cellsD_bel (m v e sz : Nat) (R : List (List D)) : ObBel m (.row v e sz (R.map fun r => r.map V.d)) := by
  intro row hr v hv
  obtain ⟨r, _, rfl⟩ := List.mem_map.1 hr
  obtain ⟨d, _, rfl⟩ := List.mem_map.1 hv
  exact .d _
def ks_15 : Nat → List Nat
  | 0 => [0]
  | 1 => [0, 4]
  | 2 => [2]
  | 3 => [2]
  | _ => []
def mu_15 : List Nat := [2, 5]
def in_15 : List Nat := [0]
theorem cloneStrsO_A (R : List (List D)) (hlen : R.length * 16 ≤ 140737488355328) (H : Heap) (K : V → Heap → Prop) (hk : K (.os (H.length + 1) 1) (H ++ [.row 0 9 1 [], .row 1 9 1 (R.map fun r => r.map .d)])) : ACalls Tryd.prog 15 [.d (.sl 1 R)] H K := by
  have hc : Closed H (H ++ [.row 0 9 1 [], .row 1 9 1 (R.map fun r => r.map .d)]) := closed_app fun ob hob => by
    simp only [List.mem_cons, List.not_mem_nil, or_false] at hob
    rcases hob with rfl | rfl
    · exact cellsD_bel _ _ _ _ []
    · exact cellsD_bel _ _ _ _ _
  cases R with
  | nil =>
    refine ACalls_of Tryd.func15 rfl in_15 (Nat.le_of_ble_eq_true rfl) ?_
    intro F hF
    simp (dsimp := false) only [go_sem, Nat.reduceAdd, Nat.reduceBEq, Nat.reduceEqDiff, Nat.reduceLT, Nat.reduceLeDiff, Nat.reduceMul, Int.reduceToNat, reduceCtorEq, ↓reduceIte, Tryd.ntmps15, Tryd.results15, ks_15, mu_15, ti_sb48, ti_sl48, in_15] at hF
    subst hF
    repeat' (first | (refine AWp_bump 2 (H.length + 1) 0 rfl ((get_appk _ _ 1).trans rfl) ?_) | with_reducible (first | refine And.intro ?_ ?_ | intro _ | refine AWp_seq ?_ | refine AWp_block ?_ | (refine hKv _ _ (AWp_nop ?_); clear hKv Kv) | (refine hKA ?_; clear hKA hKB KA KB) | (refine hKB ?_; clear hKA hKB KA KB) | refine AWp_skipN ?_ | refine AWp_exitO (by repeat (first | exact Out.hit | apply Out.thenA | apply Out.out rfl)) ?_) | (with_reducible (first | (refine hKv _ _ ?_; clear hKv Kv) | ((first | refine AWp_regC mu_15 ks_15 ?_ | refine AWp_regE mu_15 ks_15 ?_); intro Kv hKv) | refine AWp_retR ?_); try simp (dsimp := false) only [go_sem, Nat.reduceAdd, Nat.reduceBEq, Nat.reduceEqDiff, Nat.reduceLT, Nat.reduceLeDiff, Nat.reduceMul, Int.reduceToNat, reduceCtorEq, ↓reduceIte, Tryd.ntmps15, Tryd.results15, ks_15, mu_15, ti_sb48, ti_sl48]) | (refine AWp_condC rfl ?_; intro KA KB hKA hKB; try simp only [onB_true, onB_false, onB_dec, onB_ndec, onB_not, onB_and, onB_or]) | (refine AWp_condA rfl ?_ ?_) | with_reducible (first | refine onB_of ?_ ?_ | rfl) | omega)
    all_goals first
      | omega
      | exact keepS hk (by simp) hc (.os _ _ (by simp))
  | cons r R =>
    simp only [List.length_cons] at hlen
    refine ACalls_of Tryd.func15 rfl in_15 (Nat.le_of_ble_eq_true rfl) ?_
    intro F hF
    simp (dsimp := false) only [go_sem, Nat.reduceAdd, Nat.reduceBEq, Nat.reduceEqDiff, Nat.reduceLT, Nat.reduceLeDiff, Nat.reduceMul, Int.reduceToNat, reduceCtorEq, ↓reduceIte, Tryd.ntmps15, Tryd.results15, ks_15, mu_15, ti_sb48, ti_sl48, in_15] at hF
    subst hF
    repeat' (first | with_reducible (first | refine And.intro ?_ ?_ | intro _ | refine AWp_seq ?_ | refine AWp_block ?_ | (refine hKv _ _ (AWp_nop ?_); clear hKv Kv) | (refine hKA ?_; clear hKA hKB KA KB) | (refine hKB ?_; clear hKA hKB KA KB) | refine AWp_skipN ?_ | refine AWp_exitO (by repeat (first | exact Out.hit | apply Out.thenA | apply Out.out rfl)) ?_) | (with_reducible (first | (refine hKv _ _ ?_; clear hKv Kv) | ((first | refine AWp_regC mu_15 ks_15 ?_ | refine AWp_regE mu_15 ks_15 ?_); intro Kv hKv) | refine AWp_retR ?_); try simp (dsimp := false) only [go_sem, Nat.reduceAdd, Nat.reduceBEq, Nat.reduceEqDiff, Nat.reduceLT, Nat.reduceLeDiff, Nat.reduceMul, Int.reduceToNat, reduceCtorEq, ↓reduceIte, Tryd.ntmps15, Tryd.results15, ks_15, mu_15, ti_sb48, ti_sl48]) | (refine AWp_condC rfl ?_; intro KA KB hKA hKB; try simp only [onB_true, onB_false, onB_dec, onB_ndec, onB_not, onB_and, onB_or]) | (refine AWp_condA rfl ?_ ?_) | with_reducible (first | refine onB_of ?_ ?_ | rfl) | omega)
    all_goals first
      | omega
      | exact keepS hk (by simp) hc (.os _ _ (by simp))
end Go.Proofs.YtppalmoicjogaaaDoor.RkO
