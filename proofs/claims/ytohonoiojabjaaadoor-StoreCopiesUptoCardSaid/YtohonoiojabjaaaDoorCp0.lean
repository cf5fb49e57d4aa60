/- Nodes copied to the end of others: what the program and the reference make of it. No condition but that the tables of package unicode/utf8 are there. -/
import Derived.Test.YtohonoiojabjaaaDoorSe1
set_option linter.all false
set_option linter.unusedSimpArgs false
set_option linter.unusedVariables false
namespace Go.Proofs.YtohonoiojabjaaaDoor
open Go Go.Proofs.YtohonoiojabjaaaDoor.Ab
variable [Glo] [U8]
set_option maxHeartbeats 4000000
set_option maxRecDepth 20000
def w64 (n : Int) : Int := IntKind.i64.wrap n
theorem w64_spec (n : Int) : (∃ q : Int, w64 n = n - q * 18446744073709551616) ∧ -9223372036854775808 ≤ w64 n ∧ w64 n ≤ 9223372036854775807 := by
  have e : w64 n = if 9223372036854775808 ≤ n % 18446744073709551616 then n % 18446744073709551616 - 18446744073709551616 else n % 18446744073709551616 := by
    simp [w64, IntKind.wrap, IntKind.bits, IntKind.signed]
  have h0 := Int.emod_nonneg n (show (18446744073709551616 : Int) ≠ 0 by decide)
  have h1 := Int.emod_lt_of_pos n (show (0 : Int) < 18446744073709551616 by decide)
  rw [e]
  split
  · exact ⟨⟨n / 18446744073709551616 + 1, by omega⟩, by omega, by omega⟩
  · exact ⟨⟨n / 18446744073709551616, by omega⟩, by omega, by omega⟩
theorem w64_eq {a b q : Int} (h : a = b - q * 18446744073709551616) : w64 a = w64 b := by
  obtain ⟨⟨p, h1⟩, h2, h3⟩ := w64_spec a
  obtain ⟨⟨r, h4⟩, h5, h6⟩ := w64_spec b
  omega
theorem w64_add (a b : Int) : w64 (w64 a + b) = w64 (a + b) := by
  obtain ⟨⟨q, h1⟩, _⟩ := w64_spec a
  exact w64_eq (q := q) (by omega)
theorem w64_add' (a b : Int) : w64 (a + w64 b) = w64 (a + b) := by
  rw [Int.add_comm, w64_add, Int.add_comm]
theorem w64_id {a : Int} (h1 : -9223372036854775808 ≤ a) (h2 : a ≤ 9223372036854775807) : w64 a = a := by
  obtain ⟨⟨q, h3⟩, h4, h5⟩ := w64_spec a
  omega
/-- The level that the copy's head has. -/
def cpBase (tl : List Nd) (parent : Int) : Int := if 0 ≤ parent then w64 ((gd tl parent).lv + 1) else 0
/-- The copy of the node j places behind n. -/
def cpNode (l tl : List Nd) (n : Nat) (parent : Int) (j : Nat) : Nd :=
  { gd l (n + j : Nat) with lv := w64 (cpBase tl parent + ((gd l (n + j : Nat)).lv - (gd l n).lv)), up := if j = 0 then parent else tl.length + (gd l (n + j : Nat)).up - n }
def cps (l tl : List Nd) (n : Nat) (parent : Int) (m : Nat) : List Nd := (List.range m).map (cpNode l tl n parent)
theorem cps_succ (l tl : List Nd) (n : Nat) (parent : Int) (m : Nat) : cps l tl n parent (m + 1) = cps l tl n parent m ++ [cpNode l tl n parent m] := by
  simp [cps, List.range_succ]
theorem cps_len (l tl : List Nd) (n : Nat) (parent : Int) (m : Nat) : (cps l tl n parent m).length = m := by simp [cps]
theorem cps_get (l tl : List Nd) (n : Nat) (parent : Int) {m j : Nat} (h : j < m) : (tl ++ cps l tl n parent m)[tl.length + j]? = some (cpNode l tl n parent j) := by
  rw [List.getElem?_append_right (by omega), Nat.add_sub_cancel_left, cps, List.getElem?_map, List.getElem?_range h]
  rfl
def cpFault (l : List Nd) (n : Int) (tl : List Nd) (parent : Int) : Int :=
  if atFault l n = 0 then (if (gd l n).k = 6 then 3 else if -1 ≤ parent ∧ parent < tl.length then (if tl.length + (gd l n).sz + 1 ≤ 100000 then 0 else 1) else 2) else atFault l n
def copied (l : List Nd) (n : Int) (tl : List Nd) (parent : Int) : List Nd := if cpFault l n tl parent = 0 then tl ++ cps l tl n.toNat parent ((gd l n).sz.toNat + 1) else []
def ndC (x : Nd) : List V := [.d (.i .i64 x.k), .d (.s x.nm), .d (.s x.vl), .d (.i .i64 x.sz), .d (.i .i64 x.lv), .d (.i .i64 x.up)]
theorem nds_data (l : List Nd) : dsRows (l.map ndC) = some (l.map ndD) := by
  induction l with
  | nil => rfl
  | cons x rs ih => simp [dsRows, ndC, ndD, dsOf, asD, ih]
theorem obBel_nd (m ver e sz : Nat) (xs : List Nd) : ObBel m (.row ver e sz (xs.map ndC)) := obBel_map ndD m ver e sz xs
theorem ndD_C (l : List Nd) : ((l.map ndD).map fun r => r.map V.d) = l.map ndC := by simp [ndD, ndC]

/- the live slots of slices.Clone[[]pleacher/api.Node,pleacher/api.Node] -/
def ks_29 : Nat → List Nat
  | 0 => [0]
  | 1 => [0, 4]
  | 2 => [2]
  | 3 => [2]
  | _ => []
def mu_29 : List Nat := [5]
def in_29 : List Nat := [0]
theorem cloneNds_nil (H : Heap) (K : V → Heap → Prop) (hk : K (.d (.c (.slice none 0 0))) H) (hk2 : K (.os H.length 1) (H ++ [.row 1 49 6 []])) : ACalls Tryd.prog 29 [.d (.sl 6 [])] H K := by
  refine ACalls_of Tryd.func29 rfl in_29 (Nat.le_of_ble_eq_true rfl) ?_
  intro F hF
  simp (dsimp := false) only [go_sem, Nat.reduceAdd, Nat.reduceBEq, Nat.reduceEqDiff, Nat.reduceLT, Nat.reduceLeDiff, Nat.reduceMul, Int.reduceToNat, reduceCtorEq, ↓reduceIte, Tryd.ntmps29, Tryd.results29, ks_29, mu_29, ti_sb22, ti_sl22, itD, itV, ndD, ndV, in_29] at hF
  subst hF
  repeat' (first
    | with_reducible refine And.intro ?_ ?_
    | with_reducible intro _
    | with_reducible refine AWp_seq ?_
    | with_reducible refine AWp_block ?_
    | (with_reducible refine hKv _ _ (AWp_nop ?_); clear hKv Kv)
    | (with_reducible refine hKv _ _ ?_; clear hKv Kv; simp (dsimp := false) only [go_sem, Nat.reduceAdd, Nat.reduceBEq, Nat.reduceEqDiff, Nat.reduceLT, Nat.reduceLeDiff, Nat.reduceMul, Int.reduceToNat, reduceCtorEq, ↓reduceIte, Tryd.ntmps29, Tryd.results29, ks_29, mu_29, ti_sb22, ti_sl22, itD, itV, ndD, ndV])
    | (with_reducible refine hKA ?_; clear hKA hKB KA KB)
    | (with_reducible refine hKB ?_; clear hKA hKB KA KB)
    | (with_reducible refine AWp_regC mu_29 ks_29 ?_; intro Kv hKv; simp (dsimp := false) only [go_sem, Nat.reduceAdd, Nat.reduceBEq, Nat.reduceEqDiff, Nat.reduceLT, Nat.reduceLeDiff, Nat.reduceMul, Int.reduceToNat, reduceCtorEq, ↓reduceIte, Tryd.ntmps29, Tryd.results29, ks_29, mu_29, ti_sb22, ti_sl22, itD, itV, ndD, ndV])
    | with_reducible refine AWp_skipN ?_
    | with_reducible refine AWp_exitO (by repeat (first | with_reducible exact Out.hit | with_reducible apply Out.thenA | with_reducible apply Out.out rfl)) ?_
    | (with_reducible refine AWp_retR ?_; simp (dsimp := false) only [go_sem, Nat.reduceAdd, Nat.reduceBEq, Nat.reduceEqDiff, Nat.reduceLT, Nat.reduceLeDiff, Nat.reduceMul, Int.reduceToNat, reduceCtorEq, ↓reduceIte, Tryd.ntmps29, Tryd.results29, ks_29, mu_29, ti_sb22, ti_sl22, itD, itV, ndD, ndV])
    | (with_reducible refine AWp_regE mu_29 ks_29 ?_; intro Kv hKv; simp (dsimp := false) only [go_sem, Nat.reduceAdd, Nat.reduceBEq, Nat.reduceEqDiff, Nat.reduceLT, Nat.reduceLeDiff, Nat.reduceMul, Int.reduceToNat, reduceCtorEq, ↓reduceIte, Tryd.ntmps29, Tryd.results29, ks_29, mu_29, ti_sb22, ti_sl22, itD, itV, ndD, ndV])
    | (refine AWp_condC rfl ?_; intro KA KB hKA hKB; try simp only [onB_true, onB_false, onB_dec, onB_ndec, onB_not, onB_and, onB_or])
    | (refine AWp_condA rfl ?_ ?_)
    | with_reducible refine onB_of ?_ ?_
    | with_reducible rfl
    | omega)
  all_goals first
    | exact keepK hk (by simp [Bel_d]) rfl
    | exact keepO hk2 (fun ob hob => by
        simp only [List.mem_cons, List.not_mem_nil, or_false] at hob
        rcases hob with rfl
        exact obBel_nd _ _ _ _ []) (by simp [Bel_os])
theorem cloneNds_cons (r : List D) (R : List (List D)) (hlen : (R.length + 1) * 64 ≤ 140737488355328) (H : Heap) (K : V → Heap → Prop) (hk : K (.os H.length 1) (H ++ [.row 1 49 6 ((r :: R).map fun r => r.map V.d)])) : ACalls Tryd.prog 29 [.d (.sl 6 (r :: R))] H K := by
  refine ACalls_of Tryd.func29 rfl in_29 (Nat.le_of_ble_eq_true rfl) ?_
  intro F hF
  simp (dsimp := false) only [go_sem, Nat.reduceAdd, Nat.reduceBEq, Nat.reduceEqDiff, Nat.reduceLT, Nat.reduceLeDiff, Nat.reduceMul, Int.reduceToNat, reduceCtorEq, ↓reduceIte, Tryd.ntmps29, Tryd.results29, ks_29, mu_29, ti_sb22, ti_sl22, itD, itV, ndD, ndV, in_29] at hF
  subst hF
  repeat' (first
    | with_reducible refine And.intro ?_ ?_
    | with_reducible intro _
    | with_reducible refine AWp_seq ?_
    | with_reducible refine AWp_block ?_
    | (with_reducible refine hKv _ _ (AWp_nop ?_); clear hKv Kv)
    | (with_reducible refine hKv _ _ ?_; clear hKv Kv; simp (dsimp := false) only [go_sem, Nat.reduceAdd, Nat.reduceBEq, Nat.reduceEqDiff, Nat.reduceLT, Nat.reduceLeDiff, Nat.reduceMul, Int.reduceToNat, reduceCtorEq, ↓reduceIte, Tryd.ntmps29, Tryd.results29, ks_29, mu_29, ti_sb22, ti_sl22, itD, itV, ndD, ndV])
    | (with_reducible refine hKA ?_; clear hKA hKB KA KB)
    | (with_reducible refine hKB ?_; clear hKA hKB KA KB)
    | (with_reducible refine AWp_regC mu_29 ks_29 ?_; intro Kv hKv; simp (dsimp := false) only [go_sem, Nat.reduceAdd, Nat.reduceBEq, Nat.reduceEqDiff, Nat.reduceLT, Nat.reduceLeDiff, Nat.reduceMul, Int.reduceToNat, reduceCtorEq, ↓reduceIte, Tryd.ntmps29, Tryd.results29, ks_29, mu_29, ti_sb22, ti_sl22, itD, itV, ndD, ndV])
    | with_reducible refine AWp_skipN ?_
    | with_reducible refine AWp_exitO (by repeat (first | with_reducible exact Out.hit | with_reducible apply Out.thenA | with_reducible apply Out.out rfl)) ?_
    | (with_reducible refine AWp_retR ?_; simp (dsimp := false) only [go_sem, Nat.reduceAdd, Nat.reduceBEq, Nat.reduceEqDiff, Nat.reduceLT, Nat.reduceLeDiff, Nat.reduceMul, Int.reduceToNat, reduceCtorEq, ↓reduceIte, Tryd.ntmps29, Tryd.results29, ks_29, mu_29, ti_sb22, ti_sl22, itD, itV, ndD, ndV])
    | (with_reducible refine AWp_regE mu_29 ks_29 ?_; intro Kv hKv; simp (dsimp := false) only [go_sem, Nat.reduceAdd, Nat.reduceBEq, Nat.reduceEqDiff, Nat.reduceLT, Nat.reduceLeDiff, Nat.reduceMul, Int.reduceToNat, reduceCtorEq, ↓reduceIte, Tryd.ntmps29, Tryd.results29, ks_29, mu_29, ti_sb22, ti_sl22, itD, itV, ndD, ndV])
    | (refine AWp_condC rfl ?_; intro KA KB hKA hKB; try simp only [onB_true, onB_false, onB_dec, onB_ndec, onB_not, onB_and, onB_or])
    | (refine AWp_condA rfl ?_ ?_)
    | with_reducible refine onB_of ?_ ?_
    | with_reducible rfl
    | omega)
  exact keepO hk (fun ob hob => by
    simp only [List.mem_cons, List.not_mem_nil, or_false] at hob
    rcases hob with rfl
    exact obBel_data _ _ _ _ (r :: R)) (by simp [Bel_os])
theorem cloneNds_A (tl : List Nd) (hlen : tl.length * 64 ≤ 140737488355328) (H : Heap) (K : V → Heap → Prop) (hk : (tl = [] → K (.d (.c (.slice none 0 0))) H) ∧ K (.os H.length 1) (H ++ [.row 1 49 6 (tl.map ndC)])) : ACalls Tryd.prog 29 [.d (.sl 6 (tl.map ndD))] H K := by
  cases tl with
  | nil => exact cloneNds_nil H K (hk.1 rfl) hk.2
  | cons x tl => exact cloneNds_cons (ndD x) (tl.map ndD) (by simpa using hlen) H K (by have hk := hk.2; rw [← ndD_C] at hk; exact hk)
/- the live slots of pleacher/pleacherref.nodesCopy -/
def ks_67 : Nat → List Nat
  | 0 => [0]
  | 1 => [0, 3]
  | 2 => [0, 3, 4]
  | 3 => [0, 3, 4, 8]
  | 4 => [0, 3, 4]
  | 5 => [0, 3, 4]
  | 6 => [2]
  | _ => []
def mu_67 : List Nat := [3]
def in_67 : List Nat := [0]
theorem nodesCopy_A (tl : List Nd) (hlen : tl.length * 64 ≤ 140737488355328) (H : Heap) (K : V → Heap → Prop) (hk : K (.os H.length tl.length) (H ++ [.row tl.length 49 6 (tl.map ndC)])) :
    ACalls Tryd.prog 67 [.d (.sl 6 (tl.map ndD))] H K := by
  refine ACalls_of Tryd.func67 rfl in_67 (Nat.le_of_ble_eq_true rfl) ?_
  intro F hF
  simp (dsimp := false) only [go_sem, Nat.reduceAdd, Nat.reduceBEq, Nat.reduceEqDiff, Nat.reduceLT, Nat.reduceLeDiff, Nat.reduceMul, Int.reduceToNat, reduceCtorEq, ↓reduceIte, Tryd.ntmps67, Tryd.results67, ks_67, mu_67, ti_ag49, ti_sb22, ti_sl22, ti_sz49, itD, itV, ndD, ndV, in_67] at hF
  subst hF
  repeat' (first
    | with_reducible refine And.intro ?_ ?_
    | with_reducible intro _
    | with_reducible refine AWp_seq ?_
    | with_reducible refine AWp_block ?_
    | (with_reducible refine hKv _ _ (AWp_nop ?_); clear hKv Kv)
    | (with_reducible refine hKv _ _ ?_; clear hKv Kv; simp (dsimp := false) only [go_sem, Nat.reduceAdd, Nat.reduceBEq, Nat.reduceEqDiff, Nat.reduceLT, Nat.reduceLeDiff, Nat.reduceMul, Int.reduceToNat, reduceCtorEq, ↓reduceIte, Tryd.ntmps67, Tryd.results67, ks_67, mu_67, ti_ag49, ti_sb22, ti_sl22, ti_sz49, itD, itV, ndD, ndV])
    | (with_reducible refine hKA ?_; clear hKA hKB KA KB)
    | (with_reducible refine hKB ?_; clear hKA hKB KA KB)
    | (with_reducible refine AWp_regC mu_67 ks_67 ?_; intro Kv hKv; simp (dsimp := false) only [go_sem, Nat.reduceAdd, Nat.reduceBEq, Nat.reduceEqDiff, Nat.reduceLT, Nat.reduceLeDiff, Nat.reduceMul, Int.reduceToNat, reduceCtorEq, ↓reduceIte, Tryd.ntmps67, Tryd.results67, ks_67, mu_67, ti_ag49, ti_sb22, ti_sl22, ti_sz49, itD, itV, ndD, ndV])
    | with_reducible refine AWp_skipN ?_
    | with_reducible refine AWp_exitO (by repeat (first | with_reducible exact Out.hit | with_reducible apply Out.thenA | with_reducible apply Out.out rfl)) ?_
    | (with_reducible refine AWp_retR ?_; simp (dsimp := false) only [go_sem, Nat.reduceAdd, Nat.reduceBEq, Nat.reduceEqDiff, Nat.reduceLT, Nat.reduceLeDiff, Nat.reduceMul, Int.reduceToNat, reduceCtorEq, ↓reduceIte, Tryd.ntmps67, Tryd.results67, ks_67, mu_67, ti_ag49, ti_sb22, ti_sl22, ti_sz49, itD, itV, ndD, ndV])
    | (with_reducible refine AWp_regE mu_67 ks_67 ?_; intro Kv hKv; simp (dsimp := false) only [go_sem, Nat.reduceAdd, Nat.reduceBEq, Nat.reduceEqDiff, Nat.reduceLT, Nat.reduceLeDiff, Nat.reduceMul, Int.reduceToNat, reduceCtorEq, ↓reduceIte, Tryd.ntmps67, Tryd.results67, ks_67, mu_67, ti_ag49, ti_sb22, ti_sl22, ti_sz49, itD, itV, ndD, ndV])
    | (refine AWp_condC rfl ?_; intro KA KB hKA hKB; try simp only [onB_true, onB_false, onB_dec, onB_ndec, onB_not, onB_and, onB_or])
    | (refine AWp_condA rfl ?_ ?_)
    | with_reducible refine onB_of ?_ ?_
    | with_reducible rfl
    | omega)
  refine AWp_whileH (fun i : Nat => i ≤ tl.length) (fun i => [(0, .d (.sl 6 (tl.map ndD))), (3, .os H.length i), (4, .d (.i .i64 i))])
    (fun i => [.row i 49 6 ((tl.take i).map ndC)]) (fun i => tl.length - i) 0 (Nat.zero_le _) rfl ?_ ?_ ?_
  · simp (dsimp := false) only [go_sem, Nat.reduceAdd, Nat.reduceBEq, Nat.reduceEqDiff, Nat.reduceLT, Nat.reduceLeDiff, Nat.reduceMul, Int.reduceToNat, reduceCtorEq, ↓reduceIte, Tryd.ntmps67, Tryd.results67, ks_67, mu_67, ti_ag49, ti_sb22, ti_sl22, ti_sz49, itD, itV, ndD, ndV]
    first | done | simp
  · intro i _ ob hob
    simp only [List.mem_cons, List.not_mem_nil, or_false] at hob
    rcases hob with rfl
    exact obBel_nd _ _ _ _ _
  rintro i hi
  have hli : (tl.take i).length = i := by simp; omega
  repeat' (first
    | with_reducible refine And.intro ?_ ?_
    | with_reducible intro _
    | with_reducible refine AWp_seq ?_
    | with_reducible refine AWp_block ?_
    | (with_reducible refine hKv _ _ (AWp_nop ?_); clear hKv Kv)
    | (with_reducible refine hKv _ _ ?_; clear hKv Kv; simp (dsimp := false) only [go_sem, Nat.reduceAdd, Nat.reduceBEq, Nat.reduceEqDiff, Nat.reduceLT, Nat.reduceLeDiff, Nat.reduceMul, Int.reduceToNat, reduceCtorEq, ↓reduceIte, Tryd.ntmps67, Tryd.results67, ks_67, mu_67, ti_ag49, ti_sb22, ti_sl22, ti_sz49, itD, itV, ndD, ndV])
    | (with_reducible refine hKA ?_; clear hKA hKB KA KB)
    | (with_reducible refine hKB ?_; clear hKA hKB KA KB)
    | (with_reducible refine AWp_regC mu_67 ks_67 ?_; intro Kv hKv; simp (dsimp := false) only [go_sem, Nat.reduceAdd, Nat.reduceBEq, Nat.reduceEqDiff, Nat.reduceLT, Nat.reduceLeDiff, Nat.reduceMul, Int.reduceToNat, reduceCtorEq, ↓reduceIte, Tryd.ntmps67, Tryd.results67, ks_67, mu_67, ti_ag49, ti_sb22, ti_sl22, ti_sz49, itD, itV, ndD, ndV])
    | with_reducible refine AWp_skipN ?_
    | with_reducible refine AWp_exitO (by repeat (first | with_reducible exact Out.hit | with_reducible apply Out.thenA | with_reducible apply Out.out rfl)) ?_
    | (with_reducible refine AWp_retR ?_; simp (dsimp := false) only [go_sem, Nat.reduceAdd, Nat.reduceBEq, Nat.reduceEqDiff, Nat.reduceLT, Nat.reduceLeDiff, Nat.reduceMul, Int.reduceToNat, reduceCtorEq, ↓reduceIte, Tryd.ntmps67, Tryd.results67, ks_67, mu_67, ti_ag49, ti_sb22, ti_sl22, ti_sz49, itD, itV, ndD, ndV])
    | (with_reducible refine AWp_regE mu_67 ks_67 ?_; intro Kv hKv; simp (dsimp := false) only [go_sem, Nat.reduceAdd, Nat.reduceBEq, Nat.reduceEqDiff, Nat.reduceLT, Nat.reduceLeDiff, Nat.reduceMul, Int.reduceToNat, reduceCtorEq, ↓reduceIte, Tryd.ntmps67, Tryd.results67, ks_67, mu_67, ti_ag49, ti_sb22, ti_sl22, ti_sz49, itD, itV, ndD, ndV])
    | (refine AWp_condC rfl ?_; intro KA KB hKA hKB; try simp only [onB_true, onB_false, onB_dec, onB_ndec, onB_not, onB_and, onB_or])
    | (refine AWp_condA rfl ?_ ?_)
    | with_reducible refine onB_of ?_ ?_
    | with_reducible rfl
    | omega)
  · rename_i h1 x hx
    exact ⟨i + 1, by omega, by omega, by rw [take_of_get hx]; simp [ndC], rfl, by omega, by omega⟩
  · have e : i = tl.length := by omega
    subst e
    rw [List.take_length]
    exact keepO hk (fun ob hob => by
      simp only [List.mem_cons, List.not_mem_nil, or_false] at hob
      rcases hob with rfl
      exact obBel_nd _ _ _ _ _) (by simp [Bel_os])
/- the live slots of pleacher/pleacherlaw.sameNodes -/
def ks_13 : Nat → List Nat
  | 0 => [0, 1]
  | 1 => [0, 1, 10]
  | 2 => [4]
  | 3 => [0, 1, 5]
  | 4 => [0, 1, 5, 14]
  | 5 => [0, 1, 5]
  | 6 => [0, 1, 5, 25]
  | 7 => [4]
  | 8 => [4]
  | _ => []
def mu_13 : List Nat := []
def in_13 : List Nat := [0, 1]
def nd_13 : Nat → Nat
  | 6 => 8
  | _ => 0
theorem sameNodes_A (l : List Nd) (hlen : l.length ≤ 9223372036854775807) (H : Heap) (K : V → Heap → Prop) (hk : K (.d (.b true)) H) :
    ACalls Tryd.prog 13 [.d (.sl 6 (l.map ndD)), .d (.sl 6 (l.map ndD))] H K := by
  refine ACalls_of Tryd.func13 rfl in_13 (Nat.le_of_ble_eq_true rfl) ?_
  intro F hF
  simp (dsimp := false) only [go_sem, Nat.reduceAdd, Nat.reduceBEq, Nat.reduceEqDiff, Nat.reduceLT, Nat.reduceLeDiff, Nat.reduceMul, Int.reduceToNat, reduceCtorEq, ↓reduceIte, Tryd.ntmps13, Tryd.results13, ks_13, mu_13, nd_13, ti_ag49, ti_fe49, ti_sb22, ti_sl22, ti_sz49, itD, itV, ndD, ndV, in_13] at hF
  subst hF
  repeat' (first
    | with_reducible refine And.intro ?_ ?_
    | with_reducible intro _
    | with_reducible refine AWp_seq ?_
    | with_reducible refine AWp_block ?_
    | (with_reducible refine hKv _ _ (AWp_nop ?_); clear hKv Kv)
    | (with_reducible refine hKv _ _ ?_; clear hKv Kv; simp (dsimp := false) only [go_sem, Nat.reduceAdd, Nat.reduceBEq, Nat.reduceEqDiff, Nat.reduceLT, Nat.reduceLeDiff, Nat.reduceMul, Int.reduceToNat, reduceCtorEq, ↓reduceIte, Tryd.ntmps13, Tryd.results13, ks_13, mu_13, nd_13, ti_ag49, ti_fe49, ti_sb22, ti_sl22, ti_sz49, itD, itV, ndD, ndV])
    | (with_reducible refine hKA ?_; clear hKA hKB KA KB)
    | (with_reducible refine hKB ?_; clear hKA hKB KA KB)
    | (with_reducible refine AWp_regC mu_13 ks_13 ?_; intro Kv hKv; simp (dsimp := false) only [go_sem, Nat.reduceAdd, Nat.reduceBEq, Nat.reduceEqDiff, Nat.reduceLT, Nat.reduceLeDiff, Nat.reduceMul, Int.reduceToNat, reduceCtorEq, ↓reduceIte, Tryd.ntmps13, Tryd.results13, ks_13, mu_13, nd_13, ti_ag49, ti_fe49, ti_sb22, ti_sl22, ti_sz49, itD, itV, ndD, ndV])
    | (with_reducible refine AWp_draw nd_13 mu_13 ks_13 ti_mixed (by kernel_rfl) ?_; intro Kv hKv; simp (dsimp := false) only [go_sem, Nat.reduceAdd, Nat.reduceBEq, Nat.reduceEqDiff, Nat.reduceLT, Nat.reduceLeDiff, Nat.reduceMul, Int.reduceToNat, reduceCtorEq, ↓reduceIte, Tryd.ntmps13, Tryd.results13, ks_13, mu_13, nd_13, ti_ag49, ti_fe49, ti_sb22, ti_sl22, ti_sz49, itD, itV, ndD, ndV])
    | with_reducible refine AWp_skipN ?_
    | with_reducible refine AWp_exitO (by repeat (first | with_reducible exact Out.hit | with_reducible apply Out.thenA | with_reducible apply Out.out rfl)) ?_
    | (with_reducible refine AWp_retR ?_; simp (dsimp := false) only [go_sem, Nat.reduceAdd, Nat.reduceBEq, Nat.reduceEqDiff, Nat.reduceLT, Nat.reduceLeDiff, Nat.reduceMul, Int.reduceToNat, reduceCtorEq, ↓reduceIte, Tryd.ntmps13, Tryd.results13, ks_13, mu_13, nd_13, ti_ag49, ti_fe49, ti_sb22, ti_sl22, ti_sz49, itD, itV, ndD, ndV])
    | (with_reducible refine AWp_regE mu_13 ks_13 ?_; intro Kv hKv; simp (dsimp := false) only [go_sem, Nat.reduceAdd, Nat.reduceBEq, Nat.reduceEqDiff, Nat.reduceLT, Nat.reduceLeDiff, Nat.reduceMul, Int.reduceToNat, reduceCtorEq, ↓reduceIte, Tryd.ntmps13, Tryd.results13, ks_13, mu_13, nd_13, ti_ag49, ti_fe49, ti_sb22, ti_sl22, ti_sz49, itD, itV, ndD, ndV])
    | (with_reducible refine AWp_drawE nd_13 mu_13 ks_13 ti_mixed (by kernel_rfl) ?_; intro Kv hKv; simp (dsimp := false) only [go_sem, Nat.reduceAdd, Nat.reduceBEq, Nat.reduceEqDiff, Nat.reduceLT, Nat.reduceLeDiff, Nat.reduceMul, Int.reduceToNat, reduceCtorEq, ↓reduceIte, Tryd.ntmps13, Tryd.results13, ks_13, mu_13, nd_13, ti_ag49, ti_fe49, ti_sb22, ti_sl22, ti_sz49, itD, itV, ndD, ndV])
    | (refine AWp_condC rfl ?_; intro KA KB hKA hKB; try simp only [onB_true, onB_false, onB_dec, onB_ndec, onB_not, onB_and, onB_or])
    | (refine AWp_condA rfl ?_ ?_)
    | with_reducible refine onB_of ?_ ?_
    | with_reducible rfl
    | omega)
  refine AWp_while0 (fun i : Nat => i ≤ l.length) (fun i => [(0, .d (.sl 6 (l.map ndD))), (1, .d (.sl 6 (l.map ndD))), (5, .d (.i .i64 i))]) (fun i => l.length - i) 0 (Nat.zero_le _) ?_ ?_
  · simp (dsimp := false) only [go_sem, Nat.reduceAdd, Nat.reduceBEq, Nat.reduceEqDiff, Nat.reduceLT, Nat.reduceLeDiff, Nat.reduceMul, Int.reduceToNat, reduceCtorEq, ↓reduceIte, Tryd.ntmps13, Tryd.results13, ks_13, mu_13, nd_13, ti_ag49, ti_fe49, ti_sb22, ti_sl22, ti_sz49, itD, itV, ndD, ndV]
    first | done | simp
  rintro i hi
  repeat' (first
    | with_reducible refine And.intro ?_ ?_
    | with_reducible intro _
    | with_reducible refine AWp_seq ?_
    | with_reducible refine AWp_block ?_
    | (with_reducible refine hKv _ _ (AWp_nop ?_); clear hKv Kv)
    | (with_reducible refine hKv _ _ ?_; clear hKv Kv; simp (dsimp := false) only [go_sem, Nat.reduceAdd, Nat.reduceBEq, Nat.reduceEqDiff, Nat.reduceLT, Nat.reduceLeDiff, Nat.reduceMul, Int.reduceToNat, reduceCtorEq, ↓reduceIte, Tryd.ntmps13, Tryd.results13, ks_13, mu_13, nd_13, ti_ag49, ti_fe49, ti_sb22, ti_sl22, ti_sz49, itD, itV, ndD, ndV])
    | (with_reducible refine hKA ?_; clear hKA hKB KA KB)
    | (with_reducible refine hKB ?_; clear hKA hKB KA KB)
    | (with_reducible refine AWp_regC mu_13 ks_13 ?_; intro Kv hKv; simp (dsimp := false) only [go_sem, Nat.reduceAdd, Nat.reduceBEq, Nat.reduceEqDiff, Nat.reduceLT, Nat.reduceLeDiff, Nat.reduceMul, Int.reduceToNat, reduceCtorEq, ↓reduceIte, Tryd.ntmps13, Tryd.results13, ks_13, mu_13, nd_13, ti_ag49, ti_fe49, ti_sb22, ti_sl22, ti_sz49, itD, itV, ndD, ndV])
    | (with_reducible refine AWp_draw nd_13 mu_13 ks_13 ti_mixed (by kernel_rfl) ?_; intro Kv hKv; simp (dsimp := false) only [go_sem, Nat.reduceAdd, Nat.reduceBEq, Nat.reduceEqDiff, Nat.reduceLT, Nat.reduceLeDiff, Nat.reduceMul, Int.reduceToNat, reduceCtorEq, ↓reduceIte, Tryd.ntmps13, Tryd.results13, ks_13, mu_13, nd_13, ti_ag49, ti_fe49, ti_sb22, ti_sl22, ti_sz49, itD, itV, ndD, ndV])
    | with_reducible refine AWp_skipN ?_
    | with_reducible refine AWp_exitO (by repeat (first | with_reducible exact Out.hit | with_reducible apply Out.thenA | with_reducible apply Out.out rfl)) ?_
    | (with_reducible refine AWp_retR ?_; simp (dsimp := false) only [go_sem, Nat.reduceAdd, Nat.reduceBEq, Nat.reduceEqDiff, Nat.reduceLT, Nat.reduceLeDiff, Nat.reduceMul, Int.reduceToNat, reduceCtorEq, ↓reduceIte, Tryd.ntmps13, Tryd.results13, ks_13, mu_13, nd_13, ti_ag49, ti_fe49, ti_sb22, ti_sl22, ti_sz49, itD, itV, ndD, ndV])
    | (with_reducible refine AWp_regE mu_13 ks_13 ?_; intro Kv hKv; simp (dsimp := false) only [go_sem, Nat.reduceAdd, Nat.reduceBEq, Nat.reduceEqDiff, Nat.reduceLT, Nat.reduceLeDiff, Nat.reduceMul, Int.reduceToNat, reduceCtorEq, ↓reduceIte, Tryd.ntmps13, Tryd.results13, ks_13, mu_13, nd_13, ti_ag49, ti_fe49, ti_sb22, ti_sl22, ti_sz49, itD, itV, ndD, ndV])
    | (with_reducible refine AWp_drawE nd_13 mu_13 ks_13 ti_mixed (by kernel_rfl) ?_; intro Kv hKv; simp (dsimp := false) only [go_sem, Nat.reduceAdd, Nat.reduceBEq, Nat.reduceEqDiff, Nat.reduceLT, Nat.reduceLeDiff, Nat.reduceMul, Int.reduceToNat, reduceCtorEq, ↓reduceIte, Tryd.ntmps13, Tryd.results13, ks_13, mu_13, nd_13, ti_ag49, ti_fe49, ti_sb22, ti_sl22, ti_sz49, itD, itV, ndD, ndV])
    | (refine AWp_condC rfl ?_; intro KA KB hKA hKB; try simp only [onB_true, onB_false, onB_dec, onB_ndec, onB_not, onB_and, onB_or])
    | (refine AWp_condA rfl ?_ ?_)
    | with_reducible refine onB_of ?_ ?_
    | with_reducible rfl
    | omega)
  all_goals first
    | exact ⟨i + 1, by omega, by omega, by omega⟩
    | exact keepD hk rfl
    | (exfalso; simp_all)
theorem cps_step {l tl : List Nd} {k j : Nat} {parent : Int} {x y : Nd} (hx : gd l k = x) (hy : gd l (k + j : Nat) = y) : (tl ++ cps l tl k parent (j + 1)).map ndC = (tl ++ cps l tl k parent j).map ndC ++ [[.d (.i .i64 y.k), .d (.s y.nm), .d (.s y.vl), .d (.i .i64 y.sz), .d (.i .i64 (w64 (cpBase tl parent + (y.lv - x.lv)))), .d (.i .i64 (if j = 0 then parent else tl.length + y.up - k))]] := by
  rw [cps_succ, ← List.append_assoc, List.map_append (l₂ := [cpNode l tl k parent j]), cpNode, hy, hx]
  rfl
theorem cps_step0 {l tl : List Nd} {k : Nat} {parent : Int} {x y : Nd} (hx : gd l k = x) (hy : gd l (k + 0 : Nat) = y) : (tl ++ cps l tl k parent (0 + 1)).map ndC = (tl ++ cps l tl k parent 0).map ndC ++ [[.d (.i .i64 y.k), .d (.s y.nm), .d (.s y.vl), .d (.i .i64 y.sz), .d (.i .i64 (IntKind.i64.wrap (y.lv + IntKind.i64.wrap (cpBase tl parent - x.lv)))), .d (.i .i64 parent)]] := by
  rw [cps_step hx hy, if_pos rfl]
  have e : w64 (y.lv + w64 (cpBase tl parent - x.lv)) = w64 (cpBase tl parent + (y.lv - x.lv)) := by rw [w64_add']; congr 1; omega
  rw [← e]
  rfl
theorem cps_step1 {l tl : List Nd} {k j : Nat} {parent : Int} {x y : Nd} (hx : gd l k = x) (hy : gd l (k + j : Nat) = y) (hj : j ≠ 0) : (tl ++ cps l tl k parent (j + 1)).map ndC = (tl ++ cps l tl k parent j).map ndC ++ [[.d (.i .i64 y.k), .d (.s y.nm), .d (.s y.vl), .d (.i .i64 y.sz), .d (.i .i64 (IntKind.i64.wrap (y.lv + IntKind.i64.wrap (cpBase tl parent - x.lv)))), .d (.i .i64 (y.up + (tl.length - k)))]] := by
  rw [cps_step hx hy, if_neg hj, show (tl.length : Int) + y.up - k = y.up + (tl.length - k) by omega]
  have e : w64 (y.lv + w64 (cpBase tl parent - x.lv)) = w64 (cpBase tl parent + (y.lv - x.lv)) := by rw [w64_add']; congr 1; omega
  rw [← e]
  rfl
theorem cps_stepR {l tl : List Nd} {k : Nat} {parent : Int} {x y : Nd} (hx : gd l k = x) (hy : gd l (k + 0 : Nat) = y) (hxy : x = y) : (tl ++ cps l tl k parent (0 + 1)).map ndC = (tl ++ cps l tl k parent 0).map ndC ++ [[.d (.i .i64 y.k), .d (.s y.nm), .d (.s y.vl), .d (.i .i64 y.sz), .d (.i .i64 (cpBase tl parent)), .d (.i .i64 parent)]] := by
  have e : w64 (cpBase tl parent + (y.lv - x.lv)) = cpBase tl parent := by
    rw [hxy, show cpBase tl parent + (y.lv - y.lv) = cpBase tl parent by omega]
    unfold cpBase
    split
    · have := w64_add ((gd tl parent).lv + 1) 0
      rw [Int.add_zero, Int.add_zero] at this
      exact this
    · exact w64_id (by omega) (by omega)
  rw [cps_step hx hy, if_pos rfl, e]
theorem okAt_lv {l : List Nd} {i : Nat} (h : okAt l i = true) (h0 : 0 ≤ (gd l i).up) : (gd l i).lv = (gd l (gd l i).up).lv + 1 := by
  have e := okAt_up h
  unfold okAt at h
  simp only [Bool.and_eq_true, decide_eq_true_eq] at h
  obtain ⟨_, h3⟩ := h
  rw [← e, if_neg (by omega)] at h3
  simp only [Bool.and_eq_true, decide_eq_true_eq] at h3
  exact h3.1.1
end Go.Proofs.YtohonoiojabjaaaDoor
