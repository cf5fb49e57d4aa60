/- Rows of a relation where a column is true: what the program and the reference select. No condition but that the tables of package unicode/utf8 are there. -/
import Derived.Test.YtjedhhdkgjchdaaDoorRs0
set_option linter.all false
set_option linter.unusedSimpArgs false
set_option linter.unusedVariables false
namespace Go.Proofs.YtjedhhdkgjchdaaDoor
open Go Go.Proofs.YtjedhhdkgjchdaaDoor.Ab
variable [Glo] [U8]
set_option maxHeartbeats 4000000
set_option maxRecDepth 20000
def it0 : It := ⟨0, 0, []⟩
def rg (l : List It) (c : Nat) : It := (l[c]?).getD it0
theorem rg_get {l : List It} {c : Nat} {x : It} (h : l[c]? = some x) : rg l c = x := by simp [rg, h]
def selGo (c : Nat) : List (List It) → List (List It) → Option (List (List It))
  | [], acc => some acc
  | row :: rest, acc => if (rg row c).k = 4 then selGo c rest (if (rg row c).n = 1 then acc ++ [row] else acc) else none
theorem selGo_next {c : Nat} {l : List (List It)} {i : Nat} {row : List It} {acc : List (List It)} (h : l[i]? = some row) : selGo c (l.drop i) acc = if (rg row c).k = 4 then selGo c (l.drop (i + 1)) (if (rg row c).n = 1 then acc ++ [row] else acc) else none := by
  rw [drop_of_get h, selGo]
/-- What is selected, and the error. -/
def selected (r : Rl) (col : List UInt8) : Rl × Int :=
  if relFault r = 0 then (if txtAt r.cols col < 0 then (rl0, 9) else match selGo (txtAt r.cols col).toNat r.rows [] with | some rows => (made r.cols rows, madeFault r.cols rows.length) | none => (rl0, 12))
  else (rl0, relFault r)
theorem places_one (cols : List (List UInt8)) (s : List UInt8) : places cols [s] = if txtAt cols s < 0 then none else some [txtAt cols s] := by
  unfold places placesGo placesGo
  rfl
theorem obBel_rows (m ver e sz : Nat) (xs : List (List It)) : ObBel m (.row ver e sz (xs.map rowC)) := obBel_map rowD m ver e sz xs
theorem bel_nil2 (m : Nat) (ver e : Nat) : ObBel m (.row ver e 2 [[.d (.c (.slice none 0 0)), .d (.c (.slice none 0 0))]]) := by
  intro row hr v hv
  simp at hr
  subst hr
  simp at hv
  subst hv
  exact .d _
/-- How a relation that is made of an object's rows is handed back. -/
theorem fin_ret {H G : Heap} {K : V → Heap → Prop} {cols : List (List UInt8)} {acc : List (List It)} {id ver e : Nat} (hk : K (relE (made cols acc) (madeFault cols acc.length)) H) (hf : madeFault cols acc.length = 0) (hid : H.length ≤ id) (hr : (H ++ G)[id]? = some (.row ver e 1 (acc.map rowC))) :
    RetK H K (.tu [.ag [.d (.sl 1 (cols.map strRow)), .os id ver], .d (.i .i64 0)]) (H ++ G) := by
  rw [made, if_pos hf, hf] at hk
  exact dropF hk (Fz_tu2 (Fz_ag2 (.same _) (.os _ _ _ _ _ _ hid hr (rows_data _))) (.same _)) (bel_relE _ _ _)
theorem fin_bad {H G : Heap} {K : V → Heap → Prop} {cols : List (List UInt8)} {n : Nat} {acc : List (List It)} (hk : K (relE (made cols acc) (madeFault cols acc.length)) H) (hn : acc.length = n) (hf : ¬ madeFault cols n = 0) :
    RetK H K (.tu [.ag [.d (.sl 1 []), .d (.sl 1 [])], .d (.i .i64 (madeFault cols n))]) (H ++ G) := by
  subst hn
  rw [made, if_neg hf] at hk
  exact dropF hk (.same _) (bel_relE _ _ _)

/- the live slots of pleacher/rel.Select -/
def ks_33 : Nat → List Nat
  | 0 => [1, 2, 4]
  | 1 => [1, 2, 4, 6]
  | 2 => [1, 2, 4, 6, 16]
  | 3 => [4, 5]
  | 4 => [2, 4, 7, 8]
  | 5 => [2, 4, 7, 8, 27]
  | 6 => [4, 5]
  | 7 => [2, 4, 7, 9]
  | 8 => [2, 4, 7, 9, 31, 32, 33]
  | 9 => [2, 4, 7, 9, 31, 32, 33, 34]
  | 10 => [2, 4, 7, 9, 11, 31, 32, 33]
  | 11 => [2, 4, 7, 9, 11, 12, 31, 32, 33]
  | 12 => [2, 4, 7, 9, 11, 12, 31, 32, 33, 45]
  | 13 => [4, 5]
  | 14 => [2, 4, 7, 9, 11, 31, 32, 33, 49]
  | 15 => [2, 4, 7, 9, 31, 32, 33]
  | 16 => [2, 4, 7, 9, 31, 32, 33]
  | 17 => [4, 5]
  | _ => []
def mu_33 : List Nat := [9]
def in_33 : List Nat := [0, 1]
def ro_33 : Nat → List Nat
  | 11 => [12]
  | _ => []
theorem select_A (r : Rl) (hS : ShR r) (col : List UInt8) (H : Heap) (K : V → Heap → Prop) (hk : K (relE (selected r col).1 (selected r col).2) H) :
    ACalls Tryd.prog 33 [rlV r, .d (.s col)] H K := by
  have q1 := hS.ncols
  have q2 := hS.nrows
  have hp := places_one r.cols col
  by_cases hf : relFault r = 0
  · by_cases hc : txtAt r.cols col < 0
    · rw [if_pos hc] at hp
      rw [selected, if_pos hf, if_pos hc] at hk
      
      refine ACalls_of Tryd.func33 rfl in_33 (Nat.le_of_ble_eq_true rfl) ?_
      intro F hF
      simp (dsimp := false) only [go_sem, Nat.reduceAdd, Nat.reduceBEq, Nat.reduceEqDiff, Nat.reduceLT, Nat.reduceLeDiff, Nat.reduceMul, Int.reduceToNat, reduceCtorEq, ↓reduceIte, Tryd.ntmps33, Tryd.results33, ks_33, mu_33, ro_33, ti_ag3, ti_ag26, ti_ag33, ti_ag34, ti_ag36, ti_ag65, ti_fl26_0, ti_fl26_1, ti_fl36_0, ti_fl36_1, ti_hb19, ti_hb59, ti_hb60, ti_hb61, ti_pl36, ti_sb34, ti_sl33, ti_sl34, ti_sl59, ti_sl65, ti_sz26, ti_sz36, ti_zr26, ti_zr36, itD, itV, rlV, rowD, rlD, hf, hp, Option.getD_none, Option.isSome_none, in_33] at hF
      subst hF
      repeat' (first
        | with_reducible refine And.intro ?_ ?_
        | with_reducible intro _
        | with_reducible refine AWp_seq ?_
        | with_reducible refine AWp_block ?_
        | (with_reducible refine hKv _ _ (AWp_nop ?_); clear hKv Kv)
        | (with_reducible refine hKv _ _ ?_; clear hKv Kv; simp (dsimp := false) only [go_sem, Nat.reduceAdd, Nat.reduceBEq, Nat.reduceEqDiff, Nat.reduceLT, Nat.reduceLeDiff, Nat.reduceMul, Int.reduceToNat, reduceCtorEq, ↓reduceIte, Tryd.ntmps33, Tryd.results33, ks_33, mu_33, ro_33, ti_ag3, ti_ag26, ti_ag33, ti_ag34, ti_ag36, ti_ag65, ti_fl26_0, ti_fl26_1, ti_fl36_0, ti_fl36_1, ti_hb19, ti_hb59, ti_hb60, ti_hb61, ti_pl36, ti_sb34, ti_sl33, ti_sl34, ti_sl59, ti_sl65, ti_sz26, ti_sz36, ti_zr26, ti_zr36, itD, itV, rlV, rowD, rlD, hf, hp, Option.getD_none, Option.isSome_none])
        | (with_reducible refine hKA ?_; clear hKA hKB KA KB)
        | (with_reducible refine hKB ?_; clear hKA hKB KA KB)
        | (with_reducible refine AWp_regro mu_33 ks_33 ro_33 ?_; intro Kv hKv; simp (dsimp := false) only [go_sem, Nat.reduceAdd, Nat.reduceBEq, Nat.reduceEqDiff, Nat.reduceLT, Nat.reduceLeDiff, Nat.reduceMul, Int.reduceToNat, reduceCtorEq, ↓reduceIte, Tryd.ntmps33, Tryd.results33, ks_33, mu_33, ro_33, ti_ag3, ti_ag26, ti_ag33, ti_ag34, ti_ag36, ti_ag65, ti_fl26_0, ti_fl26_1, ti_fl36_0, ti_fl36_1, ti_hb19, ti_hb59, ti_hb60, ti_hb61, ti_pl36, ti_sb34, ti_sl33, ti_sl34, ti_sl59, ti_sl65, ti_sz26, ti_sz36, ti_zr26, ti_zr36, itD, itV, rlV, rowD, rlD, hf, hp, Option.getD_none, Option.isSome_none])
        | (with_reducible refine AWp_regC mu_33 ks_33 ?_; intro Kv hKv; simp (dsimp := false) only [go_sem, Nat.reduceAdd, Nat.reduceBEq, Nat.reduceEqDiff, Nat.reduceLT, Nat.reduceLeDiff, Nat.reduceMul, Int.reduceToNat, reduceCtorEq, ↓reduceIte, Tryd.ntmps33, Tryd.results33, ks_33, mu_33, ro_33, ti_ag3, ti_ag26, ti_ag33, ti_ag34, ti_ag36, ti_ag65, ti_fl26_0, ti_fl26_1, ti_fl36_0, ti_fl36_1, ti_hb19, ti_hb59, ti_hb60, ti_hb61, ti_pl36, ti_sb34, ti_sl33, ti_sl34, ti_sl59, ti_sl65, ti_sz26, ti_sz36, ti_zr26, ti_zr36, itD, itV, rlV, rowD, rlD, hf, hp, Option.getD_none, Option.isSome_none])
        | with_reducible refine AWp_skipN ?_
        | with_reducible refine AWp_exitO (by repeat (first | with_reducible exact Out.hit | with_reducible apply Out.thenA | with_reducible apply Out.out rfl)) ?_
        | (with_reducible refine AWp_retR ?_; simp (dsimp := false) only [go_sem, Nat.reduceAdd, Nat.reduceBEq, Nat.reduceEqDiff, Nat.reduceLT, Nat.reduceLeDiff, Nat.reduceMul, Int.reduceToNat, reduceCtorEq, ↓reduceIte, Tryd.ntmps33, Tryd.results33, ks_33, mu_33, ro_33, ti_ag3, ti_ag26, ti_ag33, ti_ag34, ti_ag36, ti_ag65, ti_fl26_0, ti_fl26_1, ti_fl36_0, ti_fl36_1, ti_hb19, ti_hb59, ti_hb60, ti_hb61, ti_pl36, ti_sb34, ti_sl33, ti_sl34, ti_sl59, ti_sl65, ti_sz26, ti_sz36, ti_zr26, ti_zr36, itD, itV, rlV, rowD, rlD, hf, hp, Option.getD_none, Option.isSome_none])
        | (with_reducible refine AWp_regE mu_33 ks_33 ?_; intro Kv hKv; simp (dsimp := false) only [go_sem, Nat.reduceAdd, Nat.reduceBEq, Nat.reduceEqDiff, Nat.reduceLT, Nat.reduceLeDiff, Nat.reduceMul, Int.reduceToNat, reduceCtorEq, ↓reduceIte, Tryd.ntmps33, Tryd.results33, ks_33, mu_33, ro_33, ti_ag3, ti_ag26, ti_ag33, ti_ag34, ti_ag36, ti_ag65, ti_fl26_0, ti_fl26_1, ti_fl36_0, ti_fl36_1, ti_hb19, ti_hb59, ti_hb60, ti_hb61, ti_pl36, ti_sb34, ti_sl33, ti_sl34, ti_sl59, ti_sl65, ti_sz26, ti_sz36, ti_zr26, ti_zr36, itD, itV, rlV, rowD, rlD, hf, hp, Option.getD_none, Option.isSome_none])
        | (refine AWp_condC rfl ?_; intro KA KB hKA hKB; try simp only [onB_true, onB_false, onB_dec, onB_ndec, onB_not, onB_and, onB_or])
        | (refine AWp_condA rfl ?_ ?_)
        | (refine relCheck_A r hS _ _ ?_; try simp (dsimp := false) only [go_sem, Nat.reduceAdd, Nat.reduceBEq, Nat.reduceEqDiff, Nat.reduceLT, Nat.reduceLeDiff, Nat.reduceMul, Int.reduceToNat, reduceCtorEq, ↓reduceIte, Tryd.ntmps33, Tryd.results33, ks_33, mu_33, ro_33, ti_ag3, ti_ag26, ti_ag33, ti_ag34, ti_ag36, ti_ag65, ti_fl26_0, ti_fl26_1, ti_fl36_0, ti_fl36_1, ti_hb19, ti_hb59, ti_hb60, ti_hb61, ti_pl36, ti_sb34, ti_sl33, ti_sl34, ti_sl59, ti_sl65, ti_sz26, ti_sz36, ti_zr26, ti_zr36, itD, itV, rlV, rowD, rlD, hf, hp, Option.getD_none, Option.isSome_none])
        | (refine places_A r hS [col] (by simp) _ _ ?_; try simp (dsimp := false) only [go_sem, Nat.reduceAdd, Nat.reduceBEq, Nat.reduceEqDiff, Nat.reduceLT, Nat.reduceLeDiff, Nat.reduceMul, Int.reduceToNat, reduceCtorEq, ↓reduceIte, Tryd.ntmps33, Tryd.results33, ks_33, mu_33, ro_33, ti_ag3, ti_ag26, ti_ag33, ti_ag34, ti_ag36, ti_ag65, ti_fl26_0, ti_fl26_1, ti_fl36_0, ti_fl36_1, ti_hb19, ti_hb59, ti_hb60, ti_hb61, ti_pl36, ti_sb34, ti_sl33, ti_sl34, ti_sl59, ti_sl65, ti_sz26, ti_sz36, ti_zr26, ti_zr36, itD, itV, rlV, rowD, rlD, hf, hp, Option.getD_none, Option.isSome_none])
        | with_reducible refine onB_of ?_ ?_
        | with_reducible rfl
        | omega)
      all_goals exact dropF hk (fz_rl0 _ _ _) (bel_relE _ _ _)
    · rw [if_neg hc] at hp
      rw [selected, if_pos hf, if_neg hc] at hk
      obtain ⟨_, hN, hall⟩ := relFault_ok hf
      have hlt := (fidx_lt (fun x => decide (col = x)) r.cols).2
      obtain ⟨c, hcc⟩ : ∃ c : Nat, txtAt r.cols col = c := ⟨(txtAt r.cols col).toNat, by omega⟩
      have hcl : c < r.cols.length := by
        have : txtAt r.cols col < r.cols.length := hlt
        omega
      rw [hcc] at hp hk
      simp only [Int.toNat_natCast] at hk
      
      refine ACalls_of Tryd.func33 rfl in_33 (Nat.le_of_ble_eq_true rfl) ?_
      intro F hF
      simp (dsimp := false) only [go_sem, Nat.reduceAdd, Nat.reduceBEq, Nat.reduceEqDiff, Nat.reduceLT, Nat.reduceLeDiff, Nat.reduceMul, Int.reduceToNat, reduceCtorEq, ↓reduceIte, Tryd.ntmps33, Tryd.results33, ks_33, mu_33, ro_33, ti_ag3, ti_ag26, ti_ag33, ti_ag34, ti_ag36, ti_ag65, ti_fl26_0, ti_fl26_1, ti_fl36_0, ti_fl36_1, ti_hb19, ti_hb59, ti_hb60, ti_hb61, ti_pl36, ti_sb34, ti_sl33, ti_sl34, ti_sl59, ti_sl65, ti_sz26, ti_sz36, ti_zr26, ti_zr36, itD, itV, rlV, rowD, rlD, hf, hp, Option.getD_some, Option.isSome_some, in_33] at hF
      subst hF
      repeat' (first
        | with_reducible refine And.intro ?_ ?_
        | with_reducible intro _
        | with_reducible refine AWp_seq ?_
        | with_reducible refine AWp_block ?_
        | (with_reducible refine hKv _ _ (AWp_nop ?_); clear hKv Kv)
        | (with_reducible refine hKv _ _ ?_; clear hKv Kv; simp (dsimp := false) only [go_sem, Nat.reduceAdd, Nat.reduceBEq, Nat.reduceEqDiff, Nat.reduceLT, Nat.reduceLeDiff, Nat.reduceMul, Int.reduceToNat, reduceCtorEq, ↓reduceIte, Tryd.ntmps33, Tryd.results33, ks_33, mu_33, ro_33, ti_ag3, ti_ag26, ti_ag33, ti_ag34, ti_ag36, ti_ag65, ti_fl26_0, ti_fl26_1, ti_fl36_0, ti_fl36_1, ti_hb19, ti_hb59, ti_hb60, ti_hb61, ti_pl36, ti_sb34, ti_sl33, ti_sl34, ti_sl59, ti_sl65, ti_sz26, ti_sz36, ti_zr26, ti_zr36, itD, itV, rlV, rowD, rlD, hf, hp, Option.getD_some, Option.isSome_some])
        | (with_reducible refine hKA ?_; clear hKA hKB KA KB)
        | (with_reducible refine hKB ?_; clear hKA hKB KA KB)
        | (with_reducible refine AWp_regro mu_33 ks_33 ro_33 ?_; intro Kv hKv; simp (dsimp := false) only [go_sem, Nat.reduceAdd, Nat.reduceBEq, Nat.reduceEqDiff, Nat.reduceLT, Nat.reduceLeDiff, Nat.reduceMul, Int.reduceToNat, reduceCtorEq, ↓reduceIte, Tryd.ntmps33, Tryd.results33, ks_33, mu_33, ro_33, ti_ag3, ti_ag26, ti_ag33, ti_ag34, ti_ag36, ti_ag65, ti_fl26_0, ti_fl26_1, ti_fl36_0, ti_fl36_1, ti_hb19, ti_hb59, ti_hb60, ti_hb61, ti_pl36, ti_sb34, ti_sl33, ti_sl34, ti_sl59, ti_sl65, ti_sz26, ti_sz36, ti_zr26, ti_zr36, itD, itV, rlV, rowD, rlD, hf, hp, Option.getD_some, Option.isSome_some])
        | (with_reducible refine AWp_regC mu_33 ks_33 ?_; intro Kv hKv; simp (dsimp := false) only [go_sem, Nat.reduceAdd, Nat.reduceBEq, Nat.reduceEqDiff, Nat.reduceLT, Nat.reduceLeDiff, Nat.reduceMul, Int.reduceToNat, reduceCtorEq, ↓reduceIte, Tryd.ntmps33, Tryd.results33, ks_33, mu_33, ro_33, ti_ag3, ti_ag26, ti_ag33, ti_ag34, ti_ag36, ti_ag65, ti_fl26_0, ti_fl26_1, ti_fl36_0, ti_fl36_1, ti_hb19, ti_hb59, ti_hb60, ti_hb61, ti_pl36, ti_sb34, ti_sl33, ti_sl34, ti_sl59, ti_sl65, ti_sz26, ti_sz36, ti_zr26, ti_zr36, itD, itV, rlV, rowD, rlD, hf, hp, Option.getD_some, Option.isSome_some])
        | with_reducible refine AWp_skipN ?_
        | with_reducible refine AWp_exitO (by repeat (first | with_reducible exact Out.hit | with_reducible apply Out.thenA | with_reducible apply Out.out rfl)) ?_
        | (with_reducible refine AWp_retR ?_; simp (dsimp := false) only [go_sem, Nat.reduceAdd, Nat.reduceBEq, Nat.reduceEqDiff, Nat.reduceLT, Nat.reduceLeDiff, Nat.reduceMul, Int.reduceToNat, reduceCtorEq, ↓reduceIte, Tryd.ntmps33, Tryd.results33, ks_33, mu_33, ro_33, ti_ag3, ti_ag26, ti_ag33, ti_ag34, ti_ag36, ti_ag65, ti_fl26_0, ti_fl26_1, ti_fl36_0, ti_fl36_1, ti_hb19, ti_hb59, ti_hb60, ti_hb61, ti_pl36, ti_sb34, ti_sl33, ti_sl34, ti_sl59, ti_sl65, ti_sz26, ti_sz36, ti_zr26, ti_zr36, itD, itV, rlV, rowD, rlD, hf, hp, Option.getD_some, Option.isSome_some])
        | (with_reducible refine AWp_regE mu_33 ks_33 ?_; intro Kv hKv; simp (dsimp := false) only [go_sem, Nat.reduceAdd, Nat.reduceBEq, Nat.reduceEqDiff, Nat.reduceLT, Nat.reduceLeDiff, Nat.reduceMul, Int.reduceToNat, reduceCtorEq, ↓reduceIte, Tryd.ntmps33, Tryd.results33, ks_33, mu_33, ro_33, ti_ag3, ti_ag26, ti_ag33, ti_ag34, ti_ag36, ti_ag65, ti_fl26_0, ti_fl26_1, ti_fl36_0, ti_fl36_1, ti_hb19, ti_hb59, ti_hb60, ti_hb61, ti_pl36, ti_sb34, ti_sl33, ti_sl34, ti_sl59, ti_sl65, ti_sz26, ti_sz36, ti_zr26, ti_zr36, itD, itV, rlV, rowD, rlD, hf, hp, Option.getD_some, Option.isSome_some])
        | (refine AWp_condC rfl ?_; intro KA KB hKA hKB; try simp only [onB_true, onB_false, onB_dec, onB_ndec, onB_not, onB_and, onB_or])
        | (refine AWp_condA rfl ?_ ?_)
        | (refine relCheck_A r hS _ _ ?_; try simp (dsimp := false) only [go_sem, Nat.reduceAdd, Nat.reduceBEq, Nat.reduceEqDiff, Nat.reduceLT, Nat.reduceLeDiff, Nat.reduceMul, Int.reduceToNat, reduceCtorEq, ↓reduceIte, Tryd.ntmps33, Tryd.results33, ks_33, mu_33, ro_33, ti_ag3, ti_ag26, ti_ag33, ti_ag34, ti_ag36, ti_ag65, ti_fl26_0, ti_fl26_1, ti_fl36_0, ti_fl36_1, ti_hb19, ti_hb59, ti_hb60, ti_hb61, ti_pl36, ti_sb34, ti_sl33, ti_sl34, ti_sl59, ti_sl65, ti_sz26, ti_sz36, ti_zr26, ti_zr36, itD, itV, rlV, rowD, rlD, hf, hp, Option.getD_some, Option.isSome_some])
        | (refine places_A r hS [col] (by simp) _ _ ?_; try simp (dsimp := false) only [go_sem, Nat.reduceAdd, Nat.reduceBEq, Nat.reduceEqDiff, Nat.reduceLT, Nat.reduceLeDiff, Nat.reduceMul, Int.reduceToNat, reduceCtorEq, ↓reduceIte, Tryd.ntmps33, Tryd.results33, ks_33, mu_33, ro_33, ti_ag3, ti_ag26, ti_ag33, ti_ag34, ti_ag36, ti_ag65, ti_fl26_0, ti_fl26_1, ti_fl36_0, ti_fl36_1, ti_hb19, ti_hb59, ti_hb60, ti_hb61, ti_pl36, ti_sb34, ti_sl33, ti_sl34, ti_sl59, ti_sl65, ti_sz26, ti_sz36, ti_zr26, ti_zr36, itD, itV, rlV, rowD, rlD, hf, hp, Option.getD_some, Option.isSome_some])
        | with_reducible refine onB_of ?_ ?_
        | with_reducible rfl
        | omega)
      refine AWp_whileH (fun y : Nat × List (List It) => y.1 ≤ r.rows.length ∧ y.2.length ≤ y.1 ∧ selGo c (r.rows.drop y.1) y.2 = selGo c r.rows [])
        (fun y => [(2, .rp (rlD r)), (4, .pt H.length 0 0 0), (7, .d (.sl 1 [intRow c])), (9, .os (H.length + 1) y.2.length), (31, .d (.sl 1 (r.rows.map rowD))), (32, .d (.i .i64 r.rows.length)), (33, .d (.i .i64 y.1))])
        (fun y => [.row 0 36 2 [[.d (.c (.slice none 0 0)), .d (.c (.slice none 0 0))]], .row y.2.length 65 1 (y.2.map rowC)]) (fun y => r.rows.length - y.1) (0, []) ⟨Nat.zero_le _, Nat.le_refl _, rfl⟩ rfl ?_ ?_ ?_
      · simp (dsimp := false) only [go_sem, Nat.reduceAdd, Nat.reduceBEq, Nat.reduceEqDiff, Nat.reduceLT, Nat.reduceLeDiff, Nat.reduceMul, Int.reduceToNat, reduceCtorEq, ↓reduceIte, Tryd.ntmps33, Tryd.results33, ks_33, mu_33, ro_33, ti_ag3, ti_ag26, ti_ag33, ti_ag34, ti_ag36, ti_ag65, ti_fl26_0, ti_fl26_1, ti_fl36_0, ti_fl36_1, ti_hb19, ti_hb59, ti_hb60, ti_hb61, ti_pl36, ti_sb34, ti_sl33, ti_sl34, ti_sl59, ti_sl65, ti_sz26, ti_sz36, ti_zr26, ti_zr36, itD, itV, rlV, rowD, rlD, hf, hp, Option.getD_some, Option.isSome_some]
        first | done | simp
      · rintro ⟨i, acc⟩ _ ob hob
        simp only [List.mem_cons, List.not_mem_nil, or_false] at hob
        rcases hob with rfl | rfl
        · exact bel_nil2 _ _ _
        · exact obBel_rows _ _ _ _ _
      rintro ⟨i, acc⟩ ⟨h1, h2, h3⟩
      simp only [] at h1 h2 h3 ⊢
      by_cases hiN : i < r.rows.length
      · obtain ⟨row, hrow⟩ : ∃ row, r.rows[i]? = some row := ⟨r.rows[i], List.getElem?_eq_getElem hiN⟩
        have hrl := (hall row (List.mem_of_getElem? hrow)).1
        have hrs := (hS.get hrow).1
        obtain ⟨x, hx⟩ : ∃ x, row[c]? = some x := ⟨row[c]'(by omega), List.getElem?_eq_getElem (by omega)⟩
        have hgx := rg_get hx
        rw [selGo_next hrow, hgx] at h3
        
        repeat' (first
          | with_reducible refine And.intro ?_ ?_
          | with_reducible intro _
          | with_reducible refine AWp_seq ?_
          | with_reducible refine AWp_block ?_
          | (with_reducible refine hKv _ _ (AWp_nop ?_); clear hKv Kv)
          | (with_reducible refine hKv _ _ ?_; clear hKv Kv; simp (dsimp := false) only [go_sem, Nat.reduceAdd, Nat.reduceBEq, Nat.reduceEqDiff, Nat.reduceLT, Nat.reduceLeDiff, Nat.reduceMul, Int.reduceToNat, reduceCtorEq, ↓reduceIte, Tryd.ntmps33, Tryd.results33, ks_33, mu_33, ro_33, ti_ag3, ti_ag26, ti_ag33, ti_ag34, ti_ag36, ti_ag65, ti_fl26_0, ti_fl26_1, ti_fl36_0, ti_fl36_1, ti_hb19, ti_hb59, ti_hb60, ti_hb61, ti_pl36, ti_sb34, ti_sl33, ti_sl34, ti_sl59, ti_sl65, ti_sz26, ti_sz36, ti_zr26, ti_zr36, itD, itV, rlV, rowD, rlD, hrow, hx])
          | (with_reducible refine hKA ?_; clear hKA hKB KA KB)
          | (with_reducible refine hKB ?_; clear hKA hKB KA KB)
          | (with_reducible refine AWp_regro mu_33 ks_33 ro_33 ?_; intro Kv hKv; simp (dsimp := false) only [go_sem, Nat.reduceAdd, Nat.reduceBEq, Nat.reduceEqDiff, Nat.reduceLT, Nat.reduceLeDiff, Nat.reduceMul, Int.reduceToNat, reduceCtorEq, ↓reduceIte, Tryd.ntmps33, Tryd.results33, ks_33, mu_33, ro_33, ti_ag3, ti_ag26, ti_ag33, ti_ag34, ti_ag36, ti_ag65, ti_fl26_0, ti_fl26_1, ti_fl36_0, ti_fl36_1, ti_hb19, ti_hb59, ti_hb60, ti_hb61, ti_pl36, ti_sb34, ti_sl33, ti_sl34, ti_sl59, ti_sl65, ti_sz26, ti_sz36, ti_zr26, ti_zr36, itD, itV, rlV, rowD, rlD, hrow, hx])
          | (with_reducible refine AWp_regC mu_33 ks_33 ?_; intro Kv hKv; simp (dsimp := false) only [go_sem, Nat.reduceAdd, Nat.reduceBEq, Nat.reduceEqDiff, Nat.reduceLT, Nat.reduceLeDiff, Nat.reduceMul, Int.reduceToNat, reduceCtorEq, ↓reduceIte, Tryd.ntmps33, Tryd.results33, ks_33, mu_33, ro_33, ti_ag3, ti_ag26, ti_ag33, ti_ag34, ti_ag36, ti_ag65, ti_fl26_0, ti_fl26_1, ti_fl36_0, ti_fl36_1, ti_hb19, ti_hb59, ti_hb60, ti_hb61, ti_pl36, ti_sb34, ti_sl33, ti_sl34, ti_sl59, ti_sl65, ti_sz26, ti_sz36, ti_zr26, ti_zr36, itD, itV, rlV, rowD, rlD, hrow, hx])
          | with_reducible refine AWp_skipN ?_
          | with_reducible refine AWp_exitO (by repeat (first | with_reducible exact Out.hit | with_reducible apply Out.thenA | with_reducible apply Out.out rfl)) ?_
          | (with_reducible refine AWp_retR ?_; simp (dsimp := false) only [go_sem, Nat.reduceAdd, Nat.reduceBEq, Nat.reduceEqDiff, Nat.reduceLT, Nat.reduceLeDiff, Nat.reduceMul, Int.reduceToNat, reduceCtorEq, ↓reduceIte, Tryd.ntmps33, Tryd.results33, ks_33, mu_33, ro_33, ti_ag3, ti_ag26, ti_ag33, ti_ag34, ti_ag36, ti_ag65, ti_fl26_0, ti_fl26_1, ti_fl36_0, ti_fl36_1, ti_hb19, ti_hb59, ti_hb60, ti_hb61, ti_pl36, ti_sb34, ti_sl33, ti_sl34, ti_sl59, ti_sl65, ti_sz26, ti_sz36, ti_zr26, ti_zr36, itD, itV, rlV, rowD, rlD, hrow, hx])
          | (with_reducible refine AWp_regE mu_33 ks_33 ?_; intro Kv hKv; simp (dsimp := false) only [go_sem, Nat.reduceAdd, Nat.reduceBEq, Nat.reduceEqDiff, Nat.reduceLT, Nat.reduceLeDiff, Nat.reduceMul, Int.reduceToNat, reduceCtorEq, ↓reduceIte, Tryd.ntmps33, Tryd.results33, ks_33, mu_33, ro_33, ti_ag3, ti_ag26, ti_ag33, ti_ag34, ti_ag36, ti_ag65, ti_fl26_0, ti_fl26_1, ti_fl36_0, ti_fl36_1, ti_hb19, ti_hb59, ti_hb60, ti_hb61, ti_pl36, ti_sb34, ti_sl33, ti_sl34, ti_sl59, ti_sl65, ti_sz26, ti_sz36, ti_zr26, ti_zr36, itD, itV, rlV, rowD, rlD, hrow, hx])
          | (refine AWp_condC rfl ?_; intro KA KB hKA hKB; try simp only [onB_true, onB_false, onB_dec, onB_ndec, onB_not, onB_and, onB_or])
          | (refine AWp_condA rfl ?_ ?_)
          | (refine cloneIts_A _ (by rw [List.length_map]; omega) _ _ ?_; try simp (dsimp := false) only [go_sem, Nat.reduceAdd, Nat.reduceBEq, Nat.reduceEqDiff, Nat.reduceLT, Nat.reduceLeDiff, Nat.reduceMul, Int.reduceToNat, reduceCtorEq, ↓reduceIte, Tryd.ntmps33, Tryd.results33, ks_33, mu_33, ro_33, ti_ag3, ti_ag26, ti_ag33, ti_ag34, ti_ag36, ti_ag65, ti_fl26_0, ti_fl26_1, ti_fl36_0, ti_fl36_1, ti_hb19, ti_hb59, ti_hb60, ti_hb61, ti_pl36, ti_sb34, ti_sl33, ti_sl34, ti_sl59, ti_sl65, ti_sz26, ti_sz36, ti_zr26, ti_zr36, itD, itV, rlV, rowD, rlD, hrow, hx])
          | with_reducible refine onB_of ?_ ?_
          | with_reducible rfl
          | omega)
        · refine closed_app fun ob hob => ?_
          simp only [List.mem_cons, List.not_mem_nil, or_false] at hob
          rcases hob with rfl | rfl
          · exact bel_nil2 _ _ _
          · exact obBel_rows _ _ _ _ _
        · rename_i g1 g2 g3
          rw [if_pos g2, if_pos g3] at h3
          exact ⟨(i + 1, acc ++ [row]), ⟨by show i + 1 ≤ r.rows.length; omega, by simp; omega, h3⟩, by show r.rows.length - (i + 1) < r.rows.length - i; omega, by simp [rowC], by omega, by simp, by omega, by simp⟩
        · rename_i g1 g2 g3
          rw [if_pos g2, if_neg g3] at h3
          exact ⟨(i + 1, acc), ⟨by show i + 1 ≤ r.rows.length; omega, by show acc.length ≤ i + 1; omega, h3⟩, by show r.rows.length - (i + 1) < r.rows.length - i; omega, rfl, by omega, rfl, by omega, by simp⟩
        · rename_i g1 g2
          rw [if_neg g2] at h3
          rw [← h3] at hk
          exact dropF hk (fz_rl0 _ _ _) (bel_relE _ _ _)
      · 
        repeat' (first
          | with_reducible refine And.intro ?_ ?_
          | with_reducible intro _
          | with_reducible refine AWp_seq ?_
          | with_reducible refine AWp_block ?_
          | (with_reducible refine hKv _ _ (AWp_nop ?_); clear hKv Kv)
          | (with_reducible refine hKv _ _ ?_; clear hKv Kv; simp (dsimp := false) only [go_sem, Nat.reduceAdd, Nat.reduceBEq, Nat.reduceEqDiff, Nat.reduceLT, Nat.reduceLeDiff, Nat.reduceMul, Int.reduceToNat, reduceCtorEq, ↓reduceIte, Tryd.ntmps33, Tryd.results33, ks_33, mu_33, ro_33, ti_ag3, ti_ag26, ti_ag33, ti_ag34, ti_ag36, ti_ag65, ti_fl26_0, ti_fl26_1, ti_fl36_0, ti_fl36_1, ti_hb19, ti_hb59, ti_hb60, ti_hb61, ti_pl36, ti_sb34, ti_sl33, ti_sl34, ti_sl59, ti_sl65, ti_sz26, ti_sz36, ti_zr26, ti_zr36, itD, itV, rlV, rowD, rlD, finQ])
          | (with_reducible refine hKA ?_; clear hKA hKB KA KB)
          | (with_reducible refine hKB ?_; clear hKA hKB KA KB)
          | (with_reducible refine AWp_regro mu_33 ks_33 ro_33 ?_; intro Kv hKv; simp (dsimp := false) only [go_sem, Nat.reduceAdd, Nat.reduceBEq, Nat.reduceEqDiff, Nat.reduceLT, Nat.reduceLeDiff, Nat.reduceMul, Int.reduceToNat, reduceCtorEq, ↓reduceIte, Tryd.ntmps33, Tryd.results33, ks_33, mu_33, ro_33, ti_ag3, ti_ag26, ti_ag33, ti_ag34, ti_ag36, ti_ag65, ti_fl26_0, ti_fl26_1, ti_fl36_0, ti_fl36_1, ti_hb19, ti_hb59, ti_hb60, ti_hb61, ti_pl36, ti_sb34, ti_sl33, ti_sl34, ti_sl59, ti_sl65, ti_sz26, ti_sz36, ti_zr26, ti_zr36, itD, itV, rlV, rowD, rlD, finQ])
          | (with_reducible refine AWp_regC mu_33 ks_33 ?_; intro Kv hKv; simp (dsimp := false) only [go_sem, Nat.reduceAdd, Nat.reduceBEq, Nat.reduceEqDiff, Nat.reduceLT, Nat.reduceLeDiff, Nat.reduceMul, Int.reduceToNat, reduceCtorEq, ↓reduceIte, Tryd.ntmps33, Tryd.results33, ks_33, mu_33, ro_33, ti_ag3, ti_ag26, ti_ag33, ti_ag34, ti_ag36, ti_ag65, ti_fl26_0, ti_fl26_1, ti_fl36_0, ti_fl36_1, ti_hb19, ti_hb59, ti_hb60, ti_hb61, ti_pl36, ti_sb34, ti_sl33, ti_sl34, ti_sl59, ti_sl65, ti_sz26, ti_sz36, ti_zr26, ti_zr36, itD, itV, rlV, rowD, rlD, finQ])
          | with_reducible refine AWp_skipN ?_
          | with_reducible refine AWp_exitO (by repeat (first | with_reducible exact Out.hit | with_reducible apply Out.thenA | with_reducible apply Out.out rfl)) ?_
          | (with_reducible refine AWp_retR ?_; simp (dsimp := false) only [go_sem, Nat.reduceAdd, Nat.reduceBEq, Nat.reduceEqDiff, Nat.reduceLT, Nat.reduceLeDiff, Nat.reduceMul, Int.reduceToNat, reduceCtorEq, ↓reduceIte, Tryd.ntmps33, Tryd.results33, ks_33, mu_33, ro_33, ti_ag3, ti_ag26, ti_ag33, ti_ag34, ti_ag36, ti_ag65, ti_fl26_0, ti_fl26_1, ti_fl36_0, ti_fl36_1, ti_hb19, ti_hb59, ti_hb60, ti_hb61, ti_pl36, ti_sb34, ti_sl33, ti_sl34, ti_sl59, ti_sl65, ti_sz26, ti_sz36, ti_zr26, ti_zr36, itD, itV, rlV, rowD, rlD, finQ])
          | (with_reducible refine AWp_regE mu_33 ks_33 ?_; intro Kv hKv; simp (dsimp := false) only [go_sem, Nat.reduceAdd, Nat.reduceBEq, Nat.reduceEqDiff, Nat.reduceLT, Nat.reduceLeDiff, Nat.reduceMul, Int.reduceToNat, reduceCtorEq, ↓reduceIte, Tryd.ntmps33, Tryd.results33, ks_33, mu_33, ro_33, ti_ag3, ti_ag26, ti_ag33, ti_ag34, ti_ag36, ti_ag65, ti_fl26_0, ti_fl26_1, ti_fl36_0, ti_fl36_1, ti_hb19, ti_hb59, ti_hb60, ti_hb61, ti_pl36, ti_sb34, ti_sl33, ti_sl34, ti_sl59, ti_sl65, ti_sz26, ti_sz36, ti_zr26, ti_zr36, itD, itV, rlV, rowD, rlD, finQ])
          | (refine AWp_condC rfl ?_; intro KA KB hKA hKB; try simp only [onB_true, onB_false, onB_dec, onB_ndec, onB_not, onB_and, onB_or])
          | (refine AWp_condA rfl ?_ ?_)
          | (refine finishedO_A r.cols _ _ _ _ q1 hS.col (by rw [List.length_map]; omega) _ _ ((get_appk _ _ 1).trans rfl) ?_; try simp (dsimp := false) only [go_sem, Nat.reduceAdd, Nat.reduceBEq, Nat.reduceEqDiff, Nat.reduceLT, Nat.reduceLeDiff, Nat.reduceMul, Int.reduceToNat, reduceCtorEq, ↓reduceIte, Tryd.ntmps33, Tryd.results33, ks_33, mu_33, ro_33, ti_ag3, ti_ag26, ti_ag33, ti_ag34, ti_ag36, ti_ag65, ti_fl26_0, ti_fl26_1, ti_fl36_0, ti_fl36_1, ti_hb19, ti_hb59, ti_hb60, ti_hb61, ti_pl36, ti_sb34, ti_sl33, ti_sl34, ti_sl59, ti_sl65, ti_sz26, ti_sz36, ti_zr26, ti_zr36, itD, itV, rlV, rowD, rlD, finQ])
          | with_reducible refine onB_of ?_ ?_
          | with_reducible rfl
          | omega)
        all_goals
          have e : i = r.rows.length := by omega
          subst e
          rw [List.drop_length, selGo] at h3
          rw [← h3] at hk
        · exact fin_ret hk (by assumption) (by omega) (get_appk _ _ 1)
        · exact fin_bad hk rfl (by assumption)
  · rw [selected, if_neg hf] at hk
    
    refine ACalls_of Tryd.func33 rfl in_33 (Nat.le_of_ble_eq_true rfl) ?_
    intro F hF
    simp (dsimp := false) only [go_sem, Nat.reduceAdd, Nat.reduceBEq, Nat.reduceEqDiff, Nat.reduceLT, Nat.reduceLeDiff, Nat.reduceMul, Int.reduceToNat, reduceCtorEq, ↓reduceIte, Tryd.ntmps33, Tryd.results33, ks_33, mu_33, ro_33, ti_ag3, ti_ag26, ti_ag33, ti_ag34, ti_ag36, ti_ag65, ti_fl26_0, ti_fl26_1, ti_fl36_0, ti_fl36_1, ti_hb19, ti_hb59, ti_hb60, ti_hb61, ti_pl36, ti_sb34, ti_sl33, ti_sl34, ti_sl59, ti_sl65, ti_sz26, ti_sz36, ti_zr26, ti_zr36, itD, itV, rlV, rowD, rlD, hf, in_33] at hF
    subst hF
    repeat' (first
      | with_reducible refine And.intro ?_ ?_
      | with_reducible intro _
      | with_reducible refine AWp_seq ?_
      | with_reducible refine AWp_block ?_
      | (with_reducible refine hKv _ _ (AWp_nop ?_); clear hKv Kv)
      | (with_reducible refine hKv _ _ ?_; clear hKv Kv; simp (dsimp := false) only [go_sem, Nat.reduceAdd, Nat.reduceBEq, Nat.reduceEqDiff, Nat.reduceLT, Nat.reduceLeDiff, Nat.reduceMul, Int.reduceToNat, reduceCtorEq, ↓reduceIte, Tryd.ntmps33, Tryd.results33, ks_33, mu_33, ro_33, ti_ag3, ti_ag26, ti_ag33, ti_ag34, ti_ag36, ti_ag65, ti_fl26_0, ti_fl26_1, ti_fl36_0, ti_fl36_1, ti_hb19, ti_hb59, ti_hb60, ti_hb61, ti_pl36, ti_sb34, ti_sl33, ti_sl34, ti_sl59, ti_sl65, ti_sz26, ti_sz36, ti_zr26, ti_zr36, itD, itV, rlV, rowD, rlD, hf])
      | (with_reducible refine hKA ?_; clear hKA hKB KA KB)
      | (with_reducible refine hKB ?_; clear hKA hKB KA KB)
      | (with_reducible refine AWp_regro mu_33 ks_33 ro_33 ?_; intro Kv hKv; simp (dsimp := false) only [go_sem, Nat.reduceAdd, Nat.reduceBEq, Nat.reduceEqDiff, Nat.reduceLT, Nat.reduceLeDiff, Nat.reduceMul, Int.reduceToNat, reduceCtorEq, ↓reduceIte, Tryd.ntmps33, Tryd.results33, ks_33, mu_33, ro_33, ti_ag3, ti_ag26, ti_ag33, ti_ag34, ti_ag36, ti_ag65, ti_fl26_0, ti_fl26_1, ti_fl36_0, ti_fl36_1, ti_hb19, ti_hb59, ti_hb60, ti_hb61, ti_pl36, ti_sb34, ti_sl33, ti_sl34, ti_sl59, ti_sl65, ti_sz26, ti_sz36, ti_zr26, ti_zr36, itD, itV, rlV, rowD, rlD, hf])
      | (with_reducible refine AWp_regC mu_33 ks_33 ?_; intro Kv hKv; simp (dsimp := false) only [go_sem, Nat.reduceAdd, Nat.reduceBEq, Nat.reduceEqDiff, Nat.reduceLT, Nat.reduceLeDiff, Nat.reduceMul, Int.reduceToNat, reduceCtorEq, ↓reduceIte, Tryd.ntmps33, Tryd.results33, ks_33, mu_33, ro_33, ti_ag3, ti_ag26, ti_ag33, ti_ag34, ti_ag36, ti_ag65, ti_fl26_0, ti_fl26_1, ti_fl36_0, ti_fl36_1, ti_hb19, ti_hb59, ti_hb60, ti_hb61, ti_pl36, ti_sb34, ti_sl33, ti_sl34, ti_sl59, ti_sl65, ti_sz26, ti_sz36, ti_zr26, ti_zr36, itD, itV, rlV, rowD, rlD, hf])
      | with_reducible refine AWp_skipN ?_
      | with_reducible refine AWp_exitO (by repeat (first | with_reducible exact Out.hit | with_reducible apply Out.thenA | with_reducible apply Out.out rfl)) ?_
      | (with_reducible refine AWp_retR ?_; simp (dsimp := false) only [go_sem, Nat.reduceAdd, Nat.reduceBEq, Nat.reduceEqDiff, Nat.reduceLT, Nat.reduceLeDiff, Nat.reduceMul, Int.reduceToNat, reduceCtorEq, ↓reduceIte, Tryd.ntmps33, Tryd.results33, ks_33, mu_33, ro_33, ti_ag3, ti_ag26, ti_ag33, ti_ag34, ti_ag36, ti_ag65, ti_fl26_0, ti_fl26_1, ti_fl36_0, ti_fl36_1, ti_hb19, ti_hb59, ti_hb60, ti_hb61, ti_pl36, ti_sb34, ti_sl33, ti_sl34, ti_sl59, ti_sl65, ti_sz26, ti_sz36, ti_zr26, ti_zr36, itD, itV, rlV, rowD, rlD, hf])
      | (with_reducible refine AWp_regE mu_33 ks_33 ?_; intro Kv hKv; simp (dsimp := false) only [go_sem, Nat.reduceAdd, Nat.reduceBEq, Nat.reduceEqDiff, Nat.reduceLT, Nat.reduceLeDiff, Nat.reduceMul, Int.reduceToNat, reduceCtorEq, ↓reduceIte, Tryd.ntmps33, Tryd.results33, ks_33, mu_33, ro_33, ti_ag3, ti_ag26, ti_ag33, ti_ag34, ti_ag36, ti_ag65, ti_fl26_0, ti_fl26_1, ti_fl36_0, ti_fl36_1, ti_hb19, ti_hb59, ti_hb60, ti_hb61, ti_pl36, ti_sb34, ti_sl33, ti_sl34, ti_sl59, ti_sl65, ti_sz26, ti_sz36, ti_zr26, ti_zr36, itD, itV, rlV, rowD, rlD, hf])
      | (refine AWp_condC rfl ?_; intro KA KB hKA hKB; try simp only [onB_true, onB_false, onB_dec, onB_ndec, onB_not, onB_and, onB_or])
      | (refine AWp_condA rfl ?_ ?_)
      | (refine relCheck_A r hS _ _ ?_; try simp (dsimp := false) only [go_sem, Nat.reduceAdd, Nat.reduceBEq, Nat.reduceEqDiff, Nat.reduceLT, Nat.reduceLeDiff, Nat.reduceMul, Int.reduceToNat, reduceCtorEq, ↓reduceIte, Tryd.ntmps33, Tryd.results33, ks_33, mu_33, ro_33, ti_ag3, ti_ag26, ti_ag33, ti_ag34, ti_ag36, ti_ag65, ti_fl26_0, ti_fl26_1, ti_fl36_0, ti_fl36_1, ti_hb19, ti_hb59, ti_hb60, ti_hb61, ti_pl36, ti_sb34, ti_sl33, ti_sl34, ti_sl59, ti_sl65, ti_sz26, ti_sz36, ti_zr26, ti_zr36, itD, itV, rlV, rowD, rlD, hf])
      | with_reducible refine onB_of ?_ ?_
      | with_reducible rfl
      | omega)
    all_goals exact dropF hk (fz_rl0 _ _ _) (bel_relE _ _ _)

/- the live slots of pleacher/pleacherref.SelectedOf -/
def ks_34 : Nat → List Nat
  | 0 => [1, 2, 4]
  | 1 => [1, 2, 4, 6]
  | 2 => [2, 4, 6, 7]
  | 3 => [2, 4, 6, 7, 21]
  | 4 => [2, 4, 6, 7]
  | 5 => [2, 4, 6, 7, 23]
  | 6 => [4, 5]
  | 7 => [2, 4, 7, 8]
  | 8 => [2, 4, 7, 8, 9]
  | 9 => [2, 4, 7, 8, 9, 30]
  | 10 => [2, 4, 7, 8, 9]
  | 11 => [2, 4, 7, 8, 9, 42]
  | 12 => [4, 5]
  | 13 => [2, 4, 7, 8, 9, 53]
  | 14 => [2, 4, 7, 8, 9, 10]
  | 15 => [2, 4, 7, 8, 9]
  | 16 => [4, 5]
  | _ => []
def mu_34 : List Nat := [8]
def in_34 : List Nat := [0, 1]
theorem selectedOf_A (r : Rl) (hS : ShR r) (col : List UInt8) (H : Heap) (K : V → Heap → Prop) (hk : K (relE (selected r col).1 (selected r col).2) H) :
    ACalls Tryd.prog 34 [rlV r, .d (.s col)] H K := by
  have q1 := hS.ncols
  have q2 := hS.nrows
  have hp := places_one r.cols col
  by_cases hf : relFault r = 0
  · by_cases hc : txtAt r.cols col < 0
    · rw [if_pos hc] at hp
      rw [selected, if_pos hf, if_pos hc] at hk
      
      refine ACalls_of Tryd.func34 rfl in_34 (Nat.le_of_ble_eq_true rfl) ?_
      intro F hF
      simp (dsimp := false) only [go_sem, Nat.reduceAdd, Nat.reduceBEq, Nat.reduceEqDiff, Nat.reduceLT, Nat.reduceLeDiff, Nat.reduceMul, Int.reduceToNat, reduceCtorEq, ↓reduceIte, Tryd.ntmps34, Tryd.results34, ks_34, mu_34, ti_ag3, ti_ag33, ti_ag34, ti_ag36, ti_ag65, ti_fl26_0, ti_fl26_1, ti_fl36_0, ti_fl36_1, ti_hb21, ti_hb62, ti_hb63, ti_hb64, ti_pl36, ti_sb34, ti_sl34, ti_sl65, ti_sz36, ti_zr36, itD, itV, rlV, rowD, rlD, hf, hc, Nat.zero_ne_one, in_34] at hF
      subst hF
      repeat' (first
        | with_reducible refine And.intro ?_ ?_
        | with_reducible intro _
        | with_reducible refine AWp_seq ?_
        | with_reducible refine AWp_block ?_
        | (with_reducible refine hKv _ _ (AWp_nop ?_); clear hKv Kv)
        | (with_reducible refine hKv _ _ ?_; clear hKv Kv; simp (dsimp := false) only [go_sem, Nat.reduceAdd, Nat.reduceBEq, Nat.reduceEqDiff, Nat.reduceLT, Nat.reduceLeDiff, Nat.reduceMul, Int.reduceToNat, reduceCtorEq, ↓reduceIte, Tryd.ntmps34, Tryd.results34, ks_34, mu_34, ti_ag3, ti_ag33, ti_ag34, ti_ag36, ti_ag65, ti_fl26_0, ti_fl26_1, ti_fl36_0, ti_fl36_1, ti_hb21, ti_hb62, ti_hb63, ti_hb64, ti_pl36, ti_sb34, ti_sl34, ti_sl65, ti_sz36, ti_zr36, itD, itV, rlV, rowD, rlD, hf, hc, Nat.zero_ne_one])
        | (with_reducible refine hKA ?_; clear hKA hKB KA KB)
        | (with_reducible refine hKB ?_; clear hKA hKB KA KB)
        | (with_reducible refine AWp_regC mu_34 ks_34 ?_; intro Kv hKv; simp (dsimp := false) only [go_sem, Nat.reduceAdd, Nat.reduceBEq, Nat.reduceEqDiff, Nat.reduceLT, Nat.reduceLeDiff, Nat.reduceMul, Int.reduceToNat, reduceCtorEq, ↓reduceIte, Tryd.ntmps34, Tryd.results34, ks_34, mu_34, ti_ag3, ti_ag33, ti_ag34, ti_ag36, ti_ag65, ti_fl26_0, ti_fl26_1, ti_fl36_0, ti_fl36_1, ti_hb21, ti_hb62, ti_hb63, ti_hb64, ti_pl36, ti_sb34, ti_sl34, ti_sl65, ti_sz36, ti_zr36, itD, itV, rlV, rowD, rlD, hf, hc, Nat.zero_ne_one])
        | with_reducible refine AWp_skipN ?_
        | with_reducible refine AWp_exitO (by repeat (first | with_reducible exact Out.hit | with_reducible apply Out.thenA | with_reducible apply Out.out rfl)) ?_
        | (with_reducible refine AWp_retR ?_; simp (dsimp := false) only [go_sem, Nat.reduceAdd, Nat.reduceBEq, Nat.reduceEqDiff, Nat.reduceLT, Nat.reduceLeDiff, Nat.reduceMul, Int.reduceToNat, reduceCtorEq, ↓reduceIte, Tryd.ntmps34, Tryd.results34, ks_34, mu_34, ti_ag3, ti_ag33, ti_ag34, ti_ag36, ti_ag65, ti_fl26_0, ti_fl26_1, ti_fl36_0, ti_fl36_1, ti_hb21, ti_hb62, ti_hb63, ti_hb64, ti_pl36, ti_sb34, ti_sl34, ti_sl65, ti_sz36, ti_zr36, itD, itV, rlV, rowD, rlD, hf, hc, Nat.zero_ne_one])
        | (with_reducible refine AWp_regE mu_34 ks_34 ?_; intro Kv hKv; simp (dsimp := false) only [go_sem, Nat.reduceAdd, Nat.reduceBEq, Nat.reduceEqDiff, Nat.reduceLT, Nat.reduceLeDiff, Nat.reduceMul, Int.reduceToNat, reduceCtorEq, ↓reduceIte, Tryd.ntmps34, Tryd.results34, ks_34, mu_34, ti_ag3, ti_ag33, ti_ag34, ti_ag36, ti_ag65, ti_fl26_0, ti_fl26_1, ti_fl36_0, ti_fl36_1, ti_hb21, ti_hb62, ti_hb63, ti_hb64, ti_pl36, ti_sb34, ti_sl34, ti_sl65, ti_sz36, ti_zr36, itD, itV, rlV, rowD, rlD, hf, hc, Nat.zero_ne_one])
        | (refine AWp_condC rfl ?_; intro KA KB hKA hKB; try simp only [onB_true, onB_false, onB_dec, onB_ndec, onB_not, onB_and, onB_or])
        | (refine AWp_condA rfl ?_ ?_)
        | (refine relFault_A r hS _ _ ?_; try simp (dsimp := false) only [go_sem, Nat.reduceAdd, Nat.reduceBEq, Nat.reduceEqDiff, Nat.reduceLT, Nat.reduceLeDiff, Nat.reduceMul, Int.reduceToNat, reduceCtorEq, ↓reduceIte, Tryd.ntmps34, Tryd.results34, ks_34, mu_34, ti_ag3, ti_ag33, ti_ag34, ti_ag36, ti_ag65, ti_fl26_0, ti_fl26_1, ti_fl36_0, ti_fl36_1, ti_hb21, ti_hb62, ti_hb63, ti_hb64, ti_pl36, ti_sb34, ti_sl34, ti_sl65, ti_sz36, ti_zr36, itD, itV, rlV, rowD, rlD, hf, hc, Nat.zero_ne_one])
        | (refine colAt_A r hS col _ _ ?_; try simp (dsimp := false) only [go_sem, Nat.reduceAdd, Nat.reduceBEq, Nat.reduceEqDiff, Nat.reduceLT, Nat.reduceLeDiff, Nat.reduceMul, Int.reduceToNat, reduceCtorEq, ↓reduceIte, Tryd.ntmps34, Tryd.results34, ks_34, mu_34, ti_ag3, ti_ag33, ti_ag34, ti_ag36, ti_ag65, ti_fl26_0, ti_fl26_1, ti_fl36_0, ti_fl36_1, ti_hb21, ti_hb62, ti_hb63, ti_hb64, ti_pl36, ti_sb34, ti_sl34, ti_sl65, ti_sz36, ti_zr36, itD, itV, rlV, rowD, rlD, hf, hc, Nat.zero_ne_one])
        | with_reducible refine onB_of ?_ ?_
        | with_reducible rfl
        | omega)
      all_goals exact dropF hk (fz_rl0 _ _ _) (bel_relE _ _ _)
    · rw [if_neg hc] at hp
      rw [selected, if_pos hf, if_neg hc] at hk
      obtain ⟨_, hN, hall⟩ := relFault_ok hf
      have hlt := (fidx_lt (fun x => decide (col = x)) r.cols).2
      obtain ⟨c, hcc⟩ : ∃ c : Nat, txtAt r.cols col = c := ⟨(txtAt r.cols col).toNat, by omega⟩
      have hcl : c < r.cols.length := by
        have : txtAt r.cols col < r.cols.length := hlt
        omega
      rw [hcc] at hp hk
      simp only [Int.toNat_natCast] at hk
      
      refine ACalls_of Tryd.func34 rfl in_34 (Nat.le_of_ble_eq_true rfl) ?_
      intro F hF
      simp (dsimp := false) only [go_sem, Nat.reduceAdd, Nat.reduceBEq, Nat.reduceEqDiff, Nat.reduceLT, Nat.reduceLeDiff, Nat.reduceMul, Int.reduceToNat, reduceCtorEq, ↓reduceIte, Tryd.ntmps34, Tryd.results34, ks_34, mu_34, ti_ag3, ti_ag33, ti_ag34, ti_ag36, ti_ag65, ti_fl26_0, ti_fl26_1, ti_fl36_0, ti_fl36_1, ti_hb21, ti_hb62, ti_hb63, ti_hb64, ti_pl36, ti_sb34, ti_sl34, ti_sl65, ti_sz36, ti_zr36, itD, itV, rlV, rowD, rlD, hf, hcc, in_34] at hF
      subst hF
      repeat' (first
        | with_reducible refine And.intro ?_ ?_
        | with_reducible intro _
        | with_reducible refine AWp_seq ?_
        | with_reducible refine AWp_block ?_
        | (with_reducible refine hKv _ _ (AWp_nop ?_); clear hKv Kv)
        | (with_reducible refine hKv _ _ ?_; clear hKv Kv; simp (dsimp := false) only [go_sem, Nat.reduceAdd, Nat.reduceBEq, Nat.reduceEqDiff, Nat.reduceLT, Nat.reduceLeDiff, Nat.reduceMul, Int.reduceToNat, reduceCtorEq, ↓reduceIte, Tryd.ntmps34, Tryd.results34, ks_34, mu_34, ti_ag3, ti_ag33, ti_ag34, ti_ag36, ti_ag65, ti_fl26_0, ti_fl26_1, ti_fl36_0, ti_fl36_1, ti_hb21, ti_hb62, ti_hb63, ti_hb64, ti_pl36, ti_sb34, ti_sl34, ti_sl65, ti_sz36, ti_zr36, itD, itV, rlV, rowD, rlD, hf, hcc])
        | (with_reducible refine hKA ?_; clear hKA hKB KA KB)
        | (with_reducible refine hKB ?_; clear hKA hKB KA KB)
        | (with_reducible refine AWp_regC mu_34 ks_34 ?_; intro Kv hKv; simp (dsimp := false) only [go_sem, Nat.reduceAdd, Nat.reduceBEq, Nat.reduceEqDiff, Nat.reduceLT, Nat.reduceLeDiff, Nat.reduceMul, Int.reduceToNat, reduceCtorEq, ↓reduceIte, Tryd.ntmps34, Tryd.results34, ks_34, mu_34, ti_ag3, ti_ag33, ti_ag34, ti_ag36, ti_ag65, ti_fl26_0, ti_fl26_1, ti_fl36_0, ti_fl36_1, ti_hb21, ti_hb62, ti_hb63, ti_hb64, ti_pl36, ti_sb34, ti_sl34, ti_sl65, ti_sz36, ti_zr36, itD, itV, rlV, rowD, rlD, hf, hcc])
        | with_reducible refine AWp_skipN ?_
        | with_reducible refine AWp_exitO (by repeat (first | with_reducible exact Out.hit | with_reducible apply Out.thenA | with_reducible apply Out.out rfl)) ?_
        | (with_reducible refine AWp_retR ?_; simp (dsimp := false) only [go_sem, Nat.reduceAdd, Nat.reduceBEq, Nat.reduceEqDiff, Nat.reduceLT, Nat.reduceLeDiff, Nat.reduceMul, Int.reduceToNat, reduceCtorEq, ↓reduceIte, Tryd.ntmps34, Tryd.results34, ks_34, mu_34, ti_ag3, ti_ag33, ti_ag34, ti_ag36, ti_ag65, ti_fl26_0, ti_fl26_1, ti_fl36_0, ti_fl36_1, ti_hb21, ti_hb62, ti_hb63, ti_hb64, ti_pl36, ti_sb34, ti_sl34, ti_sl65, ti_sz36, ti_zr36, itD, itV, rlV, rowD, rlD, hf, hcc])
        | (with_reducible refine AWp_regE mu_34 ks_34 ?_; intro Kv hKv; simp (dsimp := false) only [go_sem, Nat.reduceAdd, Nat.reduceBEq, Nat.reduceEqDiff, Nat.reduceLT, Nat.reduceLeDiff, Nat.reduceMul, Int.reduceToNat, reduceCtorEq, ↓reduceIte, Tryd.ntmps34, Tryd.results34, ks_34, mu_34, ti_ag3, ti_ag33, ti_ag34, ti_ag36, ti_ag65, ti_fl26_0, ti_fl26_1, ti_fl36_0, ti_fl36_1, ti_hb21, ti_hb62, ti_hb63, ti_hb64, ti_pl36, ti_sb34, ti_sl34, ti_sl65, ti_sz36, ti_zr36, itD, itV, rlV, rowD, rlD, hf, hcc])
        | (refine AWp_condC rfl ?_; intro KA KB hKA hKB; try simp only [onB_true, onB_false, onB_dec, onB_ndec, onB_not, onB_and, onB_or])
        | (refine AWp_condA rfl ?_ ?_)
        | (refine relFault_A r hS _ _ ?_; try simp (dsimp := false) only [go_sem, Nat.reduceAdd, Nat.reduceBEq, Nat.reduceEqDiff, Nat.reduceLT, Nat.reduceLeDiff, Nat.reduceMul, Int.reduceToNat, reduceCtorEq, ↓reduceIte, Tryd.ntmps34, Tryd.results34, ks_34, mu_34, ti_ag3, ti_ag33, ti_ag34, ti_ag36, ti_ag65, ti_fl26_0, ti_fl26_1, ti_fl36_0, ti_fl36_1, ti_hb21, ti_hb62, ti_hb63, ti_hb64, ti_pl36, ti_sb34, ti_sl34, ti_sl65, ti_sz36, ti_zr36, itD, itV, rlV, rowD, rlD, hf, hcc])
        | (refine colAt_A r hS col _ _ ?_; try simp (dsimp := false) only [go_sem, Nat.reduceAdd, Nat.reduceBEq, Nat.reduceEqDiff, Nat.reduceLT, Nat.reduceLeDiff, Nat.reduceMul, Int.reduceToNat, reduceCtorEq, ↓reduceIte, Tryd.ntmps34, Tryd.results34, ks_34, mu_34, ti_ag3, ti_ag33, ti_ag34, ti_ag36, ti_ag65, ti_fl26_0, ti_fl26_1, ti_fl36_0, ti_fl36_1, ti_hb21, ti_hb62, ti_hb63, ti_hb64, ti_pl36, ti_sb34, ti_sl34, ti_sl65, ti_sz36, ti_zr36, itD, itV, rlV, rowD, rlD, hf, hcc])
        | with_reducible refine onB_of ?_ ?_
        | with_reducible rfl
        | omega)
      refine AWp_whileH (fun y : Nat × List (List It) => y.1 ≤ r.rows.length ∧ y.2.length ≤ y.1 ∧ selGo c (r.rows.drop y.1) y.2 = selGo c r.rows [])
        (fun y => [(2, .rp (rlD r)), (4, .pt H.length 0 0 0), (7, .d (.i .i64 c)), (8, .os (H.length + 1) y.2.length), (9, .d (.i .i64 y.1))])
        (fun y => [.row 0 36 2 [[.d (.c (.slice none 0 0)), .d (.c (.slice none 0 0))]], .row y.2.length 65 1 (y.2.map rowC)]) (fun y => r.rows.length - y.1) (0, []) ⟨Nat.zero_le _, Nat.le_refl _, rfl⟩ rfl ?_ ?_ ?_
      · simp (dsimp := false) only [go_sem, Nat.reduceAdd, Nat.reduceBEq, Nat.reduceEqDiff, Nat.reduceLT, Nat.reduceLeDiff, Nat.reduceMul, Int.reduceToNat, reduceCtorEq, ↓reduceIte, Tryd.ntmps34, Tryd.results34, ks_34, mu_34, ti_ag3, ti_ag33, ti_ag34, ti_ag36, ti_ag65, ti_fl26_0, ti_fl26_1, ti_fl36_0, ti_fl36_1, ti_hb21, ti_hb62, ti_hb63, ti_hb64, ti_pl36, ti_sb34, ti_sl34, ti_sl65, ti_sz36, ti_zr36, itD, itV, rlV, rowD, rlD, hf, hcc]
        first | done | simp
      · rintro ⟨i, acc⟩ _ ob hob
        simp only [List.mem_cons, List.not_mem_nil, or_false] at hob
        rcases hob with rfl | rfl
        · exact bel_nil2 _ _ _
        · exact obBel_rows _ _ _ _ _
      rintro ⟨i, acc⟩ ⟨h1, h2, h3⟩
      simp only [] at h1 h2 h3 ⊢
      by_cases hiN : i < r.rows.length
      · obtain ⟨row, hrow⟩ : ∃ row, r.rows[i]? = some row := ⟨r.rows[i], List.getElem?_eq_getElem hiN⟩
        have hrl := (hall row (List.mem_of_getElem? hrow)).1
        have hrs := (hS.get hrow).1
        obtain ⟨x, hx⟩ : ∃ x, row[c]? = some x := ⟨row[c]'(by omega), List.getElem?_eq_getElem (by omega)⟩
        have hgx := rg_get hx
        rw [selGo_next hrow, hgx] at h3
        
        repeat' (first
          | with_reducible refine And.intro ?_ ?_
          | with_reducible intro _
          | with_reducible refine AWp_seq ?_
          | with_reducible refine AWp_block ?_
          | (with_reducible refine hKv _ _ (AWp_nop ?_); clear hKv Kv)
          | (with_reducible refine hKv _ _ ?_; clear hKv Kv; simp (dsimp := false) only [go_sem, Nat.reduceAdd, Nat.reduceBEq, Nat.reduceEqDiff, Nat.reduceLT, Nat.reduceLeDiff, Nat.reduceMul, Int.reduceToNat, reduceCtorEq, ↓reduceIte, Tryd.ntmps34, Tryd.results34, ks_34, mu_34, ti_ag3, ti_ag33, ti_ag34, ti_ag36, ti_ag65, ti_fl26_0, ti_fl26_1, ti_fl36_0, ti_fl36_1, ti_hb21, ti_hb62, ti_hb63, ti_hb64, ti_pl36, ti_sb34, ti_sl34, ti_sl65, ti_sz36, ti_zr36, itD, itV, rlV, rowD, rlD, hrow, hx])
          | (with_reducible refine hKA ?_; clear hKA hKB KA KB)
          | (with_reducible refine hKB ?_; clear hKA hKB KA KB)
          | (with_reducible refine AWp_regC mu_34 ks_34 ?_; intro Kv hKv; simp (dsimp := false) only [go_sem, Nat.reduceAdd, Nat.reduceBEq, Nat.reduceEqDiff, Nat.reduceLT, Nat.reduceLeDiff, Nat.reduceMul, Int.reduceToNat, reduceCtorEq, ↓reduceIte, Tryd.ntmps34, Tryd.results34, ks_34, mu_34, ti_ag3, ti_ag33, ti_ag34, ti_ag36, ti_ag65, ti_fl26_0, ti_fl26_1, ti_fl36_0, ti_fl36_1, ti_hb21, ti_hb62, ti_hb63, ti_hb64, ti_pl36, ti_sb34, ti_sl34, ti_sl65, ti_sz36, ti_zr36, itD, itV, rlV, rowD, rlD, hrow, hx])
          | with_reducible refine AWp_skipN ?_
          | with_reducible refine AWp_exitO (by repeat (first | with_reducible exact Out.hit | with_reducible apply Out.thenA | with_reducible apply Out.out rfl)) ?_
          | (with_reducible refine AWp_retR ?_; simp (dsimp := false) only [go_sem, Nat.reduceAdd, Nat.reduceBEq, Nat.reduceEqDiff, Nat.reduceLT, Nat.reduceLeDiff, Nat.reduceMul, Int.reduceToNat, reduceCtorEq, ↓reduceIte, Tryd.ntmps34, Tryd.results34, ks_34, mu_34, ti_ag3, ti_ag33, ti_ag34, ti_ag36, ti_ag65, ti_fl26_0, ti_fl26_1, ti_fl36_0, ti_fl36_1, ti_hb21, ti_hb62, ti_hb63, ti_hb64, ti_pl36, ti_sb34, ti_sl34, ti_sl65, ti_sz36, ti_zr36, itD, itV, rlV, rowD, rlD, hrow, hx])
          | (with_reducible refine AWp_regE mu_34 ks_34 ?_; intro Kv hKv; simp (dsimp := false) only [go_sem, Nat.reduceAdd, Nat.reduceBEq, Nat.reduceEqDiff, Nat.reduceLT, Nat.reduceLeDiff, Nat.reduceMul, Int.reduceToNat, reduceCtorEq, ↓reduceIte, Tryd.ntmps34, Tryd.results34, ks_34, mu_34, ti_ag3, ti_ag33, ti_ag34, ti_ag36, ti_ag65, ti_fl26_0, ti_fl26_1, ti_fl36_0, ti_fl36_1, ti_hb21, ti_hb62, ti_hb63, ti_hb64, ti_pl36, ti_sb34, ti_sl34, ti_sl65, ti_sz36, ti_zr36, itD, itV, rlV, rowD, rlD, hrow, hx])
          | (refine AWp_condC rfl ?_; intro KA KB hKA hKB; try simp only [onB_true, onB_false, onB_dec, onB_ndec, onB_not, onB_and, onB_or])
          | (refine AWp_condA rfl ?_ ?_)
          | (refine items_A [row] (by simp) (by simpa using hrs) (by simp; omega) _ _ ?_; try simp (dsimp := false) only [go_sem, Nat.reduceAdd, Nat.reduceBEq, Nat.reduceEqDiff, Nat.reduceLT, Nat.reduceLeDiff, Nat.reduceMul, Int.reduceToNat, reduceCtorEq, ↓reduceIte, Tryd.ntmps34, Tryd.results34, ks_34, mu_34, ti_ag3, ti_ag33, ti_ag34, ti_ag36, ti_ag65, ti_fl26_0, ti_fl26_1, ti_fl36_0, ti_fl36_1, ti_hb21, ti_hb62, ti_hb63, ti_hb64, ti_pl36, ti_sb34, ti_sl34, ti_sl65, ti_sz36, ti_zr36, itD, itV, rlV, rowD, rlD, hrow, hx])
          | with_reducible refine onB_of ?_ ?_
          | with_reducible rfl
          | omega)
        · rename_i g1 g2 g3
          rw [if_pos g2, if_pos g3] at h3
          exact ⟨(i + 1, acc ++ [row]), ⟨by show i + 1 ≤ r.rows.length; omega, by simp; omega, h3⟩, by show r.rows.length - (i + 1) < r.rows.length - i; omega, by simp [rowC], by omega, by simp, by omega, by simp⟩
        · rename_i g1 g2 g3
          rw [if_pos g2, if_neg g3] at h3
          exact ⟨(i + 1, acc), ⟨by show i + 1 ≤ r.rows.length; omega, by show acc.length ≤ i + 1; omega, h3⟩, by show r.rows.length - (i + 1) < r.rows.length - i; omega, rfl, by omega, rfl, by omega, by simp⟩
        · rename_i g1 g2
          rw [if_neg g2] at h3
          rw [← h3] at hk
          exact dropF hk (fz_rl0 _ _ _) (bel_relE _ _ _)
      · 
        repeat' (first
          | with_reducible refine And.intro ?_ ?_
          | with_reducible intro _
          | with_reducible refine AWp_seq ?_
          | with_reducible refine AWp_block ?_
          | (with_reducible refine hKv _ _ (AWp_nop ?_); clear hKv Kv)
          | (with_reducible refine hKv _ _ ?_; clear hKv Kv; simp (dsimp := false) only [go_sem, Nat.reduceAdd, Nat.reduceBEq, Nat.reduceEqDiff, Nat.reduceLT, Nat.reduceLeDiff, Nat.reduceMul, Int.reduceToNat, reduceCtorEq, ↓reduceIte, Tryd.ntmps34, Tryd.results34, ks_34, mu_34, ti_ag3, ti_ag33, ti_ag34, ti_ag36, ti_ag65, ti_fl26_0, ti_fl26_1, ti_fl36_0, ti_fl36_1, ti_hb21, ti_hb62, ti_hb63, ti_hb64, ti_pl36, ti_sb34, ti_sl34, ti_sl65, ti_sz36, ti_zr36, itD, itV, rlV, rowD, rlD, finQ])
          | (with_reducible refine hKA ?_; clear hKA hKB KA KB)
          | (with_reducible refine hKB ?_; clear hKA hKB KA KB)
          | (with_reducible refine AWp_regC mu_34 ks_34 ?_; intro Kv hKv; simp (dsimp := false) only [go_sem, Nat.reduceAdd, Nat.reduceBEq, Nat.reduceEqDiff, Nat.reduceLT, Nat.reduceLeDiff, Nat.reduceMul, Int.reduceToNat, reduceCtorEq, ↓reduceIte, Tryd.ntmps34, Tryd.results34, ks_34, mu_34, ti_ag3, ti_ag33, ti_ag34, ti_ag36, ti_ag65, ti_fl26_0, ti_fl26_1, ti_fl36_0, ti_fl36_1, ti_hb21, ti_hb62, ti_hb63, ti_hb64, ti_pl36, ti_sb34, ti_sl34, ti_sl65, ti_sz36, ti_zr36, itD, itV, rlV, rowD, rlD, finQ])
          | with_reducible refine AWp_skipN ?_
          | with_reducible refine AWp_exitO (by repeat (first | with_reducible exact Out.hit | with_reducible apply Out.thenA | with_reducible apply Out.out rfl)) ?_
          | (with_reducible refine AWp_retR ?_; simp (dsimp := false) only [go_sem, Nat.reduceAdd, Nat.reduceBEq, Nat.reduceEqDiff, Nat.reduceLT, Nat.reduceLeDiff, Nat.reduceMul, Int.reduceToNat, reduceCtorEq, ↓reduceIte, Tryd.ntmps34, Tryd.results34, ks_34, mu_34, ti_ag3, ti_ag33, ti_ag34, ti_ag36, ti_ag65, ti_fl26_0, ti_fl26_1, ti_fl36_0, ti_fl36_1, ti_hb21, ti_hb62, ti_hb63, ti_hb64, ti_pl36, ti_sb34, ti_sl34, ti_sl65, ti_sz36, ti_zr36, itD, itV, rlV, rowD, rlD, finQ])
          | (with_reducible refine AWp_regE mu_34 ks_34 ?_; intro Kv hKv; simp (dsimp := false) only [go_sem, Nat.reduceAdd, Nat.reduceBEq, Nat.reduceEqDiff, Nat.reduceLT, Nat.reduceLeDiff, Nat.reduceMul, Int.reduceToNat, reduceCtorEq, ↓reduceIte, Tryd.ntmps34, Tryd.results34, ks_34, mu_34, ti_ag3, ti_ag33, ti_ag34, ti_ag36, ti_ag65, ti_fl26_0, ti_fl26_1, ti_fl36_0, ti_fl36_1, ti_hb21, ti_hb62, ti_hb63, ti_hb64, ti_pl36, ti_sb34, ti_sl34, ti_sl65, ti_sz36, ti_zr36, itD, itV, rlV, rowD, rlD, finQ])
          | (refine AWp_condC rfl ?_; intro KA KB hKA hKB; try simp only [onB_true, onB_false, onB_dec, onB_ndec, onB_not, onB_and, onB_or])
          | (refine AWp_condA rfl ?_ ?_)
          | (refine relOfO_A r.cols _ _ _ _ q1 hS.col (by rw [List.length_map]; omega) _ _ ((get_appk _ _ 1).trans rfl) ?_; try simp (dsimp := false) only [go_sem, Nat.reduceAdd, Nat.reduceBEq, Nat.reduceEqDiff, Nat.reduceLT, Nat.reduceLeDiff, Nat.reduceMul, Int.reduceToNat, reduceCtorEq, ↓reduceIte, Tryd.ntmps34, Tryd.results34, ks_34, mu_34, ti_ag3, ti_ag33, ti_ag34, ti_ag36, ti_ag65, ti_fl26_0, ti_fl26_1, ti_fl36_0, ti_fl36_1, ti_hb21, ti_hb62, ti_hb63, ti_hb64, ti_pl36, ti_sb34, ti_sl34, ti_sl65, ti_sz36, ti_zr36, itD, itV, rlV, rowD, rlD, finQ])
          | with_reducible refine onB_of ?_ ?_
          | with_reducible rfl
          | omega)
        all_goals
          have e : i = r.rows.length := by omega
          subst e
          rw [List.drop_length, selGo] at h3
          rw [← h3] at hk
        · exact fin_ret hk (by assumption) (by omega) (get_appk _ _ 1)
        · exact fin_bad hk rfl (by assumption)
  · rw [selected, if_neg hf] at hk
    
    refine ACalls_of Tryd.func34 rfl in_34 (Nat.le_of_ble_eq_true rfl) ?_
    intro F hF
    simp (dsimp := false) only [go_sem, Nat.reduceAdd, Nat.reduceBEq, Nat.reduceEqDiff, Nat.reduceLT, Nat.reduceLeDiff, Nat.reduceMul, Int.reduceToNat, reduceCtorEq, ↓reduceIte, Tryd.ntmps34, Tryd.results34, ks_34, mu_34, ti_ag3, ti_ag33, ti_ag34, ti_ag36, ti_ag65, ti_fl26_0, ti_fl26_1, ti_fl36_0, ti_fl36_1, ti_hb21, ti_hb62, ti_hb63, ti_hb64, ti_pl36, ti_sb34, ti_sl34, ti_sl65, ti_sz36, ti_zr36, itD, itV, rlV, rowD, rlD, hf, in_34] at hF
    subst hF
    repeat' (first
      | with_reducible refine And.intro ?_ ?_
      | with_reducible intro _
      | with_reducible refine AWp_seq ?_
      | with_reducible refine AWp_block ?_
      | (with_reducible refine hKv _ _ (AWp_nop ?_); clear hKv Kv)
      | (with_reducible refine hKv _ _ ?_; clear hKv Kv; simp (dsimp := false) only [go_sem, Nat.reduceAdd, Nat.reduceBEq, Nat.reduceEqDiff, Nat.reduceLT, Nat.reduceLeDiff, Nat.reduceMul, Int.reduceToNat, reduceCtorEq, ↓reduceIte, Tryd.ntmps34, Tryd.results34, ks_34, mu_34, ti_ag3, ti_ag33, ti_ag34, ti_ag36, ti_ag65, ti_fl26_0, ti_fl26_1, ti_fl36_0, ti_fl36_1, ti_hb21, ti_hb62, ti_hb63, ti_hb64, ti_pl36, ti_sb34, ti_sl34, ti_sl65, ti_sz36, ti_zr36, itD, itV, rlV, rowD, rlD, hf])
      | (with_reducible refine hKA ?_; clear hKA hKB KA KB)
      | (with_reducible refine hKB ?_; clear hKA hKB KA KB)
      | (with_reducible refine AWp_regC mu_34 ks_34 ?_; intro Kv hKv; simp (dsimp := false) only [go_sem, Nat.reduceAdd, Nat.reduceBEq, Nat.reduceEqDiff, Nat.reduceLT, Nat.reduceLeDiff, Nat.reduceMul, Int.reduceToNat, reduceCtorEq, ↓reduceIte, Tryd.ntmps34, Tryd.results34, ks_34, mu_34, ti_ag3, ti_ag33, ti_ag34, ti_ag36, ti_ag65, ti_fl26_0, ti_fl26_1, ti_fl36_0, ti_fl36_1, ti_hb21, ti_hb62, ti_hb63, ti_hb64, ti_pl36, ti_sb34, ti_sl34, ti_sl65, ti_sz36, ti_zr36, itD, itV, rlV, rowD, rlD, hf])
      | with_reducible refine AWp_skipN ?_
      | with_reducible refine AWp_exitO (by repeat (first | with_reducible exact Out.hit | with_reducible apply Out.thenA | with_reducible apply Out.out rfl)) ?_
      | (with_reducible refine AWp_retR ?_; simp (dsimp := false) only [go_sem, Nat.reduceAdd, Nat.reduceBEq, Nat.reduceEqDiff, Nat.reduceLT, Nat.reduceLeDiff, Nat.reduceMul, Int.reduceToNat, reduceCtorEq, ↓reduceIte, Tryd.ntmps34, Tryd.results34, ks_34, mu_34, ti_ag3, ti_ag33, ti_ag34, ti_ag36, ti_ag65, ti_fl26_0, ti_fl26_1, ti_fl36_0, ti_fl36_1, ti_hb21, ti_hb62, ti_hb63, ti_hb64, ti_pl36, ti_sb34, ti_sl34, ti_sl65, ti_sz36, ti_zr36, itD, itV, rlV, rowD, rlD, hf])
      | (with_reducible refine AWp_regE mu_34 ks_34 ?_; intro Kv hKv; simp (dsimp := false) only [go_sem, Nat.reduceAdd, Nat.reduceBEq, Nat.reduceEqDiff, Nat.reduceLT, Nat.reduceLeDiff, Nat.reduceMul, Int.reduceToNat, reduceCtorEq, ↓reduceIte, Tryd.ntmps34, Tryd.results34, ks_34, mu_34, ti_ag3, ti_ag33, ti_ag34, ti_ag36, ti_ag65, ti_fl26_0, ti_fl26_1, ti_fl36_0, ti_fl36_1, ti_hb21, ti_hb62, ti_hb63, ti_hb64, ti_pl36, ti_sb34, ti_sl34, ti_sl65, ti_sz36, ti_zr36, itD, itV, rlV, rowD, rlD, hf])
      | (refine AWp_condC rfl ?_; intro KA KB hKA hKB; try simp only [onB_true, onB_false, onB_dec, onB_ndec, onB_not, onB_and, onB_or])
      | (refine AWp_condA rfl ?_ ?_)
      | (refine relFault_A r hS _ _ ?_; try simp (dsimp := false) only [go_sem, Nat.reduceAdd, Nat.reduceBEq, Nat.reduceEqDiff, Nat.reduceLT, Nat.reduceLeDiff, Nat.reduceMul, Int.reduceToNat, reduceCtorEq, ↓reduceIte, Tryd.ntmps34, Tryd.results34, ks_34, mu_34, ti_ag3, ti_ag33, ti_ag34, ti_ag36, ti_ag65, ti_fl26_0, ti_fl26_1, ti_fl36_0, ti_fl36_1, ti_hb21, ti_hb62, ti_hb63, ti_hb64, ti_pl36, ti_sb34, ti_sl34, ti_sl65, ti_sz36, ti_zr36, itD, itV, rlV, rowD, rlD, hf])
      | (refine colAt_A r hS col _ _ ?_; try simp (dsimp := false) only [go_sem, Nat.reduceAdd, Nat.reduceBEq, Nat.reduceEqDiff, Nat.reduceLT, Nat.reduceLeDiff, Nat.reduceMul, Int.reduceToNat, reduceCtorEq, ↓reduceIte, Tryd.ntmps34, Tryd.results34, ks_34, mu_34, ti_ag3, ti_ag33, ti_ag34, ti_ag36, ti_ag65, ti_fl26_0, ti_fl26_1, ti_fl36_0, ti_fl36_1, ti_hb21, ti_hb62, ti_hb63, ti_hb64, ti_pl36, ti_sb34, ti_sl34, ti_sl65, ti_sz36, ti_zr36, itD, itV, rlV, rowD, rlD, hf])
      | with_reducible refine onB_of ?_ ?_
      | with_reducible rfl
      | omega)
    all_goals exact dropF hk (fz_rl0 _ _ _) (bel_relE _ _ _)
/-- What is selected is no longer than what there was. -/
theorem selGo_sub {c : Nat} : ∀ (l acc out : List (List It)), selGo c l acc = some out → ∀ x, x ∈ out → x ∈ acc ∨ x ∈ l
  | [], acc, out, h, x, hx => by cases h; exact .inl hx
  | row :: l, acc, out, h, x, hx => by
    rw [selGo] at h
    split at h
    · rcases selGo_sub l _ out h x hx with h1 | h1
      · split at h1
        · rcases List.mem_append.1 h1 with h2 | h2
          · exact .inl h2
          · rw [List.mem_singleton] at h2
            exact .inr (by simp [h2])
        · exact .inl h1
      · exact .inr (by simp [h1])
    · cases h
theorem selGo_len {c : Nat} : ∀ (l acc out : List (List It)), selGo c l acc = some out → out.length ≤ acc.length + l.length
  | [], acc, out, h => by cases h; simp
  | row :: l, acc, out, h => by
    rw [selGo] at h
    split at h
    · have := selGo_len l _ out h
      simp only [List.length_cons]
      split at this
      · simp only [List.length_append, List.length_cons, List.length_nil] at this; omega
      · omega
    · cases h
theorem made_sh {cols : List (List UInt8)} {rows : List (List It)} (h1 : cols.length ≤ 9223372036854775807) (h2 : rows.length ≤ 9223372036854775807) (h3 : ∀ l, l ∈ rows → l.length ≤ 9223372036854775807) :
    (made cols rows).cols.length ≤ 9223372036854775807 ∧ (made cols rows).rows.length ≤ 9223372036854775807 ∧ ∀ l, l ∈ (made cols rows).rows → l.length ≤ 9223372036854775807 := by
  unfold made
  split
  · exact ⟨h1, h2, h3⟩
  · simp [rl0]
theorem rl0_sh : rl0.cols.length ≤ 9223372036854775807 ∧ rl0.rows.length ≤ 9223372036854775807 ∧ ∀ l, l ∈ rl0.rows → l.length ≤ 9223372036854775807 := by simp [rl0]
theorem selected_sh {r : Rl} (hS : ShR r) (col : List UInt8) : (selected r col).1.cols.length ≤ 9223372036854775807 ∧ (selected r col).1.rows.length ≤ 9223372036854775807 ∧ ∀ l, l ∈ (selected r col).1.rows → l.length ≤ 9223372036854775807 := by
  unfold selected
  split
  · split
    · exact rl0_sh
    · split
      · rename_i rows hsel
        refine made_sh (by have := hS.ncols; omega) ?_ fun l hl => ?_
        · have := selGo_len _ _ _ hsel
          have := hS.nrows
          simp at *
          omega
        · rcases selGo_sub _ _ _ hsel l hl with h | h
          · cases h
          · have := hS.row l h; omega
      · exact rl0_sh
  · exact rl0_sh
theorem roP_z (r : Nat) (F : Ab.Frame) (ver e sz : Nat) (cells : List V) (K : Ab.Frame → Heap → Prop) : roP r F (.pt 0 ver 0 0) [] [Ob.row ver e sz [cells]] K =
    (othB 0 r F ∧ (match dsOf cells with | some ds => K (rpl r ds F) [] | none => False)) := by
  exact roP_0 r F [] ver e sz cells K
end Go.Proofs.YtjedhhdkgjchdaaDoor
