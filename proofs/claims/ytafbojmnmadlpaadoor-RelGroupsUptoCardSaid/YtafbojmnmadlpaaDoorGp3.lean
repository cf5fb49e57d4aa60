/- For each part an aggregate: what the reference makes. No condition but that the tables of package unicode/utf8 are there. -/
import Derived.Test.YtafbojmnmadlpaaDoorGp1
import Derived.Test.YtafbojmnmadlpaaDoorJo
import Derived.Test.YtafbojmnmadlpaaDoorPj1
import Derived.Test.YtafbojmnmadlpaaDoorPj2
set_option linter.all false
set_option linter.unusedSimpArgs false
set_option linter.unusedVariables false
namespace Go.Proofs.YtafbojmnmadlpaaDoor
open Go Go.Proofs.YtafbojmnmadlpaaDoor.Ab
variable [Glo] [U8]
set_option maxHeartbeats 4000000
set_option maxRecDepth 20000
def firstB (p : Nat) (rows : List (List It)) (x : It) (k : Nat) : Bool := decide (x ∉ (rows.take k).map fun row => rg row p)
theorem firstB_next {p : Nat} {rows : List (List It)} {x : It} {k : Nat} {row : List It} (h : rows[k]? = some row) : firstB p rows x (k + 1) = (firstB p rows x k && decide (rg row p ≠ x)) := by
  rw [firstB, firstB, take_of_get h, List.map_append, ← Bool.decide_and, decide_eq_decide, List.mem_append, not_or]
  simp [eq_comm]
theorem firstB_keys {p q : Nat} {rows : List (List It)} {x : It} {i : Nat} : firstB p rows x i = decide (x ∉ grpKeys p q (rows.take i)) := by
  rw [firstB, decide_eq_decide, grpKeys_mem, List.mem_map]
def valP (p q : Nat) (rows : List (List It)) (x : It) (k : Nat) : List It := ((rows.take k).filter fun row => decide (rg row p = x)).map fun row => rg row q
theorem valP_hit {p q : Nat} {rows : List (List It)} {x : It} {k : Nat} {row : List It} (h : rows[k]? = some row) (hx : rg row p = x) : valP p q rows x (k + 1) = valP p q rows x k ++ [rg row q] := by
  rw [valP, take_of_get h, List.filter_append, List.map_append]
  simp [valP, hx]
theorem valP_miss {p q : Nat} {rows : List (List It)} {x : It} {k : Nat} {row : List It} (h : rows[k]? = some row) (hx : ¬ rg row p = x) : valP p q rows x (k + 1) = valP p q rows x k := by
  rw [valP, take_of_get h, List.filter_append, List.map_append]
  simp [valP, hx]
theorem valP_all (p q : Nat) (rows : List (List It)) (x : It) : valP p q rows x rows.length = grpVal p q rows x := by rw [valP, List.take_length, grpVal_eq]
theorem valP_len (p q : Nat) (rows : List (List It)) (x : It) (k : Nat) : (valP p q rows x k).length ≤ k := by
  rw [valP, List.length_map]
  exact Nat.le_trans (List.length_filter_le _ _) (by rw [List.length_take]; omega)
theorem obBel_its3 (m ver e : Nat) (l : List It) : ObBel m (.row ver e 3 (l.map itC)) := obBel_map itD m ver e 3 l
theorem it_ext {x y : It} (h : x.k = y.k ∧ x.n = y.n ∧ x.s = y.s) : x = y := by cases x; cases y; simp at h; simp [h]
theorem it_ne (x y : It) : (!(decide (y.k = x.k) && (decide (y.n = x.n) && (decide (y.s = x.s) && true)))) = decide (y ≠ x) := by
  by_cases h : y = x
  · subst h; simp
  · rw [decide_eq_true h]
    by_cases a : y.k = x.k
    · by_cases b : y.n = x.n
      · by_cases c : y.s = x.s
        · exact absurd (it_ext ⟨a, b, c⟩) h
        · simp [c]
      · simp [b]
    · simp [a]
theorem grp_items {rows : List (List It)} {p q n : Nat} {x : It} (hall : ∀ row, row ∈ rows → row.length = n ∧ row.all itemB = true) (hq1 : q < n) : ∀ x', x' ∈ grpVal p q rows x → itemB x' = true := fun x' hx' => by
  rw [grpVal_eq] at hx'
  obtain ⟨row1, hm, rfl⟩ := List.mem_map.1 hx'
  obtain ⟨g1, g2⟩ := hall row1 (List.mem_filter.1 hm).1
  have hq2 : q < row1.length := by omega
  rw [rg_get (List.getElem?_eq_getElem hq2)]
  exact List.all_eq_true.1 g2 _ (List.getElem_mem hq2)

/- the live slots of pleacher/pleacherref.GroupedOf -/
def ks_17 : Nat → List Nat
  | 0 => [1, 2, 3, 4, 5, 10]
  | 1 => [1, 2, 3, 4, 5, 10, 12]
  | 2 => [1, 2, 3, 4, 5, 10, 12, 42]
  | 3 => [1, 2, 3, 4, 5, 10, 12]
  | 4 => [1, 2, 3, 4, 5, 10, 12, 13]
  | 5 => [1, 2, 3, 5, 10, 12, 13, 14]
  | 6 => [1, 2, 3, 5, 10, 12, 13, 14, 58]
  | 7 => [1, 2, 3, 5, 10, 12, 13, 14]
  | 8 => [1, 2, 3, 5, 10, 12, 13, 14, 60]
  | 9 => [10, 11]
  | 10 => [1, 2, 3, 5, 10, 13, 14, 15]
  | 11 => [1, 2, 3, 5, 10, 13, 14, 15, 16]
  | 12 => [1, 2, 3, 5, 10, 13, 14, 15, 16, 67]
  | 13 => [1, 2, 3, 5, 10, 13, 14, 15, 16]
  | 14 => [1, 2, 3, 5, 10, 13, 14, 15, 16, 17]
  | 15 => [1, 2, 3, 5, 10, 13, 14, 15, 16, 17, 18]
  | 16 => [1, 2, 3, 5, 10, 13, 14, 15, 16, 17, 18, 72]
  | 17 => [1, 2, 3, 5, 10, 13, 14, 15, 16, 17, 18]
  | 18 => [1, 2, 3, 5, 10, 13, 14, 15, 16, 17, 18]
  | 19 => [1, 2, 3, 5, 10, 13, 14, 15, 16, 96]
  | 20 => [1, 2, 3, 5, 10, 13, 14, 15, 16, 19]
  | 21 => [1, 2, 3, 5, 10, 13, 14, 15, 16, 19, 20]
  | 22 => [1, 2, 3, 5, 10, 13, 14, 15, 16, 19, 20, 101]
  | 23 => [1, 2, 3, 5, 10, 13, 14, 15, 16, 19, 20]
  | 24 => [1, 2, 3, 5, 10, 13, 14, 15, 16, 19, 20, 120]
  | 25 => [1, 2, 3, 5, 10, 13, 14, 15, 16, 19, 20]
  | 26 => [1, 2, 3, 5, 10, 13, 14, 15, 16, 21, 22]
  | 27 => [1, 2, 3, 5, 10, 13, 14, 15, 16, 21, 139]
  | 28 => [10, 11]
  | 29 => [1, 2, 3, 5, 10, 13, 14, 15, 16]
  | 30 => [10, 11]
  | _ => []
def mu_17 : List Nat := [15, 19]
def in_17 : List Nat := [0, 1, 2, 3, 4]
def nd_17 : Nat → Nat
  | 18 => 20
  | 24 => 16
  | _ => 0
theorem groupedOf_A (r : Rl) (hS : ShR r) (name part which col : List UInt8) (hn : name.length ≤ 1048576) (hpt : part.length ≤ 1048576) (H : Heap) (K : V → Heap → Prop) (hk : K (relE (grouped r name part which col).1 (grouped r name part which col).2) H) :
    ACalls Tryd.prog 17 [rlV r, .d (.s name), .d (.s part), .d (.s which), .d (.s col)] H K := by
  have q1 := hS.ncols
  have q2 := hS.nrows
  by_cases hf : relFault r = 0
  · by_cases hw : whichB which = true
    · have hwo : ¬ (¬ which = cntT ∧ ¬ which = sumT ∧ ¬ which = minT ∧ ¬ which = maxT) := fun h => by rcases whichB_or hw with h' | h' | h' | h' <;> simp [h'] at h
      unfold cntT sumT minT maxT at hwo
      have hmx : ¬ which = [99, 111, 117, 110, 116] → ¬ which = [115, 117, 109] → ¬ which = [109, 105, 110] → (!decide (which = [109, 97, 120])) = false := fun a b c => by
        rw [decide_eq_true (Decidable.byContradiction fun h => hwo ⟨a, b, c, h⟩)]; rfl
      by_cases hc : txtAt r.cols part < 0 ∨ txtAt r.cols col < 0
      · rw [grouped, if_pos hf, if_pos hw, if_pos hc] at hk
        
        refine ACalls_of Tryd.func17 rfl in_17 (Nat.le_of_ble_eq_true rfl) ?_
        intro F hF
        simp (dsimp := false) only [go_sem, Nat.reduceAdd, Nat.reduceBEq, Nat.reduceEqDiff, Nat.reduceLT, Nat.reduceLeDiff, Nat.reduceMul, Int.reduceToNat, reduceCtorEq, ↓reduceIte, Tryd.ntmps17, Tryd.results17, ks_17, mu_17, nd_17, ti_ag23, ti_ag25, ti_ag35, ti_ag68, ti_fe35, ti_fl25_1, ti_hb47, ti_hb48, ti_hb49, ti_hb50, ti_pl25, ti_pl35, ti_sb23, ti_sl22, ti_sl23, ti_sl68, ti_sz25, ti_sz35, ti_zr25, ti_zr35, itD, itV, rlV, rowD, rlD, hf, in_17] at hF
        subst hF
        repeat' (first
          | (rw [hmx (by assumption) (by assumption) (by assumption)]; exact hj)
          | exact hj
          | with_reducible refine And.intro ?_ ?_
          | with_reducible intro _
          | with_reducible refine AWp_seq ?_
          | with_reducible refine AWp_block ?_
          | (with_reducible refine hKv _ _ (AWp_nop ?_); clear hKv Kv)
          | (with_reducible refine hKv _ _ ?_; clear hKv Kv; simp (dsimp := false) only [go_sem, Nat.reduceAdd, Nat.reduceBEq, Nat.reduceEqDiff, Nat.reduceLT, Nat.reduceLeDiff, Nat.reduceMul, Int.reduceToNat, reduceCtorEq, ↓reduceIte, Tryd.ntmps17, Tryd.results17, ks_17, mu_17, nd_17, ti_ag23, ti_ag25, ti_ag35, ti_ag68, ti_fe35, ti_fl25_1, ti_hb47, ti_hb48, ti_hb49, ti_hb50, ti_pl25, ti_pl35, ti_sb23, ti_sl22, ti_sl23, ti_sl68, ti_sz25, ti_sz35, ti_zr25, ti_zr35, itD, itV, rlV, rowD, rlD, hf])
          | (with_reducible refine hKA ?_; clear hKA hKB KA KB)
          | (with_reducible refine hKB ?_; clear hKA hKB KA KB)
          | (with_reducible refine AWp_regC (id := 2) mu_17 ks_17 ?_; intro Kv hKv; simp (dsimp := false) only [go_sem, Nat.reduceAdd, Nat.reduceBEq, Nat.reduceEqDiff, Nat.reduceLT, Nat.reduceLeDiff, Nat.reduceMul, Int.reduceToNat, reduceCtorEq, ↓reduceIte, Tryd.ntmps17, Tryd.results17, ks_17, mu_17, nd_17, ti_ag23, ti_ag25, ti_ag35, ti_ag68, ti_fe35, ti_fl25_1, ti_hb47, ti_hb48, ti_hb49, ti_hb50, ti_pl25, ti_pl35, ti_sb23, ti_sl22, ti_sl23, ti_sl68, ti_sz25, ti_sz35, ti_zr25, ti_zr35, itD, itV, rlV, rowD, rlD, hf]; apply regJ (Kv := Kv); intro hj)
          | ((first | with_reducible refine AWp_regC mu_17 ks_17 ?_ | with_reducible refine AWp_draw nd_17 mu_17 ks_17 ti_mixed (by kernel_rfl) ?_); intro Kv hKv; simp (dsimp := false) only [go_sem, Nat.reduceAdd, Nat.reduceBEq, Nat.reduceEqDiff, Nat.reduceLT, Nat.reduceLeDiff, Nat.reduceMul, Int.reduceToNat, reduceCtorEq, ↓reduceIte, Tryd.ntmps17, Tryd.results17, ks_17, mu_17, nd_17, ti_ag23, ti_ag25, ti_ag35, ti_ag68, ti_fe35, ti_fl25_1, ti_hb47, ti_hb48, ti_hb49, ti_hb50, ti_pl25, ti_pl35, ti_sb23, ti_sl22, ti_sl23, ti_sl68, ti_sz25, ti_sz35, ti_zr25, ti_zr35, itD, itV, rlV, rowD, rlD, hf])
          | with_reducible refine AWp_skipN ?_
          | with_reducible refine AWp_exitO (by repeat (first | with_reducible exact Out.hit | with_reducible apply Out.thenA | with_reducible apply Out.out rfl)) ?_
          | (with_reducible refine AWp_retR ?_; simp (dsimp := false) only [go_sem, Nat.reduceAdd, Nat.reduceBEq, Nat.reduceEqDiff, Nat.reduceLT, Nat.reduceLeDiff, Nat.reduceMul, Int.reduceToNat, reduceCtorEq, ↓reduceIte, Tryd.ntmps17, Tryd.results17, ks_17, mu_17, nd_17, ti_ag23, ti_ag25, ti_ag35, ti_ag68, ti_fe35, ti_fl25_1, ti_hb47, ti_hb48, ti_hb49, ti_hb50, ti_pl25, ti_pl35, ti_sb23, ti_sl22, ti_sl23, ti_sl68, ti_sz25, ti_sz35, ti_zr25, ti_zr35, itD, itV, rlV, rowD, rlD, hf])
          | ((first | with_reducible refine AWp_regE mu_17 ks_17 ?_ | with_reducible refine AWp_drawE nd_17 mu_17 ks_17 ti_mixed (by kernel_rfl) ?_); intro Kv hKv; simp (dsimp := false) only [go_sem, Nat.reduceAdd, Nat.reduceBEq, Nat.reduceEqDiff, Nat.reduceLT, Nat.reduceLeDiff, Nat.reduceMul, Int.reduceToNat, reduceCtorEq, ↓reduceIte, Tryd.ntmps17, Tryd.results17, ks_17, mu_17, nd_17, ti_ag23, ti_ag25, ti_ag35, ti_ag68, ti_fe35, ti_fl25_1, ti_hb47, ti_hb48, ti_hb49, ti_hb50, ti_pl25, ti_pl35, ti_sb23, ti_sl22, ti_sl23, ti_sl68, ti_sz25, ti_sz35, ti_zr25, ti_zr35, itD, itV, rlV, rowD, rlD, hf])
          | (refine AWp_condC rfl ?_; intro KA KB hKA hKB; try simp only [onB_true, onB_false, onB_dec, onB_ndec, onB_not, onB_and, onB_or])
          | (refine AWp_condA rfl ?_ ?_)
          | ((first | refine relFault_A r hS _ _ ?_ | refine QCall_of (relFault_A r hS _ _ (Two_intro _ _)) ?_ | refine colAt_A r hS part _ _ ?_ | refine QCall_of (colAt_A r hS part _ _ (Two_intro _ _)) ?_ | refine colAt_A r hS col _ _ ?_ | refine QCall_of (colAt_A r hS col _ _ (Two_intro _ _)) ?_); try simp (dsimp := false) only [go_sem, Nat.reduceAdd, Nat.reduceBEq, Nat.reduceEqDiff, Nat.reduceLT, Nat.reduceLeDiff, Nat.reduceMul, Int.reduceToNat, reduceCtorEq, ↓reduceIte, Tryd.ntmps17, Tryd.results17, ks_17, mu_17, nd_17, ti_ag23, ti_ag25, ti_ag35, ti_ag68, ti_fe35, ti_fl25_1, ti_hb47, ti_hb48, ti_hb49, ti_hb50, ti_pl25, ti_pl35, ti_sb23, ti_sl22, ti_sl23, ti_sl68, ti_sz25, ti_sz35, ti_zr25, ti_zr35, itD, itV, rlV, rowD, rlD, hf])
          | with_reducible refine onB_of ?_ ?_
          | with_reducible rfl
          | omega)
        all_goals first
          | omega
          | exact dropF hk (fz_rl0 _ _ _) (bel_relE _ _ _)
          | exact absurd ⟨by assumption, by assumption, by assumption, by assumption⟩ hwo
      · have hc1 : ¬ txtAt r.cols part < 0 := fun h => hc (.inl h)
        have hc2 : ¬ txtAt r.cols col < 0 := fun h => hc (.inr h)
        rw [grouped, if_pos hf, if_pos hw, if_neg hc] at hk
        obtain ⟨_, hN, hall⟩ := relFault_ok hf
        have hlt := (fidx_lt (fun z => decide (part = z)) r.cols).2
        obtain ⟨p, hpp⟩ : ∃ p : Nat, txtAt r.cols part = p := ⟨(txtAt r.cols part).toNat, by omega⟩
        have hp1 : p < r.cols.length := by
          have : txtAt r.cols part < r.cols.length := hlt
          omega
        have hlt2 := (fidx_lt (fun z => decide (col = z)) r.cols).2
        obtain ⟨q, hqq⟩ : ∃ q : Nat, txtAt r.cols col = q := ⟨(txtAt r.cols col).toNat, by omega⟩
        have hq1 : q < r.cols.length := by
          have : txtAt r.cols col < r.cols.length := hlt2
          omega
        rw [hpp, hqq] at hk
        simp only [Int.toNat_natCast] at hk
        clear hlt hlt2 hc hc1 hc2
        have hcs2 : ∀ s, s ∈ [part, name] → s.length ≤ 1048576 := fun s hs => by
          simp at hs
          rcases hs with rfl | rfl <;> omega
        have np : ((p : Int) < 0) = False := eq_false (by omega)
        have nq : ((q : Int) < 0) = False := eq_false (by omega)
        
        refine ACalls_of Tryd.func17 rfl in_17 (Nat.le_of_ble_eq_true rfl) ?_
        intro F hF
        simp (dsimp := false) only [go_sem, Nat.reduceAdd, Nat.reduceBEq, Nat.reduceEqDiff, Nat.reduceLT, Nat.reduceLeDiff, Nat.reduceMul, Int.reduceToNat, reduceCtorEq, ↓reduceIte, Tryd.ntmps17, Tryd.results17, ks_17, mu_17, nd_17, ti_ag23, ti_ag25, ti_ag35, ti_ag68, ti_fe35, ti_fl25_1, ti_hb47, ti_hb48, ti_hb49, ti_hb50, ti_pl25, ti_pl35, ti_sb23, ti_sl22, ti_sl23, ti_sl68, ti_sz25, ti_sz35, ti_zr25, ti_zr35, itD, itV, rlV, rowD, rlD, hf, hpp, hqq, np, nq, in_17] at hF
        subst hF
        repeat' (first
          | (rw [hmx (by assumption) (by assumption) (by assumption)]; exact hj)
          | exact hj
          | with_reducible refine And.intro ?_ ?_
          | with_reducible intro _
          | with_reducible refine AWp_seq ?_
          | with_reducible refine AWp_block ?_
          | (with_reducible refine hKv _ _ (AWp_nop ?_); clear hKv Kv)
          | (with_reducible refine hKv _ _ ?_; clear hKv Kv; simp (dsimp := false) only [go_sem, Nat.reduceAdd, Nat.reduceBEq, Nat.reduceEqDiff, Nat.reduceLT, Nat.reduceLeDiff, Nat.reduceMul, Int.reduceToNat, reduceCtorEq, ↓reduceIte, Tryd.ntmps17, Tryd.results17, ks_17, mu_17, nd_17, ti_ag23, ti_ag25, ti_ag35, ti_ag68, ti_fe35, ti_fl25_1, ti_hb47, ti_hb48, ti_hb49, ti_hb50, ti_pl25, ti_pl35, ti_sb23, ti_sl22, ti_sl23, ti_sl68, ti_sz25, ti_sz35, ti_zr25, ti_zr35, itD, itV, rlV, rowD, rlD, hf, hpp, hqq, np, nq])
          | (with_reducible refine hKA ?_; clear hKA hKB KA KB)
          | (with_reducible refine hKB ?_; clear hKA hKB KA KB)
          | (with_reducible refine AWp_regC (id := 2) mu_17 ks_17 ?_; intro Kv hKv; simp (dsimp := false) only [go_sem, Nat.reduceAdd, Nat.reduceBEq, Nat.reduceEqDiff, Nat.reduceLT, Nat.reduceLeDiff, Nat.reduceMul, Int.reduceToNat, reduceCtorEq, ↓reduceIte, Tryd.ntmps17, Tryd.results17, ks_17, mu_17, nd_17, ti_ag23, ti_ag25, ti_ag35, ti_ag68, ti_fe35, ti_fl25_1, ti_hb47, ti_hb48, ti_hb49, ti_hb50, ti_pl25, ti_pl35, ti_sb23, ti_sl22, ti_sl23, ti_sl68, ti_sz25, ti_sz35, ti_zr25, ti_zr35, itD, itV, rlV, rowD, rlD, hf, hpp, hqq, np, nq]; apply regJ (Kv := Kv); intro hj)
          | ((first | with_reducible refine AWp_regC mu_17 ks_17 ?_ | with_reducible refine AWp_draw nd_17 mu_17 ks_17 ti_mixed (by kernel_rfl) ?_); intro Kv hKv; simp (dsimp := false) only [go_sem, Nat.reduceAdd, Nat.reduceBEq, Nat.reduceEqDiff, Nat.reduceLT, Nat.reduceLeDiff, Nat.reduceMul, Int.reduceToNat, reduceCtorEq, ↓reduceIte, Tryd.ntmps17, Tryd.results17, ks_17, mu_17, nd_17, ti_ag23, ti_ag25, ti_ag35, ti_ag68, ti_fe35, ti_fl25_1, ti_hb47, ti_hb48, ti_hb49, ti_hb50, ti_pl25, ti_pl35, ti_sb23, ti_sl22, ti_sl23, ti_sl68, ti_sz25, ti_sz35, ti_zr25, ti_zr35, itD, itV, rlV, rowD, rlD, hf, hpp, hqq, np, nq])
          | with_reducible refine AWp_skipN ?_
          | with_reducible refine AWp_exitO (by repeat (first | with_reducible exact Out.hit | with_reducible apply Out.thenA | with_reducible apply Out.out rfl)) ?_
          | (with_reducible refine AWp_retR ?_; simp (dsimp := false) only [go_sem, Nat.reduceAdd, Nat.reduceBEq, Nat.reduceEqDiff, Nat.reduceLT, Nat.reduceLeDiff, Nat.reduceMul, Int.reduceToNat, reduceCtorEq, ↓reduceIte, Tryd.ntmps17, Tryd.results17, ks_17, mu_17, nd_17, ti_ag23, ti_ag25, ti_ag35, ti_ag68, ti_fe35, ti_fl25_1, ti_hb47, ti_hb48, ti_hb49, ti_hb50, ti_pl25, ti_pl35, ti_sb23, ti_sl22, ti_sl23, ti_sl68, ti_sz25, ti_sz35, ti_zr25, ti_zr35, itD, itV, rlV, rowD, rlD, hf, hpp, hqq, np, nq])
          | ((first | with_reducible refine AWp_regE mu_17 ks_17 ?_ | with_reducible refine AWp_drawE nd_17 mu_17 ks_17 ti_mixed (by kernel_rfl) ?_); intro Kv hKv; simp (dsimp := false) only [go_sem, Nat.reduceAdd, Nat.reduceBEq, Nat.reduceEqDiff, Nat.reduceLT, Nat.reduceLeDiff, Nat.reduceMul, Int.reduceToNat, reduceCtorEq, ↓reduceIte, Tryd.ntmps17, Tryd.results17, ks_17, mu_17, nd_17, ti_ag23, ti_ag25, ti_ag35, ti_ag68, ti_fe35, ti_fl25_1, ti_hb47, ti_hb48, ti_hb49, ti_hb50, ti_pl25, ti_pl35, ti_sb23, ti_sl22, ti_sl23, ti_sl68, ti_sz25, ti_sz35, ti_zr25, ti_zr35, itD, itV, rlV, rowD, rlD, hf, hpp, hqq, np, nq])
          | (refine AWp_condC rfl ?_; intro KA KB hKA hKB; try simp only [onB_true, onB_false, onB_dec, onB_ndec, onB_not, onB_and, onB_or])
          | (refine AWp_condA rfl ?_ ?_)
          | ((first | refine relFault_A r hS _ _ ?_ | refine QCall_of (relFault_A r hS _ _ (Two_intro _ _)) ?_ | refine colAt_A r hS part _ _ ?_ | refine QCall_of (colAt_A r hS part _ _ (Two_intro _ _)) ?_ | refine colAt_A r hS col _ _ ?_ | refine QCall_of (colAt_A r hS col _ _ (Two_intro _ _)) ?_); try simp (dsimp := false) only [go_sem, Nat.reduceAdd, Nat.reduceBEq, Nat.reduceEqDiff, Nat.reduceLT, Nat.reduceLeDiff, Nat.reduceMul, Int.reduceToNat, reduceCtorEq, ↓reduceIte, Tryd.ntmps17, Tryd.results17, ks_17, mu_17, nd_17, ti_ag23, ti_ag25, ti_ag35, ti_ag68, ti_fe35, ti_fl25_1, ti_hb47, ti_hb48, ti_hb49, ti_hb50, ti_pl25, ti_pl35, ti_sb23, ti_sl22, ti_sl23, ti_sl68, ti_sz25, ti_sz35, ti_zr25, ti_zr35, itD, itV, rlV, rowD, rlD, hf, hpp, hqq, np, nq])
          | with_reducible refine onB_of ?_ ?_
          | with_reducible rfl
          | omega)
        all_goals try exact absurd ⟨by assumption, by assumption, by assumption, by assumption⟩ hwo
        all_goals
          refine AWp_whileD (fun z : Nat × List (List It) => z.1 ≤ r.rows.length ∧ z.2.length ≤ z.1 ∧ grpGo which (grpVal p q r.rows) (grpKeys p q (r.rows.take z.1)) [] = some z.2)
            (fun z => [(1, .d (.s name)), (2, .d (.s part)), (3, .d (.s which)), (5, .rp (rlD r)), (10, .pt H.length 0 0 0), (13, .d (.i .i64 p)), (14, .d (.i .i64 q)), (15, .os (H.length + 1) z.2.length), (16, .d (.i .i64 z.1))])
            (fun z => [.row 0 25 2 [[.d (.c (.slice none 0 0)), .d (.c (.slice none 0 0))]], .row z.2.length 68 1 (z.2.map rowC)]) (fun z => r.rows.length - z.1) (0, []) ⟨Nat.zero_le _, by simp, rfl⟩ ⟨[], rfl⟩ ?_ ?_ ?_
          · simp (dsimp := false) only [go_sem, Nat.reduceAdd, Nat.reduceBEq, Nat.reduceEqDiff, Nat.reduceLT, Nat.reduceLeDiff, Nat.reduceMul, Int.reduceToNat, reduceCtorEq, ↓reduceIte, Tryd.ntmps17, Tryd.results17, ks_17, mu_17, nd_17, ti_ag23, ti_ag25, ti_ag35, ti_ag68, ti_fe35, ti_fl25_1, ti_hb47, ti_hb48, ti_hb49, ti_hb50, ti_pl25, ti_pl35, ti_sb23, ti_sl22, ti_sl23, ti_sl68, ti_sz25, ti_sz35, ti_zr25, ti_zr35, itD, itV, rlV, rowD, rlD, hf, hpp, hqq, np, nq]
            first | done | simp | (simp; omega)
          · rintro ⟨i, acc⟩ _ ob hob
            simp only [List.mem_cons, List.not_mem_nil, or_false] at hob
            rcases hob with rfl | rfl
            · exact bel_nil2 _ _ _
            · exact obBel_rows _ _ _ _ _
          rintro ⟨i, acc⟩ ⟨h1, h2, h3⟩
          simp only [] at h1 h2 h3 ⊢
          by_cases hiN : i < r.rows.length
          · obtain ⟨row, hrow⟩ : ∃ row, r.rows[i]? = some row := ⟨r.rows[i], List.getElem?_eq_getElem hiN⟩
            have hiT : ((i : Int) < (r.rows.length : Int)) = True := eq_true (by omega)
            have hrl := (hall row (List.mem_of_getElem? hrow)).1
            obtain ⟨x, hxp⟩ : ∃ x, row[p]? = some x := ⟨row[p]'(by omega), List.getElem?_eq_getElem (by omega)⟩
            have hgx := rg_get hxp
            
            repeat' (first
              | exact hj
              | with_reducible refine And.intro ?_ ?_
              | with_reducible intro _
              | with_reducible refine AWp_seq ?_
              | with_reducible refine AWp_block ?_
              | (with_reducible refine hKv _ _ (AWp_nop ?_); clear hKv Kv)
              | (with_reducible refine hKv _ _ ?_; clear hKv Kv; simp (dsimp := false) only [go_sem, Nat.reduceAdd, Nat.reduceBEq, Nat.reduceEqDiff, Nat.reduceLT, Nat.reduceLeDiff, Nat.reduceMul, Int.reduceToNat, reduceCtorEq, ↓reduceIte, Tryd.ntmps17, Tryd.results17, ks_17, mu_17, nd_17, ti_ag23, ti_ag25, ti_ag35, ti_ag68, ti_fe35, ti_fl25_1, ti_hb47, ti_hb48, ti_hb49, ti_hb50, ti_pl25, ti_pl35, ti_sb23, ti_sl22, ti_sl23, ti_sl68, ti_sz25, ti_sz35, ti_zr25, ti_zr35, itD, itV, rlV, rowD, rlD, hiT, hrow, hxp])
              | (with_reducible refine hKA ?_; clear hKA hKB KA KB)
              | (with_reducible refine hKB ?_; clear hKA hKB KA KB)
              | (with_reducible refine AWp_regC (id := 2) mu_17 ks_17 ?_; intro Kv hKv; simp (dsimp := false) only [go_sem, Nat.reduceAdd, Nat.reduceBEq, Nat.reduceEqDiff, Nat.reduceLT, Nat.reduceLeDiff, Nat.reduceMul, Int.reduceToNat, reduceCtorEq, ↓reduceIte, Tryd.ntmps17, Tryd.results17, ks_17, mu_17, nd_17, ti_ag23, ti_ag25, ti_ag35, ti_ag68, ti_fe35, ti_fl25_1, ti_hb47, ti_hb48, ti_hb49, ti_hb50, ti_pl25, ti_pl35, ti_sb23, ti_sl22, ti_sl23, ti_sl68, ti_sz25, ti_sz35, ti_zr25, ti_zr35, itD, itV, rlV, rowD, rlD, hiT, hrow, hxp]; apply regJ (Kv := Kv); intro hj)
              | ((first | with_reducible refine AWp_regC mu_17 ks_17 ?_ | with_reducible refine AWp_draw nd_17 mu_17 ks_17 ti_mixed (by kernel_rfl) ?_); intro Kv hKv; simp (dsimp := false) only [go_sem, Nat.reduceAdd, Nat.reduceBEq, Nat.reduceEqDiff, Nat.reduceLT, Nat.reduceLeDiff, Nat.reduceMul, Int.reduceToNat, reduceCtorEq, ↓reduceIte, Tryd.ntmps17, Tryd.results17, ks_17, mu_17, nd_17, ti_ag23, ti_ag25, ti_ag35, ti_ag68, ti_fe35, ti_fl25_1, ti_hb47, ti_hb48, ti_hb49, ti_hb50, ti_pl25, ti_pl35, ti_sb23, ti_sl22, ti_sl23, ti_sl68, ti_sz25, ti_sz35, ti_zr25, ti_zr35, itD, itV, rlV, rowD, rlD, hiT, hrow, hxp])
              | with_reducible refine AWp_skipN ?_
              | with_reducible refine AWp_exitO (by repeat (first | with_reducible exact Out.hit | with_reducible apply Out.thenA | with_reducible apply Out.out rfl)) ?_
              | (with_reducible refine AWp_retR ?_; simp (dsimp := false) only [go_sem, Nat.reduceAdd, Nat.reduceBEq, Nat.reduceEqDiff, Nat.reduceLT, Nat.reduceLeDiff, Nat.reduceMul, Int.reduceToNat, reduceCtorEq, ↓reduceIte, Tryd.ntmps17, Tryd.results17, ks_17, mu_17, nd_17, ti_ag23, ti_ag25, ti_ag35, ti_ag68, ti_fe35, ti_fl25_1, ti_hb47, ti_hb48, ti_hb49, ti_hb50, ti_pl25, ti_pl35, ti_sb23, ti_sl22, ti_sl23, ti_sl68, ti_sz25, ti_sz35, ti_zr25, ti_zr35, itD, itV, rlV, rowD, rlD, hiT, hrow, hxp])
              | ((first | with_reducible refine AWp_regE mu_17 ks_17 ?_ | with_reducible refine AWp_drawE nd_17 mu_17 ks_17 ti_mixed (by kernel_rfl) ?_); intro Kv hKv; simp (dsimp := false) only [go_sem, Nat.reduceAdd, Nat.reduceBEq, Nat.reduceEqDiff, Nat.reduceLT, Nat.reduceLeDiff, Nat.reduceMul, Int.reduceToNat, reduceCtorEq, ↓reduceIte, Tryd.ntmps17, Tryd.results17, ks_17, mu_17, nd_17, ti_ag23, ti_ag25, ti_ag35, ti_ag68, ti_fe35, ti_fl25_1, ti_hb47, ti_hb48, ti_hb49, ti_hb50, ti_pl25, ti_pl35, ti_sb23, ti_sl22, ti_sl23, ti_sl68, ti_sz25, ti_sz35, ti_zr25, ti_zr35, itD, itV, rlV, rowD, rlD, hiT, hrow, hxp])
              | (refine AWp_condC rfl ?_; intro KA KB hKA hKB; try simp only [onB_true, onB_false, onB_dec, onB_ndec, onB_not, onB_and, onB_or])
              | (refine AWp_condA rfl ?_ ?_)
              | with_reducible refine onB_of ?_ ?_
              | with_reducible rfl
              | omega)
            refine AWp_whileH (fun k : Nat => k ≤ i)
              (fun k => [(1, .d (.s name)), (2, .d (.s part)), (3, .d (.s which)), (5, .rp (rlD r)), (10, .pt H.length 0 0 0), (13, .d (.i .i64 p)), (14, .d (.i .i64 q)), (15, .os (H.length + 1) acc.length), (16, .d (.i .i64 i)), (17, .d (.b (firstB p r.rows x k))), (18, .d (.i .i64 k))])
              (fun k => [.row 0 25 2 [[.d (.c (.slice none 0 0)), .d (.c (.slice none 0 0))]], .row acc.length 68 1 (acc.map rowC)]) (fun k => i - k) 0 (Nat.zero_le _) rfl ?_ ?_ ?_
            · simp (dsimp := false) only [go_sem, Nat.reduceAdd, Nat.reduceBEq, Nat.reduceEqDiff, Nat.reduceLT, Nat.reduceLeDiff, Nat.reduceMul, Int.reduceToNat, reduceCtorEq, ↓reduceIte, Tryd.ntmps17, Tryd.results17, ks_17, mu_17, nd_17, ti_ag23, ti_ag25, ti_ag35, ti_ag68, ti_fe35, ti_fl25_1, ti_hb47, ti_hb48, ti_hb49, ti_hb50, ti_pl25, ti_pl35, ti_sb23, ti_sl22, ti_sl23, ti_sl68, ti_sz25, ti_sz35, ti_zr25, ti_zr35, itD, itV, rlV, rowD, rlD, hiT, hrow, hxp]
              first | done | simp [firstB] | (simp [firstB]; omega)
            · rintro _ _ ob hob
              simp only [List.mem_cons, List.not_mem_nil, or_false] at hob
              rcases hob with rfl | rfl
              · exact bel_nil2 _ _ _
              · exact obBel_rows _ _ _ _ _
            rintro k hki
            by_cases hk2 : k < i
            · obtain ⟨row2, hrow2⟩ : ∃ row2, r.rows[k]? = some row2 := ⟨r.rows[k]'(by omega), List.getElem?_eq_getElem (by omega)⟩
              have hkT : ((k : Int) < (i : Int)) = True := eq_true (by omega)
              have hrl2 := (hall row2 (List.mem_of_getElem? hrow2)).1
              obtain ⟨y, hyp⟩ : ∃ y, row2[p]? = some y := ⟨row2[p]'(by omega), List.getElem?_eq_getElem (by omega)⟩
              have hgy := rg_get hyp
              have hnx := firstB_next (p := p) (x := x) hrow2
              rw [hgy] at hnx
              cases hfb : firstB p r.rows x k with
              | false =>
                rw [hfb, Bool.false_and] at hnx
                
                repeat' (first
                  | exact hj
                  | with_reducible refine And.intro ?_ ?_
                  | with_reducible intro _
                  | with_reducible refine AWp_seq ?_
                  | with_reducible refine AWp_block ?_
                  | (with_reducible refine hKv _ _ (AWp_nop ?_); clear hKv Kv)
                  | (with_reducible refine hKv _ _ ?_; clear hKv Kv; simp (dsimp := false) only [go_sem, Nat.reduceAdd, Nat.reduceBEq, Nat.reduceEqDiff, Nat.reduceLT, Nat.reduceLeDiff, Nat.reduceMul, Int.reduceToNat, reduceCtorEq, ↓reduceIte, Tryd.ntmps17, Tryd.results17, ks_17, mu_17, nd_17, ti_ag23, ti_ag25, ti_ag35, ti_ag68, ti_fe35, ti_fl25_1, ti_hb47, ti_hb48, ti_hb49, ti_hb50, ti_pl25, ti_pl35, ti_sb23, ti_sl22, ti_sl23, ti_sl68, ti_sz25, ti_sz35, ti_zr25, ti_zr35, itD, itV, rlV, rowD, rlD, hkT, hrow, hxp, hrow2, hyp, hfb])
                  | (with_reducible refine hKA ?_; clear hKA hKB KA KB)
                  | (with_reducible refine hKB ?_; clear hKA hKB KA KB)
                  | (with_reducible refine AWp_regC (id := 2) mu_17 ks_17 ?_; intro Kv hKv; simp (dsimp := false) only [go_sem, Nat.reduceAdd, Nat.reduceBEq, Nat.reduceEqDiff, Nat.reduceLT, Nat.reduceLeDiff, Nat.reduceMul, Int.reduceToNat, reduceCtorEq, ↓reduceIte, Tryd.ntmps17, Tryd.results17, ks_17, mu_17, nd_17, ti_ag23, ti_ag25, ti_ag35, ti_ag68, ti_fe35, ti_fl25_1, ti_hb47, ti_hb48, ti_hb49, ti_hb50, ti_pl25, ti_pl35, ti_sb23, ti_sl22, ti_sl23, ti_sl68, ti_sz25, ti_sz35, ti_zr25, ti_zr35, itD, itV, rlV, rowD, rlD, hkT, hrow, hxp, hrow2, hyp, hfb]; apply regJ (Kv := Kv); intro hj)
                  | ((first | with_reducible refine AWp_regC mu_17 ks_17 ?_ | with_reducible refine AWp_draw nd_17 mu_17 ks_17 ti_mixed (by kernel_rfl) ?_); intro Kv hKv; simp (dsimp := false) only [go_sem, Nat.reduceAdd, Nat.reduceBEq, Nat.reduceEqDiff, Nat.reduceLT, Nat.reduceLeDiff, Nat.reduceMul, Int.reduceToNat, reduceCtorEq, ↓reduceIte, Tryd.ntmps17, Tryd.results17, ks_17, mu_17, nd_17, ti_ag23, ti_ag25, ti_ag35, ti_ag68, ti_fe35, ti_fl25_1, ti_hb47, ti_hb48, ti_hb49, ti_hb50, ti_pl25, ti_pl35, ti_sb23, ti_sl22, ti_sl23, ti_sl68, ti_sz25, ti_sz35, ti_zr25, ti_zr35, itD, itV, rlV, rowD, rlD, hkT, hrow, hxp, hrow2, hyp, hfb])
                  | with_reducible refine AWp_skipN ?_
                  | with_reducible refine AWp_exitO (by repeat (first | with_reducible exact Out.hit | with_reducible apply Out.thenA | with_reducible apply Out.out rfl)) ?_
                  | (with_reducible refine AWp_retR ?_; simp (dsimp := false) only [go_sem, Nat.reduceAdd, Nat.reduceBEq, Nat.reduceEqDiff, Nat.reduceLT, Nat.reduceLeDiff, Nat.reduceMul, Int.reduceToNat, reduceCtorEq, ↓reduceIte, Tryd.ntmps17, Tryd.results17, ks_17, mu_17, nd_17, ti_ag23, ti_ag25, ti_ag35, ti_ag68, ti_fe35, ti_fl25_1, ti_hb47, ti_hb48, ti_hb49, ti_hb50, ti_pl25, ti_pl35, ti_sb23, ti_sl22, ti_sl23, ti_sl68, ti_sz25, ti_sz35, ti_zr25, ti_zr35, itD, itV, rlV, rowD, rlD, hkT, hrow, hxp, hrow2, hyp, hfb])
                  | ((first | with_reducible refine AWp_regE mu_17 ks_17 ?_ | with_reducible refine AWp_drawE nd_17 mu_17 ks_17 ti_mixed (by kernel_rfl) ?_); intro Kv hKv; simp (dsimp := false) only [go_sem, Nat.reduceAdd, Nat.reduceBEq, Nat.reduceEqDiff, Nat.reduceLT, Nat.reduceLeDiff, Nat.reduceMul, Int.reduceToNat, reduceCtorEq, ↓reduceIte, Tryd.ntmps17, Tryd.results17, ks_17, mu_17, nd_17, ti_ag23, ti_ag25, ti_ag35, ti_ag68, ti_fe35, ti_fl25_1, ti_hb47, ti_hb48, ti_hb49, ti_hb50, ti_pl25, ti_pl35, ti_sb23, ti_sl22, ti_sl23, ti_sl68, ti_sz25, ti_sz35, ti_zr25, ti_zr35, itD, itV, rlV, rowD, rlD, hkT, hrow, hxp, hrow2, hyp, hfb])
                  | (refine AWp_condC rfl ?_; intro KA KB hKA hKB; try simp only [onB_true, onB_false, onB_dec, onB_ndec, onB_not, onB_and, onB_or])
                  | (refine AWp_condA rfl ?_ ?_)
                  | with_reducible refine onB_of ?_ ?_
                  | with_reducible rfl
                  | omega)
                all_goals first
                  | omega
                  | (refine ⟨k + 1, by omega, by omega, ?_⟩; rw [hnx]; (repeat' (refine And.intro ?_ ?_)) <;> first | rfl | omega | (simp; done) | (simp; omega) | (simp (dsimp := false) only [go_sem, Nat.reduceAdd, Nat.reduceBEq, Nat.reduceEqDiff, Nat.reduceLT, Nat.reduceLeDiff, Nat.reduceMul, Int.reduceToNat, reduceCtorEq, ↓reduceIte, Tryd.ntmps17, Tryd.results17, ks_17, mu_17, nd_17, ti_ag23, ti_ag25, ti_ag35, ti_ag68, ti_fe35, ti_fl25_1, ti_hb47, ti_hb48, ti_hb49, ti_hb50, ti_pl25, ti_pl35, ti_sb23, ti_sl22, ti_sl23, ti_sl68, ti_sz25, ti_sz35, ti_zr25, ti_zr35, itD, itV, rlV, rowD, rlD, hkT, hrow, hxp, hrow2, hyp, hfb]; done) | (simp (dsimp := false) only [go_sem, Nat.reduceAdd, Nat.reduceBEq, Nat.reduceEqDiff, Nat.reduceLT, Nat.reduceLeDiff, Nat.reduceMul, Int.reduceToNat, reduceCtorEq, ↓reduceIte, Tryd.ntmps17, Tryd.results17, ks_17, mu_17, nd_17, ti_ag23, ti_ag25, ti_ag35, ti_ag68, ti_fe35, ti_fl25_1, ti_hb47, ti_hb48, ti_hb49, ti_hb50, ti_pl25, ti_pl35, ti_sb23, ti_sl22, ti_sl23, ti_sl68, ti_sz25, ti_sz35, ti_zr25, ti_zr35, itD, itV, rlV, rowD, rlD, hkT, hrow, hxp, hrow2, hyp, hfb]; omega))
              | true =>
                rw [hfb, Bool.true_and] at hnx
                
                repeat' (first
                  | exact hj
                  | with_reducible refine And.intro ?_ ?_
                  | with_reducible intro _
                  | with_reducible refine AWp_seq ?_
                  | with_reducible refine AWp_block ?_
                  | (with_reducible refine hKv _ _ (AWp_nop ?_); clear hKv Kv)
                  | (with_reducible refine hKv _ _ ?_; clear hKv Kv; simp (dsimp := false) only [go_sem, Nat.reduceAdd, Nat.reduceBEq, Nat.reduceEqDiff, Nat.reduceLT, Nat.reduceLeDiff, Nat.reduceMul, Int.reduceToNat, reduceCtorEq, ↓reduceIte, Tryd.ntmps17, Tryd.results17, ks_17, mu_17, nd_17, ti_ag23, ti_ag25, ti_ag35, ti_ag68, ti_fe35, ti_fl25_1, ti_hb47, ti_hb48, ti_hb49, ti_hb50, ti_pl25, ti_pl35, ti_sb23, ti_sl22, ti_sl23, ti_sl68, ti_sz25, ti_sz35, ti_zr25, ti_zr35, itD, itV, rlV, rowD, rlD, hkT, hrow, hxp, hrow2, hyp, hfb])
                  | (with_reducible refine hKA ?_; clear hKA hKB KA KB)
                  | (with_reducible refine hKB ?_; clear hKA hKB KA KB)
                  | (with_reducible refine AWp_regC (id := 2) mu_17 ks_17 ?_; intro Kv hKv; simp (dsimp := false) only [go_sem, Nat.reduceAdd, Nat.reduceBEq, Nat.reduceEqDiff, Nat.reduceLT, Nat.reduceLeDiff, Nat.reduceMul, Int.reduceToNat, reduceCtorEq, ↓reduceIte, Tryd.ntmps17, Tryd.results17, ks_17, mu_17, nd_17, ti_ag23, ti_ag25, ti_ag35, ti_ag68, ti_fe35, ti_fl25_1, ti_hb47, ti_hb48, ti_hb49, ti_hb50, ti_pl25, ti_pl35, ti_sb23, ti_sl22, ti_sl23, ti_sl68, ti_sz25, ti_sz35, ti_zr25, ti_zr35, itD, itV, rlV, rowD, rlD, hkT, hrow, hxp, hrow2, hyp, hfb]; apply regJ (Kv := Kv); intro hj)
                  | ((first | with_reducible refine AWp_regC mu_17 ks_17 ?_ | with_reducible refine AWp_draw nd_17 mu_17 ks_17 ti_mixed (by kernel_rfl) ?_); intro Kv hKv; simp (dsimp := false) only [go_sem, Nat.reduceAdd, Nat.reduceBEq, Nat.reduceEqDiff, Nat.reduceLT, Nat.reduceLeDiff, Nat.reduceMul, Int.reduceToNat, reduceCtorEq, ↓reduceIte, Tryd.ntmps17, Tryd.results17, ks_17, mu_17, nd_17, ti_ag23, ti_ag25, ti_ag35, ti_ag68, ti_fe35, ti_fl25_1, ti_hb47, ti_hb48, ti_hb49, ti_hb50, ti_pl25, ti_pl35, ti_sb23, ti_sl22, ti_sl23, ti_sl68, ti_sz25, ti_sz35, ti_zr25, ti_zr35, itD, itV, rlV, rowD, rlD, hkT, hrow, hxp, hrow2, hyp, hfb])
                  | with_reducible refine AWp_skipN ?_
                  | with_reducible refine AWp_exitO (by repeat (first | with_reducible exact Out.hit | with_reducible apply Out.thenA | with_reducible apply Out.out rfl)) ?_
                  | (with_reducible refine AWp_retR ?_; simp (dsimp := false) only [go_sem, Nat.reduceAdd, Nat.reduceBEq, Nat.reduceEqDiff, Nat.reduceLT, Nat.reduceLeDiff, Nat.reduceMul, Int.reduceToNat, reduceCtorEq, ↓reduceIte, Tryd.ntmps17, Tryd.results17, ks_17, mu_17, nd_17, ti_ag23, ti_ag25, ti_ag35, ti_ag68, ti_fe35, ti_fl25_1, ti_hb47, ti_hb48, ti_hb49, ti_hb50, ti_pl25, ti_pl35, ti_sb23, ti_sl22, ti_sl23, ti_sl68, ti_sz25, ti_sz35, ti_zr25, ti_zr35, itD, itV, rlV, rowD, rlD, hkT, hrow, hxp, hrow2, hyp, hfb])
                  | ((first | with_reducible refine AWp_regE mu_17 ks_17 ?_ | with_reducible refine AWp_drawE nd_17 mu_17 ks_17 ti_mixed (by kernel_rfl) ?_); intro Kv hKv; simp (dsimp := false) only [go_sem, Nat.reduceAdd, Nat.reduceBEq, Nat.reduceEqDiff, Nat.reduceLT, Nat.reduceLeDiff, Nat.reduceMul, Int.reduceToNat, reduceCtorEq, ↓reduceIte, Tryd.ntmps17, Tryd.results17, ks_17, mu_17, nd_17, ti_ag23, ti_ag25, ti_ag35, ti_ag68, ti_fe35, ti_fl25_1, ti_hb47, ti_hb48, ti_hb49, ti_hb50, ti_pl25, ti_pl35, ti_sb23, ti_sl22, ti_sl23, ti_sl68, ti_sz25, ti_sz35, ti_zr25, ti_zr35, itD, itV, rlV, rowD, rlD, hkT, hrow, hxp, hrow2, hyp, hfb])
                  | (refine AWp_condC rfl ?_; intro KA KB hKA hKB; try simp only [onB_true, onB_false, onB_dec, onB_ndec, onB_not, onB_and, onB_or])
                  | (refine AWp_condA rfl ?_ ?_)
                  | with_reducible refine onB_of ?_ ?_
                  | with_reducible rfl
                  | omega)
                all_goals first
                  | omega
                  | (refine ⟨k + 1, by omega, by omega, by omega, by omega, ?_, by omega⟩
                     rw [hnx]
                     exact it_ne x y)
            · have e : k = i := by omega
              subst e
              have hnk : ((k : Int) < (k : Int)) = False := eq_false (by omega)
              have hkt := grpKeys_take (p := p) (q := q) hrow
              rw [hgx] at hkt
              rw [firstB_keys (q := q)]
              by_cases hin : x ∈ grpKeys p q (r.rows.take k)
              · rw [if_pos hin] at hkt
                rw [← hkt] at h3
                have hfn : decide (x ∉ grpKeys p q (r.rows.take k)) = false := decide_eq_false fun h => h hin
                rw [hfn]
                
                repeat' (first
                  | exact hj
                  | with_reducible refine And.intro ?_ ?_
                  | with_reducible intro _
                  | with_reducible refine AWp_seq ?_
                  | with_reducible refine AWp_block ?_
                  | (with_reducible refine hKv _ _ (AWp_nop ?_); clear hKv Kv)
                  | (with_reducible refine hKv _ _ ?_; clear hKv Kv; simp (dsimp := false) only [go_sem, Nat.reduceAdd, Nat.reduceBEq, Nat.reduceEqDiff, Nat.reduceLT, Nat.reduceLeDiff, Nat.reduceMul, Int.reduceToNat, reduceCtorEq, ↓reduceIte, Tryd.ntmps17, Tryd.results17, ks_17, mu_17, nd_17, ti_ag23, ti_ag25, ti_ag35, ti_ag68, ti_fe35, ti_fl25_1, ti_hb47, ti_hb48, ti_hb49, ti_hb50, ti_pl25, ti_pl35, ti_sb23, ti_sl22, ti_sl23, ti_sl68, ti_sz25, ti_sz35, ti_zr25, ti_zr35, itD, itV, rlV, rowD, rlD, hrow, hxp, hnk])
                  | (with_reducible refine hKA ?_; clear hKA hKB KA KB)
                  | (with_reducible refine hKB ?_; clear hKA hKB KA KB)
                  | (with_reducible refine AWp_regC (id := 2) mu_17 ks_17 ?_; intro Kv hKv; simp (dsimp := false) only [go_sem, Nat.reduceAdd, Nat.reduceBEq, Nat.reduceEqDiff, Nat.reduceLT, Nat.reduceLeDiff, Nat.reduceMul, Int.reduceToNat, reduceCtorEq, ↓reduceIte, Tryd.ntmps17, Tryd.results17, ks_17, mu_17, nd_17, ti_ag23, ti_ag25, ti_ag35, ti_ag68, ti_fe35, ti_fl25_1, ti_hb47, ti_hb48, ti_hb49, ti_hb50, ti_pl25, ti_pl35, ti_sb23, ti_sl22, ti_sl23, ti_sl68, ti_sz25, ti_sz35, ti_zr25, ti_zr35, itD, itV, rlV, rowD, rlD, hrow, hxp, hnk]; apply regJ (Kv := Kv); intro hj)
                  | ((first | with_reducible refine AWp_regC mu_17 ks_17 ?_ | with_reducible refine AWp_draw nd_17 mu_17 ks_17 ti_mixed (by kernel_rfl) ?_); intro Kv hKv; simp (dsimp := false) only [go_sem, Nat.reduceAdd, Nat.reduceBEq, Nat.reduceEqDiff, Nat.reduceLT, Nat.reduceLeDiff, Nat.reduceMul, Int.reduceToNat, reduceCtorEq, ↓reduceIte, Tryd.ntmps17, Tryd.results17, ks_17, mu_17, nd_17, ti_ag23, ti_ag25, ti_ag35, ti_ag68, ti_fe35, ti_fl25_1, ti_hb47, ti_hb48, ti_hb49, ti_hb50, ti_pl25, ti_pl35, ti_sb23, ti_sl22, ti_sl23, ti_sl68, ti_sz25, ti_sz35, ti_zr25, ti_zr35, itD, itV, rlV, rowD, rlD, hrow, hxp, hnk])
                  | with_reducible refine AWp_skipN ?_
                  | with_reducible refine AWp_exitO (by repeat (first | with_reducible exact Out.hit | with_reducible apply Out.thenA | with_reducible apply Out.out rfl)) ?_
                  | (with_reducible refine AWp_retR ?_; simp (dsimp := false) only [go_sem, Nat.reduceAdd, Nat.reduceBEq, Nat.reduceEqDiff, Nat.reduceLT, Nat.reduceLeDiff, Nat.reduceMul, Int.reduceToNat, reduceCtorEq, ↓reduceIte, Tryd.ntmps17, Tryd.results17, ks_17, mu_17, nd_17, ti_ag23, ti_ag25, ti_ag35, ti_ag68, ti_fe35, ti_fl25_1, ti_hb47, ti_hb48, ti_hb49, ti_hb50, ti_pl25, ti_pl35, ti_sb23, ti_sl22, ti_sl23, ti_sl68, ti_sz25, ti_sz35, ti_zr25, ti_zr35, itD, itV, rlV, rowD, rlD, hrow, hxp, hnk])
                  | ((first | with_reducible refine AWp_regE mu_17 ks_17 ?_ | with_reducible refine AWp_drawE nd_17 mu_17 ks_17 ti_mixed (by kernel_rfl) ?_); intro Kv hKv; simp (dsimp := false) only [go_sem, Nat.reduceAdd, Nat.reduceBEq, Nat.reduceEqDiff, Nat.reduceLT, Nat.reduceLeDiff, Nat.reduceMul, Int.reduceToNat, reduceCtorEq, ↓reduceIte, Tryd.ntmps17, Tryd.results17, ks_17, mu_17, nd_17, ti_ag23, ti_ag25, ti_ag35, ti_ag68, ti_fe35, ti_fl25_1, ti_hb47, ti_hb48, ti_hb49, ti_hb50, ti_pl25, ti_pl35, ti_sb23, ti_sl22, ti_sl23, ti_sl68, ti_sz25, ti_sz35, ti_zr25, ti_zr35, itD, itV, rlV, rowD, rlD, hrow, hxp, hnk])
                  | (refine AWp_condC rfl ?_; intro KA KB hKA hKB; try simp only [onB_true, onB_false, onB_dec, onB_ndec, onB_not, onB_and, onB_or])
                  | (refine AWp_condA rfl ?_ ?_)
                  | with_reducible refine onB_of ?_ ?_
                  | with_reducible rfl
                  | omega)
                all_goals first
                  | omega
                  | exact ⟨(k + 1, acc), [], ⟨by show k + 1 ≤ r.rows.length; omega, by show acc.length ≤ k + 1; omega, h3⟩, by show r.rows.length - (k + 1) < r.rows.length - k; omega, by simp, by (repeat' (refine And.intro ?_ ?_)) <;> first | rfl | omega | (simp; done) | (simp; omega) | (simp (dsimp := false) only [go_sem, Nat.reduceAdd, Nat.reduceBEq, Nat.reduceEqDiff, Nat.reduceLT, Nat.reduceLeDiff, Nat.reduceMul, Int.reduceToNat, reduceCtorEq, ↓reduceIte, Tryd.ntmps17, Tryd.results17, ks_17, mu_17, nd_17, ti_ag23, ti_ag25, ti_ag35, ti_ag68, ti_fe35, ti_fl25_1, ti_hb47, ti_hb48, ti_hb49, ti_hb50, ti_pl25, ti_pl35, ti_sb23, ti_sl22, ti_sl23, ti_sl68, ti_sz25, ti_sz35, ti_zr25, ti_zr35, itD, itV, rlV, rowD, rlD, hrow, hxp, hnk]; done) | (simp (dsimp := false) only [go_sem, Nat.reduceAdd, Nat.reduceBEq, Nat.reduceEqDiff, Nat.reduceLT, Nat.reduceLeDiff, Nat.reduceMul, Int.reduceToNat, reduceCtorEq, ↓reduceIte, Tryd.ntmps17, Tryd.results17, ks_17, mu_17, nd_17, ti_ag23, ti_ag25, ti_ag35, ti_ag68, ti_fe35, ti_fl25_1, ti_hb47, ti_hb48, ti_hb49, ti_hb50, ti_pl25, ti_pl35, ti_sb23, ti_sl22, ti_sl23, ti_sl68, ti_sz25, ti_sz35, ti_zr25, ti_zr35, itD, itV, rlV, rowD, rlD, hrow, hxp, hnk]; omega)⟩
              · rw [if_neg hin] at hkt
                have hfn : decide (x ∉ grpKeys p q (r.rows.take k)) = true := decide_eq_true hin
                rw [hfn]
                have h5 := grpGo_app (w := which) (val := grpVal p q r.rows) (grpKeys p q (r.rows.take k)) [x] []
                rw [h3, ← hkt] at h5
                simp only [grpGo] at h5
                
                repeat' (first
                  | exact hj
                  | with_reducible refine And.intro ?_ ?_
                  | with_reducible intro _
                  | with_reducible refine AWp_seq ?_
                  | with_reducible refine AWp_block ?_
                  | (with_reducible refine hKv _ _ (AWp_nop ?_); clear hKv Kv)
                  | (with_reducible refine hKv _ _ ?_; clear hKv Kv; simp (dsimp := false) only [go_sem, Nat.reduceAdd, Nat.reduceBEq, Nat.reduceEqDiff, Nat.reduceLT, Nat.reduceLeDiff, Nat.reduceMul, Int.reduceToNat, reduceCtorEq, ↓reduceIte, Tryd.ntmps17, Tryd.results17, ks_17, mu_17, nd_17, ti_ag23, ti_ag25, ti_ag35, ti_ag68, ti_fe35, ti_fl25_1, ti_hb47, ti_hb48, ti_hb49, ti_hb50, ti_pl25, ti_pl35, ti_sb23, ti_sl22, ti_sl23, ti_sl68, ti_sz25, ti_sz35, ti_zr25, ti_zr35, itD, itV, rlV, rowD, rlD, hrow, hxp, hnk])
                  | (with_reducible refine hKA ?_; clear hKA hKB KA KB)
                  | (with_reducible refine hKB ?_; clear hKA hKB KA KB)
                  | (with_reducible refine AWp_regC (id := 2) mu_17 ks_17 ?_; intro Kv hKv; simp (dsimp := false) only [go_sem, Nat.reduceAdd, Nat.reduceBEq, Nat.reduceEqDiff, Nat.reduceLT, Nat.reduceLeDiff, Nat.reduceMul, Int.reduceToNat, reduceCtorEq, ↓reduceIte, Tryd.ntmps17, Tryd.results17, ks_17, mu_17, nd_17, ti_ag23, ti_ag25, ti_ag35, ti_ag68, ti_fe35, ti_fl25_1, ti_hb47, ti_hb48, ti_hb49, ti_hb50, ti_pl25, ti_pl35, ti_sb23, ti_sl22, ti_sl23, ti_sl68, ti_sz25, ti_sz35, ti_zr25, ti_zr35, itD, itV, rlV, rowD, rlD, hrow, hxp, hnk]; apply regJ (Kv := Kv); intro hj)
                  | ((first | with_reducible refine AWp_regC mu_17 ks_17 ?_ | with_reducible refine AWp_draw nd_17 mu_17 ks_17 ti_mixed (by kernel_rfl) ?_); intro Kv hKv; simp (dsimp := false) only [go_sem, Nat.reduceAdd, Nat.reduceBEq, Nat.reduceEqDiff, Nat.reduceLT, Nat.reduceLeDiff, Nat.reduceMul, Int.reduceToNat, reduceCtorEq, ↓reduceIte, Tryd.ntmps17, Tryd.results17, ks_17, mu_17, nd_17, ti_ag23, ti_ag25, ti_ag35, ti_ag68, ti_fe35, ti_fl25_1, ti_hb47, ti_hb48, ti_hb49, ti_hb50, ti_pl25, ti_pl35, ti_sb23, ti_sl22, ti_sl23, ti_sl68, ti_sz25, ti_sz35, ti_zr25, ti_zr35, itD, itV, rlV, rowD, rlD, hrow, hxp, hnk])
                  | with_reducible refine AWp_skipN ?_
                  | with_reducible refine AWp_exitO (by repeat (first | with_reducible exact Out.hit | with_reducible apply Out.thenA | with_reducible apply Out.out rfl)) ?_
                  | (with_reducible refine AWp_retR ?_; simp (dsimp := false) only [go_sem, Nat.reduceAdd, Nat.reduceBEq, Nat.reduceEqDiff, Nat.reduceLT, Nat.reduceLeDiff, Nat.reduceMul, Int.reduceToNat, reduceCtorEq, ↓reduceIte, Tryd.ntmps17, Tryd.results17, ks_17, mu_17, nd_17, ti_ag23, ti_ag25, ti_ag35, ti_ag68, ti_fe35, ti_fl25_1, ti_hb47, ti_hb48, ti_hb49, ti_hb50, ti_pl25, ti_pl35, ti_sb23, ti_sl22, ti_sl23, ti_sl68, ti_sz25, ti_sz35, ti_zr25, ti_zr35, itD, itV, rlV, rowD, rlD, hrow, hxp, hnk])
                  | ((first | with_reducible refine AWp_regE mu_17 ks_17 ?_ | with_reducible refine AWp_drawE nd_17 mu_17 ks_17 ti_mixed (by kernel_rfl) ?_); intro Kv hKv; simp (dsimp := false) only [go_sem, Nat.reduceAdd, Nat.reduceBEq, Nat.reduceEqDiff, Nat.reduceLT, Nat.reduceLeDiff, Nat.reduceMul, Int.reduceToNat, reduceCtorEq, ↓reduceIte, Tryd.ntmps17, Tryd.results17, ks_17, mu_17, nd_17, ti_ag23, ti_ag25, ti_ag35, ti_ag68, ti_fe35, ti_fl25_1, ti_hb47, ti_hb48, ti_hb49, ti_hb50, ti_pl25, ti_pl35, ti_sb23, ti_sl22, ti_sl23, ti_sl68, ti_sz25, ti_sz35, ti_zr25, ti_zr35, itD, itV, rlV, rowD, rlD, hrow, hxp, hnk])
                  | (refine AWp_condC rfl ?_; intro KA KB hKA hKB; try simp only [onB_true, onB_false, onB_dec, onB_ndec, onB_not, onB_and, onB_or])
                  | (refine AWp_condA rfl ?_ ?_)
                  | with_reducible refine onB_of ?_ ?_
                  | with_reducible rfl
                  | omega)
                refine AWp_whileH (fun j : Nat => j ≤ r.rows.length)
                  (fun j => [(1, .d (.s name)), (2, .d (.s part)), (3, .d (.s which)), (5, .rp (rlD r)), (10, .pt H.length 0 0 0), (13, .d (.i .i64 p)), (14, .d (.i .i64 q)), (15, .os (H.length + 1) acc.length), (16, .d (.i .i64 k)), (19, .os (H.length + 2) (valP p q r.rows x j).length), (20, .d (.i .i64 j))])
                  (fun j => [.row 0 25 2 [[.d (.c (.slice none 0 0)), .d (.c (.slice none 0 0))]], .row acc.length 68 1 (acc.map rowC), .row (valP p q r.rows x j).length 35 3 ((valP p q r.rows x j).map itC)]) (fun j => r.rows.length - j) 0 (Nat.zero_le _) (by simp [valP]) ?_ ?_ ?_
                · simp (dsimp := false) only [go_sem, Nat.reduceAdd, Nat.reduceBEq, Nat.reduceEqDiff, Nat.reduceLT, Nat.reduceLeDiff, Nat.reduceMul, Int.reduceToNat, reduceCtorEq, ↓reduceIte, Tryd.ntmps17, Tryd.results17, ks_17, mu_17, nd_17, ti_ag23, ti_ag25, ti_ag35, ti_ag68, ti_fe35, ti_fl25_1, ti_hb47, ti_hb48, ti_hb49, ti_hb50, ti_pl25, ti_pl35, ti_sb23, ti_sl22, ti_sl23, ti_sl68, ti_sz25, ti_sz35, ti_zr25, ti_zr35, itD, itV, rlV, rowD, rlD, hrow, hxp, hnk]
                  first | done | simp [valP] | (simp [valP]; omega)
                · rintro _ _ ob hob
                  simp only [List.mem_cons, List.not_mem_nil, or_false] at hob
                  rcases hob with rfl | rfl | rfl
                  · exact bel_nil2 _ _ _
                  · exact obBel_rows _ _ _ _ _
                  · exact obBel_its3 _ _ _ _
                rintro j hjN
                have hvpl := valP_len p q r.rows x j
                by_cases hj2 : j < r.rows.length
                · obtain ⟨row2, hrow2⟩ : ∃ row2, r.rows[j]? = some row2 := ⟨r.rows[j], List.getElem?_eq_getElem hj2⟩
                  have hjT : ((j : Int) < (r.rows.length : Int)) = True := eq_true (by omega)
                  have hrl2 := (hall row2 (List.mem_of_getElem? hrow2)).1
                  obtain ⟨y, hyp⟩ : ∃ y, row2[p]? = some y := ⟨row2[p]'(by omega), List.getElem?_eq_getElem (by omega)⟩
                  obtain ⟨v, hvq⟩ : ∃ v, row2[q]? = some v := ⟨row2[q]'(by omega), List.getElem?_eq_getElem (by omega)⟩
                  have hgy := rg_get hyp
                  have hgv := rg_get hvq
                  by_cases hyx : y = x
                  · have hvp := valP_hit (q := q) hrow2 (hgy.trans hyx)
                    rw [hgv] at hvp
                    subst hyx
                    
                    repeat' (first
                      | exact hj
                      | with_reducible refine And.intro ?_ ?_
                      | with_reducible intro _
                      | with_reducible refine AWp_seq ?_
                      | with_reducible refine AWp_block ?_
                      | (with_reducible refine hKv _ _ (AWp_nop ?_); clear hKv Kv)
                      | (with_reducible refine hKv _ _ ?_; clear hKv Kv; simp (dsimp := false) only [go_sem, Nat.reduceAdd, Nat.reduceBEq, Nat.reduceEqDiff, Nat.reduceLT, Nat.reduceLeDiff, Nat.reduceMul, Int.reduceToNat, reduceCtorEq, ↓reduceIte, Tryd.ntmps17, Tryd.results17, ks_17, mu_17, nd_17, ti_ag23, ti_ag25, ti_ag35, ti_ag68, ti_fe35, ti_fl25_1, ti_hb47, ti_hb48, ti_hb49, ti_hb50, ti_pl25, ti_pl35, ti_sb23, ti_sl22, ti_sl23, ti_sl68, ti_sz25, ti_sz35, ti_zr25, ti_zr35, itD, itV, rlV, rowD, rlD, hjT, hrow, hxp, hrow2, hyp, hvq])
                      | (with_reducible refine hKA ?_; clear hKA hKB KA KB)
                      | (with_reducible refine hKB ?_; clear hKA hKB KA KB)
                      | (with_reducible refine AWp_regC (id := 2) mu_17 ks_17 ?_; intro Kv hKv; simp (dsimp := false) only [go_sem, Nat.reduceAdd, Nat.reduceBEq, Nat.reduceEqDiff, Nat.reduceLT, Nat.reduceLeDiff, Nat.reduceMul, Int.reduceToNat, reduceCtorEq, ↓reduceIte, Tryd.ntmps17, Tryd.results17, ks_17, mu_17, nd_17, ti_ag23, ti_ag25, ti_ag35, ti_ag68, ti_fe35, ti_fl25_1, ti_hb47, ti_hb48, ti_hb49, ti_hb50, ti_pl25, ti_pl35, ti_sb23, ti_sl22, ti_sl23, ti_sl68, ti_sz25, ti_sz35, ti_zr25, ti_zr35, itD, itV, rlV, rowD, rlD, hjT, hrow, hxp, hrow2, hyp, hvq]; apply regJ (Kv := Kv); intro hj)
                      | ((first | with_reducible refine AWp_regC mu_17 ks_17 ?_ | with_reducible refine AWp_draw nd_17 mu_17 ks_17 ti_mixed (by kernel_rfl) ?_); intro Kv hKv; simp (dsimp := false) only [go_sem, Nat.reduceAdd, Nat.reduceBEq, Nat.reduceEqDiff, Nat.reduceLT, Nat.reduceLeDiff, Nat.reduceMul, Int.reduceToNat, reduceCtorEq, ↓reduceIte, Tryd.ntmps17, Tryd.results17, ks_17, mu_17, nd_17, ti_ag23, ti_ag25, ti_ag35, ti_ag68, ti_fe35, ti_fl25_1, ti_hb47, ti_hb48, ti_hb49, ti_hb50, ti_pl25, ti_pl35, ti_sb23, ti_sl22, ti_sl23, ti_sl68, ti_sz25, ti_sz35, ti_zr25, ti_zr35, itD, itV, rlV, rowD, rlD, hjT, hrow, hxp, hrow2, hyp, hvq])
                      | with_reducible refine AWp_skipN ?_
                      | with_reducible refine AWp_exitO (by repeat (first | with_reducible exact Out.hit | with_reducible apply Out.thenA | with_reducible apply Out.out rfl)) ?_
                      | (with_reducible refine AWp_retR ?_; simp (dsimp := false) only [go_sem, Nat.reduceAdd, Nat.reduceBEq, Nat.reduceEqDiff, Nat.reduceLT, Nat.reduceLeDiff, Nat.reduceMul, Int.reduceToNat, reduceCtorEq, ↓reduceIte, Tryd.ntmps17, Tryd.results17, ks_17, mu_17, nd_17, ti_ag23, ti_ag25, ti_ag35, ti_ag68, ti_fe35, ti_fl25_1, ti_hb47, ti_hb48, ti_hb49, ti_hb50, ti_pl25, ti_pl35, ti_sb23, ti_sl22, ti_sl23, ti_sl68, ti_sz25, ti_sz35, ti_zr25, ti_zr35, itD, itV, rlV, rowD, rlD, hjT, hrow, hxp, hrow2, hyp, hvq])
                      | ((first | with_reducible refine AWp_regE mu_17 ks_17 ?_ | with_reducible refine AWp_drawE nd_17 mu_17 ks_17 ti_mixed (by kernel_rfl) ?_); intro Kv hKv; simp (dsimp := false) only [go_sem, Nat.reduceAdd, Nat.reduceBEq, Nat.reduceEqDiff, Nat.reduceLT, Nat.reduceLeDiff, Nat.reduceMul, Int.reduceToNat, reduceCtorEq, ↓reduceIte, Tryd.ntmps17, Tryd.results17, ks_17, mu_17, nd_17, ti_ag23, ti_ag25, ti_ag35, ti_ag68, ti_fe35, ti_fl25_1, ti_hb47, ti_hb48, ti_hb49, ti_hb50, ti_pl25, ti_pl35, ti_sb23, ti_sl22, ti_sl23, ti_sl68, ti_sz25, ti_sz35, ti_zr25, ti_zr35, itD, itV, rlV, rowD, rlD, hjT, hrow, hxp, hrow2, hyp, hvq])
                      | (refine AWp_condC rfl ?_; intro KA KB hKA hKB; try simp only [onB_true, onB_false, onB_dec, onB_ndec, onB_not, onB_and, onB_or])
                      | (refine AWp_condA rfl ?_ ?_)
                      | with_reducible refine onB_of ?_ ?_
                      | with_reducible rfl
                      | omega)
                    all_goals first
                      | omega
                      | (refine ⟨j + 1, by omega, by omega, ?_, ?_⟩
                         · rw [hvp, List.map_append, List.length_append]; rfl
                         · rw [hvp, List.length_append]; (repeat' (refine And.intro ?_ ?_)) <;> first | rfl | omega | (simp; done) | (simp; omega))
                  · have hvp := valP_miss (q := q) hrow2 (fun h => hyx (hgy.symm.trans h))
                    have hxy : ¬ (y.k = x.k ∧ y.n = x.n ∧ y.s = x.s) := fun h => hyx (it_ext h)
                    
                    repeat' (first
                      | exact hj
                      | with_reducible refine And.intro ?_ ?_
                      | with_reducible intro _
                      | with_reducible refine AWp_seq ?_
                      | with_reducible refine AWp_block ?_
                      | (with_reducible refine hKv _ _ (AWp_nop ?_); clear hKv Kv)
                      | (with_reducible refine hKv _ _ ?_; clear hKv Kv; simp (dsimp := false) only [go_sem, Nat.reduceAdd, Nat.reduceBEq, Nat.reduceEqDiff, Nat.reduceLT, Nat.reduceLeDiff, Nat.reduceMul, Int.reduceToNat, reduceCtorEq, ↓reduceIte, Tryd.ntmps17, Tryd.results17, ks_17, mu_17, nd_17, ti_ag23, ti_ag25, ti_ag35, ti_ag68, ti_fe35, ti_fl25_1, ti_hb47, ti_hb48, ti_hb49, ti_hb50, ti_pl25, ti_pl35, ti_sb23, ti_sl22, ti_sl23, ti_sl68, ti_sz25, ti_sz35, ti_zr25, ti_zr35, itD, itV, rlV, rowD, rlD, hjT, hrow, hxp, hrow2, hyp, hvq])
                      | (with_reducible refine hKA ?_; clear hKA hKB KA KB)
                      | (with_reducible refine hKB ?_; clear hKA hKB KA KB)
                      | (with_reducible refine AWp_regC (id := 2) mu_17 ks_17 ?_; intro Kv hKv; simp (dsimp := false) only [go_sem, Nat.reduceAdd, Nat.reduceBEq, Nat.reduceEqDiff, Nat.reduceLT, Nat.reduceLeDiff, Nat.reduceMul, Int.reduceToNat, reduceCtorEq, ↓reduceIte, Tryd.ntmps17, Tryd.results17, ks_17, mu_17, nd_17, ti_ag23, ti_ag25, ti_ag35, ti_ag68, ti_fe35, ti_fl25_1, ti_hb47, ti_hb48, ti_hb49, ti_hb50, ti_pl25, ti_pl35, ti_sb23, ti_sl22, ti_sl23, ti_sl68, ti_sz25, ti_sz35, ti_zr25, ti_zr35, itD, itV, rlV, rowD, rlD, hjT, hrow, hxp, hrow2, hyp, hvq]; apply regJ (Kv := Kv); intro hj)
                      | ((first | with_reducible refine AWp_regC mu_17 ks_17 ?_ | with_reducible refine AWp_draw nd_17 mu_17 ks_17 ti_mixed (by kernel_rfl) ?_); intro Kv hKv; simp (dsimp := false) only [go_sem, Nat.reduceAdd, Nat.reduceBEq, Nat.reduceEqDiff, Nat.reduceLT, Nat.reduceLeDiff, Nat.reduceMul, Int.reduceToNat, reduceCtorEq, ↓reduceIte, Tryd.ntmps17, Tryd.results17, ks_17, mu_17, nd_17, ti_ag23, ti_ag25, ti_ag35, ti_ag68, ti_fe35, ti_fl25_1, ti_hb47, ti_hb48, ti_hb49, ti_hb50, ti_pl25, ti_pl35, ti_sb23, ti_sl22, ti_sl23, ti_sl68, ti_sz25, ti_sz35, ti_zr25, ti_zr35, itD, itV, rlV, rowD, rlD, hjT, hrow, hxp, hrow2, hyp, hvq])
                      | with_reducible refine AWp_skipN ?_
                      | with_reducible refine AWp_exitO (by repeat (first | with_reducible exact Out.hit | with_reducible apply Out.thenA | with_reducible apply Out.out rfl)) ?_
                      | (with_reducible refine AWp_retR ?_; simp (dsimp := false) only [go_sem, Nat.reduceAdd, Nat.reduceBEq, Nat.reduceEqDiff, Nat.reduceLT, Nat.reduceLeDiff, Nat.reduceMul, Int.reduceToNat, reduceCtorEq, ↓reduceIte, Tryd.ntmps17, Tryd.results17, ks_17, mu_17, nd_17, ti_ag23, ti_ag25, ti_ag35, ti_ag68, ti_fe35, ti_fl25_1, ti_hb47, ti_hb48, ti_hb49, ti_hb50, ti_pl25, ti_pl35, ti_sb23, ti_sl22, ti_sl23, ti_sl68, ti_sz25, ti_sz35, ti_zr25, ti_zr35, itD, itV, rlV, rowD, rlD, hjT, hrow, hxp, hrow2, hyp, hvq])
                      | ((first | with_reducible refine AWp_regE mu_17 ks_17 ?_ | with_reducible refine AWp_drawE nd_17 mu_17 ks_17 ti_mixed (by kernel_rfl) ?_); intro Kv hKv; simp (dsimp := false) only [go_sem, Nat.reduceAdd, Nat.reduceBEq, Nat.reduceEqDiff, Nat.reduceLT, Nat.reduceLeDiff, Nat.reduceMul, Int.reduceToNat, reduceCtorEq, ↓reduceIte, Tryd.ntmps17, Tryd.results17, ks_17, mu_17, nd_17, ti_ag23, ti_ag25, ti_ag35, ti_ag68, ti_fe35, ti_fl25_1, ti_hb47, ti_hb48, ti_hb49, ti_hb50, ti_pl25, ti_pl35, ti_sb23, ti_sl22, ti_sl23, ti_sl68, ti_sz25, ti_sz35, ti_zr25, ti_zr35, itD, itV, rlV, rowD, rlD, hjT, hrow, hxp, hrow2, hyp, hvq])
                      | (refine AWp_condC rfl ?_; intro KA KB hKA hKB; try simp only [onB_true, onB_false, onB_dec, onB_ndec, onB_not, onB_and, onB_or])
                      | (refine AWp_condA rfl ?_ ?_)
                      | with_reducible refine onB_of ?_ ?_
                      | with_reducible rfl
                      | omega)
                    all_goals first
                      | omega
                      | exact absurd ⟨by assumption, by assumption, by assumption⟩ hxy
                      | (refine ⟨j + 1, by omega, by omega, ?_, ?_⟩; rw [hvp]; rw [hvp]; (repeat' (refine And.intro ?_ ?_)) <;> first | rfl | omega | (simp; done) | (simp; omega) | (simp (dsimp := false) only [go_sem, Nat.reduceAdd, Nat.reduceBEq, Nat.reduceEqDiff, Nat.reduceLT, Nat.reduceLeDiff, Nat.reduceMul, Int.reduceToNat, reduceCtorEq, ↓reduceIte, Tryd.ntmps17, Tryd.results17, ks_17, mu_17, nd_17, ti_ag23, ti_ag25, ti_ag35, ti_ag68, ti_fe35, ti_fl25_1, ti_hb47, ti_hb48, ti_hb49, ti_hb50, ti_pl25, ti_pl35, ti_sb23, ti_sl22, ti_sl23, ti_sl68, ti_sz25, ti_sz35, ti_zr25, ti_zr35, itD, itV, rlV, rowD, rlD, hjT, hrow, hxp, hrow2, hyp, hvq]; done) | (simp (dsimp := false) only [go_sem, Nat.reduceAdd, Nat.reduceBEq, Nat.reduceEqDiff, Nat.reduceLT, Nat.reduceLeDiff, Nat.reduceMul, Int.reduceToNat, reduceCtorEq, ↓reduceIte, Tryd.ntmps17, Tryd.results17, ks_17, mu_17, nd_17, ti_ag23, ti_ag25, ti_ag35, ti_ag68, ti_fe35, ti_fl25_1, ti_hb47, ti_hb48, ti_hb49, ti_hb50, ti_pl25, ti_pl35, ti_sb23, ti_sl22, ti_sl23, ti_sl68, ti_sz25, ti_sz35, ti_zr25, ti_zr35, itD, itV, rlV, rowD, rlD, hjT, hrow, hxp, hrow2, hyp, hvq]; omega))
                · have e : j = r.rows.length := by omega
                  subst e
                  rw [valP_all] at hvpl ⊢
                  have hnl : ((r.rows.length : Int) < (r.rows.length : Int)) = False := eq_false (by omega)
                  have hbl := grp_items (p := p) (x := x) hall hq1
                  cases ha : aggOf which (grpVal p q r.rows x) with
                  | none =>
                    have haR : aggR2 which (grpVal p q r.rows x) = .tu [.d (.i .i64 0), .d (.b false)] := by rw [aggR2, ha]
                    rw [ha] at h5
                    obtain ⟨rest, hrest⟩ := grpKeys_pre p q r.rows (k + 1)
                    rw [hrest, grpGo_app, h5] at hk
                    
                    repeat' (first
                      | exact hj
                      | with_reducible refine And.intro ?_ ?_
                      | with_reducible intro _
                      | with_reducible refine AWp_seq ?_
                      | with_reducible refine AWp_block ?_
                      | (with_reducible refine hKv _ _ (AWp_nop ?_); clear hKv Kv)
                      | (with_reducible refine hKv _ _ ?_; clear hKv Kv; simp (dsimp := false) only [go_sem, Nat.reduceAdd, Nat.reduceBEq, Nat.reduceEqDiff, Nat.reduceLT, Nat.reduceLeDiff, Nat.reduceMul, Int.reduceToNat, reduceCtorEq, ↓reduceIte, Tryd.ntmps17, Tryd.results17, ks_17, mu_17, nd_17, ti_ag23, ti_ag25, ti_ag35, ti_ag68, ti_fe35, ti_fl25_1, ti_hb47, ti_hb48, ti_hb49, ti_hb50, ti_pl25, ti_pl35, ti_sb23, ti_sl22, ti_sl23, ti_sl68, ti_sz25, ti_sz35, ti_zr25, ti_zr35, itD, itV, rlV, rowD, rlD, hrow, hxp, haR, hnl])
                      | (with_reducible refine hKA ?_; clear hKA hKB KA KB)
                      | (with_reducible refine hKB ?_; clear hKA hKB KA KB)
                      | (with_reducible refine AWp_regC (id := 2) mu_17 ks_17 ?_; intro Kv hKv; simp (dsimp := false) only [go_sem, Nat.reduceAdd, Nat.reduceBEq, Nat.reduceEqDiff, Nat.reduceLT, Nat.reduceLeDiff, Nat.reduceMul, Int.reduceToNat, reduceCtorEq, ↓reduceIte, Tryd.ntmps17, Tryd.results17, ks_17, mu_17, nd_17, ti_ag23, ti_ag25, ti_ag35, ti_ag68, ti_fe35, ti_fl25_1, ti_hb47, ti_hb48, ti_hb49, ti_hb50, ti_pl25, ti_pl35, ti_sb23, ti_sl22, ti_sl23, ti_sl68, ti_sz25, ti_sz35, ti_zr25, ti_zr35, itD, itV, rlV, rowD, rlD, hrow, hxp, haR, hnl]; apply regJ (Kv := Kv); intro hj)
                      | ((first | with_reducible refine AWp_regC mu_17 ks_17 ?_ | with_reducible refine AWp_draw nd_17 mu_17 ks_17 ti_mixed (by kernel_rfl) ?_); intro Kv hKv; simp (dsimp := false) only [go_sem, Nat.reduceAdd, Nat.reduceBEq, Nat.reduceEqDiff, Nat.reduceLT, Nat.reduceLeDiff, Nat.reduceMul, Int.reduceToNat, reduceCtorEq, ↓reduceIte, Tryd.ntmps17, Tryd.results17, ks_17, mu_17, nd_17, ti_ag23, ti_ag25, ti_ag35, ti_ag68, ti_fe35, ti_fl25_1, ti_hb47, ti_hb48, ti_hb49, ti_hb50, ti_pl25, ti_pl35, ti_sb23, ti_sl22, ti_sl23, ti_sl68, ti_sz25, ti_sz35, ti_zr25, ti_zr35, itD, itV, rlV, rowD, rlD, hrow, hxp, haR, hnl])
                      | with_reducible refine AWp_skipN ?_
                      | with_reducible refine AWp_exitO (by repeat (first | with_reducible exact Out.hit | with_reducible apply Out.thenA | with_reducible apply Out.out rfl)) ?_
                      | (with_reducible refine AWp_retR ?_; simp (dsimp := false) only [go_sem, Nat.reduceAdd, Nat.reduceBEq, Nat.reduceEqDiff, Nat.reduceLT, Nat.reduceLeDiff, Nat.reduceMul, Int.reduceToNat, reduceCtorEq, ↓reduceIte, Tryd.ntmps17, Tryd.results17, ks_17, mu_17, nd_17, ti_ag23, ti_ag25, ti_ag35, ti_ag68, ti_fe35, ti_fl25_1, ti_hb47, ti_hb48, ti_hb49, ti_hb50, ti_pl25, ti_pl35, ti_sb23, ti_sl22, ti_sl23, ti_sl68, ti_sz25, ti_sz35, ti_zr25, ti_zr35, itD, itV, rlV, rowD, rlD, hrow, hxp, haR, hnl])
                      | ((first | with_reducible refine AWp_regE mu_17 ks_17 ?_ | with_reducible refine AWp_drawE nd_17 mu_17 ks_17 ti_mixed (by kernel_rfl) ?_); intro Kv hKv; simp (dsimp := false) only [go_sem, Nat.reduceAdd, Nat.reduceBEq, Nat.reduceEqDiff, Nat.reduceLT, Nat.reduceLeDiff, Nat.reduceMul, Int.reduceToNat, reduceCtorEq, ↓reduceIte, Tryd.ntmps17, Tryd.results17, ks_17, mu_17, nd_17, ti_ag23, ti_ag25, ti_ag35, ti_ag68, ti_fe35, ti_fl25_1, ti_hb47, ti_hb48, ti_hb49, ti_hb50, ti_pl25, ti_pl35, ti_sb23, ti_sl22, ti_sl23, ti_sl68, ti_sz25, ti_sz35, ti_zr25, ti_zr35, itD, itV, rlV, rowD, rlD, hrow, hxp, haR, hnl])
                      | (refine AWp_condC rfl ?_; intro KA KB hKA hKB; try simp only [onB_true, onB_false, onB_dec, onB_ndec, onB_not, onB_and, onB_or])
                      | (refine AWp_condA rfl ?_ ?_)
                      | ((first | refine aggregated_A which (grpVal p q r.rows x) _ _ _ hw (by omega) hbl _ _ ((get_appk _ _ 2).trans rfl) ?_ | refine QCall_of (aggregated_A which (grpVal p q r.rows x) _ _ _ hw (by omega) hbl _ _ ((get_appk _ _ 2).trans rfl) (Two_intro _ _)) ?_); try simp (dsimp := false) only [go_sem, Nat.reduceAdd, Nat.reduceBEq, Nat.reduceEqDiff, Nat.reduceLT, Nat.reduceLeDiff, Nat.reduceMul, Int.reduceToNat, reduceCtorEq, ↓reduceIte, Tryd.ntmps17, Tryd.results17, ks_17, mu_17, nd_17, ti_ag23, ti_ag25, ti_ag35, ti_ag68, ti_fe35, ti_fl25_1, ti_hb47, ti_hb48, ti_hb49, ti_hb50, ti_pl25, ti_pl35, ti_sb23, ti_sl22, ti_sl23, ti_sl68, ti_sz25, ti_sz35, ti_zr25, ti_zr35, itD, itV, rlV, rowD, rlD, hrow, hxp, haR, hnl])
                      | with_reducible refine onB_of ?_ ?_
                      | with_reducible rfl
                      | omega)
                    all_goals first
                      | omega
                      | exact dropF hk (fz_rl0 _ _ _) (bel_relE _ _ _)
                  | some n =>
                    have haR : aggR2 which (grpVal p q r.rows x) = .tu [.d (.i .i64 n), .d (.b true)] := by rw [aggR2, ha]
                    rw [ha] at h5
                    
                    repeat' (first
                      | exact hj
                      | with_reducible refine And.intro ?_ ?_
                      | with_reducible intro _
                      | with_reducible refine AWp_seq ?_
                      | with_reducible refine AWp_block ?_
                      | (with_reducible refine hKv _ _ (AWp_nop ?_); clear hKv Kv)
                      | (with_reducible refine hKv _ _ ?_; clear hKv Kv; simp (dsimp := false) only [go_sem, Nat.reduceAdd, Nat.reduceBEq, Nat.reduceEqDiff, Nat.reduceLT, Nat.reduceLeDiff, Nat.reduceMul, Int.reduceToNat, reduceCtorEq, ↓reduceIte, Tryd.ntmps17, Tryd.results17, ks_17, mu_17, nd_17, ti_ag23, ti_ag25, ti_ag35, ti_ag68, ti_fe35, ti_fl25_1, ti_hb47, ti_hb48, ti_hb49, ti_hb50, ti_pl25, ti_pl35, ti_sb23, ti_sl22, ti_sl23, ti_sl68, ti_sz25, ti_sz35, ti_zr25, ti_zr35, itD, itV, rlV, rowD, rlD, hrow, hxp, haR, hnl])
                      | (with_reducible refine hKA ?_; clear hKA hKB KA KB)
                      | (with_reducible refine hKB ?_; clear hKA hKB KA KB)
                      | (with_reducible refine AWp_regC (id := 2) mu_17 ks_17 ?_; intro Kv hKv; simp (dsimp := false) only [go_sem, Nat.reduceAdd, Nat.reduceBEq, Nat.reduceEqDiff, Nat.reduceLT, Nat.reduceLeDiff, Nat.reduceMul, Int.reduceToNat, reduceCtorEq, ↓reduceIte, Tryd.ntmps17, Tryd.results17, ks_17, mu_17, nd_17, ti_ag23, ti_ag25, ti_ag35, ti_ag68, ti_fe35, ti_fl25_1, ti_hb47, ti_hb48, ti_hb49, ti_hb50, ti_pl25, ti_pl35, ti_sb23, ti_sl22, ti_sl23, ti_sl68, ti_sz25, ti_sz35, ti_zr25, ti_zr35, itD, itV, rlV, rowD, rlD, hrow, hxp, haR, hnl]; apply regJ (Kv := Kv); intro hj)
                      | ((first | with_reducible refine AWp_regC mu_17 ks_17 ?_ | with_reducible refine AWp_draw nd_17 mu_17 ks_17 ti_mixed (by kernel_rfl) ?_); intro Kv hKv; simp (dsimp := false) only [go_sem, Nat.reduceAdd, Nat.reduceBEq, Nat.reduceEqDiff, Nat.reduceLT, Nat.reduceLeDiff, Nat.reduceMul, Int.reduceToNat, reduceCtorEq, ↓reduceIte, Tryd.ntmps17, Tryd.results17, ks_17, mu_17, nd_17, ti_ag23, ti_ag25, ti_ag35, ti_ag68, ti_fe35, ti_fl25_1, ti_hb47, ti_hb48, ti_hb49, ti_hb50, ti_pl25, ti_pl35, ti_sb23, ti_sl22, ti_sl23, ti_sl68, ti_sz25, ti_sz35, ti_zr25, ti_zr35, itD, itV, rlV, rowD, rlD, hrow, hxp, haR, hnl])
                      | with_reducible refine AWp_skipN ?_
                      | with_reducible refine AWp_exitO (by repeat (first | with_reducible exact Out.hit | with_reducible apply Out.thenA | with_reducible apply Out.out rfl)) ?_
                      | (with_reducible refine AWp_retR ?_; simp (dsimp := false) only [go_sem, Nat.reduceAdd, Nat.reduceBEq, Nat.reduceEqDiff, Nat.reduceLT, Nat.reduceLeDiff, Nat.reduceMul, Int.reduceToNat, reduceCtorEq, ↓reduceIte, Tryd.ntmps17, Tryd.results17, ks_17, mu_17, nd_17, ti_ag23, ti_ag25, ti_ag35, ti_ag68, ti_fe35, ti_fl25_1, ti_hb47, ti_hb48, ti_hb49, ti_hb50, ti_pl25, ti_pl35, ti_sb23, ti_sl22, ti_sl23, ti_sl68, ti_sz25, ti_sz35, ti_zr25, ti_zr35, itD, itV, rlV, rowD, rlD, hrow, hxp, haR, hnl])
                      | ((first | with_reducible refine AWp_regE mu_17 ks_17 ?_ | with_reducible refine AWp_drawE nd_17 mu_17 ks_17 ti_mixed (by kernel_rfl) ?_); intro Kv hKv; simp (dsimp := false) only [go_sem, Nat.reduceAdd, Nat.reduceBEq, Nat.reduceEqDiff, Nat.reduceLT, Nat.reduceLeDiff, Nat.reduceMul, Int.reduceToNat, reduceCtorEq, ↓reduceIte, Tryd.ntmps17, Tryd.results17, ks_17, mu_17, nd_17, ti_ag23, ti_ag25, ti_ag35, ti_ag68, ti_fe35, ti_fl25_1, ti_hb47, ti_hb48, ti_hb49, ti_hb50, ti_pl25, ti_pl35, ti_sb23, ti_sl22, ti_sl23, ti_sl68, ti_sz25, ti_sz35, ti_zr25, ti_zr35, itD, itV, rlV, rowD, rlD, hrow, hxp, haR, hnl])
                      | (refine AWp_condC rfl ?_; intro KA KB hKA hKB; try simp only [onB_true, onB_false, onB_dec, onB_ndec, onB_not, onB_and, onB_or])
                      | (refine AWp_condA rfl ?_ ?_)
                      | ((first | refine aggregated_A which (grpVal p q r.rows x) _ _ _ hw (by omega) hbl _ _ ((get_appk _ _ 2).trans rfl) ?_ | refine QCall_of (aggregated_A which (grpVal p q r.rows x) _ _ _ hw (by omega) hbl _ _ ((get_appk _ _ 2).trans rfl) (Two_intro _ _)) ?_); try simp (dsimp := false) only [go_sem, Nat.reduceAdd, Nat.reduceBEq, Nat.reduceEqDiff, Nat.reduceLT, Nat.reduceLeDiff, Nat.reduceMul, Int.reduceToNat, reduceCtorEq, ↓reduceIte, Tryd.ntmps17, Tryd.results17, ks_17, mu_17, nd_17, ti_ag23, ti_ag25, ti_ag35, ti_ag68, ti_fe35, ti_fl25_1, ti_hb47, ti_hb48, ti_hb49, ti_hb50, ti_pl25, ti_pl35, ti_sb23, ti_sl22, ti_sl23, ti_sl68, ti_sz25, ti_sz35, ti_zr25, ti_zr35, itD, itV, rlV, rowD, rlD, hrow, hxp, haR, hnl])
                      | with_reducible refine onB_of ?_ ?_
                      | with_reducible rfl
                      | omega)
                    all_goals first
                      | omega
                      | (refine ⟨(k + 1, acc ++ [aggRow x n]), [.row (grpVal p q r.rows x).length 35 3 ((grpVal p q r.rows x).map itC)], ⟨by show k + 1 ≤ r.rows.length; omega, by simp; omega, h5⟩, by show r.rows.length - (k + 1) < r.rows.length - k; omega, ?_, ?_⟩
                         · simp [rowC, aggRow, itD]
                         · (repeat' (refine And.intro ?_ ?_)) <;> first | rfl | omega | (simp; done) | (simp; omega))
          · have e : i = r.rows.length := by omega
            subst e
            rw [List.take_length] at h3
            rw [h3] at hk
            simp only [] at hk
            have hnl : ((r.rows.length : Int) < (r.rows.length : Int)) = False := eq_false (by omega)
            
            repeat' (first
              | exact hj
              | with_reducible refine And.intro ?_ ?_
              | with_reducible intro _
              | with_reducible refine AWp_seq ?_
              | with_reducible refine AWp_block ?_
              | (with_reducible refine hKv _ _ (AWp_nop ?_); clear hKv Kv)
              | (with_reducible refine hKv _ _ ?_; clear hKv Kv; simp (dsimp := false) only [go_sem, Nat.reduceAdd, Nat.reduceBEq, Nat.reduceEqDiff, Nat.reduceLT, Nat.reduceLeDiff, Nat.reduceMul, Int.reduceToNat, reduceCtorEq, ↓reduceIte, Tryd.ntmps17, Tryd.results17, ks_17, mu_17, nd_17, ti_ag23, ti_ag25, ti_ag35, ti_ag68, ti_fe35, ti_fl25_1, ti_hb47, ti_hb48, ti_hb49, ti_hb50, ti_pl25, ti_pl35, ti_sb23, ti_sl22, ti_sl23, ti_sl68, ti_sz25, ti_sz35, ti_zr25, ti_zr35, itD, itV, rlV, rowD, rlD, finQ, hnl])
              | (with_reducible refine hKA ?_; clear hKA hKB KA KB)
              | (with_reducible refine hKB ?_; clear hKA hKB KA KB)
              | (with_reducible refine AWp_regC (id := 2) mu_17 ks_17 ?_; intro Kv hKv; simp (dsimp := false) only [go_sem, Nat.reduceAdd, Nat.reduceBEq, Nat.reduceEqDiff, Nat.reduceLT, Nat.reduceLeDiff, Nat.reduceMul, Int.reduceToNat, reduceCtorEq, ↓reduceIte, Tryd.ntmps17, Tryd.results17, ks_17, mu_17, nd_17, ti_ag23, ti_ag25, ti_ag35, ti_ag68, ti_fe35, ti_fl25_1, ti_hb47, ti_hb48, ti_hb49, ti_hb50, ti_pl25, ti_pl35, ti_sb23, ti_sl22, ti_sl23, ti_sl68, ti_sz25, ti_sz35, ti_zr25, ti_zr35, itD, itV, rlV, rowD, rlD, finQ, hnl]; apply regJ (Kv := Kv); intro hj)
              | ((first | with_reducible refine AWp_regC mu_17 ks_17 ?_ | with_reducible refine AWp_draw nd_17 mu_17 ks_17 ti_mixed (by kernel_rfl) ?_); intro Kv hKv; simp (dsimp := false) only [go_sem, Nat.reduceAdd, Nat.reduceBEq, Nat.reduceEqDiff, Nat.reduceLT, Nat.reduceLeDiff, Nat.reduceMul, Int.reduceToNat, reduceCtorEq, ↓reduceIte, Tryd.ntmps17, Tryd.results17, ks_17, mu_17, nd_17, ti_ag23, ti_ag25, ti_ag35, ti_ag68, ti_fe35, ti_fl25_1, ti_hb47, ti_hb48, ti_hb49, ti_hb50, ti_pl25, ti_pl35, ti_sb23, ti_sl22, ti_sl23, ti_sl68, ti_sz25, ti_sz35, ti_zr25, ti_zr35, itD, itV, rlV, rowD, rlD, finQ, hnl])
              | with_reducible refine AWp_skipN ?_
              | with_reducible refine AWp_exitO (by repeat (first | with_reducible exact Out.hit | with_reducible apply Out.thenA | with_reducible apply Out.out rfl)) ?_
              | (with_reducible refine AWp_retR ?_; simp (dsimp := false) only [go_sem, Nat.reduceAdd, Nat.reduceBEq, Nat.reduceEqDiff, Nat.reduceLT, Nat.reduceLeDiff, Nat.reduceMul, Int.reduceToNat, reduceCtorEq, ↓reduceIte, Tryd.ntmps17, Tryd.results17, ks_17, mu_17, nd_17, ti_ag23, ti_ag25, ti_ag35, ti_ag68, ti_fe35, ti_fl25_1, ti_hb47, ti_hb48, ti_hb49, ti_hb50, ti_pl25, ti_pl35, ti_sb23, ti_sl22, ti_sl23, ti_sl68, ti_sz25, ti_sz35, ti_zr25, ti_zr35, itD, itV, rlV, rowD, rlD, finQ, hnl])
              | ((first | with_reducible refine AWp_regE mu_17 ks_17 ?_ | with_reducible refine AWp_drawE nd_17 mu_17 ks_17 ti_mixed (by kernel_rfl) ?_); intro Kv hKv; simp (dsimp := false) only [go_sem, Nat.reduceAdd, Nat.reduceBEq, Nat.reduceEqDiff, Nat.reduceLT, Nat.reduceLeDiff, Nat.reduceMul, Int.reduceToNat, reduceCtorEq, ↓reduceIte, Tryd.ntmps17, Tryd.results17, ks_17, mu_17, nd_17, ti_ag23, ti_ag25, ti_ag35, ti_ag68, ti_fe35, ti_fl25_1, ti_hb47, ti_hb48, ti_hb49, ti_hb50, ti_pl25, ti_pl35, ti_sb23, ti_sl22, ti_sl23, ti_sl68, ti_sz25, ti_sz35, ti_zr25, ti_zr35, itD, itV, rlV, rowD, rlD, finQ, hnl])
              | (refine AWp_condC rfl ?_; intro KA KB hKA hKB; try simp only [onB_true, onB_false, onB_dec, onB_ndec, onB_not, onB_and, onB_or])
              | (refine AWp_condA rfl ?_ ?_)
              | ((first | refine relOfO_A [part, name] _ _ _ _ (by simp) hcs2 (by rw [List.length_map]; omega) _ _ ((get_appk _ _ 1).trans rfl) ?_ | refine QCall_of (relOfO_A [part, name] _ _ _ _ (by simp) hcs2 (by rw [List.length_map]; omega) _ _ ((get_appk _ _ 1).trans rfl) (Two_intro _ _)) ?_); try simp (dsimp := false) only [go_sem, Nat.reduceAdd, Nat.reduceBEq, Nat.reduceEqDiff, Nat.reduceLT, Nat.reduceLeDiff, Nat.reduceMul, Int.reduceToNat, reduceCtorEq, ↓reduceIte, Tryd.ntmps17, Tryd.results17, ks_17, mu_17, nd_17, ti_ag23, ti_ag25, ti_ag35, ti_ag68, ti_fe35, ti_fl25_1, ti_hb47, ti_hb48, ti_hb49, ti_hb50, ti_pl25, ti_pl35, ti_sb23, ti_sl22, ti_sl23, ti_sl68, ti_sz25, ti_sz35, ti_zr25, ti_zr35, itD, itV, rlV, rowD, rlD, finQ, hnl])
              | with_reducible refine onB_of ?_ ?_
              | with_reducible rfl
              | omega)
            all_goals first
              | omega
              | exact fin_ret hk (by assumption) (by omega) (get_appk _ _ 1)
              | exact fin_bad hk rfl (by assumption)
    · rw [grouped, if_pos hf, if_neg hw] at hk
      have hwo : ¬ (which = cntT ∨ which = sumT ∨ which = minT ∨ which = maxT) := by simpa [whichB] using hw
      have w1 : (which = [99, 111, 117, 110, 116]) = False := eq_false fun h => hwo (.inl h)
      have w2 : (which = [115, 117, 109]) = False := eq_false fun h => hwo (.inr (.inl h))
      have w3 : (which = [109, 105, 110]) = False := eq_false fun h => hwo (.inr (.inr (.inl h)))
      have w4 : (which = [109, 97, 120]) = False := eq_false fun h => hwo (.inr (.inr (.inr h)))
      
      refine ACalls_of Tryd.func17 rfl in_17 (Nat.le_of_ble_eq_true rfl) ?_
      intro F hF
      simp (dsimp := false) only [go_sem, Nat.reduceAdd, Nat.reduceBEq, Nat.reduceEqDiff, Nat.reduceLT, Nat.reduceLeDiff, Nat.reduceMul, Int.reduceToNat, reduceCtorEq, ↓reduceIte, Tryd.ntmps17, Tryd.results17, ks_17, mu_17, nd_17, ti_ag23, ti_ag25, ti_ag35, ti_ag68, ti_fe35, ti_fl25_1, ti_hb47, ti_hb48, ti_hb49, ti_hb50, ti_pl25, ti_pl35, ti_sb23, ti_sl22, ti_sl23, ti_sl68, ti_sz25, ti_sz35, ti_zr25, ti_zr35, itD, itV, rlV, rowD, rlD, hf, w1, w2, w3, w4, in_17] at hF
      subst hF
      repeat' (first
        | exact hj
        | with_reducible refine And.intro ?_ ?_
        | with_reducible intro _
        | with_reducible refine AWp_seq ?_
        | with_reducible refine AWp_block ?_
        | (with_reducible refine hKv _ _ (AWp_nop ?_); clear hKv Kv)
        | (with_reducible refine hKv _ _ ?_; clear hKv Kv; simp (dsimp := false) only [go_sem, Nat.reduceAdd, Nat.reduceBEq, Nat.reduceEqDiff, Nat.reduceLT, Nat.reduceLeDiff, Nat.reduceMul, Int.reduceToNat, reduceCtorEq, ↓reduceIte, Tryd.ntmps17, Tryd.results17, ks_17, mu_17, nd_17, ti_ag23, ti_ag25, ti_ag35, ti_ag68, ti_fe35, ti_fl25_1, ti_hb47, ti_hb48, ti_hb49, ti_hb50, ti_pl25, ti_pl35, ti_sb23, ti_sl22, ti_sl23, ti_sl68, ti_sz25, ti_sz35, ti_zr25, ti_zr35, itD, itV, rlV, rowD, rlD, hf, w1, w2, w3, w4])
        | (with_reducible refine hKA ?_; clear hKA hKB KA KB)
        | (with_reducible refine hKB ?_; clear hKA hKB KA KB)
        | (with_reducible refine AWp_regC (id := 2) mu_17 ks_17 ?_; intro Kv hKv; simp (dsimp := false) only [go_sem, Nat.reduceAdd, Nat.reduceBEq, Nat.reduceEqDiff, Nat.reduceLT, Nat.reduceLeDiff, Nat.reduceMul, Int.reduceToNat, reduceCtorEq, ↓reduceIte, Tryd.ntmps17, Tryd.results17, ks_17, mu_17, nd_17, ti_ag23, ti_ag25, ti_ag35, ti_ag68, ti_fe35, ti_fl25_1, ti_hb47, ti_hb48, ti_hb49, ti_hb50, ti_pl25, ti_pl35, ti_sb23, ti_sl22, ti_sl23, ti_sl68, ti_sz25, ti_sz35, ti_zr25, ti_zr35, itD, itV, rlV, rowD, rlD, hf, w1, w2, w3, w4]; apply regJ (Kv := Kv); intro hj)
        | ((first | with_reducible refine AWp_regC mu_17 ks_17 ?_ | with_reducible refine AWp_draw nd_17 mu_17 ks_17 ti_mixed (by kernel_rfl) ?_); intro Kv hKv; simp (dsimp := false) only [go_sem, Nat.reduceAdd, Nat.reduceBEq, Nat.reduceEqDiff, Nat.reduceLT, Nat.reduceLeDiff, Nat.reduceMul, Int.reduceToNat, reduceCtorEq, ↓reduceIte, Tryd.ntmps17, Tryd.results17, ks_17, mu_17, nd_17, ti_ag23, ti_ag25, ti_ag35, ti_ag68, ti_fe35, ti_fl25_1, ti_hb47, ti_hb48, ti_hb49, ti_hb50, ti_pl25, ti_pl35, ti_sb23, ti_sl22, ti_sl23, ti_sl68, ti_sz25, ti_sz35, ti_zr25, ti_zr35, itD, itV, rlV, rowD, rlD, hf, w1, w2, w3, w4])
        | with_reducible refine AWp_skipN ?_
        | with_reducible refine AWp_exitO (by repeat (first | with_reducible exact Out.hit | with_reducible apply Out.thenA | with_reducible apply Out.out rfl)) ?_
        | (with_reducible refine AWp_retR ?_; simp (dsimp := false) only [go_sem, Nat.reduceAdd, Nat.reduceBEq, Nat.reduceEqDiff, Nat.reduceLT, Nat.reduceLeDiff, Nat.reduceMul, Int.reduceToNat, reduceCtorEq, ↓reduceIte, Tryd.ntmps17, Tryd.results17, ks_17, mu_17, nd_17, ti_ag23, ti_ag25, ti_ag35, ti_ag68, ti_fe35, ti_fl25_1, ti_hb47, ti_hb48, ti_hb49, ti_hb50, ti_pl25, ti_pl35, ti_sb23, ti_sl22, ti_sl23, ti_sl68, ti_sz25, ti_sz35, ti_zr25, ti_zr35, itD, itV, rlV, rowD, rlD, hf, w1, w2, w3, w4])
        | ((first | with_reducible refine AWp_regE mu_17 ks_17 ?_ | with_reducible refine AWp_drawE nd_17 mu_17 ks_17 ti_mixed (by kernel_rfl) ?_); intro Kv hKv; simp (dsimp := false) only [go_sem, Nat.reduceAdd, Nat.reduceBEq, Nat.reduceEqDiff, Nat.reduceLT, Nat.reduceLeDiff, Nat.reduceMul, Int.reduceToNat, reduceCtorEq, ↓reduceIte, Tryd.ntmps17, Tryd.results17, ks_17, mu_17, nd_17, ti_ag23, ti_ag25, ti_ag35, ti_ag68, ti_fe35, ti_fl25_1, ti_hb47, ti_hb48, ti_hb49, ti_hb50, ti_pl25, ti_pl35, ti_sb23, ti_sl22, ti_sl23, ti_sl68, ti_sz25, ti_sz35, ti_zr25, ti_zr35, itD, itV, rlV, rowD, rlD, hf, w1, w2, w3, w4])
        | (refine AWp_condC rfl ?_; intro KA KB hKA hKB; try simp only [onB_true, onB_false, onB_dec, onB_ndec, onB_not, onB_and, onB_or])
        | (refine AWp_condA rfl ?_ ?_)
        | ((first | refine relFault_A r hS _ _ ?_ | refine QCall_of (relFault_A r hS _ _ (Two_intro _ _)) ?_ | refine colAt_A r hS part _ _ ?_ | refine QCall_of (colAt_A r hS part _ _ (Two_intro _ _)) ?_ | refine colAt_A r hS col _ _ ?_ | refine QCall_of (colAt_A r hS col _ _ (Two_intro _ _)) ?_); try simp (dsimp := false) only [go_sem, Nat.reduceAdd, Nat.reduceBEq, Nat.reduceEqDiff, Nat.reduceLT, Nat.reduceLeDiff, Nat.reduceMul, Int.reduceToNat, reduceCtorEq, ↓reduceIte, Tryd.ntmps17, Tryd.results17, ks_17, mu_17, nd_17, ti_ag23, ti_ag25, ti_ag35, ti_ag68, ti_fe35, ti_fl25_1, ti_hb47, ti_hb48, ti_hb49, ti_hb50, ti_pl25, ti_pl35, ti_sb23, ti_sl22, ti_sl23, ti_sl68, ti_sz25, ti_sz35, ti_zr25, ti_zr35, itD, itV, rlV, rowD, rlD, hf, w1, w2, w3, w4])
        | with_reducible refine onB_of ?_ ?_
        | with_reducible rfl
        | omega)
      all_goals first
        | omega
        | exact dropF hk (fz_rl0 _ _ _) (bel_relE _ _ _)
  · rw [grouped, if_neg hf] at hk
    have hfF : (relFault r = 0) = False := eq_false hf
    
    refine ACalls_of Tryd.func17 rfl in_17 (Nat.le_of_ble_eq_true rfl) ?_
    intro F hF
    simp (dsimp := false) only [go_sem, Nat.reduceAdd, Nat.reduceBEq, Nat.reduceEqDiff, Nat.reduceLT, Nat.reduceLeDiff, Nat.reduceMul, Int.reduceToNat, reduceCtorEq, ↓reduceIte, Tryd.ntmps17, Tryd.results17, ks_17, mu_17, nd_17, ti_ag23, ti_ag25, ti_ag35, ti_ag68, ti_fe35, ti_fl25_1, ti_hb47, ti_hb48, ti_hb49, ti_hb50, ti_pl25, ti_pl35, ti_sb23, ti_sl22, ti_sl23, ti_sl68, ti_sz25, ti_sz35, ti_zr25, ti_zr35, itD, itV, rlV, rowD, rlD, hfF, in_17] at hF
    subst hF
    repeat' (first
      | exact hj
      | with_reducible refine And.intro ?_ ?_
      | with_reducible intro _
      | with_reducible refine AWp_seq ?_
      | with_reducible refine AWp_block ?_
      | (with_reducible refine hKv _ _ (AWp_nop ?_); clear hKv Kv)
      | (with_reducible refine hKv _ _ ?_; clear hKv Kv; simp (dsimp := false) only [go_sem, Nat.reduceAdd, Nat.reduceBEq, Nat.reduceEqDiff, Nat.reduceLT, Nat.reduceLeDiff, Nat.reduceMul, Int.reduceToNat, reduceCtorEq, ↓reduceIte, Tryd.ntmps17, Tryd.results17, ks_17, mu_17, nd_17, ti_ag23, ti_ag25, ti_ag35, ti_ag68, ti_fe35, ti_fl25_1, ti_hb47, ti_hb48, ti_hb49, ti_hb50, ti_pl25, ti_pl35, ti_sb23, ti_sl22, ti_sl23, ti_sl68, ti_sz25, ti_sz35, ti_zr25, ti_zr35, itD, itV, rlV, rowD, rlD, hfF])
      | (with_reducible refine hKA ?_; clear hKA hKB KA KB)
      | (with_reducible refine hKB ?_; clear hKA hKB KA KB)
      | (with_reducible refine AWp_regC (id := 2) mu_17 ks_17 ?_; intro Kv hKv; simp (dsimp := false) only [go_sem, Nat.reduceAdd, Nat.reduceBEq, Nat.reduceEqDiff, Nat.reduceLT, Nat.reduceLeDiff, Nat.reduceMul, Int.reduceToNat, reduceCtorEq, ↓reduceIte, Tryd.ntmps17, Tryd.results17, ks_17, mu_17, nd_17, ti_ag23, ti_ag25, ti_ag35, ti_ag68, ti_fe35, ti_fl25_1, ti_hb47, ti_hb48, ti_hb49, ti_hb50, ti_pl25, ti_pl35, ti_sb23, ti_sl22, ti_sl23, ti_sl68, ti_sz25, ti_sz35, ti_zr25, ti_zr35, itD, itV, rlV, rowD, rlD, hfF]; apply regJ (Kv := Kv); intro hj)
      | ((first | with_reducible refine AWp_regC mu_17 ks_17 ?_ | with_reducible refine AWp_draw nd_17 mu_17 ks_17 ti_mixed (by kernel_rfl) ?_); intro Kv hKv; simp (dsimp := false) only [go_sem, Nat.reduceAdd, Nat.reduceBEq, Nat.reduceEqDiff, Nat.reduceLT, Nat.reduceLeDiff, Nat.reduceMul, Int.reduceToNat, reduceCtorEq, ↓reduceIte, Tryd.ntmps17, Tryd.results17, ks_17, mu_17, nd_17, ti_ag23, ti_ag25, ti_ag35, ti_ag68, ti_fe35, ti_fl25_1, ti_hb47, ti_hb48, ti_hb49, ti_hb50, ti_pl25, ti_pl35, ti_sb23, ti_sl22, ti_sl23, ti_sl68, ti_sz25, ti_sz35, ti_zr25, ti_zr35, itD, itV, rlV, rowD, rlD, hfF])
      | with_reducible refine AWp_skipN ?_
      | with_reducible refine AWp_exitO (by repeat (first | with_reducible exact Out.hit | with_reducible apply Out.thenA | with_reducible apply Out.out rfl)) ?_
      | (with_reducible refine AWp_retR ?_; simp (dsimp := false) only [go_sem, Nat.reduceAdd, Nat.reduceBEq, Nat.reduceEqDiff, Nat.reduceLT, Nat.reduceLeDiff, Nat.reduceMul, Int.reduceToNat, reduceCtorEq, ↓reduceIte, Tryd.ntmps17, Tryd.results17, ks_17, mu_17, nd_17, ti_ag23, ti_ag25, ti_ag35, ti_ag68, ti_fe35, ti_fl25_1, ti_hb47, ti_hb48, ti_hb49, ti_hb50, ti_pl25, ti_pl35, ti_sb23, ti_sl22, ti_sl23, ti_sl68, ti_sz25, ti_sz35, ti_zr25, ti_zr35, itD, itV, rlV, rowD, rlD, hfF])
      | ((first | with_reducible refine AWp_regE mu_17 ks_17 ?_ | with_reducible refine AWp_drawE nd_17 mu_17 ks_17 ti_mixed (by kernel_rfl) ?_); intro Kv hKv; simp (dsimp := false) only [go_sem, Nat.reduceAdd, Nat.reduceBEq, Nat.reduceEqDiff, Nat.reduceLT, Nat.reduceLeDiff, Nat.reduceMul, Int.reduceToNat, reduceCtorEq, ↓reduceIte, Tryd.ntmps17, Tryd.results17, ks_17, mu_17, nd_17, ti_ag23, ti_ag25, ti_ag35, ti_ag68, ti_fe35, ti_fl25_1, ti_hb47, ti_hb48, ti_hb49, ti_hb50, ti_pl25, ti_pl35, ti_sb23, ti_sl22, ti_sl23, ti_sl68, ti_sz25, ti_sz35, ti_zr25, ti_zr35, itD, itV, rlV, rowD, rlD, hfF])
      | (refine AWp_condC rfl ?_; intro KA KB hKA hKB; try simp only [onB_true, onB_false, onB_dec, onB_ndec, onB_not, onB_and, onB_or])
      | (refine AWp_condA rfl ?_ ?_)
      | ((first | refine relFault_A r hS _ _ ?_ | refine QCall_of (relFault_A r hS _ _ (Two_intro _ _)) ?_ | refine colAt_A r hS part _ _ ?_ | refine QCall_of (colAt_A r hS part _ _ (Two_intro _ _)) ?_ | refine colAt_A r hS col _ _ ?_ | refine QCall_of (colAt_A r hS col _ _ (Two_intro _ _)) ?_); try simp (dsimp := false) only [go_sem, Nat.reduceAdd, Nat.reduceBEq, Nat.reduceEqDiff, Nat.reduceLT, Nat.reduceLeDiff, Nat.reduceMul, Int.reduceToNat, reduceCtorEq, ↓reduceIte, Tryd.ntmps17, Tryd.results17, ks_17, mu_17, nd_17, ti_ag23, ti_ag25, ti_ag35, ti_ag68, ti_fe35, ti_fl25_1, ti_hb47, ti_hb48, ti_hb49, ti_hb50, ti_pl25, ti_pl35, ti_sb23, ti_sl22, ti_sl23, ti_sl68, ti_sz25, ti_sz35, ti_zr25, ti_zr35, itD, itV, rlV, rowD, rlD, hfF])
      | with_reducible refine onB_of ?_ ?_
      | with_reducible rfl
      | omega)
    all_goals first
      | omega
      | exact dropF hk (fz_rl0 _ _ _) (bel_relE _ _ _)
end Go.Proofs.YtafbojmnmadlpaaDoor
