/- The reference's sort of a relation. No condition but that the tables of package unicode/utf8 are there. -/
import Derived.Test.YtpgdflhcmijaiaaDoorJ43
set_option linter.all false
set_option linter.unusedSimpArgs false
set_option linter.unusedVariables false
namespace Go.Proofs.YtpgdflhcmijaiaaDoor
open Go Go.Proofs.YtpgdflhcmijaiaaDoor.Ab
def upG (G : Nat → D) (k i q : Nat) : D := if q ≤ k then G q else if q ≤ i then G (q - 1) else G q
def rwG (g : Nat → Rw) (i k : Nat) : D := if k < i then rwD (g k) else .c (.slice none 0 0)
theorem upG_top (G : Nat → D) (i : Nat) : upG G i i = G := by
  funext q
  unfold upG
  by_cases h : q ≤ i
  · rw [if_pos h]
  · rw [if_neg h, if_neg h]
theorem upG_step {G : Nat → D} {k i : Nat} (h0 : 0 < k) (hk : k ≤ i) : upd (upG G k i) k (upG G k i (k - 1)) = upG G (k - 1) i := by
  funext q
  have v : upG G k i (k - 1) = G (k - 1) := if_pos (by omega)
  rw [upd, v]
  by_cases c1 : q = k
  · rw [if_pos c1, upG, if_neg (by omega), if_pos (by omega), c1]
  rw [if_neg c1, upG, upG]
  by_cases c2 : q ≤ k - 1
  · rw [if_pos (by omega), if_pos c2]
  · rw [if_neg (by omega), if_neg c2]
theorem upG_ins (g : Nat → Rw) {a i q : Nat} (ha : a ≤ i) (hq : q < i + 1) : upd (upG (rwG g i) a i) a (rwD (g i)) q = rwD (insF g a i q) := by
  rw [upd, insF]
  by_cases c1 : q = a
  · rw [if_pos c1, if_neg (by omega), if_pos c1]
  rw [if_neg c1, upG]
  by_cases c2 : q < a
  · rw [if_pos (by omega), if_pos c2, rwG, if_pos (by omega)]
  · rw [if_neg (by omega), if_pos (by omega), if_neg c2, if_neg c1, if_pos (by omega), rwG, if_pos (by omega)]
theorem tab_up (g : Nat → Rw) (i : Nat) : tab rwD i g ++ [[V.d (.c (.slice none 0 0))]] = tab (fun d : D => d) (i + 1) (rwG g i) := by
  apply List.ext_getElem?
  intro k
  by_cases h : k < i
  · rw [List.getElem?_append_left (by rw [tab_len]; exact h), tab_get rwD h, tab_get _ (by omega), rwG, if_pos h]
  · by_cases e : k = i
    · rw [e, List.getElem?_append_right (by rw [tab_len]; omega), tab_len, Nat.sub_self, tab_get _ (by omega), rwG, if_neg (by omega)]; rfl
    · rw [List.getElem?_eq_none (by rw [List.length_append, tab_len]; simp; omega), List.getElem?_eq_none (by rw [tab_len]; omega)]
theorem tab_dd {n : Nat} {G : Nat → D} {g : Nat → Rw} (h : ∀ q, q < n → G q = rwD (g q)) : tab (fun d : D => d) n G = tab rwD n g := by
  rw [tab, tab]
  refine List.map_congr_left fun k hk => ?_
  rw [h k (List.mem_range.1 hk)]
variable [Glo] [U8]
set_option maxHeartbeats 4000000
set_option maxRecDepth 20000
def ks_8 : Nat → List Nat
  | 0 => [1, 2, 4]
  | 1 => [1, 2, 4, 6]
  | 2 => [2, 4, 6, 7, 8]
  | 3 => [2, 4, 6, 7, 27]
  | 4 => [2, 4, 6, 7]
  | 5 => [2, 4, 6, 7, 29]
  | 6 => [4, 5]
  | 7 => [2, 4, 7, 9]
  | 8 => [2, 4, 7, 9, 10]
  | 9 => [2, 4, 7, 9, 10, 36]
  | 10 => [2, 4, 7, 9, 10]
  | 11 => [2, 4, 7, 9, 10, 11]
  | 12 => [2, 4, 7, 9, 10, 11, 12]
  | 13 => [2, 4, 7, 9, 10, 11, 12, 62]
  | 14 => [2, 4, 7, 9, 10, 11, 12]
  | 15 => [2, 4, 7, 9, 10, 11, 12]
  | 16 => [2, 4, 7, 9, 10, 11, 12, 13]
  | 17 => [2, 4, 7, 9, 10, 11, 12, 13, 73]
  | 18 => [2, 4, 7, 9, 10, 11, 12, 13]
  | 19 => [2, 4, 7, 9, 10, 11, 12, 13]
  | 20 => [2, 4, 7, 9, 10]
  | 21 => [4, 5]
  | _ => []
def mu_8 : List Nat := [9]
def in_8 : List Nat := [0, 1]
def nd_8 : Nat → Nat
  | 13 => 14
  | _ => 0
theorem sortedOf_A (r : Rl) (hS : ShR r) (by_ : List (List UInt8)) (hby : by_.length ≤ 1048576) (H : Heap) (K : V → Heap → Prop) (hk : K (relE (sorted r by_).1 (sorted r by_).2) H) :
    ACalls Tryd.prog 8 [rlV r, .d (.sl 1 (by_.map strRow))] H K := by
  have q1 := hS.ncols
  have q2 := hS.nrows
  by_cases hf : relFault r = 0
  · cases hp : places r.cols by_ with
    | none =>
      rw [sorted, if_pos hf, hp] at hk
      refine ACalls_of Tryd.func8 rfl in_8 (Nat.le_of_ble_eq_true rfl) ?_
      intro F hF
      simp (dsimp := false) only [go_sem, Nat.reduceAdd, Nat.reduceBEq, Nat.reduceEqDiff, Nat.reduceLT, Nat.reduceLeDiff, Nat.reduceMul, Int.reduceToNat, reduceCtorEq, ↓reduceIte, Tryd.ntmps8, Tryd.results8, ks_8, mu_8, nd_8, ti_ag22, ti_ag23, ti_ag25, ti_ag44, ti_fl25_0, ti_fl25_1, ti_hb25, ti_hb26, ti_hb27, ti_hb28, ti_hb29, ti_hb30, ti_pl25, ti_sb23, ti_sl23, ti_sz25, ti_sz44, ti_zr25, itD, itV, rlV, rowD, rlD, hf, hp, Option.getD_none, Option.isSome_none, Int.reduceEq, not_false_eq_true, in_8] at hF
      subst hF
      repeat' (first | with_reducible (first | refine And.intro ?_ ?_ | intro _ | refine AWp_seq ?_ | refine AWp_block ?_ | (refine hKv _ _ (AWp_nop ?_); clear hKv Kv) | (refine hKA ?_; clear hKA hKB KA KB) | (refine hKB ?_; clear hKA hKB KA KB) | refine AWp_skipN ?_ | refine AWp_exitO (by repeat (first | exact Out.hit | apply Out.thenA | apply Out.out rfl)) ?_) | ((first | with_reducible (first | (refine hKv _ _ ?_; clear hKv Kv) | ((first | refine AWp_regC mu_8 ks_8 ?_ | refine AWp_draw nd_8 mu_8 ks_8 ti_mixed (by kernel_rfl) ?_ | refine AWp_regE mu_8 ks_8 ?_ | refine AWp_drawE nd_8 mu_8 ks_8 ti_mixed (by kernel_rfl) ?_); intro Kv hKv) | refine AWp_retR ?_) | refine relFault_A r hS _ _ ?_ | refine QCall_of (relFault_A r hS _ _ (Two_intro _ _)) ?_ | refine colsAt_A r hS by_ hby _ _ ?_ | refine QCall_of (colsAt_A r hS by_ hby _ _ (Two_intro _ _)) ?_); try simp (dsimp := false) only [go_sem, Nat.reduceAdd, Nat.reduceBEq, Nat.reduceEqDiff, Nat.reduceLT, Nat.reduceLeDiff, Nat.reduceMul, Int.reduceToNat, reduceCtorEq, ↓reduceIte, Tryd.ntmps8, Tryd.results8, ks_8, mu_8, nd_8, ti_ag22, ti_ag23, ti_ag25, ti_ag44, ti_fl25_0, ti_fl25_1, ti_hb25, ti_hb26, ti_hb27, ti_hb28, ti_hb29, ti_hb30, ti_pl25, ti_sb23, ti_sl23, ti_sz25, ti_sz44, ti_zr25, itD, itV, rlV, rowD, rlD, hf, hp, Option.getD_none, Option.isSome_none, Int.reduceEq, not_false_eq_true]) | (refine AWp_condC rfl ?_; intro KA KB hKA hKB; try simp only [onB_true, onB_false, onB_dec, onB_ndec, onB_not, onB_and, onB_or]) | (refine AWp_condA rfl ?_ ?_) | with_reducible (first | refine onB_of ?_ ?_ | rfl) | omega)
      all_goals first
        | exact dropF hk (fz_rl0 _ _ _) (bel_relE _ _ _)
    | some ps =>
      rw [sorted, if_pos hf, hp] at hk
      obtain ⟨hpl, hpi⟩ := places_in hf hp
      obtain ⟨_, hN, hall⟩ := relFault_ok hf
      have hw := ordI_weak fun x : Rw => projRow ps x.1
      have ht : ∀ i j, i < j → j < r.rows.length → (fun x : Rw => x.2) (rw0 r.rows i) < (fun x : Rw => x.2) (rw0 r.rows j) := fun i j h _ => h
      refine ACalls_of Tryd.func8 rfl in_8 (Nat.le_of_ble_eq_true rfl) ?_
      intro F hF
      simp (dsimp := false) only [go_sem, Nat.reduceAdd, Nat.reduceBEq, Nat.reduceEqDiff, Nat.reduceLT, Nat.reduceLeDiff, Nat.reduceMul, Int.reduceToNat, reduceCtorEq, ↓reduceIte, Tryd.ntmps8, Tryd.results8, ks_8, mu_8, nd_8, ti_ag22, ti_ag23, ti_ag25, ti_ag44, ti_fl25_0, ti_fl25_1, ti_hb25, ti_hb26, ti_hb27, ti_hb28, ti_hb29, ti_hb30, ti_pl25, ti_sb23, ti_sl23, ti_sz25, ti_sz44, ti_zr25, itD, itV, rlV, rowD, rlD, hf, hp, Option.getD_some, Option.isSome_some, Int.reduceEq, not_true_eq_false, eq_self, in_8] at hF
      subst hF
      repeat' (first | with_reducible (first | refine And.intro ?_ ?_ | intro _ | refine AWp_seq ?_ | refine AWp_block ?_ | (refine hKv _ _ (AWp_nop ?_); clear hKv Kv) | (refine hKA ?_; clear hKA hKB KA KB) | (refine hKB ?_; clear hKA hKB KA KB) | refine AWp_skipN ?_ | refine AWp_exitO (by repeat (first | exact Out.hit | apply Out.thenA | apply Out.out rfl)) ?_) | ((first | with_reducible (first | (refine hKv _ _ ?_; clear hKv Kv) | ((first | refine AWp_regC mu_8 ks_8 ?_ | refine AWp_draw nd_8 mu_8 ks_8 ti_mixed (by kernel_rfl) ?_ | refine AWp_regE mu_8 ks_8 ?_ | refine AWp_drawE nd_8 mu_8 ks_8 ti_mixed (by kernel_rfl) ?_); intro Kv hKv) | refine AWp_retR ?_) | refine relFault_A r hS _ _ ?_ | refine QCall_of (relFault_A r hS _ _ (Two_intro _ _)) ?_ | refine colsAt_A r hS by_ hby _ _ ?_ | refine QCall_of (colsAt_A r hS by_ hby _ _ (Two_intro _ _)) ?_); try simp (dsimp := false) only [go_sem, Nat.reduceAdd, Nat.reduceBEq, Nat.reduceEqDiff, Nat.reduceLT, Nat.reduceLeDiff, Nat.reduceMul, Int.reduceToNat, reduceCtorEq, ↓reduceIte, Tryd.ntmps8, Tryd.results8, ks_8, mu_8, nd_8, ti_ag22, ti_ag23, ti_ag25, ti_ag44, ti_fl25_0, ti_fl25_1, ti_hb25, ti_hb26, ti_hb27, ti_hb28, ti_hb29, ti_hb30, ti_pl25, ti_sb23, ti_sl23, ti_sz25, ti_sz44, ti_zr25, itD, itV, rlV, rowD, rlD, hf, hp, Option.getD_some, Option.isSome_some, Int.reduceEq, not_true_eq_false, eq_self]) | (refine AWp_condC rfl ?_; intro KA KB hKA hKB; try simp only [onB_true, onB_false, onB_dec, onB_ndec, onB_not, onB_and, onB_or]) | (refine AWp_condA rfl ?_ ?_) | with_reducible (first | refine onB_of ?_ ?_ | rfl) | omega)
      refine AWp_whileH (fun i : Nat => i ≤ r.rows.length)
        (fun i => [(2, .rp (rlD r)), (4, .pt H.length 0 0 0), (7, .d (.sl 1 (ps.map intRow))), (9, .os (H.length + 1) i), (10, .d (.i .i64 i))])
        (fun i => [.row 0 25 2 [[.d (.c (.slice none 0 0)), .d (.c (.slice none 0 0))]], .row i 44 1 (tab rwD i (insAll (rwC ps) (rw0 r.rows) i))]) (fun i => r.rows.length - i) 0 (Nat.zero_le _) ?_ ?_ ?_ ?_
      · first | rfl | (simp [tab]; done)
      · simp (dsimp := false) only [go_sem, Nat.reduceAdd, Nat.reduceBEq, Nat.reduceEqDiff, Nat.reduceLT, Nat.reduceLeDiff, Nat.reduceMul, Int.reduceToNat, reduceCtorEq, ↓reduceIte, Tryd.ntmps8, Tryd.results8, ks_8, mu_8, nd_8, ti_ag22, ti_ag23, ti_ag25, ti_ag44, ti_fl25_0, ti_fl25_1, ti_hb25, ti_hb26, ti_hb27, ti_hb28, ti_hb29, ti_hb30, ti_pl25, ti_sb23, ti_sl23, ti_sz25, ti_sz44, ti_zr25, itD, itV, rlV, rowD, rlD, hf, hp, Option.getD_some, Option.isSome_some, Int.reduceEq, not_true_eq_false, eq_self]
        first | done | (simp; done)
      · rintro i _ ob hob
        simp only [List.mem_cons, List.not_mem_nil, or_false] at hob
        rcases hob with rfl | rfl
        · exact bel_nil2 _ _ _
        · exact tab_bel rwD _ _ _ _ _
      rintro i hi
      have hbl : ∀ (v n : Nat) (G : Nat → D), Closed H (H ++ [Ob.row 0 25 2 [[.d (.c (.slice none 0 0)), .d (.c (.slice none 0 0))]], .row v 44 1 (tab (fun d : D => d) n G)]) := fun v n G => closed_app fun ob hob => by
        simp only [List.mem_cons, List.not_mem_nil, or_false] at hob
        rcases hob with rfl | rfl
        · exact bel_nil2 _ _ _
        · exact tab_bel _ _ _ _ _ _
      have hbr : ∀ (v n : Nat) (g : Nat → Rw), Closed H (H ++ [Ob.row 0 25 2 [[.d (.c (.slice none 0 0)), .d (.c (.slice none 0 0))]], .row v 44 1 (tab rwD n g)]) := fun v n g => closed_app fun ob hob => by
        simp only [List.mem_cons, List.not_mem_nil, or_false] at hob
        rcases hob with rfl | rfl
        · exact bel_nil2 _ _ _
        · exact tab_bel _ _ _ _ _ _
      by_cases hiN : i < r.rows.length
      · obtain ⟨row, hrow⟩ : ∃ row, r.rows[i]? = some row := ⟨r.rows[i], List.getElem?_eq_getElem hiN⟩
        have hin' : ((i : Int) < (r.rows.length : Int)) = True := eq_true (by omega)
        have ii0 : ((0 : Int) ≤ (i : Int)) = True := eq_true (by omega)
        have hmem := List.mem_of_getElem? hrow
        have hrl := (hall row hmem).1
        have hri := hpi row hmem
        obtain ⟨ok1, ok2⟩ := insAll_ok (cf := rwC ps) (tg := fun x : Rw => x.2) hw ht i hi
        have hx : insAll (rwC ps) (rw0 r.rows) i i = (row, i) := by
          rw [ok1.o i (.inr (Nat.le_refl _)), rw0, List.getD, hrow]; rfl
        have hnext : insAll (rwC ps) (rw0 r.rows) (i + 1) = insF (insAll (rwC ps) (rw0 r.rows) i) (posF (rwC ps) (insAll (rwC ps) (rw0 r.rows) i) (row, i) i) i := by rw [insAll, hx]
        have hgi : ∀ k, k < i → ∀ j, j ∈ ps → 0 ≤ j ∧ j < (insAll (rwC ps) (rw0 r.rows) i k).1.length := fun k hk j hj => by
          obtain ⟨q, _, q2, q3⟩ := (ok1.s _).1 ⟨k, Nat.zero_le _, hk, rfl⟩
          rw [← q3, rw0, List.getD, List.getElem?_eq_getElem (show q < r.rows.length by omega)]
          exact hpi _ (List.getElem_mem _) j hj
        generalize hg : insAll (rwC ps) (rw0 r.rows) i = g at hx hgi hnext
        have hfl : [row].flatten = row := by simp
        have hl := fun r : List It => show (projRow ps r).length = ps.length by simp [projRow]
        repeat' (first | with_reducible (first | refine And.intro ?_ ?_ | intro _ | refine AWp_seq ?_ | refine AWp_block ?_ | (refine hKv _ _ (AWp_nop ?_); clear hKv Kv) | (refine hKA ?_; clear hKA hKB KA KB) | (refine hKB ?_; clear hKA hKB KA KB) | refine AWp_skipN ?_ | refine AWp_exitO (by repeat (first | exact Out.hit | apply Out.thenA | apply Out.out rfl)) ?_) | ((first | with_reducible (first | (refine hKv _ _ ?_; clear hKv Kv) | ((first | refine AWp_regC mu_8 ks_8 ?_ | refine AWp_draw nd_8 mu_8 ks_8 ti_mixed (by kernel_rfl) ?_ | refine AWp_regE mu_8 ks_8 ?_ | refine AWp_drawE nd_8 mu_8 ks_8 ti_mixed (by kernel_rfl) ?_); intro Kv hKv) | refine AWp_retR ?_) | refine items_A [row] (by simp) (by intro l h; rw [List.mem_singleton.1 h]; omega) (by rw [hfl]; omega) _ _ ?_ | refine QCall_of (items_A [row] (by simp) (by intro l h; rw [List.mem_singleton.1 h]; omega) (by rw [hfl]; omega) _ _ (Two_intro _ _)) ?_); try simp (dsimp := false) only [go_sem, Nat.reduceAdd, Nat.reduceBEq, Nat.reduceEqDiff, Nat.reduceLT, Nat.reduceLeDiff, Nat.reduceMul, Int.reduceToNat, reduceCtorEq, ↓reduceIte, Tryd.ntmps8, Tryd.results8, ks_8, mu_8, nd_8, ti_ag22, ti_ag23, ti_ag25, ti_ag44, ti_fl25_0, ti_fl25_1, ti_hb25, ti_hb26, ti_hb27, ti_hb28, ti_hb29, ti_hb30, ti_pl25, ti_sb23, ti_sl23, ti_sz25, ti_sz44, ti_zr25, itD, itV, rlV, rowD, rlD, hrow, hin', ii0, tab_len, hfl, List.map_cons, List.map_nil]) | (refine AWp_condC rfl ?_; intro KA KB hKA hKB; try simp only [onB_true, onB_false, onB_dec, onB_ndec, onB_not, onB_and, onB_or]) | (refine AWp_condA rfl ?_ ?_) | with_reducible (first | refine onB_of ?_ ?_ | rfl) | omega)
        refine AWp_whileP (fun j : Nat => j ≤ i ∧ posF (rwC ps) g (row, i) j = posF (rwC ps) g (row, i) i) (fun j => [(2, .rp (rlD r)), (4, .pt H.length 0 0 0), (7, .d (.sl 1 (ps.map intRow))), (9, .os (H.length + 1) i), (10, .d (.i .i64 i)), (11, .d (.sl 3 (row.map itD))), (12, .d (.i .i64 j))]) (fun _ => H ++ [.row 0 25 2 [[.d (.c (.slice none 0 0)), .d (.c (.slice none 0 0))]], .row i 44 1 (tab rwD i g)]) (fun j => j) i ⟨Nat.le_refl _, rfl⟩ ?_ ?_ ?_ ?_ ?_
        · first | rfl
        · simp (dsimp := false) only [go_sem, Nat.reduceAdd, Nat.reduceBEq, Nat.reduceEqDiff, Nat.reduceLT, Nat.reduceLeDiff, Nat.reduceMul, Int.reduceToNat, reduceCtorEq, ↓reduceIte, Tryd.ntmps8, Tryd.results8, ks_8, mu_8, nd_8, ti_ag22, ti_ag23, ti_ag25, ti_ag44, ti_fl25_0, ti_fl25_1, ti_hb25, ti_hb26, ti_hb27, ti_hb28, ti_hb29, ti_hb30, ti_pl25, ti_sb23, ti_sl23, ti_sz25, ti_sz44, ti_zr25, itD, itV, rlV, rowD, rlD, hrow, hin', ii0, tab_len, hfl, List.map_cons, List.map_nil]
          first | done | (simp; done) | (simp; omega)
        · intro y _
          simp
        · intro y _
          exact hbr _ _ _
        rintro j ⟨j1, j2⟩
        have hlast : posF (rwC ps) g (row, i) j = j → j ≤ i → insF g j i = insAll (rwC ps) (rw0 r.rows) (i + 1) := fun h _ => by rw [hnext, ← j2, h]
        by_cases hj : 0 < j
        · have hj' : ((0 : Int) < (j : Int)) = True := eq_true (by omega)
          have c0 : ((0 : Int) ≤ (j : Int) - 1) = True := eq_true (by omega)
          have c1 : ((j : Int) - 1 < (i : Int)) = True := eq_true (by omega)
          have c2 : ((j : Int) - 1).toNat = j - 1 := by omega
          have ej : (j : Int) - 1 = ((j - 1 : Nat) : Int) := by omega
          have gp := tab_get rwD (n := i) (g := g) (k := j - 1) (by omega)
          have hll : (projRow ps row).length = (projRow ps (g (j - 1)).1).length := by rw [hl, hl]
          have hls := lsI_lt hll
          have k1 := fun H K hk => picks_A row ps (by omega) hri H K hk
          have k2 := fun H K hk => picks_A (g (j - 1)).1 ps (by omega) (hgi _ (by omega)) H K hk
          have k3 := fun H K hk => lessItems_A (projRow ps row) (projRow ps (g (j - 1)).1) (by rw [hl]; omega) hll H K hk
          have hpos : posF (rwC ps) g (row, i) j = if rwC ps (row, i) (g (j - 1)) < 0 then posF (rwC ps) g (row, i) (j - 1) else j := by
            obtain ⟨q, rfl⟩ : ∃ q, j = q + 1 := ⟨j - 1, by omega⟩
            rfl
          by_cases hlt : rwC ps (row, i) (g (j - 1)) < 0
          · rw [if_pos hlt] at hpos
            have hls' : lsI (projRow ps row) (projRow ps (g (j - 1)).1) = true := hls.2 hlt
            repeat' (first | with_reducible (first | refine And.intro ?_ ?_ | intro _ | refine AWp_seq ?_ | refine AWp_block ?_ | (refine hKv _ _ (AWp_nop ?_); clear hKv Kv) | (refine hKA ?_; clear hKA hKB KA KB) | (refine hKB ?_; clear hKA hKB KA KB) | refine AWp_skipN ?_ | refine AWp_exitO (by repeat (first | exact Out.hit | apply Out.thenA | apply Out.out rfl)) ?_) | ((first | with_reducible (first | (refine hKv _ _ ?_; clear hKv Kv) | ((first | refine AWp_regC mu_8 ks_8 ?_ | refine AWp_draw nd_8 mu_8 ks_8 ti_mixed (by kernel_rfl) ?_ | refine AWp_regE mu_8 ks_8 ?_ | refine AWp_drawE nd_8 mu_8 ks_8 ti_mixed (by kernel_rfl) ?_); intro Kv hKv) | refine AWp_retR ?_) | refine k1 _ _ ?_ | refine QCall_of (k1 _ _ (Two_intro _ _)) ?_ | refine k2 _ _ ?_ | refine QCall_of (k2 _ _ (Two_intro _ _)) ?_ | refine k3 _ _ ?_ | refine QCall_of (k3 _ _ (Two_intro _ _)) ?_); try simp (dsimp := false) only [go_sem, Nat.reduceAdd, Nat.reduceBEq, Nat.reduceEqDiff, Nat.reduceLT, Nat.reduceLeDiff, Nat.reduceMul, Int.reduceToNat, reduceCtorEq, ↓reduceIte, Tryd.ntmps8, Tryd.results8, ks_8, mu_8, nd_8, ti_ag22, ti_ag23, ti_ag25, ti_ag44, ti_fl25_0, ti_fl25_1, ti_hb25, ti_hb26, ti_hb27, ti_hb28, ti_hb29, ti_hb30, ti_pl25, ti_sb23, ti_sl23, ti_sz25, ti_sz44, ti_zr25, itD, itV, rlV, rowD, rlD, rwD, hj', c0, c1, c2, gp, hls', tab_len, not_true_eq_false, not_false_eq_true, Bool.and_true, Bool.true_and, Bool.false_and, Bool.and_false, Int.reduceEq, Int.reduceLT, Int.reduceLE]) | (refine AWp_condC rfl ?_; intro KA KB hKA hKB; try simp only [onB_true, onB_false, onB_dec, onB_ndec, onB_not, onB_and, onB_or]) | (refine AWp_condA rfl ?_ ?_) | with_reducible (first | refine onB_of ?_ ?_ | rfl) | omega)
            all_goals first
              | omega
              | exact hbr _ _ _
              | exact ⟨j - 1, ⟨by omega, hpos.symm.trans j2⟩, by omega, by (repeat' (refine And.intro ?_ ?_)) <;> first | rfl | omega | (simp; done) | (simp; omega)⟩
          · rw [if_neg hlt] at hpos
            have hls' : lsI (projRow ps row) (projRow ps (g (j - 1)).1) = false := Bool.eq_false_iff.2 fun h => hlt (hls.1 h)
            have hfin := hlast hpos j1
            repeat' (first | with_reducible (first | refine And.intro ?_ ?_ | intro _ | refine AWp_seq ?_ | refine AWp_block ?_ | (refine hKv _ _ (AWp_nop ?_); clear hKv Kv) | (refine hKA ?_; clear hKA hKB KA KB) | (refine hKB ?_; clear hKA hKB KA KB) | refine AWp_skipN ?_ | refine AWp_exitO (by repeat (first | exact Out.hit | apply Out.thenA | apply Out.out rfl)) ?_) | ((first | with_reducible (first | (refine hKv _ _ ?_; clear hKv Kv) | ((first | refine AWp_regC mu_8 ks_8 ?_ | refine AWp_draw nd_8 mu_8 ks_8 ti_mixed (by kernel_rfl) ?_ | refine AWp_regE mu_8 ks_8 ?_ | refine AWp_drawE nd_8 mu_8 ks_8 ti_mixed (by kernel_rfl) ?_); intro Kv hKv) | refine AWp_retR ?_) | refine k1 _ _ ?_ | refine QCall_of (k1 _ _ (Two_intro _ _)) ?_ | refine k2 _ _ ?_ | refine QCall_of (k2 _ _ (Two_intro _ _)) ?_ | refine k3 _ _ ?_ | refine QCall_of (k3 _ _ (Two_intro _ _)) ?_); try simp (dsimp := false) only [go_sem, Nat.reduceAdd, Nat.reduceBEq, Nat.reduceEqDiff, Nat.reduceLT, Nat.reduceLeDiff, Nat.reduceMul, Int.reduceToNat, reduceCtorEq, ↓reduceIte, Tryd.ntmps8, Tryd.results8, ks_8, mu_8, nd_8, ti_ag22, ti_ag23, ti_ag25, ti_ag44, ti_fl25_0, ti_fl25_1, ti_hb25, ti_hb26, ti_hb27, ti_hb28, ti_hb29, ti_hb30, ti_pl25, ti_sb23, ti_sl23, ti_sz25, ti_sz44, ti_zr25, itD, itV, rlV, rowD, rlD, rwD, hj', c0, c1, c2, gp, hls', tab_len, not_true_eq_false, not_false_eq_true, Bool.and_true, Bool.true_and, Bool.false_and, Bool.and_false, Int.reduceEq, Int.reduceLT, Int.reduceLE]) | (refine AWp_condC rfl ?_; intro KA KB hKA hKB; try simp only [onB_true, onB_false, onB_dec, onB_ndec, onB_not, onB_and, onB_or]) | (refine AWp_condA rfl ?_ ?_) | with_reducible (first | refine onB_of ?_ ?_ | rfl) | omega)
            have ei : ((i : Int) + 1 - 1) = (i : Int) := by omega
            rw [tab_up]
            refine AWp_whileP (fun k : Nat => j ≤ k ∧ k ≤ i) (fun k => [(2, .rp (rlD r)), (4, .pt H.length 0 0 0), (7, .d (.sl 1 (ps.map intRow))), (9, .os (H.length + 1) (i + 1)), (10, .d (.i .i64 i)), (11, .d (.sl 3 (row.map itD))), (12, .d (.i .i64 j)), (13, .d (.i .i64 k))]) (fun k => H ++ [.row 0 25 2 [[.d (.c (.slice none 0 0)), .d (.c (.slice none 0 0))]], .row (i + 1) 44 1 (tab (fun d : D => d) (i + 1) (upG (rwG g i) k i))]) (fun k => k) i ⟨j1, Nat.le_refl _⟩ ?_ ?_ ?_ ?_ ?_
            · rw [upG_top]
            · simp (dsimp := false) only [go_sem, Nat.reduceAdd, Nat.reduceBEq, Nat.reduceEqDiff, Nat.reduceLT, Nat.reduceLeDiff, Nat.reduceMul, Int.reduceToNat, reduceCtorEq, ↓reduceIte, Tryd.ntmps8, Tryd.results8, ks_8, mu_8, nd_8, ti_ag22, ti_ag23, ti_ag25, ti_ag44, ti_fl25_0, ti_fl25_1, ti_hb25, ti_hb26, ti_hb27, ti_hb28, ti_hb29, ti_hb30, ti_pl25, ti_sb23, ti_sl23, ti_sz25, ti_sz44, ti_zr25, itD, itV, rlV, rowD, rlD, rwD, hj', c0, c1, c2, gp, hls', tab_len, not_true_eq_false, not_false_eq_true, Bool.and_true, Bool.true_and, Bool.false_and, Bool.and_false, Int.reduceEq, Int.reduceLT, Int.reduceLE]
              first | done | (simp; done) | (simp; omega)
            · intro y _
              simp
            · intro y _
              exact hbl _ _ _
            rintro k ⟨n1, n2⟩
            have hts := fun G (q : Nat) x => tab_set (fun d : D => d) (n := i + 1) (g := G) (i := q) (x := x)
            by_cases hkj : j < k
            · have hkj' : ((j : Int) < (k : Int)) = True := eq_true (by omega)
              have d0 : ((0 : Int) ≤ (k : Int) - 1) = True := eq_true (by omega)
              have d1 : ((k : Int) - 1 < ((i + 1 : Nat) : Int)) = True := eq_true (by omega)
              have d2 : ((k : Int) - 1).toNat = k - 1 := by omega
              have f0 : ((0 : Int) ≤ (k : Int)) = True := eq_true (by omega)
              have f1 : ((k : Int) < ((i + 1 : Nat) : Int)) = True := eq_true (by omega)
              have gm := fun G => tab_get (fun d : D => d) (n := i + 1) (g := G) (k := k - 1) (by omega)
              have gk := fun G => tab_get (fun d : D => d) (n := i + 1) (g := G) (k := k) (by omega)
              have hst := upG_step (G := rwG g i) (k := k) (i := i) (by omega) n2
              repeat' (first | with_reducible (first | refine And.intro ?_ ?_ | intro _ | refine AWp_seq ?_ | refine AWp_block ?_ | (refine hKv _ _ (AWp_nop ?_); clear hKv Kv) | (refine hKA ?_; clear hKA hKB KA KB) | (refine hKB ?_; clear hKA hKB KA KB) | refine AWp_skipN ?_ | refine AWp_exitO (by repeat (first | exact Out.hit | apply Out.thenA | apply Out.out rfl)) ?_) | (with_reducible (first | (refine hKv _ _ ?_; clear hKv Kv) | ((first | refine AWp_regC mu_8 ks_8 ?_ | refine AWp_draw nd_8 mu_8 ks_8 ti_mixed (by kernel_rfl) ?_ | refine AWp_regE mu_8 ks_8 ?_ | refine AWp_drawE nd_8 mu_8 ks_8 ti_mixed (by kernel_rfl) ?_); intro Kv hKv) | refine AWp_retR ?_); try simp (dsimp := false) only [go_sem, Nat.reduceAdd, Nat.reduceBEq, Nat.reduceEqDiff, Nat.reduceLT, Nat.reduceLeDiff, Nat.reduceMul, Int.reduceToNat, reduceCtorEq, ↓reduceIte, Tryd.ntmps8, Tryd.results8, ks_8, mu_8, nd_8, ti_ag22, ti_ag23, ti_ag25, ti_ag44, ti_fl25_0, ti_fl25_1, ti_hb25, ti_hb26, ti_hb27, ti_hb28, ti_hb29, ti_hb30, ti_pl25, ti_sb23, ti_sl23, ti_sz25, ti_sz44, ti_zr25, itD, itV, rlV, rowD, rlD, hkj', d0, d1, d2, f0, f1, gm, gk, hts, hst, tab_len, not_true_eq_false, not_false_eq_true, Bool.and_true, Bool.true_and, Bool.false_and, Bool.and_false, Int.reduceEq, Int.reduceLT, Int.reduceLE]) | (refine AWp_condC rfl ?_; intro KA KB hKA hKB; try simp only [onB_true, onB_false, onB_dec, onB_ndec, onB_not, onB_and, onB_or]) | (refine AWp_condA rfl ?_ ?_) | with_reducible (first | refine onB_of ?_ ?_ | rfl) | omega)
              all_goals first
                | omega
                | exact hbl _ _ _
                | exact ⟨k - 1, ⟨by omega, by omega⟩, by omega, by (repeat' (refine And.intro ?_ ?_)) <;> first | rfl | omega | (simp; done) | (simp; omega)⟩
            · have hkj' : ((j : Int) < (k : Int)) = False := eq_false (by omega)
              obtain rfl : j = k := by omega
              have f0 : ((0 : Int) ≤ (j : Int)) = True := eq_true (by omega)
              have f1 : ((j : Int) < ((i + 1 : Nat) : Int)) = True := eq_true (by omega)
              have gk := fun G => tab_get (fun d : D => d) (n := i + 1) (g := G) (k := j) (by omega)
              have hend : tab (fun d : D => d) (i + 1) (upd (upG (rwG g i) j i) j (.sl 3 (row.map itD))) = tab rwD (i + 1) (insAll (rwC ps) (rw0 r.rows) (i + 1)) := by
                rw [← hfin]
                exact tab_dd fun q hq => by
                  have := upG_ins g (a := j) (i := i) j1 hq
                  rw [hx] at this
                  exact this
              have ec : (i : Int) + 1 = ((i + 1 : Nat) : Int) := by omega
              repeat' (first | with_reducible (first | refine And.intro ?_ ?_ | intro _ | refine AWp_seq ?_ | refine AWp_block ?_ | (refine hKv _ _ (AWp_nop ?_); clear hKv Kv) | (refine hKA ?_; clear hKA hKB KA KB) | (refine hKB ?_; clear hKA hKB KA KB) | refine AWp_skipN ?_ | refine AWp_exitO (by repeat (first | exact Out.hit | apply Out.thenA | apply Out.out rfl)) ?_) | (with_reducible (first | (refine hKv _ _ ?_; clear hKv Kv) | ((first | refine AWp_regC mu_8 ks_8 ?_ | refine AWp_draw nd_8 mu_8 ks_8 ti_mixed (by kernel_rfl) ?_ | refine AWp_regE mu_8 ks_8 ?_ | refine AWp_drawE nd_8 mu_8 ks_8 ti_mixed (by kernel_rfl) ?_); intro Kv hKv) | refine AWp_retR ?_); try simp (dsimp := false) only [go_sem, Nat.reduceAdd, Nat.reduceBEq, Nat.reduceEqDiff, Nat.reduceLT, Nat.reduceLeDiff, Nat.reduceMul, Int.reduceToNat, reduceCtorEq, ↓reduceIte, Tryd.ntmps8, Tryd.results8, ks_8, mu_8, nd_8, ti_ag22, ti_ag23, ti_ag25, ti_ag44, ti_fl25_0, ti_fl25_1, ti_hb25, ti_hb26, ti_hb27, ti_hb28, ti_hb29, ti_hb30, ti_pl25, ti_sb23, ti_sl23, ti_sz25, ti_sz44, ti_zr25, itD, itV, rlV, rowD, rlD, hkj', f0, f1, gk, hts, hend, ec, tab_len, not_true_eq_false, not_false_eq_true, Bool.and_true, Bool.true_and, Bool.false_and, Bool.and_false, Int.reduceEq, Int.reduceLT, Int.reduceLE]) | (refine AWp_condC rfl ?_; intro KA KB hKA hKB; try simp only [onB_true, onB_false, onB_dec, onB_ndec, onB_not, onB_and, onB_or]) | (refine AWp_condA rfl ?_ ?_) | with_reducible (first | refine onB_of ?_ ?_ | rfl) | omega)
              all_goals first
                | omega
                | exact hbl _ _ _
                | exact hbr _ _ _
                | exact ⟨i + 1, by omega, by omega, by (repeat' (refine And.intro ?_ ?_)) <;> first | rfl | omega | (simp; done) | (simp; omega)⟩
        · have hj' : ((0 : Int) < (j : Int)) = False := eq_false (by omega)
          have hfin := hlast (by obtain rfl : j = 0 := by omega
                                 rfl) j1
          repeat' (first | with_reducible (first | refine And.intro ?_ ?_ | intro _ | refine AWp_seq ?_ | refine AWp_block ?_ | (refine hKv _ _ (AWp_nop ?_); clear hKv Kv) | (refine hKA ?_; clear hKA hKB KA KB) | (refine hKB ?_; clear hKA hKB KA KB) | refine AWp_skipN ?_ | refine AWp_exitO (by repeat (first | exact Out.hit | apply Out.thenA | apply Out.out rfl)) ?_) | (with_reducible (first | (refine hKv _ _ ?_; clear hKv Kv) | ((first | refine AWp_regC mu_8 ks_8 ?_ | refine AWp_draw nd_8 mu_8 ks_8 ti_mixed (by kernel_rfl) ?_ | refine AWp_regE mu_8 ks_8 ?_ | refine AWp_drawE nd_8 mu_8 ks_8 ti_mixed (by kernel_rfl) ?_); intro Kv hKv) | refine AWp_retR ?_); try simp (dsimp := false) only [go_sem, Nat.reduceAdd, Nat.reduceBEq, Nat.reduceEqDiff, Nat.reduceLT, Nat.reduceLeDiff, Nat.reduceMul, Int.reduceToNat, reduceCtorEq, ↓reduceIte, Tryd.ntmps8, Tryd.results8, ks_8, mu_8, nd_8, ti_ag22, ti_ag23, ti_ag25, ti_ag44, ti_fl25_0, ti_fl25_1, ti_hb25, ti_hb26, ti_hb27, ti_hb28, ti_hb29, ti_hb30, ti_pl25, ti_sb23, ti_sl23, ti_sz25, ti_sz44, ti_zr25, itD, itV, rlV, rowD, rlD, rwD, hj', tab_len, not_true_eq_false, not_false_eq_true, Bool.and_true, Bool.true_and, Bool.false_and, Bool.and_false, Int.reduceEq, Int.reduceLT, Int.reduceLE]) | (refine AWp_condC rfl ?_; intro KA KB hKA hKB; try simp only [onB_true, onB_false, onB_dec, onB_ndec, onB_not, onB_and, onB_or]) | (refine AWp_condA rfl ?_ ?_) | with_reducible (first | refine onB_of ?_ ?_ | rfl) | omega)
          have ei : ((i : Int) + 1 - 1) = (i : Int) := by omega
          rw [tab_up]
          refine AWp_whileP (fun k : Nat => j ≤ k ∧ k ≤ i) (fun k => [(2, .rp (rlD r)), (4, .pt H.length 0 0 0), (7, .d (.sl 1 (ps.map intRow))), (9, .os (H.length + 1) (i + 1)), (10, .d (.i .i64 i)), (11, .d (.sl 3 (row.map itD))), (12, .d (.i .i64 j)), (13, .d (.i .i64 k))]) (fun k => H ++ [.row 0 25 2 [[.d (.c (.slice none 0 0)), .d (.c (.slice none 0 0))]], .row (i + 1) 44 1 (tab (fun d : D => d) (i + 1) (upG (rwG g i) k i))]) (fun k => k) i ⟨j1, Nat.le_refl _⟩ ?_ ?_ ?_ ?_ ?_
          · rw [upG_top]
          · simp (dsimp := false) only [go_sem, Nat.reduceAdd, Nat.reduceBEq, Nat.reduceEqDiff, Nat.reduceLT, Nat.reduceLeDiff, Nat.reduceMul, Int.reduceToNat, reduceCtorEq, ↓reduceIte, Tryd.ntmps8, Tryd.results8, ks_8, mu_8, nd_8, ti_ag22, ti_ag23, ti_ag25, ti_ag44, ti_fl25_0, ti_fl25_1, ti_hb25, ti_hb26, ti_hb27, ti_hb28, ti_hb29, ti_hb30, ti_pl25, ti_sb23, ti_sl23, ti_sz25, ti_sz44, ti_zr25, itD, itV, rlV, rowD, rlD, rwD, hj', tab_len, not_true_eq_false, not_false_eq_true, Bool.and_true, Bool.true_and, Bool.false_and, Bool.and_false, Int.reduceEq, Int.reduceLT, Int.reduceLE]
            first | done | (simp; done) | (simp; omega)
          · intro y _
            simp
          · intro y _
            exact hbl _ _ _
          rintro k ⟨n1, n2⟩
          have hts := fun G (q : Nat) x => tab_set (fun d : D => d) (n := i + 1) (g := G) (i := q) (x := x)
          by_cases hkj : j < k
          · have hkj' : ((j : Int) < (k : Int)) = True := eq_true (by omega)
            have d0 : ((0 : Int) ≤ (k : Int) - 1) = True := eq_true (by omega)
            have d1 : ((k : Int) - 1 < ((i + 1 : Nat) : Int)) = True := eq_true (by omega)
            have d2 : ((k : Int) - 1).toNat = k - 1 := by omega
            have f0 : ((0 : Int) ≤ (k : Int)) = True := eq_true (by omega)
            have f1 : ((k : Int) < ((i + 1 : Nat) : Int)) = True := eq_true (by omega)
            have gm := fun G => tab_get (fun d : D => d) (n := i + 1) (g := G) (k := k - 1) (by omega)
            have gk := fun G => tab_get (fun d : D => d) (n := i + 1) (g := G) (k := k) (by omega)
            have hst := upG_step (G := rwG g i) (k := k) (i := i) (by omega) n2
            repeat' (first | with_reducible (first | refine And.intro ?_ ?_ | intro _ | refine AWp_seq ?_ | refine AWp_block ?_ | (refine hKv _ _ (AWp_nop ?_); clear hKv Kv) | (refine hKA ?_; clear hKA hKB KA KB) | (refine hKB ?_; clear hKA hKB KA KB) | refine AWp_skipN ?_ | refine AWp_exitO (by repeat (first | exact Out.hit | apply Out.thenA | apply Out.out rfl)) ?_) | (with_reducible (first | (refine hKv _ _ ?_; clear hKv Kv) | ((first | refine AWp_regC mu_8 ks_8 ?_ | refine AWp_draw nd_8 mu_8 ks_8 ti_mixed (by kernel_rfl) ?_ | refine AWp_regE mu_8 ks_8 ?_ | refine AWp_drawE nd_8 mu_8 ks_8 ti_mixed (by kernel_rfl) ?_); intro Kv hKv) | refine AWp_retR ?_); try simp (dsimp := false) only [go_sem, Nat.reduceAdd, Nat.reduceBEq, Nat.reduceEqDiff, Nat.reduceLT, Nat.reduceLeDiff, Nat.reduceMul, Int.reduceToNat, reduceCtorEq, ↓reduceIte, Tryd.ntmps8, Tryd.results8, ks_8, mu_8, nd_8, ti_ag22, ti_ag23, ti_ag25, ti_ag44, ti_fl25_0, ti_fl25_1, ti_hb25, ti_hb26, ti_hb27, ti_hb28, ti_hb29, ti_hb30, ti_pl25, ti_sb23, ti_sl23, ti_sz25, ti_sz44, ti_zr25, itD, itV, rlV, rowD, rlD, hkj', d0, d1, d2, f0, f1, gm, gk, hts, hst, tab_len, not_true_eq_false, not_false_eq_true, Bool.and_true, Bool.true_and, Bool.false_and, Bool.and_false, Int.reduceEq, Int.reduceLT, Int.reduceLE]) | (refine AWp_condC rfl ?_; intro KA KB hKA hKB; try simp only [onB_true, onB_false, onB_dec, onB_ndec, onB_not, onB_and, onB_or]) | (refine AWp_condA rfl ?_ ?_) | with_reducible (first | refine onB_of ?_ ?_ | rfl) | omega)
            all_goals first
              | omega
              | exact hbl _ _ _
              | exact ⟨k - 1, ⟨by omega, by omega⟩, by omega, by (repeat' (refine And.intro ?_ ?_)) <;> first | rfl | omega | (simp; done) | (simp; omega)⟩
          · have hkj' : ((j : Int) < (k : Int)) = False := eq_false (by omega)
            obtain rfl : j = k := by omega
            have f0 : ((0 : Int) ≤ (j : Int)) = True := eq_true (by omega)
            have f1 : ((j : Int) < ((i + 1 : Nat) : Int)) = True := eq_true (by omega)
            have gk := fun G => tab_get (fun d : D => d) (n := i + 1) (g := G) (k := j) (by omega)
            have hend : tab (fun d : D => d) (i + 1) (upd (upG (rwG g i) j i) j (.sl 3 (row.map itD))) = tab rwD (i + 1) (insAll (rwC ps) (rw0 r.rows) (i + 1)) := by
              rw [← hfin]
              exact tab_dd fun q hq => by
                have := upG_ins g (a := j) (i := i) j1 hq
                rw [hx] at this
                exact this
            have ec : (i : Int) + 1 = ((i + 1 : Nat) : Int) := by omega
            repeat' (first | with_reducible (first | refine And.intro ?_ ?_ | intro _ | refine AWp_seq ?_ | refine AWp_block ?_ | (refine hKv _ _ (AWp_nop ?_); clear hKv Kv) | (refine hKA ?_; clear hKA hKB KA KB) | (refine hKB ?_; clear hKA hKB KA KB) | refine AWp_skipN ?_ | refine AWp_exitO (by repeat (first | exact Out.hit | apply Out.thenA | apply Out.out rfl)) ?_) | (with_reducible (first | (refine hKv _ _ ?_; clear hKv Kv) | ((first | refine AWp_regC mu_8 ks_8 ?_ | refine AWp_draw nd_8 mu_8 ks_8 ti_mixed (by kernel_rfl) ?_ | refine AWp_regE mu_8 ks_8 ?_ | refine AWp_drawE nd_8 mu_8 ks_8 ti_mixed (by kernel_rfl) ?_); intro Kv hKv) | refine AWp_retR ?_); try simp (dsimp := false) only [go_sem, Nat.reduceAdd, Nat.reduceBEq, Nat.reduceEqDiff, Nat.reduceLT, Nat.reduceLeDiff, Nat.reduceMul, Int.reduceToNat, reduceCtorEq, ↓reduceIte, Tryd.ntmps8, Tryd.results8, ks_8, mu_8, nd_8, ti_ag22, ti_ag23, ti_ag25, ti_ag44, ti_fl25_0, ti_fl25_1, ti_hb25, ti_hb26, ti_hb27, ti_hb28, ti_hb29, ti_hb30, ti_pl25, ti_sb23, ti_sl23, ti_sz25, ti_sz44, ti_zr25, itD, itV, rlV, rowD, rlD, hkj', f0, f1, gk, hts, hend, ec, tab_len, not_true_eq_false, not_false_eq_true, Bool.and_true, Bool.true_and, Bool.false_and, Bool.and_false, Int.reduceEq, Int.reduceLT, Int.reduceLE]) | (refine AWp_condC rfl ?_; intro KA KB hKA hKB; try simp only [onB_true, onB_false, onB_dec, onB_ndec, onB_not, onB_and, onB_or]) | (refine AWp_condA rfl ?_ ?_) | with_reducible (first | refine onB_of ?_ ?_ | rfl) | omega)
            all_goals first
              | omega
              | exact hbl _ _ _
              | exact hbr _ _ _
              | exact ⟨i + 1, by omega, by omega, by (repeat' (refine And.intro ?_ ?_)) <;> first | rfl | omega | (simp; done) | (simp; omega)⟩
      · obtain rfl : i = r.rows.length := by omega
        have hin' : ((r.rows.length : Int) < (r.rows.length : Int)) = False := eq_false (by omega)
        have hst := srt_tab ps r.rows
        have hsl := srtRows_len ps r.rows
        rw [← hsl] at hk
        rw [← hst]
        repeat' (first | with_reducible (first | refine And.intro ?_ ?_ | intro _ | refine AWp_seq ?_ | refine AWp_block ?_ | (refine hKv _ _ (AWp_nop ?_); clear hKv Kv) | (refine hKA ?_; clear hKA hKB KA KB) | (refine hKB ?_; clear hKA hKB KA KB) | refine AWp_skipN ?_ | refine AWp_exitO (by repeat (first | exact Out.hit | apply Out.thenA | apply Out.out rfl)) ?_) | ((first | with_reducible (first | (refine hKv _ _ ?_; clear hKv Kv) | ((first | refine AWp_regC mu_8 ks_8 ?_ | refine AWp_draw nd_8 mu_8 ks_8 ti_mixed (by kernel_rfl) ?_ | refine AWp_regE mu_8 ks_8 ?_ | refine AWp_drawE nd_8 mu_8 ks_8 ti_mixed (by kernel_rfl) ?_); intro Kv hKv) | refine AWp_retR ?_) | refine relOfO_A r.cols _ _ _ _ q1 hS.col (by rw [List.length_map]; omega) _ _ ((get_appk _ _ 1).trans rfl) ?_ | refine QCall_of (relOfO_A r.cols _ _ _ _ q1 hS.col (by rw [List.length_map]; omega) _ _ ((get_appk _ _ 1).trans rfl) (Two_intro _ _)) ?_); try simp (dsimp := false) only [go_sem, Nat.reduceAdd, Nat.reduceBEq, Nat.reduceEqDiff, Nat.reduceLT, Nat.reduceLeDiff, Nat.reduceMul, Int.reduceToNat, reduceCtorEq, ↓reduceIte, Tryd.ntmps8, Tryd.results8, ks_8, mu_8, nd_8, ti_ag22, ti_ag23, ti_ag25, ti_ag44, ti_fl25_0, ti_fl25_1, ti_hb25, ti_hb26, ti_hb27, ti_hb28, ti_hb29, ti_hb30, ti_pl25, ti_sb23, ti_sl23, ti_sz25, ti_sz44, ti_zr25, itD, itV, rlV, rowD, rlD, finQ, hin']) | (refine AWp_condC rfl ?_; intro KA KB hKA hKB; try simp only [onB_true, onB_false, onB_dec, onB_ndec, onB_not, onB_and, onB_or]) | (refine AWp_condA rfl ?_ ?_) | with_reducible (first | refine onB_of ?_ ?_ | rfl) | omega)
        all_goals first
          | exact fin_ret hk (by assumption) (by omega) (get_appk _ _ 1)
          | exact fin_bad hk rfl (by assumption)
  · rw [sorted, if_neg hf] at hk
    have hf' : (relFault r = 0) = False := eq_false hf
    refine ACalls_of Tryd.func8 rfl in_8 (Nat.le_of_ble_eq_true rfl) ?_
    intro F hF
    simp (dsimp := false) only [go_sem, Nat.reduceAdd, Nat.reduceBEq, Nat.reduceEqDiff, Nat.reduceLT, Nat.reduceLeDiff, Nat.reduceMul, Int.reduceToNat, reduceCtorEq, ↓reduceIte, Tryd.ntmps8, Tryd.results8, ks_8, mu_8, nd_8, ti_ag22, ti_ag23, ti_ag25, ti_ag44, ti_fl25_0, ti_fl25_1, ti_hb25, ti_hb26, ti_hb27, ti_hb28, ti_hb29, ti_hb30, ti_pl25, ti_sb23, ti_sl23, ti_sz25, ti_sz44, ti_zr25, itD, itV, rlV, rowD, rlD, hf', not_false_eq_true, in_8] at hF
    subst hF
    repeat' (first | with_reducible (first | refine And.intro ?_ ?_ | intro _ | refine AWp_seq ?_ | refine AWp_block ?_ | (refine hKv _ _ (AWp_nop ?_); clear hKv Kv) | (refine hKA ?_; clear hKA hKB KA KB) | (refine hKB ?_; clear hKA hKB KA KB) | refine AWp_skipN ?_ | refine AWp_exitO (by repeat (first | exact Out.hit | apply Out.thenA | apply Out.out rfl)) ?_) | ((first | with_reducible (first | (refine hKv _ _ ?_; clear hKv Kv) | ((first | refine AWp_regC mu_8 ks_8 ?_ | refine AWp_draw nd_8 mu_8 ks_8 ti_mixed (by kernel_rfl) ?_ | refine AWp_regE mu_8 ks_8 ?_ | refine AWp_drawE nd_8 mu_8 ks_8 ti_mixed (by kernel_rfl) ?_); intro Kv hKv) | refine AWp_retR ?_) | refine relFault_A r hS _ _ ?_ | refine QCall_of (relFault_A r hS _ _ (Two_intro _ _)) ?_ | refine colsAt_A r hS by_ hby _ _ ?_ | refine QCall_of (colsAt_A r hS by_ hby _ _ (Two_intro _ _)) ?_); try simp (dsimp := false) only [go_sem, Nat.reduceAdd, Nat.reduceBEq, Nat.reduceEqDiff, Nat.reduceLT, Nat.reduceLeDiff, Nat.reduceMul, Int.reduceToNat, reduceCtorEq, ↓reduceIte, Tryd.ntmps8, Tryd.results8, ks_8, mu_8, nd_8, ti_ag22, ti_ag23, ti_ag25, ti_ag44, ti_fl25_0, ti_fl25_1, ti_hb25, ti_hb26, ti_hb27, ti_hb28, ti_hb29, ti_hb30, ti_pl25, ti_sb23, ti_sl23, ti_sz25, ti_sz44, ti_zr25, itD, itV, rlV, rowD, rlD, hf', not_false_eq_true]) | (refine AWp_condC rfl ?_; intro KA KB hKA hKB; try simp only [onB_true, onB_false, onB_dec, onB_ndec, onB_not, onB_and, onB_or]) | (refine AWp_condA rfl ?_ ?_) | with_reducible (first | refine onB_of ?_ ?_ | rfl) | omega)
    all_goals first
      | exact dropF hk (fz_rl0 _ _ _) (bel_relE _ _ _)
end Go.Proofs.YtpgdflhcmijaiaaDoor
