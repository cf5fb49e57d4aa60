/- The how many-th of its part each row is: the reference. No condition but that the tables of package unicode/utf8 are there. -/
import Derived.Test.YtpgdflhcmijaiaaDoorQ46
set_option linter.all false
set_option linter.unusedSimpArgs false
set_option linter.unusedVariables false
namespace Go.Proofs.YtpgdflhcmijaiaaDoor
open Go Go.Proofs.YtpgdflhcmijaiaaDoor.Ab
variable [Glo] [U8]
set_option maxHeartbeats 4000000
set_option maxRecDepth 20000
theorem rankedOf_part (r : Rl) (hS : ShR r) (name : List UInt8) (hname : name.length ≤ 1048576) (by_ : List (List UInt8)) (hby : by_.length ≤ 1048576) (part : List UInt8) (H : Heap) (K : V → Heap → Prop) (hk : K (relE (ranked r name by_ part).1 (ranked r name by_ part).2) H) (hf : relFault r = 0) (ps : List Int) (hp : places r.cols by_ = some ps) (hpart : ¬ part = []) (c : Nat) (hc : ¬ txtAt r.cols part < 0) (hcc : txtAt r.cols part = c) (hcn : c < r.cols.length) :
    ACalls Tryd.prog 11 [rlV r, .d (.s name), .d (.sl 1 (by_.map strRow)), .d (.s part)] H K := by
  have q1 := hS.ncols
  have q2 := hS.nrows
  obtain ⟨hcl0, hN, hall⟩ := relFault_ok hf
  obtain ⟨hpl, hpi⟩ := places_in hf hp
  have hq : withinP r.cols part = some [(c : Int)] := by rw [withinP_eq, if_neg hpart, if_neg (by omega), hcc]
  rw [ranked, if_pos hf, hp, hq] at hk
  have hk : K (relE (made (r.cols ++ [name]) (rkRows ps [(c : Int)] r.rows)) (madeFault (r.cols ++ [name]) r.rows.length)) H := hk
  have hc1 : ((0 : Int) ≤ (c : Int)) = True := eq_true (by omega)
  have hc2 : ((c : Int) < 0) = False := eq_false (by omega)
  have hpt' : (part = []) = False := eq_false hpart
  refine ACalls_of Tryd.func11 rfl in_11 (Nat.le_of_ble_eq_true rfl) ?_
  intro F hF
  simp (dsimp := false) only [go_sem, Nat.reduceAdd, Nat.reduceBEq, Nat.reduceEqDiff, Nat.reduceLT, Nat.reduceLeDiff, Nat.reduceMul, Int.reduceToNat, reduceCtorEq, ↓reduceIte, Tryd.ntmps11, Tryd.results11, ks_11, mu_11, nd_11, ti_ag22, ti_ag23, ti_ag25, ti_ag44, ti_ag49, ti_fe49, ti_fl25_0, ti_fl25_1, ti_hb25, ti_hb26, ti_hb27, ti_hb28, ti_hb29, ti_hb30, ti_hb38, ti_hb39, ti_pl25, ti_pl49, ti_sb23, ti_sl22, ti_sl23, ti_sl44, ti_sl99, ti_sz25, ti_sz49, ti_zr25, ti_zr49, itD, itV, rlV, rowD, rlD, hf, hp, hcc, hc1, hc2, hpt', Option.getD_some, Option.isSome_some, eq_self, not_true_eq_false, not_false_eq_true, Bool.and_true, Bool.true_and, Bool.false_and, Bool.and_false, Bool.false_or, Bool.or_false, Int.reduceEq, Int.reduceLT, Int.reduceLE, in_11] at hF
  subst hF
  repeat' (first | with_reducible (first | refine And.intro ?_ ?_ | intro _ | refine AWp_seq ?_ | refine AWp_block ?_ | (refine hKv _ _ (AWp_nop ?_); clear hKv Kv) | (refine hKA ?_; clear hKA hKB KA KB) | (refine hKB ?_; clear hKA hKB KA KB) | refine AWp_skipN ?_ | refine AWp_exitO (by repeat (first | exact Out.hit | apply Out.thenA | apply Out.out rfl)) ?_) | ((first | with_reducible (first | (refine hKv _ _ ?_; clear hKv Kv) | ((first | refine AWp_regC mu_11 ks_11 ?_ | refine AWp_draw nd_11 mu_11 ks_11 ti_mixed (by kernel_rfl) ?_ | refine AWp_regE mu_11 ks_11 ?_ | refine AWp_drawE nd_11 mu_11 ks_11 ti_mixed (by kernel_rfl) ?_); intro Kv hKv) | refine AWp_retR ?_) | refine relFault_A r hS _ _ ?_ | refine QCall_of (relFault_A r hS _ _ (Two_intro _ _)) ?_ | refine colsAt_A r hS by_ hby _ _ ?_ | refine QCall_of (colsAt_A r hS by_ hby _ _ (Two_intro _ _)) ?_ | refine colAt_A r hS part _ _ ?_ | refine QCall_of (colAt_A r hS part _ _ (Two_intro _ _)) ?_); try simp (dsimp := false) only [go_sem, Nat.reduceAdd, Nat.reduceBEq, Nat.reduceEqDiff, Nat.reduceLT, Nat.reduceLeDiff, Nat.reduceMul, Int.reduceToNat, reduceCtorEq, ↓reduceIte, Tryd.ntmps11, Tryd.results11, ks_11, mu_11, nd_11, ti_ag22, ti_ag23, ti_ag25, ti_ag44, ti_ag49, ti_fe49, ti_fl25_0, ti_fl25_1, ti_hb25, ti_hb26, ti_hb27, ti_hb28, ti_hb29, ti_hb30, ti_hb38, ti_hb39, ti_pl25, ti_pl49, ti_sb23, ti_sl22, ti_sl23, ti_sl44, ti_sl99, ti_sz25, ti_sz49, ti_zr25, ti_zr49, itD, itV, rlV, rowD, rlD, hf, hp, hcc, hc1, hc2, hpt', Option.getD_some, Option.isSome_some, eq_self, not_true_eq_false, not_false_eq_true, Bool.and_true, Bool.true_and, Bool.false_and, Bool.and_false, Bool.false_or, Bool.or_false, Int.reduceEq, Int.reduceLT, Int.reduceLE]) | (refine AWp_condC rfl ?_; intro KA KB hKA hKB; try simp only [onB_true, onB_false, onB_dec, onB_ndec, onB_not, onB_and, onB_or]) | (refine AWp_condA rfl ?_ ?_) | with_reducible (first | refine onB_of ?_ ?_ | rfl) | omega)
  refine AWp_whileH (fun i : Nat => i ≤ r.rows.length)
    (fun i => [(1, .d (.s name)), (4, .rp (rlD r)), (8, .pt H.length 0 0 0), (11, .d (.sl 1 (ps.map intRow))), (13, .d (.i .i64 (c : Int))), (14, .os (H.length + 1) i), (15, .d (.i .i64 i))])
    (fun i => [.row 0 25 2 [[.d (.c (.slice none 0 0)), .d (.c (.slice none 0 0))]], .row i 44 1 (((rkRows ps [(c : Int)] r.rows).take i).map rowC)]) (fun i => r.rows.length - i) 0 (Nat.zero_le _) ?_ ?_ ?_ ?_
  · first | rfl | (simp; done)
  · simp (dsimp := false) only [go_sem, Nat.reduceAdd, Nat.reduceBEq, Nat.reduceEqDiff, Nat.reduceLT, Nat.reduceLeDiff, Nat.reduceMul, Int.reduceToNat, reduceCtorEq, ↓reduceIte, Tryd.ntmps11, Tryd.results11, ks_11, mu_11, nd_11, ti_ag22, ti_ag23, ti_ag25, ti_ag44, ti_ag49, ti_fe49, ti_fl25_0, ti_fl25_1, ti_hb25, ti_hb26, ti_hb27, ti_hb28, ti_hb29, ti_hb30, ti_hb38, ti_hb39, ti_pl25, ti_pl49, ti_sb23, ti_sl22, ti_sl23, ti_sl44, ti_sl99, ti_sz25, ti_sz49, ti_zr25, ti_zr49, itD, itV, rlV, rowD, rlD, hf, hp, hcc, hc1, hc2, hpt', Option.getD_some, Option.isSome_some, eq_self, not_true_eq_false, not_false_eq_true, Bool.and_true, Bool.true_and, Bool.false_and, Bool.and_false, Bool.false_or, Bool.or_false, Int.reduceEq, Int.reduceLT, Int.reduceLE]
    first | done | (simp; done)
  · rintro i _ ob hob
    simp only [List.mem_cons, List.not_mem_nil, or_false] at hob
    rcases hob with rfl | rfl
    · exact bel_nil2 _ _ _
    · exact obBel_rows _ _ _ _ _
  rintro i hi
  have hcl : ∀ (v : Nat) (rows : List (List It)), Closed H (H ++ [.row 0 25 2 [[.d (.c (.slice none 0 0)), .d (.c (.slice none 0 0))]], .row v 44 1 (rows.map rowC)]) := fun v rows => closed_app fun ob hob => by
    simp only [List.mem_cons, List.not_mem_nil, or_false] at hob
    rcases hob with rfl | rfl
    · exact bel_nil2 _ _ _
    · exact obBel_rows _ _ _ _ _
  by_cases hiN : i < r.rows.length
  · obtain ⟨row, hrow⟩ : ∃ row, r.rows[i]? = some row := ⟨r.rows[i], List.getElem?_eq_getElem hiN⟩
    have hin' : ((i : Int) < (r.rows.length : Int)) = True := eq_true (by omega)
    have i0 : ((0 : Int) ≤ (i : Int)) = True := eq_true (by omega)
    have hmem := List.mem_of_getElem? hrow
    have hrl := hS.row row hmem
    have hrc := (hall row hmem).1
    have hpir := hpi row hmem
    have htk := rkRows_take (ps := ps) (q := [(c : Int)]) hrow
    repeat' (first | with_reducible (first | refine And.intro ?_ ?_ | intro _ | refine AWp_seq ?_ | refine AWp_block ?_ | (refine hKv _ _ (AWp_nop ?_); clear hKv Kv) | (refine hKA ?_; clear hKA hKB KA KB) | (refine hKB ?_; clear hKA hKB KA KB) | refine AWp_skipN ?_ | refine AWp_exitO (by repeat (first | exact Out.hit | apply Out.thenA | apply Out.out rfl)) ?_) | (with_reducible (first | (refine hKv _ _ ?_; clear hKv Kv) | ((first | refine AWp_regC mu_11 ks_11 ?_ | refine AWp_draw nd_11 mu_11 ks_11 ti_mixed (by kernel_rfl) ?_ | refine AWp_regE mu_11 ks_11 ?_ | refine AWp_drawE nd_11 mu_11 ks_11 ti_mixed (by kernel_rfl) ?_); intro Kv hKv) | refine AWp_retR ?_); try simp (dsimp := false) only [go_sem, Nat.reduceAdd, Nat.reduceBEq, Nat.reduceEqDiff, Nat.reduceLT, Nat.reduceLeDiff, Nat.reduceMul, Int.reduceToNat, reduceCtorEq, ↓reduceIte, Tryd.ntmps11, Tryd.results11, ks_11, mu_11, nd_11, ti_ag22, ti_ag23, ti_ag25, ti_ag44, ti_ag49, ti_fe49, ti_fl25_0, ti_fl25_1, ti_hb25, ti_hb26, ti_hb27, ti_hb28, ti_hb29, ti_hb30, ti_hb38, ti_hb39, ti_pl25, ti_pl49, ti_sb23, ti_sl22, ti_sl23, ti_sl44, ti_sl99, ti_sz25, ti_sz49, ti_zr25, ti_zr49, itD, itV, rlV, rowD, rlD, hin', i0, hcc, hc1, hc2, hpt', not_true_eq_false, not_false_eq_true, Bool.and_true, Bool.true_and, Bool.false_and, Bool.and_false, Bool.false_or, Bool.or_false, Int.reduceEq, Int.reduceLT, Int.reduceLE]) | (refine AWp_condC rfl ?_; intro KA KB hKA hKB; try simp only [onB_true, onB_false, onB_dec, onB_ndec, onB_not, onB_and, onB_or]) | (refine AWp_condA rfl ?_ ?_) | with_reducible (first | refine onB_of ?_ ?_ | rfl) | omega)
    refine AWp_whileP (fun k : Nat => k ≤ r.rows.length)
      (fun k => [(1, .d (.s name)), (4, .rp (rlD r)), (8, .pt H.length 0 0 0), (11, .d (.sl 1 (ps.map intRow))), (13, .d (.i .i64 (c : Int))), (14, .os (H.length + 1) i), (15, .d (.i .i64 i)), (16, .d (.i .i64 (rkP ps [(c : Int)] r.rows i k))), (17, .d (.i .i64 k))])
      (fun _ => H ++ [.row 0 25 2 [[.d (.c (.slice none 0 0)), .d (.c (.slice none 0 0))]], .row i 44 1 (((rkRows ps [(c : Int)] r.rows).take i).map rowC)]) (fun k => r.rows.length - k) 0 (Nat.zero_le _) rfl ?_ ?_ ?_ ?_
    · simp (dsimp := false) only [go_sem, Nat.reduceAdd, Nat.reduceBEq, Nat.reduceEqDiff, Nat.reduceLT, Nat.reduceLeDiff, Nat.reduceMul, Int.reduceToNat, reduceCtorEq, ↓reduceIte, Tryd.ntmps11, Tryd.results11, ks_11, mu_11, nd_11, ti_ag22, ti_ag23, ti_ag25, ti_ag44, ti_ag49, ti_fe49, ti_fl25_0, ti_fl25_1, ti_hb25, ti_hb26, ti_hb27, ti_hb28, ti_hb29, ti_hb30, ti_hb38, ti_hb39, ti_pl25, ti_pl49, ti_sb23, ti_sl22, ti_sl23, ti_sl44, ti_sl99, ti_sz25, ti_sz49, ti_zr25, ti_zr49, itD, itV, rlV, rowD, rlD, hin', i0, hcc, hc1, hc2, hpt', not_true_eq_false, not_false_eq_true, Bool.and_true, Bool.true_and, Bool.false_and, Bool.and_false, Bool.false_or, Bool.or_false, Int.reduceEq, Int.reduceLT, Int.reduceLE]
      first | done | (simp; done) | (simp [rkP]; done)
    · intro y _
      simp
    · intro y _
      exact hcl _ _
    rintro k hkn
    by_cases hkN : k < r.rows.length
    · obtain ⟨rowk, hrowk⟩ : ∃ row, r.rows[k]? = some row := ⟨r.rows[k], List.getElem?_eq_getElem hkN⟩
      have hkn' : ((k : Int) < (r.rows.length : Int)) = True := eq_true (by omega)
      have k0 : ((0 : Int) ≤ (k : Int)) = True := eq_true (by omega)
      have hmemk := List.mem_of_getElem? hrowk
      have hrck := (hall rowk hmemk).1
      have hpik := hpi rowk hmemk
      have hple := rkP_le ps [(c : Int)] r.rows i k
      have hpsc := rkP_succ ps [(c : Int)] r.rows i k
      rw [befB_ls hrow hrowk] at hpsc
      have hl : ∀ r : List It, (projRow ps r).length = ps.length := fun r => by simp [projRow]
      have c1 := fun H K hk => picks_A row ps (by omega) hpir H K hk
      have c2 := fun H K hk => picks_A rowk ps (by omega) hpik H K hk
      have c3 := fun H K hk => lessItems_A (projRow ps rowk) (projRow ps row) (by rw [hl]; omega) (by rw [hl, hl]) H K hk
      have c4 := fun H K hk => lessItems_A (projRow ps row) (projRow ps rowk) (by rw [hl]; omega) (by rw [hl, hl]) H K hk
      rw [smB_one hrow hrowk] at hpsc
      have hci : c < row.length := by omega
      have hck : c < rowk.length := by omega
      obtain ⟨x, hx⟩ : ∃ x, row[c]? = some x := ⟨row[c], List.getElem?_eq_getElem hci⟩
      obtain ⟨y, hy⟩ : ∃ y, rowk[c]? = some y := ⟨rowk[c], List.getElem?_eq_getElem hck⟩
      rw [rg_get hx, rg_get hy] at hpsc
      have d1 : ((c : Int) < (row.length : Int)) = True := eq_true (by omega)
      have d2 : ((c : Int) < (rowk.length : Int)) = True := eq_true (by omega)
      have hne := rk_it_ne y x
      by_cases hxy : x = y
      · have hxx : decide (x ≠ y) = false := decide_eq_false fun h => h hxy
        repeat' (first | with_reducible (first | refine And.intro ?_ ?_ | intro _ | refine AWp_seq ?_ | refine AWp_block ?_ | (refine hKv _ _ (AWp_nop ?_); clear hKv Kv) | (refine hKA ?_; clear hKA hKB KA KB) | (refine hKB ?_; clear hKA hKB KA KB) | refine AWp_skipN ?_ | refine AWp_exitO (by repeat (first | exact Out.hit | apply Out.thenA | apply Out.out rfl)) ?_) | ((first | with_reducible (first | (refine hKv _ _ ?_; clear hKv Kv) | ((first | refine AWp_regC mu_11 ks_11 ?_ | refine AWp_draw nd_11 mu_11 ks_11 ti_mixed (by kernel_rfl) ?_ | refine AWp_regE mu_11 ks_11 ?_ | refine AWp_drawE nd_11 mu_11 ks_11 ti_mixed (by kernel_rfl) ?_); intro Kv hKv) | refine AWp_retR ?_) | refine c1 _ _ ?_ | refine QCall_of (c1 _ _ (Two_intro _ _)) ?_ | refine c2 _ _ ?_ | refine QCall_of (c2 _ _ (Two_intro _ _)) ?_); try simp (dsimp := false) only [go_sem, Nat.reduceAdd, Nat.reduceBEq, Nat.reduceEqDiff, Nat.reduceLT, Nat.reduceLeDiff, Nat.reduceMul, Int.reduceToNat, reduceCtorEq, ↓reduceIte, Tryd.ntmps11, Tryd.results11, ks_11, mu_11, nd_11, ti_ag22, ti_ag23, ti_ag25, ti_ag44, ti_ag49, ti_fe49, ti_fl25_0, ti_fl25_1, ti_hb25, ti_hb26, ti_hb27, ti_hb28, ti_hb29, ti_hb30, ti_hb38, ti_hb39, ti_pl25, ti_pl49, ti_sb23, ti_sl22, ti_sl23, ti_sl44, ti_sl99, ti_sz25, ti_sz49, ti_zr25, ti_zr49, itD, itV, rlV, rowD, rlD, hin', i0, hkn', k0, hrow, hrowk, hcc, hc1, hc2, hpt', hx, hy, d1, d2, hne, hxx, not_true_eq_false, not_false_eq_true, Bool.and_true, Bool.true_and, Bool.false_and, Bool.and_false, Bool.false_or, Bool.or_false, Int.reduceEq, Int.reduceLT, Int.reduceLE]) | (refine AWp_condC rfl ?_; intro KA KB hKA hKB; try simp only [onB_true, onB_false, onB_dec, onB_ndec, onB_not, onB_and, onB_or]) | (refine AWp_condA rfl ?_ ?_) | with_reducible (first | refine onB_of ?_ ?_ | rfl) | omega)
        cases hla : lsI (projRow ps rowk) (projRow ps row) with
        | true =>
          have hp2 : rkP ps [(c : Int)] r.rows i (k + 1) = rkP ps [(c : Int)] r.rows i k + 1 := by rw [hpsc]; simp [hla, hxy]
          repeat' (first | with_reducible (first | refine And.intro ?_ ?_ | intro _ | refine AWp_seq ?_ | refine AWp_block ?_ | (refine hKv _ _ (AWp_nop ?_); clear hKv Kv) | (refine hKA ?_; clear hKA hKB KA KB) | (refine hKB ?_; clear hKA hKB KA KB) | refine AWp_skipN ?_ | refine AWp_exitO (by repeat (first | exact Out.hit | apply Out.thenA | apply Out.out rfl)) ?_) | ((first | with_reducible (first | (refine hKv _ _ ?_; clear hKv Kv) | ((first | refine AWp_regC mu_11 ks_11 ?_ | refine AWp_draw nd_11 mu_11 ks_11 ti_mixed (by kernel_rfl) ?_ | refine AWp_regE mu_11 ks_11 ?_ | refine AWp_drawE nd_11 mu_11 ks_11 ti_mixed (by kernel_rfl) ?_); intro Kv hKv) | refine AWp_retR ?_) | refine c3 _ _ ?_ | refine QCall_of (c3 _ _ (Two_intro _ _)) ?_ | refine c4 _ _ ?_ | refine QCall_of (c4 _ _ (Two_intro _ _)) ?_); try simp (dsimp := false) only [go_sem, Nat.reduceAdd, Nat.reduceBEq, Nat.reduceEqDiff, Nat.reduceLT, Nat.reduceLeDiff, Nat.reduceMul, Int.reduceToNat, reduceCtorEq, ↓reduceIte, Tryd.ntmps11, Tryd.results11, ks_11, mu_11, nd_11, ti_ag22, ti_ag23, ti_ag25, ti_ag44, ti_ag49, ti_fe49, ti_fl25_0, ti_fl25_1, ti_hb25, ti_hb26, ti_hb27, ti_hb28, ti_hb29, ti_hb30, ti_hb38, ti_hb39, ti_pl25, ti_pl49, ti_sb23, ti_sl22, ti_sl23, ti_sl44, ti_sl99, ti_sz25, ti_sz49, ti_zr25, ti_zr49, itD, itV, rlV, rowD, rlD, hin', i0, hkn', k0, hrow, hrowk, hcc, hc1, hc2, hpt', hx, hy, d1, d2, hne, hxx, hla, not_true_eq_false, not_false_eq_true, Bool.and_true, Bool.true_and, Bool.false_and, Bool.and_false, Bool.false_or, Bool.or_false, Int.reduceEq, Int.reduceLT, Int.reduceLE]) | (refine AWp_condC rfl ?_; intro KA KB hKA hKB; try simp only [onB_true, onB_false, onB_dec, onB_ndec, onB_not, onB_and, onB_or]) | (refine AWp_condA rfl ?_ ?_) | with_reducible (first | refine onB_of ?_ ?_ | rfl) | omega)
          all_goals first
            | omega
            | exact hcl _ _
            | (refine ⟨k + 1, by omega, by omega, ?_⟩; rw [hp2]; (repeat' (refine And.intro ?_ ?_)) <;> first | rfl | omega | (simp; done) | (simp; omega))
        | false =>
          by_cases ki : k < i
          · have ki' : ((k : Int) < (i : Int)) = True := eq_true (by omega)
            cases hlb : lsI (projRow ps row) (projRow ps rowk) with
            | false =>
              have hp2 : rkP ps [(c : Int)] r.rows i (k + 1) = rkP ps [(c : Int)] r.rows i k + 1 := by rw [hpsc]; simp [hla, hlb, ki, hxy]
              repeat' (first | with_reducible (first | refine And.intro ?_ ?_ | intro _ | refine AWp_seq ?_ | refine AWp_block ?_ | (refine hKv _ _ (AWp_nop ?_); clear hKv Kv) | (refine hKA ?_; clear hKA hKB KA KB) | (refine hKB ?_; clear hKA hKB KA KB) | refine AWp_skipN ?_ | refine AWp_exitO (by repeat (first | exact Out.hit | apply Out.thenA | apply Out.out rfl)) ?_) | ((first | with_reducible (first | (refine hKv _ _ ?_; clear hKv Kv) | ((first | refine AWp_regC mu_11 ks_11 ?_ | refine AWp_draw nd_11 mu_11 ks_11 ti_mixed (by kernel_rfl) ?_ | refine AWp_regE mu_11 ks_11 ?_ | refine AWp_drawE nd_11 mu_11 ks_11 ti_mixed (by kernel_rfl) ?_); intro Kv hKv) | refine AWp_retR ?_) | refine c3 _ _ ?_ | refine QCall_of (c3 _ _ (Two_intro _ _)) ?_ | refine c4 _ _ ?_ | refine QCall_of (c4 _ _ (Two_intro _ _)) ?_); try simp (dsimp := false) only [go_sem, Nat.reduceAdd, Nat.reduceBEq, Nat.reduceEqDiff, Nat.reduceLT, Nat.reduceLeDiff, Nat.reduceMul, Int.reduceToNat, reduceCtorEq, ↓reduceIte, Tryd.ntmps11, Tryd.results11, ks_11, mu_11, nd_11, ti_ag22, ti_ag23, ti_ag25, ti_ag44, ti_ag49, ti_fe49, ti_fl25_0, ti_fl25_1, ti_hb25, ti_hb26, ti_hb27, ti_hb28, ti_hb29, ti_hb30, ti_hb38, ti_hb39, ti_pl25, ti_pl49, ti_sb23, ti_sl22, ti_sl23, ti_sl44, ti_sl99, ti_sz25, ti_sz49, ti_zr25, ti_zr49, itD, itV, rlV, rowD, rlD, hin', i0, hkn', k0, hrow, hrowk, hcc, hc1, hc2, hpt', hx, hy, d1, d2, hne, hxx, hla, hlb, ki', not_true_eq_false, not_false_eq_true, Bool.and_true, Bool.true_and, Bool.false_and, Bool.and_false, Bool.false_or, Bool.or_false, Int.reduceEq, Int.reduceLT, Int.reduceLE]) | (refine AWp_condC rfl ?_; intro KA KB hKA hKB; try simp only [onB_true, onB_false, onB_dec, onB_ndec, onB_not, onB_and, onB_or]) | (refine AWp_condA rfl ?_ ?_) | with_reducible (first | refine onB_of ?_ ?_ | rfl) | omega)
              all_goals first
                | omega
                | exact hcl _ _
                | (refine ⟨k + 1, by omega, by omega, ?_⟩; rw [hp2]; (repeat' (refine And.intro ?_ ?_)) <;> first | rfl | omega | (simp; done) | (simp; omega))
            | true =>
              have hp2 : rkP ps [(c : Int)] r.rows i (k + 1) = rkP ps [(c : Int)] r.rows i k + 0 := by rw [hpsc]; simp [hla, hlb, ki, hxy]
              repeat' (first | with_reducible (first | refine And.intro ?_ ?_ | intro _ | refine AWp_seq ?_ | refine AWp_block ?_ | (refine hKv _ _ (AWp_nop ?_); clear hKv Kv) | (refine hKA ?_; clear hKA hKB KA KB) | (refine hKB ?_; clear hKA hKB KA KB) | refine AWp_skipN ?_ | refine AWp_exitO (by repeat (first | exact Out.hit | apply Out.thenA | apply Out.out rfl)) ?_) | ((first | with_reducible (first | (refine hKv _ _ ?_; clear hKv Kv) | ((first | refine AWp_regC mu_11 ks_11 ?_ | refine AWp_draw nd_11 mu_11 ks_11 ti_mixed (by kernel_rfl) ?_ | refine AWp_regE mu_11 ks_11 ?_ | refine AWp_drawE nd_11 mu_11 ks_11 ti_mixed (by kernel_rfl) ?_); intro Kv hKv) | refine AWp_retR ?_) | refine c3 _ _ ?_ | refine QCall_of (c3 _ _ (Two_intro _ _)) ?_ | refine c4 _ _ ?_ | refine QCall_of (c4 _ _ (Two_intro _ _)) ?_); try simp (dsimp := false) only [go_sem, Nat.reduceAdd, Nat.reduceBEq, Nat.reduceEqDiff, Nat.reduceLT, Nat.reduceLeDiff, Nat.reduceMul, Int.reduceToNat, reduceCtorEq, ↓reduceIte, Tryd.ntmps11, Tryd.results11, ks_11, mu_11, nd_11, ti_ag22, ti_ag23, ti_ag25, ti_ag44, ti_ag49, ti_fe49, ti_fl25_0, ti_fl25_1, ti_hb25, ti_hb26, ti_hb27, ti_hb28, ti_hb29, ti_hb30, ti_hb38, ti_hb39, ti_pl25, ti_pl49, ti_sb23, ti_sl22, ti_sl23, ti_sl44, ti_sl99, ti_sz25, ti_sz49, ti_zr25, ti_zr49, itD, itV, rlV, rowD, rlD, hin', i0, hkn', k0, hrow, hrowk, hcc, hc1, hc2, hpt', hx, hy, d1, d2, hne, hxx, hla, hlb, ki', not_true_eq_false, not_false_eq_true, Bool.and_true, Bool.true_and, Bool.false_and, Bool.and_false, Bool.false_or, Bool.or_false, Int.reduceEq, Int.reduceLT, Int.reduceLE]) | (refine AWp_condC rfl ?_; intro KA KB hKA hKB; try simp only [onB_true, onB_false, onB_dec, onB_ndec, onB_not, onB_and, onB_or]) | (refine AWp_condA rfl ?_ ?_) | with_reducible (first | refine onB_of ?_ ?_ | rfl) | omega)
              all_goals first
                | omega
                | exact hcl _ _
                | (refine ⟨k + 1, by omega, by omega, ?_⟩; rw [hp2]; (repeat' (refine And.intro ?_ ?_)) <;> first | rfl | omega | (simp; done) | (simp; omega))
          · have ki' : ((k : Int) < (i : Int)) = False := eq_false (by omega)
            have hp2 : rkP ps [(c : Int)] r.rows i (k + 1) = rkP ps [(c : Int)] r.rows i k + 0 := by rw [hpsc]; simp [hla, ki, hxy]
            repeat' (first | with_reducible (first | refine And.intro ?_ ?_ | intro _ | refine AWp_seq ?_ | refine AWp_block ?_ | (refine hKv _ _ (AWp_nop ?_); clear hKv Kv) | (refine hKA ?_; clear hKA hKB KA KB) | (refine hKB ?_; clear hKA hKB KA KB) | refine AWp_skipN ?_ | refine AWp_exitO (by repeat (first | exact Out.hit | apply Out.thenA | apply Out.out rfl)) ?_) | ((first | with_reducible (first | (refine hKv _ _ ?_; clear hKv Kv) | ((first | refine AWp_regC mu_11 ks_11 ?_ | refine AWp_draw nd_11 mu_11 ks_11 ti_mixed (by kernel_rfl) ?_ | refine AWp_regE mu_11 ks_11 ?_ | refine AWp_drawE nd_11 mu_11 ks_11 ti_mixed (by kernel_rfl) ?_); intro Kv hKv) | refine AWp_retR ?_) | refine c3 _ _ ?_ | refine QCall_of (c3 _ _ (Two_intro _ _)) ?_ | refine c4 _ _ ?_ | refine QCall_of (c4 _ _ (Two_intro _ _)) ?_); try simp (dsimp := false) only [go_sem, Nat.reduceAdd, Nat.reduceBEq, Nat.reduceEqDiff, Nat.reduceLT, Nat.reduceLeDiff, Nat.reduceMul, Int.reduceToNat, reduceCtorEq, ↓reduceIte, Tryd.ntmps11, Tryd.results11, ks_11, mu_11, nd_11, ti_ag22, ti_ag23, ti_ag25, ti_ag44, ti_ag49, ti_fe49, ti_fl25_0, ti_fl25_1, ti_hb25, ti_hb26, ti_hb27, ti_hb28, ti_hb29, ti_hb30, ti_hb38, ti_hb39, ti_pl25, ti_pl49, ti_sb23, ti_sl22, ti_sl23, ti_sl44, ti_sl99, ti_sz25, ti_sz49, ti_zr25, ti_zr49, itD, itV, rlV, rowD, rlD, hin', i0, hkn', k0, hrow, hrowk, hcc, hc1, hc2, hpt', hx, hy, d1, d2, hne, hxx, hla, ki', not_true_eq_false, not_false_eq_true, Bool.and_true, Bool.true_and, Bool.false_and, Bool.and_false, Bool.false_or, Bool.or_false, Int.reduceEq, Int.reduceLT, Int.reduceLE]) | (refine AWp_condC rfl ?_; intro KA KB hKA hKB; try simp only [onB_true, onB_false, onB_dec, onB_ndec, onB_not, onB_and, onB_or]) | (refine AWp_condA rfl ?_ ?_) | with_reducible (first | refine onB_of ?_ ?_ | rfl) | omega)
            all_goals first
              | omega
              | exact hcl _ _
              | (refine ⟨k + 1, by omega, by omega, ?_⟩; rw [hp2]; (repeat' (refine And.intro ?_ ?_)) <;> first | rfl | omega | (simp; done) | (simp; omega))
      · have hxx : decide (x ≠ y) = true := decide_eq_true hxy
        have hp2 : rkP ps [(c : Int)] r.rows i (k + 1) = rkP ps [(c : Int)] r.rows i k := by rw [hpsc]; simp [hxy]
        repeat' (first | with_reducible (first | refine And.intro ?_ ?_ | intro _ | refine AWp_seq ?_ | refine AWp_block ?_ | (refine hKv _ _ (AWp_nop ?_); clear hKv Kv) | (refine hKA ?_; clear hKA hKB KA KB) | (refine hKB ?_; clear hKA hKB KA KB) | refine AWp_skipN ?_ | refine AWp_exitO (by repeat (first | exact Out.hit | apply Out.thenA | apply Out.out rfl)) ?_) | (with_reducible (first | (refine hKv _ _ ?_; clear hKv Kv) | ((first | refine AWp_regC mu_11 ks_11 ?_ | refine AWp_draw nd_11 mu_11 ks_11 ti_mixed (by kernel_rfl) ?_ | refine AWp_regE mu_11 ks_11 ?_ | refine AWp_drawE nd_11 mu_11 ks_11 ti_mixed (by kernel_rfl) ?_); intro Kv hKv) | refine AWp_retR ?_); try simp (dsimp := false) only [go_sem, Nat.reduceAdd, Nat.reduceBEq, Nat.reduceEqDiff, Nat.reduceLT, Nat.reduceLeDiff, Nat.reduceMul, Int.reduceToNat, reduceCtorEq, ↓reduceIte, Tryd.ntmps11, Tryd.results11, ks_11, mu_11, nd_11, ti_ag22, ti_ag23, ti_ag25, ti_ag44, ti_ag49, ti_fe49, ti_fl25_0, ti_fl25_1, ti_hb25, ti_hb26, ti_hb27, ti_hb28, ti_hb29, ti_hb30, ti_hb38, ti_hb39, ti_pl25, ti_pl49, ti_sb23, ti_sl22, ti_sl23, ti_sl44, ti_sl99, ti_sz25, ti_sz49, ti_zr25, ti_zr49, itD, itV, rlV, rowD, rlD, hin', i0, hkn', k0, hrow, hrowk, hcc, hc1, hc2, hpt', hx, hy, d1, d2, hne, hxx, not_true_eq_false, not_false_eq_true, Bool.and_true, Bool.true_and, Bool.false_and, Bool.and_false, Bool.false_or, Bool.or_false, Int.reduceEq, Int.reduceLT, Int.reduceLE]) | (refine AWp_condC rfl ?_; intro KA KB hKA hKB; try simp only [onB_true, onB_false, onB_dec, onB_ndec, onB_not, onB_and, onB_or]) | (refine AWp_condA rfl ?_ ?_) | with_reducible (first | refine onB_of ?_ ?_ | rfl) | omega)
        all_goals first
          | omega
          | exact hcl _ _
          | (refine ⟨k + 1, by omega, by omega, ?_⟩; rw [hp2]; (repeat' (refine And.intro ?_ ?_)) <;> first | rfl | omega | (simp; done) | (simp; omega))
    obtain rfl : k = r.rows.length := by omega
    have hkn' : ((r.rows.length : Int) < (r.rows.length : Int)) = False := eq_false (by omega)
    have hrn := rkN_le ps [(c : Int)] r.rows i
    have htl : ((rkRows ps [(c : Int)] r.rows).take i).length = i := by rw [List.length_take, rkRows_len]; omega
    rw [rkP_end]
    repeat' (first | with_reducible (first | refine And.intro ?_ ?_ | intro _ | refine AWp_seq ?_ | refine AWp_block ?_ | (refine hKv _ _ (AWp_nop ?_); clear hKv Kv) | (refine hKA ?_; clear hKA hKB KA KB) | (refine hKB ?_; clear hKA hKB KA KB) | refine AWp_skipN ?_ | refine AWp_exitO (by repeat (first | exact Out.hit | apply Out.thenA | apply Out.out rfl)) ?_) | ((first | with_reducible (first | (refine hKv _ _ ?_; clear hKv Kv) | ((first | refine AWp_regC mu_11 ks_11 ?_ | refine AWp_draw nd_11 mu_11 ks_11 ti_mixed (by kernel_rfl) ?_ | refine AWp_regE mu_11 ks_11 ?_ | refine AWp_drawE nd_11 mu_11 ks_11 ti_mixed (by kernel_rfl) ?_); intro Kv hKv) | refine AWp_retR ?_) | refine items_A [row, [rkIt (rkN ps [(c : Int)] r.rows i)]] (by simp) (by simp; omega) (by simp; omega) _ _ ?_ | refine QCall_of (items_A [row, [rkIt (rkN ps [(c : Int)] r.rows i)]] (by simp) (by simp; omega) (by simp; omega) _ _ (Two_intro _ _)) ?_); try simp (dsimp := false) only [go_sem, Nat.reduceAdd, Nat.reduceBEq, Nat.reduceEqDiff, Nat.reduceLT, Nat.reduceLeDiff, Nat.reduceMul, Int.reduceToNat, reduceCtorEq, ↓reduceIte, Tryd.ntmps11, Tryd.results11, ks_11, mu_11, nd_11, ti_ag22, ti_ag23, ti_ag25, ti_ag44, ti_ag49, ti_fe49, ti_fl25_0, ti_fl25_1, ti_hb25, ti_hb26, ti_hb27, ti_hb28, ti_hb29, ti_hb30, ti_hb38, ti_hb39, ti_pl25, ti_pl49, ti_sb23, ti_sl22, ti_sl23, ti_sl44, ti_sl99, ti_sz25, ti_sz49, ti_zr25, ti_zr49, itD, itV, rlV, rowD, rlD, hkn', hin', i0, hrow, not_true_eq_false, not_false_eq_true, Bool.and_true, Bool.true_and, Bool.false_and, Bool.and_false, Bool.false_or, Bool.or_false, Int.reduceEq, Int.reduceLT, Int.reduceLE]) | (refine AWp_condC rfl ?_; intro KA KB hKA hKB; try simp only [onB_true, onB_false, onB_dec, onB_ndec, onB_not, onB_and, onB_or]) | (refine AWp_condA rfl ?_ ?_) | with_reducible (first | refine onB_of ?_ ?_ | rfl) | omega)
    all_goals first
      | omega
      | exact hcl _ _
      | skip
    refine ⟨i + 1, by omega, by omega, ?_, ?_⟩
    · rw [htk, List.map_append (f := rowC)]
      first | done | rfl
    · (repeat' (refine And.intro ?_ ?_)) <;> first | rfl | omega | (rw [htl]; done) | (rw [htl]; rfl) | (simp; done) | (simp; omega)
  obtain rfl : i = r.rows.length := by omega
  have hin' : ((r.rows.length : Int) < (r.rows.length : Int)) = False := eq_false (by omega)
  rw [List.take_of_length_le (by rw [rkRows_len]; exact Nat.le_refl _)]
  have hsl := rkRows_len ps [(c : Int)] r.rows
  have hcs : ∀ s, s ∈ r.cols ++ [name] → s.length ≤ 1048576 := fun s hs => by
    rcases List.mem_append.1 hs with hs | hs
    · exact hS.col s hs
    · rw [List.mem_singleton.1 hs]; exact hname
  have hc8 : r.cols.length ≤ 8 := by
    unfold colsFault at hcl0
    split at hcl0
    · assumption
    · cases hcl0
  have hcl8 : (r.cols ++ [name]).length ≤ 1048576 := by
    rw [List.length_append, List.length_cons, List.length_nil]
    omega
  have hfl : [r.cols, [name]].flatten = r.cols ++ [name] := by simp
  rw [← hsl] at hk
  repeat' (first | with_reducible (first | refine And.intro ?_ ?_ | intro _ | refine AWp_seq ?_ | refine AWp_block ?_ | (refine hKv _ _ (AWp_nop ?_); clear hKv Kv) | (refine hKA ?_; clear hKA hKB KA KB) | (refine hKB ?_; clear hKA hKB KA KB) | refine AWp_skipN ?_ | refine AWp_exitO (by repeat (first | exact Out.hit | apply Out.thenA | apply Out.out rfl)) ?_) | ((first | with_reducible (first | (refine hKv _ _ ?_; clear hKv Kv) | ((first | refine AWp_regC mu_11 ks_11 ?_ | refine AWp_draw nd_11 mu_11 ks_11 ti_mixed (by kernel_rfl) ?_ | refine AWp_regE mu_11 ks_11 ?_ | refine AWp_drawE nd_11 mu_11 ks_11 ti_mixed (by kernel_rfl) ?_); intro Kv hKv) | refine AWp_retR ?_) | refine texts_A [r.cols, [name]] (by simp) (by simp; omega) (by simp; omega) _ _ ?_ | refine QCall_of (texts_A [r.cols, [name]] (by simp) (by simp; omega) (by simp; omega) _ _ (Two_intro _ _)) ?_ | refine relOfO_A (r.cols ++ [name]) _ _ _ _ hcl8 hcs (by rw [List.length_map]; omega) _ _ ((get_appk _ _ 1).trans rfl) ?_ | refine QCall_of (relOfO_A (r.cols ++ [name]) _ _ _ _ hcl8 hcs (by rw [List.length_map]; omega) _ _ ((get_appk _ _ 1).trans rfl) (Two_intro _ _)) ?_); try simp (dsimp := false) only [go_sem, Nat.reduceAdd, Nat.reduceBEq, Nat.reduceEqDiff, Nat.reduceLT, Nat.reduceLeDiff, Nat.reduceMul, Int.reduceToNat, reduceCtorEq, ↓reduceIte, Tryd.ntmps11, Tryd.results11, ks_11, mu_11, nd_11, ti_ag22, ti_ag23, ti_ag25, ti_ag44, ti_ag49, ti_fe49, ti_fl25_0, ti_fl25_1, ti_hb25, ti_hb26, ti_hb27, ti_hb28, ti_hb29, ti_hb30, ti_hb38, ti_hb39, ti_pl25, ti_pl49, ti_sb23, ti_sl22, ti_sl23, ti_sl44, ti_sl99, ti_sz25, ti_sz49, ti_zr25, ti_zr49, itD, itV, rlV, rowD, rlD, finQ, hin', hfl, not_true_eq_false, not_false_eq_true, Bool.and_true, Bool.true_and, Bool.false_and, Bool.and_false, Bool.false_or, Bool.or_false, Int.reduceEq, Int.reduceLT, Int.reduceLE]) | (refine AWp_condC rfl ?_; intro KA KB hKA hKB; try simp only [onB_true, onB_false, onB_dec, onB_ndec, onB_not, onB_and, onB_or]) | (refine AWp_condA rfl ?_ ?_) | with_reducible (first | refine onB_of ?_ ?_ | rfl) | omega)
  all_goals first
    | omega
    | exact fin_ret hk (by assumption) (by omega) (get_appk _ _ 1)
    | exact fin_bad hk rfl (by assumption)
end Go.Proofs.YtpgdflhcmijaiaaDoor
