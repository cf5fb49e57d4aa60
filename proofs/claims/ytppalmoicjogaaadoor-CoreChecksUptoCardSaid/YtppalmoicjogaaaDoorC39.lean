/- The core: the reference's check of an expression of kind 10. No condition but that the tables of package unicode/utf8 and of the core's functions are there. -/
import Derived.Test.YtppalmoicjogaaaDoorC29
set_option linter.all false
set_option linter.unusedSimpArgs false
set_option linter.unusedVariables false
namespace Go.Proofs.YtppalmoicjogaaaDoor
open Go Go.Proofs.YtppalmoicjogaaaDoor.Ab
variable [Glo] [U8] [CAr]
set_option maxHeartbeats 4000000
set_option maxRecDepth 20000
theorem exprFault10_A (h : Xh) (l : List Ex) (hkind : h.k = 10) (ok : XhOk h) (hl : l.length ≤ 1048576) (hcount : coreMany h.k < 0 ∨ coreMany h.k = (l.length : Int)) (sc : List (List UInt8)) (hsc : sc.length + 2 ≤ 1000000)
    (ih : ∀ x, x ∈ l → ∀ (sc' : List (List UInt8)), sc'.length ≤ sc.length + 2 → ∀ (H : Heap) (K : V → Heap → Prop), K (.d (.i .i64 (efQ x sc'))) H → ACalls Tryd.prog 25 [exV x.h x.args, .d (.sl 1 (sc'.map strRow))] H K)
    (H : Heap) (K : V → Heap → Prop) (hk : K (.d (.i .i64 (efQ (.mk h l) sc))) H) : ACalls Tryd.prog 25 [exV h l, .d (.sl 1 (sc.map strRow))] H K := by
  have o1 := ok.it
  have o2 := ok.nm
  have o3 := ok.at_
  have o4 := ok.tn
  have hI := in_A 10 1 11
  have hM := argCount_A 10
  have cm : coreMany 10 = 1 := rfl
  rw [efQ_eq (by omega) hcount] at hk
  rw [hkind, cm] at hcount
  rw [exV_k hkind]
  have m2 : ((1 : Int) = (l.length : Int)) = True := eq_true (by omega)
  rw [decide_eq_true (by decide)] at hI
  rw [cm] at hM
  refine ACalls_of Tryd.func25 rfl in_25 (Nat.le_of_ble_eq_true rfl) ?_
  intro F hF
  simp (dsimp := false) only [go_sem, Nat.reduceAdd, Nat.reduceBEq, Nat.reduceEqDiff, Nat.reduceLT, Nat.reduceLeDiff, Nat.reduceMul, Int.reduceToNat, reduceCtorEq, ↓reduceIte, Tryd.ntmps25, Tryd.results25, ks_25, mu_25, nd_25, ti_ag3, ti_ag9, ti_ag31, ti_ag33, ti_ag34, ti_ag36, ti_fl31_0, ti_fl36_0, ti_fl36_1, ti_fl36_2, ti_fl36_3, ti_fl36_4, ti_fl36_5, ti_fl36_6, ti_fl36_7, ti_hb17, ti_hb25, ti_hb41, ti_hb43, ti_hb44, ti_hb47, ti_hb48, ti_hb49, ti_hb50, ti_hb51, ti_sb34, ti_sl34, ti_sl48, ti_sz31, ti_sz33, ti_sz36, not_true_eq_false, not_false_eq_true, Bool.true_and, Bool.false_and, Int.reduceEq, Int.reduceLT, Int.reduceLE, Int.reduceNeg, List.map_cons, List.map_nil, m2, in_25] at hF
  subst hF
  repeat' (first | (refine halt_block 0 ?_) | with_reducible (first | refine And.intro ?_ ?_ | intro _ | refine AWp_seq ?_ | refine AWp_block ?_ | (refine hKv _ _ (AWp_nop ?_); clear hKv Kv) | (refine hKA ?_; clear hKA hKB KA KB) | (refine hKB ?_; clear hKA hKB KA KB) | refine AWp_skipN ?_ | refine AWp_exitO (by repeat (first | exact Out.hit | apply Out.thenA | apply Out.out rfl)) ?_) | ((first | with_reducible (first | (refine hKv _ _ ?_; clear hKv Kv) | ((first | refine AWp_regC mu_25 ks_25 ?_ | refine AWp_draw nd_25 mu_25 ks_25 ti_mixed (by kernel_rfl) ?_ | refine AWp_regE mu_25 ks_25 ?_ | refine AWp_drawE nd_25 mu_25 ks_25 ti_mixed (by kernel_rfl) ?_); intro Kv hKv) | refine AWp_retR ?_) | refine hI _ _ ?_ | refine QCall_of (hI _ _ (Two_intro _ _)) ?_ | refine hM _ _ ?_ | refine QCall_of (hM _ _ (Two_intro _ _)) ?_); try simp (dsimp := false) only [go_sem, Nat.reduceAdd, Nat.reduceBEq, Nat.reduceEqDiff, Nat.reduceLT, Nat.reduceLeDiff, Nat.reduceMul, Int.reduceToNat, reduceCtorEq, ↓reduceIte, Tryd.ntmps25, Tryd.results25, ks_25, mu_25, nd_25, ti_ag3, ti_ag9, ti_ag31, ti_ag33, ti_ag34, ti_ag36, ti_fl31_0, ti_fl36_0, ti_fl36_1, ti_fl36_2, ti_fl36_3, ti_fl36_4, ti_fl36_5, ti_fl36_6, ti_fl36_7, ti_hb17, ti_hb25, ti_hb41, ti_hb43, ti_hb44, ti_hb47, ti_hb48, ti_hb49, ti_hb50, ti_hb51, ti_sb34, ti_sl34, ti_sl48, ti_sz31, ti_sz33, ti_sz36, not_true_eq_false, not_false_eq_true, Bool.true_and, Bool.false_and, Int.reduceEq, Int.reduceLT, Int.reduceLE, Int.reduceNeg, List.map_cons, List.map_nil, m2]) | (refine AWp_condC rfl ?_; intro KA KB hKA hKB; try simp only [onB_true, onB_false, onB_dec, onB_ndec, onB_not, onB_and, onB_or]) | (refine AWp_condA rfl ?_ ?_) | with_reducible (first | refine onB_of ?_ ?_ | rfl) | omega)
  refine AWp_cutG (ι := Unit) (fun _ => True) (fun _ => [(1, .d (.sl 1 (sc.map strRow))), (2, .rp [.i .i64 10, .i .i64 h.it.k, .i .i64 h.it.n, .s h.it.s, .s h.nm, .s h.at_, .i .i64 h.n, .i .i64 h.ax, .i .i64 h.tk, .s h.tn, .sl 11 (l.map exD)]), (5, .d (.b false)), (6, .d (.i .i64 (exOwn h l.length sc)))]) (fun _ => H) (fun _ _ => Nat.le_refl _) (fun _ _ => closed_self H) ?loop ?switch
  case switch =>
    have hm := makeFault_A h.n h.nm (by omega)
    have hE : exOwn h l.length sc = madeQ h.n h.nm := by rw [exOwn, if_neg (by omega), if_neg (by omega), if_neg (by omega), if_neg (by omega), if_neg (by omega), if_pos hkind]
    repeat' (first | with_reducible (first | refine And.intro ?_ ?_ | intro _ | refine AWp_seq ?_ | refine AWp_block ?_ | (refine hKv _ _ (AWp_nop ?_); clear hKv Kv) | (refine hKA ?_; clear hKA hKB KA KB) | (refine hKB ?_; clear hKA hKB KA KB) | refine AWp_skipN ?_ | refine AWp_exitO (by repeat (first | exact Out.hit | apply Out.thenA | apply Out.out rfl)) ?_) | ((first | with_reducible (first | (refine hKv _ _ ?_; clear hKv Kv) | ((first | refine AWp_regC mu_25 ks_25 ?_ | refine AWp_draw nd_25 mu_25 ks_25 ti_mixed (by kernel_rfl) ?_ | refine AWp_regE mu_25 ks_25 ?_ | refine AWp_drawE nd_25 mu_25 ks_25 ti_mixed (by kernel_rfl) ?_); intro Kv hKv) | refine AWp_retR ?_) | refine hm _ _ ?_ | refine QCall_of (hm _ _ (Two_intro _ _)) ?_); try simp (dsimp := false) only [go_sem, Nat.reduceAdd, Nat.reduceBEq, Nat.reduceEqDiff, Nat.reduceLT, Nat.reduceLeDiff, Nat.reduceMul, Int.reduceToNat, reduceCtorEq, ↓reduceIte, Tryd.ntmps25, Tryd.results25, ks_25, mu_25, nd_25, ti_ag3, ti_ag9, ti_ag31, ti_ag33, ti_ag34, ti_ag36, ti_fl31_0, ti_fl36_0, ti_fl36_1, ti_fl36_2, ti_fl36_3, ti_fl36_4, ti_fl36_5, ti_fl36_6, ti_fl36_7, ti_hb17, ti_hb25, ti_hb41, ti_hb43, ti_hb44, ti_hb47, ti_hb48, ti_hb49, ti_hb50, ti_hb51, ti_sb34, ti_sl34, ti_sl48, ti_sz31, ti_sz33, ti_sz36, not_true_eq_false, not_false_eq_true, Bool.true_and, Bool.false_and, Int.reduceEq, Int.reduceLT, Int.reduceLE, Int.reduceNeg, List.map_cons, List.map_nil, hE, itD, itV, strRow, tsV]) | (refine AWp_condC rfl ?_; intro KA KB hKA hKB; try simp only [onB_true, onB_false, onB_dec, onB_ndec, onB_not, onB_and, onB_or]) | (refine AWp_condA rfl ?_ ?_) | with_reducible (first | refine onB_of ?_ ?_ | rfl) | omega)
    all_goals first
      | omega
      | exact ⟨(), [], (List.append_nil H).symm⟩
      | (refine ⟨(), [], trivial, (List.append_nil H).symm, ?_⟩
         simp (dsimp := false) only [go_sem, Nat.reduceAdd, Nat.reduceBEq, Nat.reduceEqDiff, Nat.reduceLT, Nat.reduceLeDiff, Nat.reduceMul, Int.reduceToNat, reduceCtorEq, ↓reduceIte, Tryd.ntmps25, Tryd.results25, ks_25, mu_25, nd_25, ti_ag3, ti_ag9, ti_ag31, ti_ag33, ti_ag34, ti_ag36, ti_fl31_0, ti_fl36_0, ti_fl36_1, ti_fl36_2, ti_fl36_3, ti_fl36_4, ti_fl36_5, ti_fl36_6, ti_fl36_7, ti_hb17, ti_hb25, ti_hb41, ti_hb43, ti_hb44, ti_hb47, ti_hb48, ti_hb49, ti_hb50, ti_hb51, ti_sb34, ti_sl34, ti_sl48, ti_sz31, ti_sz33, ti_sz36, not_true_eq_false, not_false_eq_true, Bool.true_and, Bool.false_and, Int.reduceEq, Int.reduceLT, Int.reduceLE, Int.reduceNeg, List.map_cons, List.map_nil, hE, itD, itV, strRow, tsV]
         first | done | (simp [hE]; done))
  case loop =>
    intro _ _
    generalize hgo : exOwn h l.length sc = ow at hk ⊢
    have hinn : exInner h sc = sc := by rw [exInner, if_neg (by omega)]
    have hle : (exInner h sc).length ≤ sc.length + 2 := exInner_len h sc
    generalize hg : exInner h sc = inn at hk hle hinn
    repeat' (first | with_reducible (first | refine And.intro ?_ ?_ | intro _ | refine AWp_seq ?_ | refine AWp_block ?_ | (refine hKv _ _ (AWp_nop ?_); clear hKv Kv) | (refine hKA ?_; clear hKA hKB KA KB) | (refine hKB ?_; clear hKA hKB KA KB) | refine AWp_skipN ?_ | refine AWp_exitO (by repeat (first | exact Out.hit | apply Out.thenA | apply Out.out rfl)) ?_) | (with_reducible (first | (refine hKv _ _ ?_; clear hKv Kv) | ((first | refine AWp_regC mu_25 ks_25 ?_ | refine AWp_draw nd_25 mu_25 ks_25 ti_mixed (by kernel_rfl) ?_ | refine AWp_regE mu_25 ks_25 ?_ | refine AWp_drawE nd_25 mu_25 ks_25 ti_mixed (by kernel_rfl) ?_); intro Kv hKv) | refine AWp_retR ?_); try simp (dsimp := false) only [go_sem, Nat.reduceAdd, Nat.reduceBEq, Nat.reduceEqDiff, Nat.reduceLT, Nat.reduceLeDiff, Nat.reduceMul, Int.reduceToNat, reduceCtorEq, ↓reduceIte, Tryd.ntmps25, Tryd.results25, ks_25, mu_25, nd_25, ti_ag3, ti_ag9, ti_ag31, ti_ag33, ti_ag34, ti_ag36, ti_fl31_0, ti_fl36_0, ti_fl36_1, ti_fl36_2, ti_fl36_3, ti_fl36_4, ti_fl36_5, ti_fl36_6, ti_fl36_7, ti_hb17, ti_hb25, ti_hb41, ti_hb43, ti_hb44, ti_hb47, ti_hb48, ti_hb49, ti_hb50, ti_hb51, ti_sb34, ti_sl34, ti_sl48, ti_sz31, ti_sz33, ti_sz36, not_true_eq_false, not_false_eq_true, Bool.true_and, Bool.false_and, Int.reduceEq, Int.reduceLT, Int.reduceLE, Int.reduceNeg, List.map_cons, List.map_nil, ← hinn, strRow]) | (refine AWp_condC rfl ?_; intro KA KB hKA hKB; try simp only [onB_true, onB_false, onB_dec, onB_ndec, onB_not, onB_and, onB_or]) | (refine AWp_condA rfl ?_ ?_) | with_reducible (first | refine onB_of ?_ ?_ | rfl) | omega)
    refine AWp_while0 (fun y : Nat × Int => y.1 ≤ l.length ∧ (if y.2 = 0 then efL (l.drop y.1) (if y.1 = 0 then sc else inn) inn else y.2) = (if ow = 0 then efL l sc inn else ow)) (fun y => [(1, .d (.sl 1 (sc.map strRow))), (2, .rp [.i .i64 10, .i .i64 h.it.k, .i .i64 h.it.n, .s h.it.s, .s h.nm, .s h.at_, .i .i64 h.n, .i .i64 h.ax, .i .i64 h.tk, .s h.tn, .sl 11 (l.map exD)]), (6, .d (.i .i64 y.2)), (7, .d (.sl 1 (inn.map strRow))), (8, .d (.i .i64 y.1))]) (fun y => 2 * (l.length - y.1) + (if y.2 = 0 then 1 else 0)) (0, ow) ⟨Nat.zero_le _, by simp⟩ ?_ ?_
    · simp (dsimp := false) only [go_sem, Nat.reduceAdd, Nat.reduceBEq, Nat.reduceEqDiff, Nat.reduceLT, Nat.reduceLeDiff, Nat.reduceMul, Int.reduceToNat, reduceCtorEq, ↓reduceIte, Tryd.ntmps25, Tryd.results25, ks_25, mu_25, nd_25, ti_ag3, ti_ag9, ti_ag31, ti_ag33, ti_ag34, ti_ag36, ti_fl31_0, ti_fl36_0, ti_fl36_1, ti_fl36_2, ti_fl36_3, ti_fl36_4, ti_fl36_5, ti_fl36_6, ti_fl36_7, ti_hb17, ti_hb25, ti_hb41, ti_hb43, ti_hb44, ti_hb47, ti_hb48, ti_hb49, ti_hb50, ti_hb51, ti_sb34, ti_sl34, ti_sl48, ti_sz31, ti_sz33, ti_sz36, not_true_eq_false, not_false_eq_true, Bool.true_and, Bool.false_and, Int.reduceEq, Int.reduceLT, Int.reduceLE, Int.reduceNeg, List.map_cons, List.map_nil, ← hinn, strRow]
      first | done | (simp [hinn]; done)
    rintro ⟨i, e⟩ ⟨hi, hv⟩
    simp only at hi hv
    have t2 : ((0 : Int) ≤ (i : Int)) = True := eq_true (by omega)
    by_cases hil : i < l.length
    · have t1 : ((i : Int) < (l.length : Int)) = True := eq_true (by omega)
      by_cases he : e = 0
      · subst he
        obtain ⟨a, ha⟩ : ∃ x, l[i]? = some x := ⟨l[i], List.getElem?_eq_getElem hil⟩
        have hma := List.mem_of_getElem? ha
        rw [if_pos rfl, drop_of_get ha, efL_cons] at hv
        by_cases i0 : i = 0
        · have t3 : ((i : Int) = 0) = True := eq_true (by omega)
          rw [if_pos i0] at hv
          have hc := ih a hma sc (by omega)
          repeat' (first | with_reducible (first | refine And.intro ?_ ?_ | intro _ | refine AWp_seq ?_ | refine AWp_block ?_ | (refine hKv _ _ (AWp_nop ?_); clear hKv Kv) | (refine hKA ?_; clear hKA hKB KA KB) | (refine hKB ?_; clear hKA hKB KA KB) | refine AWp_skipN ?_ | refine AWp_exitO (by repeat (first | exact Out.hit | apply Out.thenA | apply Out.out rfl)) ?_) | ((first | with_reducible (first | (refine hKv _ _ ?_; clear hKv Kv) | ((first | refine AWp_regC mu_25 ks_25 ?_ | refine AWp_draw nd_25 mu_25 ks_25 ti_mixed (by kernel_rfl) ?_ | refine AWp_regE mu_25 ks_25 ?_ | refine AWp_drawE nd_25 mu_25 ks_25 ti_mixed (by kernel_rfl) ?_); intro Kv hKv) | refine AWp_retR ?_) | refine hc _ _ ?_ | refine QCall_of (hc _ _ (Two_intro _ _)) ?_); try simp (dsimp := false) only [go_sem, Nat.reduceAdd, Nat.reduceBEq, Nat.reduceEqDiff, Nat.reduceLT, Nat.reduceLeDiff, Nat.reduceMul, Int.reduceToNat, reduceCtorEq, ↓reduceIte, Tryd.ntmps25, Tryd.results25, ks_25, mu_25, nd_25, ti_ag3, ti_ag9, ti_ag31, ti_ag33, ti_ag34, ti_ag36, ti_fl31_0, ti_fl36_0, ti_fl36_1, ti_fl36_2, ti_fl36_3, ti_fl36_4, ti_fl36_5, ti_fl36_6, ti_fl36_7, ti_hb17, ti_hb25, ti_hb41, ti_hb43, ti_hb44, ti_hb47, ti_hb48, ti_hb49, ti_hb50, ti_hb51, ti_sb34, ti_sl34, ti_sl48, ti_sz31, ti_sz33, ti_sz36, not_true_eq_false, not_false_eq_true, Bool.true_and, Bool.false_and, Int.reduceEq, Int.reduceLT, Int.reduceLE, Int.reduceNeg, List.map_cons, List.map_nil, exD_1, exV, strRow, ha, t1, t2, t3]) | (refine AWp_condC rfl ?_; intro KA KB hKA hKB; try simp only [onB_true, onB_false, onB_dec, onB_ndec, onB_not, onB_and, onB_or]) | (refine AWp_condA rfl ?_ ?_) | with_reducible (first | refine onB_of ?_ ?_ | rfl) | omega)
          all_goals first
            | omega
            | (refine ⟨(i + 1, efQ a sc), ⟨by simp only; omega, by simp only; rw [← hv]; by_cases hz : efQ a sc = 0 <;> simp [hz]⟩, by simp only; split <;> omega, ?_⟩
               first | rfl | ((repeat' (refine And.intro ?_ ?_)) <;> first | rfl | omega | (simp; done) | (simp only; omega)))
        · have t3 : ((i : Int) = 0) = False := eq_false (by omega)
          rw [if_neg i0] at hv
          have hc := ih a hma inn (by omega)
          repeat' (first | with_reducible (first | refine And.intro ?_ ?_ | intro _ | refine AWp_seq ?_ | refine AWp_block ?_ | (refine hKv _ _ (AWp_nop ?_); clear hKv Kv) | (refine hKA ?_; clear hKA hKB KA KB) | (refine hKB ?_; clear hKA hKB KA KB) | refine AWp_skipN ?_ | refine AWp_exitO (by repeat (first | exact Out.hit | apply Out.thenA | apply Out.out rfl)) ?_) | ((first | with_reducible (first | (refine hKv _ _ ?_; clear hKv Kv) | ((first | refine AWp_regC mu_25 ks_25 ?_ | refine AWp_draw nd_25 mu_25 ks_25 ti_mixed (by kernel_rfl) ?_ | refine AWp_regE mu_25 ks_25 ?_ | refine AWp_drawE nd_25 mu_25 ks_25 ti_mixed (by kernel_rfl) ?_); intro Kv hKv) | refine AWp_retR ?_) | refine hc _ _ ?_ | refine QCall_of (hc _ _ (Two_intro _ _)) ?_); try simp (dsimp := false) only [go_sem, Nat.reduceAdd, Nat.reduceBEq, Nat.reduceEqDiff, Nat.reduceLT, Nat.reduceLeDiff, Nat.reduceMul, Int.reduceToNat, reduceCtorEq, ↓reduceIte, Tryd.ntmps25, Tryd.results25, ks_25, mu_25, nd_25, ti_ag3, ti_ag9, ti_ag31, ti_ag33, ti_ag34, ti_ag36, ti_fl31_0, ti_fl36_0, ti_fl36_1, ti_fl36_2, ti_fl36_3, ti_fl36_4, ti_fl36_5, ti_fl36_6, ti_fl36_7, ti_hb17, ti_hb25, ti_hb41, ti_hb43, ti_hb44, ti_hb47, ti_hb48, ti_hb49, ti_hb50, ti_hb51, ti_sb34, ti_sl34, ti_sl48, ti_sz31, ti_sz33, ti_sz36, not_true_eq_false, not_false_eq_true, Bool.true_and, Bool.false_and, Int.reduceEq, Int.reduceLT, Int.reduceLE, Int.reduceNeg, List.map_cons, List.map_nil, exD_1, exV, strRow, ha, t1, t2, t3]) | (refine AWp_condC rfl ?_; intro KA KB hKA hKB; try simp only [onB_true, onB_false, onB_dec, onB_ndec, onB_not, onB_and, onB_or]) | (refine AWp_condA rfl ?_ ?_) | with_reducible (first | refine onB_of ?_ ?_ | rfl) | omega)
          all_goals first
            | omega
            | (refine ⟨(i + 1, efQ a inn), ⟨by simp only; omega, by simp only; rw [← hv]; by_cases hz : efQ a inn = 0 <;> simp [hz]⟩, by simp only; split <;> omega, ?_⟩
               first | rfl | ((repeat' (refine And.intro ?_ ?_)) <;> first | rfl | omega | (simp; done) | (simp only; omega)))
      · have t3 : (e = 0) = False := eq_false he
        rw [if_neg he] at hv
        repeat' (first | with_reducible (first | refine And.intro ?_ ?_ | intro _ | refine AWp_seq ?_ | refine AWp_block ?_ | (refine hKv _ _ (AWp_nop ?_); clear hKv Kv) | (refine hKA ?_; clear hKA hKB KA KB) | (refine hKB ?_; clear hKA hKB KA KB) | refine AWp_skipN ?_ | refine AWp_exitO (by repeat (first | exact Out.hit | apply Out.thenA | apply Out.out rfl)) ?_) | (with_reducible (first | (refine hKv _ _ ?_; clear hKv Kv) | ((first | refine AWp_regC mu_25 ks_25 ?_ | refine AWp_draw nd_25 mu_25 ks_25 ti_mixed (by kernel_rfl) ?_ | refine AWp_regE mu_25 ks_25 ?_ | refine AWp_drawE nd_25 mu_25 ks_25 ti_mixed (by kernel_rfl) ?_); intro Kv hKv) | refine AWp_retR ?_); try simp (dsimp := false) only [go_sem, Nat.reduceAdd, Nat.reduceBEq, Nat.reduceEqDiff, Nat.reduceLT, Nat.reduceLeDiff, Nat.reduceMul, Int.reduceToNat, reduceCtorEq, ↓reduceIte, Tryd.ntmps25, Tryd.results25, ks_25, mu_25, nd_25, ti_ag3, ti_ag9, ti_ag31, ti_ag33, ti_ag34, ti_ag36, ti_fl31_0, ti_fl36_0, ti_fl36_1, ti_fl36_2, ti_fl36_3, ti_fl36_4, ti_fl36_5, ti_fl36_6, ti_fl36_7, ti_hb17, ti_hb25, ti_hb41, ti_hb43, ti_hb44, ti_hb47, ti_hb48, ti_hb49, ti_hb50, ti_hb51, ti_sb34, ti_sl34, ti_sl48, ti_sz31, ti_sz33, ti_sz36, not_true_eq_false, not_false_eq_true, Bool.true_and, Bool.false_and, Int.reduceEq, Int.reduceLT, Int.reduceLE, Int.reduceNeg, List.map_cons, List.map_nil, strRow, t1, t2, t3]) | (refine AWp_condC rfl ?_; intro KA KB hKA hKB; try simp only [onB_true, onB_false, onB_dec, onB_ndec, onB_not, onB_and, onB_or]) | (refine AWp_condA rfl ?_ ?_) | with_reducible (first | refine onB_of ?_ ?_ | rfl) | omega)
        all_goals first
          | omega
          | exact keepD hk (by rw [hv])
    · have t1 : ((i : Int) < (l.length : Int)) = False := eq_false (by omega)
      have hee : e = (if ow = 0 then efL l sc inn else ow) := by
        rw [List.drop_eq_nil_of_le (by omega), efL_nil] at hv
        by_cases he : e = 0
        · rw [if_pos he] at hv; rw [he]; exact hv
        · rw [if_neg he] at hv; exact hv
      repeat' (first | with_reducible (first | refine And.intro ?_ ?_ | intro _ | refine AWp_seq ?_ | refine AWp_block ?_ | (refine hKv _ _ (AWp_nop ?_); clear hKv Kv) | (refine hKA ?_; clear hKA hKB KA KB) | (refine hKB ?_; clear hKA hKB KA KB) | refine AWp_skipN ?_ | refine AWp_exitO (by repeat (first | exact Out.hit | apply Out.thenA | apply Out.out rfl)) ?_) | (with_reducible (first | (refine hKv _ _ ?_; clear hKv Kv) | ((first | refine AWp_regC mu_25 ks_25 ?_ | refine AWp_draw nd_25 mu_25 ks_25 ti_mixed (by kernel_rfl) ?_ | refine AWp_regE mu_25 ks_25 ?_ | refine AWp_drawE nd_25 mu_25 ks_25 ti_mixed (by kernel_rfl) ?_); intro Kv hKv) | refine AWp_retR ?_); try simp (dsimp := false) only [go_sem, Nat.reduceAdd, Nat.reduceBEq, Nat.reduceEqDiff, Nat.reduceLT, Nat.reduceLeDiff, Nat.reduceMul, Int.reduceToNat, reduceCtorEq, ↓reduceIte, Tryd.ntmps25, Tryd.results25, ks_25, mu_25, nd_25, ti_ag3, ti_ag9, ti_ag31, ti_ag33, ti_ag34, ti_ag36, ti_fl31_0, ti_fl36_0, ti_fl36_1, ti_fl36_2, ti_fl36_3, ti_fl36_4, ti_fl36_5, ti_fl36_6, ti_fl36_7, ti_hb17, ti_hb25, ti_hb41, ti_hb43, ti_hb44, ti_hb47, ti_hb48, ti_hb49, ti_hb50, ti_hb51, ti_sb34, ti_sl34, ti_sl48, ti_sz31, ti_sz33, ti_sz36, not_true_eq_false, not_false_eq_true, Bool.true_and, Bool.false_and, Int.reduceEq, Int.reduceLT, Int.reduceLE, Int.reduceNeg, List.map_cons, List.map_nil, strRow, t1, t2]) | (refine AWp_condC rfl ?_; intro KA KB hKA hKB; try simp only [onB_true, onB_false, onB_dec, onB_ndec, onB_not, onB_and, onB_or]) | (refine AWp_condA rfl ?_ ?_) | with_reducible (first | refine onB_of ?_ ?_ | rfl) | omega)
      all_goals first
        | omega
        | exact keepD hk (by rw [hee])
end Go.Proofs.YtppalmoicjogaaaDoor
