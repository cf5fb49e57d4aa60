/- The core: core.check of an expression of kind 3. No condition but that the tables of package unicode/utf8 and of the core's functions are there. -/
import Derived.Test.YtppalmoicjogaaaDoorC29
set_option linter.all false
set_option linter.unusedSimpArgs false
set_option linter.unusedVariables false
namespace Go.Proofs.YtppalmoicjogaaaDoor
open Go Go.Proofs.YtppalmoicjogaaaDoor.Ab
variable [Glo] [U8] [CAr]
set_option maxHeartbeats 4000000
set_option maxRecDepth 20000
theorem chk3_A (h : Xh) (l : List Ex) (hkind : h.k = 3) (ok : XhOk h) (hl : l.length ≤ 1048576) (hcount : coreMany h.k < 0 ∨ coreMany h.k = (l.length : Int)) (sc : List (List UInt8)) (hsc : sc.length + 2 ≤ 1000000) (hown : exOwn h l.length sc = 0) (id : Nat) (a b c : Int)
    (ih : ∀ x, x ∈ l → ∀ (sc' : List (List UInt8)), sc'.length ≤ sc.length + 2 → ChkAt id x sc')
    (H : Heap) (K : V → Heap → Prop) (hr : H[id]? = some (cntC a b c)) (hB : CntOk a b c (exN (.mk h l))) (hk : ∀ a' b' c', (efQ (.mk h l) sc = 0 → a' = a + exHow 5 6 (.mk h l) ∧ b' = b + exHow 10 10 (.mk h l) ∧ c' = c + exN (.mk h l)) → K (.d (.i .i64 (efQ (.mk h l) sc))) (H.set id (cntC a' b' c'))) :
    ACalls Tryd.prog 24 [exV h l, .d (.sl 1 (sc.map strRow)), .pt id 0 0 0] H K := by
  have hM := many_A 3
  have cm : coreMany 3 = -1 := rfl
  rw [efQ_eq (by omega) hcount, if_pos hown] at hk
  rw [exHow, exHow, exN, hkind] at hk
  rw [exN] at hB
  rw [hkind, cm] at hcount
  have hO := fun H K hk => own_A h l ok hl sc (by omega) H K hk
  rw [hown, exV_k hkind] at hO
  rw [exV_k hkind]
  have hid := lt_of_get hr
  have hr' := hr
  rw [cntC] at hr'
  obtain ⟨q1, q2, q3, q4, q5, q6⟩ := hB
  have hss : ∀ X Y, (H.set id X).set id Y = H.set id Y := fun X Y => List.set_set ..
  have hgs : ∀ X, (H.set id X)[id]? = some X := fun X => get_self hr X
  have r1 : inR .i64 (a + 1) := inR_i64' (by omega) (by omega)
  have r2 : inR .i64 (b + 1) := inR_i64' (by omega) (by omega)
  have r3 : inR .i64 (c + 1) := inR_i64' (by omega) (by omega)
  rw [cm] at hM
  refine ACalls_of Tryd.func24 rfl in_24 (Nat.le_of_ble_eq_true rfl) ?_
  intro F hF
  simp (dsimp := false) only [go_sem, Nat.reduceAdd, Nat.reduceBEq, Nat.reduceEqDiff, Nat.reduceLT, Nat.reduceLeDiff, Nat.reduceMul, Int.reduceToNat, reduceCtorEq, ↓reduceIte, Tryd.ntmps24, Tryd.results24, ks_24, mu_24, xt_24, gv_24, ro_24, ti_ag3, ti_ag9, ti_ag34, ti_ag36, ti_fl36_0, ti_fl36_2, ti_fl36_3, ti_fl36_7, ti_fl67_0, ti_fl67_1, ti_fl67_2, ti_hb15, ti_hb24, ti_hb45, ti_hb46, ti_sb34, ti_sl34, ti_sl48, ti_sz3, ti_sz36, ti_zr36, not_true_eq_false, not_false_eq_true, Bool.true_and, Bool.false_and, Int.reduceEq, Int.reduceLT, Int.reduceLE, Int.reduceNeg, List.map_cons, List.map_nil, hr', hid, hss, hgs, List.length_set, in_24] at hF
  subst hF
  repeat' (first | with_reducible (first | refine And.intro ?_ ?_ | intro _ | refine AWp_seq ?_ | refine AWp_block ?_ | (refine hKv _ _ (AWp_nop ?_); clear hKv Kv) | (refine hKA ?_; clear hKA hKB KA KB) | (refine hKB ?_; clear hKA hKB KA KB) | refine AWp_skipN ?_ | refine AWp_exitO (by repeat (first | exact Out.hit | apply Out.thenA | apply Out.out rfl)) ?_) | ((first | with_reducible (first | (refine hKv _ _ ?_; clear hKv Kv) | ((first | refine AWp_regG gv_24 mu_24 ks_24 (by decide) ?_ | refine AWp_regro mu_24 ks_24 ro_24 ?_ | refine AWp_regC mu_24 ks_24 ?_ | refine AWp_drawT xt_24 mu_24 ks_24 (by decide) ti_mixed (by kernel_rfl) ?_ | refine AWp_regE mu_24 ks_24 ?_); intro Kv hKv) | refine AWp_retR ?_) | refine hM _ _ ?_ | refine QCall_of (hM _ _ (Two_intro _ _)) ?_ | refine ECall_of (hM _ _ (Two_intro _ _)) ?_ | refine hO _ _ ?_ | refine QCall_of (hO _ _ (Two_intro _ _)) ?_ | refine ECall_of (hO _ _ (Two_intro _ _)) ?_); try simp (dsimp := false) only [go_sem, Nat.reduceAdd, Nat.reduceBEq, Nat.reduceEqDiff, Nat.reduceLT, Nat.reduceLeDiff, Nat.reduceMul, Int.reduceToNat, reduceCtorEq, ↓reduceIte, Tryd.ntmps24, Tryd.results24, ks_24, mu_24, xt_24, gv_24, ro_24, ti_ag3, ti_ag9, ti_ag34, ti_ag36, ti_fl36_0, ti_fl36_2, ti_fl36_3, ti_fl36_7, ti_fl67_0, ti_fl67_1, ti_fl67_2, ti_hb15, ti_hb24, ti_hb45, ti_hb46, ti_sb34, ti_sl34, ti_sl48, ti_sz3, ti_sz36, ti_zr36, not_true_eq_false, not_false_eq_true, Bool.true_and, Bool.false_and, Int.reduceEq, Int.reduceLT, Int.reduceLE, Int.reduceNeg, List.map_cons, List.map_nil, hr', hid, hss, hgs, List.length_set]) | (refine AWp_condC rfl ?_; intro KA KB hKA hKB; try simp only [onB_true, onB_false, onB_dec, onB_ndec, onB_not, onB_and, onB_or]) | (refine AWp_condA rfl ?_ ?_) | with_reducible (first | refine onB_of ?_ ?_ | rfl) | omega)
  all_goals first
    | assumption
    | omega
    | skip
  refine AWp_whileG (fun i : Nat => i ≤ l.length ∧ efL (l.drop i) (if i = 0 then sc else exInner h sc) (exInner h sc) = efL l sc (exInner h sc))
    (fun i => [(1, .d (.sl 1 (sc.map strRow))), (2, .pt id 0 0 0), (3, .rp [.i .i64 3, .i .i64 h.it.k, .i .i64 h.it.n, .s h.it.s, .s h.nm, .s h.at_, .i .i64 h.n, .i .i64 h.ax, .i .i64 h.tk, .s h.tn, .sl 11 (l.map exD)]), (68, .d (.sl 11 (l.map exD))), (69, .d (.i .i64 l.length)), (70, .d (.i .i64 i))])
    (fun i => H.set id (cntC (a + exHows 5 6 (l.take i)) (b + exHows 10 10 (l.take i)) (c + 1 + exNs (l.take i)))) (fun i => l.length - i) 0 ⟨Nat.zero_le _, rfl⟩ ⟨[], ?_⟩ ?_ ?_ ?_ ?_
  · simp [cntC, exHows, exNs]
  · simp (dsimp := false) only [go_sem, Nat.reduceAdd, Nat.reduceBEq, Nat.reduceEqDiff, Nat.reduceLT, Nat.reduceLeDiff, Nat.reduceMul, Int.reduceToNat, reduceCtorEq, ↓reduceIte, Tryd.ntmps24, Tryd.results24, ks_24, mu_24, xt_24, gv_24, ro_24, ti_ag3, ti_ag9, ti_ag34, ti_ag36, ti_fl36_0, ti_fl36_2, ti_fl36_3, ti_fl36_7, ti_fl67_0, ti_fl67_1, ti_fl67_2, ti_hb15, ti_hb24, ti_hb45, ti_hb46, ti_sb34, ti_sl34, ti_sl48, ti_sz3, ti_sz36, ti_zr36, not_true_eq_false, not_false_eq_true, Bool.true_and, Bool.false_and, Int.reduceEq, Int.reduceLT, Int.reduceLE, Int.reduceNeg, List.map_cons, List.map_nil, hr', hid, hss, hgs, List.length_set]
    first | done | (simp [hid]; done)
  · intro i _; simp
  · intro i _; exact closed_set (closed_self H) (cntC_bel _ _ _ _)
  rintro i ⟨hi, hv⟩
  have t2 : ((0 : Int) ≤ (i : Int)) = True := eq_true (by omega)
  have y1 := exNs_le_take l i
  have y2 := exHows_le 5 6 (l.take i)
  have y3 := exHows_le 10 10 (l.take i)
  by_cases hil : i < l.length
  case neg =>
    have t1 : ((i : Int) < (l.length : Int)) = False := eq_false (by omega)
    rw [List.drop_eq_nil_of_le (by omega), efL_nil] at hv
    rw [List.take_of_length_le (by omega)]
    replace hk := hk (a + exHows 5 6 l) (b + exHows 10 10 l) (c + 1 + exNs l) (fun _ => ⟨by simp; try omega, by simp; try omega, by simp; omega⟩)
    rw [← hv] at hk
    repeat' (first | with_reducible (first | refine And.intro ?_ ?_ | intro _ | refine AWp_seq ?_ | refine AWp_block ?_ | (refine hKv _ _ (AWp_nop ?_); clear hKv Kv) | (refine hKA ?_; clear hKA hKB KA KB) | (refine hKB ?_; clear hKA hKB KA KB) | refine AWp_skipN ?_ | refine AWp_exitO (by repeat (first | exact Out.hit | apply Out.thenA | apply Out.out rfl)) ?_) | (with_reducible (first | (refine hKv _ _ ?_; clear hKv Kv) | ((first | refine AWp_regG gv_24 mu_24 ks_24 (by decide) ?_ | refine AWp_regro mu_24 ks_24 ro_24 ?_ | refine AWp_regC mu_24 ks_24 ?_ | refine AWp_drawT xt_24 mu_24 ks_24 (by decide) ti_mixed (by kernel_rfl) ?_ | refine AWp_regE mu_24 ks_24 ?_); intro Kv hKv) | refine AWp_retR ?_); try simp (dsimp := false) only [go_sem, Nat.reduceAdd, Nat.reduceBEq, Nat.reduceEqDiff, Nat.reduceLT, Nat.reduceLeDiff, Nat.reduceMul, Int.reduceToNat, reduceCtorEq, ↓reduceIte, Tryd.ntmps24, Tryd.results24, ks_24, mu_24, xt_24, gv_24, ro_24, ti_ag3, ti_ag9, ti_ag34, ti_ag36, ti_fl36_0, ti_fl36_2, ti_fl36_3, ti_fl36_7, ti_fl67_0, ti_fl67_1, ti_fl67_2, ti_hb15, ti_hb24, ti_hb45, ti_hb46, ti_sb34, ti_sl34, ti_sl48, ti_sz3, ti_sz36, ti_zr36, not_true_eq_false, not_false_eq_true, Bool.true_and, Bool.false_and, Int.reduceEq, Int.reduceLT, Int.reduceLE, Int.reduceNeg, List.map_cons, List.map_nil, strRow, t1, t2]) | (refine AWp_condC rfl ?_; intro KA KB hKA hKB; try simp only [onB_true, onB_false, onB_dec, onB_ndec, onB_not, onB_and, onB_or]) | (refine AWp_condA rfl ?_ ?_) | with_reducible (first | refine onB_of ?_ ?_ | rfl) | omega)
    all_goals first
      | omega
      | exact keepS hk (by simp) (closed_set (closed_self H) (cntC_bel _ _ _ _)) (.d _)
  have t1 : ((i : Int) < (l.length : Int)) = True := eq_true (by omega)
  obtain ⟨x, hx⟩ : ∃ x, l[i]? = some x := ⟨l[i], List.getElem?_eq_getElem hil⟩
  have hmx := List.mem_of_getElem? hx
  have z1 := exNs_take hx
  have z2 := exHows_take (a := 5) (b := 6) hx
  have z3 := exHows_take (a := 10) (b := 10) hx
  have z4 := exNs_le_take l (i + 1)
  have z5 := exHow_le 5 6 x
  have z6 := exHow_le 10 10 x
  have hcall := fun sc' hsc' G K hK => chk_at (ih x hmx sc' hsc') hr (a + exHows 5 6 (l.take i)) (b + exHows 10 10 (l.take i)) (c + 1 + exNs (l.take i)) ⟨by omega, by omega, by omega, by omega, by omega, by omega⟩ G K hK
  have hcl0 := fun sc' hsc' K hK => chk_at0 (ih x hmx sc' hsc') hr (a + exHows 5 6 (l.take i)) (b + exHows 10 10 (l.take i)) (c + 1 + exNs (l.take i)) ⟨by omega, by omega, by omega, by omega, by omega, by omega⟩ K hK
  obtain ⟨Hc, hHc, hcl, hcs⟩ : ∃ Hc, Hc = H.set id (cntC (a + exHows 5 6 (l.take i)) (b + exHows 10 10 (l.take i)) (c + 1 + exNs (l.take i))) ∧ Hc.length = H.length ∧ Closed H Hc := ⟨_, rfl, by simp, closed_set (closed_self H) (cntC_bel _ _ _ _)⟩
  rw [← hHc] at hcall hcl0 ⊢
  have hle1 : (H.length ≤ Hc.length) = True := eq_true (by omega)
  have hcs1 : Closed H Hc = True := eq_true hcs
  rw [drop_of_get hx, efL_cons] at hv
  by_cases i0 : i = 0
  · have t3 : ((0 : Int) < (i : Int)) = False := eq_false (by omega)
    rw [if_pos i0] at hv
    have hc := hcl0 sc (by omega)
    by_cases hz : efQ x sc = 0
    · have z0 : (efQ x sc = 0) = True := eq_true hz
      rw [if_pos hz] at hv
      rw [hz] at hc
      repeat' (first | with_reducible (first | refine And.intro ?_ ?_ | intro _ | refine AWp_seq ?_ | refine AWp_block ?_ | (refine hKv _ _ (AWp_nop ?_); clear hKv Kv) | (refine hKA ?_; clear hKA hKB KA KB) | (refine hKB ?_; clear hKA hKB KA KB) | refine AWp_skipN ?_ | refine AWp_exitO (by repeat (first | exact Out.hit | apply Out.thenA | apply Out.out rfl)) ?_) | ((first | with_reducible (first | (refine hKv _ _ ?_; clear hKv Kv) | ((first | refine AWp_regG gv_24 mu_24 ks_24 (by decide) ?_ | refine AWp_regro mu_24 ks_24 ro_24 ?_ | refine AWp_regC mu_24 ks_24 ?_ | refine AWp_drawT xt_24 mu_24 ks_24 (by decide) ti_mixed (by kernel_rfl) ?_ | refine AWp_regE mu_24 ks_24 ?_); intro Kv hKv) | refine AWp_retR ?_) | refine hc _ ?_ | refine QCall_of (hc _ (Two_intro _ _)) ?_ | refine ECall_of (hc _ (Two_intro _ _)) ?_); try simp (dsimp := false) only [go_sem, Nat.reduceAdd, Nat.reduceBEq, Nat.reduceEqDiff, Nat.reduceLT, Nat.reduceLeDiff, Nat.reduceMul, Int.reduceToNat, reduceCtorEq, ↓reduceIte, Tryd.ntmps24, Tryd.results24, ks_24, mu_24, xt_24, gv_24, ro_24, ti_ag3, ti_ag9, ti_ag34, ti_ag36, ti_fl36_0, ti_fl36_2, ti_fl36_3, ti_fl36_7, ti_fl67_0, ti_fl67_1, ti_fl67_2, ti_hb15, ti_hb24, ti_hb45, ti_hb46, ti_sb34, ti_sl34, ti_sl48, ti_sz3, ti_sz36, ti_zr36, not_true_eq_false, not_false_eq_true, Bool.true_and, Bool.false_and, Int.reduceEq, Int.reduceLT, Int.reduceLE, Int.reduceNeg, List.map_cons, List.map_nil, exD_1, exV, strRow, hx, t1, t2, roP_gen, hle1, hcs1, z0, t3]) | (refine AWp_condC rfl ?_; intro KA KB hKA hKB; try simp only [onB_true, onB_false, onB_dec, onB_ndec, onB_not, onB_and, onB_or]) | (refine AWp_condA rfl ?_ ?_) | with_reducible (first | refine onB_of ?_ ?_ | rfl) | omega)
      all_goals first
        | omega
        | assumption
        | skip
      rename_i a' b' c' hcc
      obtain ⟨rfl, rfl, rfl⟩ := hcc
      repeat' (first | with_reducible (first | refine And.intro ?_ ?_ | intro _ | refine AWp_seq ?_ | refine AWp_block ?_ | (refine hKv _ _ (AWp_nop ?_); clear hKv Kv) | (refine hKA ?_; clear hKA hKB KA KB) | (refine hKB ?_; clear hKA hKB KA KB) | refine AWp_skipN ?_ | refine AWp_exitO (by repeat (first | exact Out.hit | apply Out.thenA | apply Out.out rfl)) ?_) | (with_reducible (first | (refine hKv _ _ ?_; clear hKv Kv) | ((first | refine AWp_regG gv_24 mu_24 ks_24 (by decide) ?_ | refine AWp_regro mu_24 ks_24 ro_24 ?_ | refine AWp_regC mu_24 ks_24 ?_ | refine AWp_drawT xt_24 mu_24 ks_24 (by decide) ti_mixed (by kernel_rfl) ?_ | refine AWp_regE mu_24 ks_24 ?_); intro Kv hKv) | refine AWp_retR ?_); try simp (dsimp := false) only [go_sem, Nat.reduceAdd, Nat.reduceBEq, Nat.reduceEqDiff, Nat.reduceLT, Nat.reduceLeDiff, Nat.reduceMul, Int.reduceToNat, reduceCtorEq, ↓reduceIte, Tryd.ntmps24, Tryd.results24, ks_24, mu_24, xt_24, gv_24, ro_24, ti_ag3, ti_ag9, ti_ag34, ti_ag36, ti_fl36_0, ti_fl36_2, ti_fl36_3, ti_fl36_7, ti_fl67_0, ti_fl67_1, ti_fl67_2, ti_hb15, ti_hb24, ti_hb45, ti_hb46, ti_sb34, ti_sl34, ti_sl48, ti_sz3, ti_sz36, ti_zr36, not_true_eq_false, not_false_eq_true, Bool.true_and, Bool.false_and, Int.reduceEq, Int.reduceLT, Int.reduceLE, Int.reduceNeg, List.map_cons, List.map_nil, exD_1, exV, strRow, hx, t1, t2, roP_gen, hle1, hcs1]) | (refine AWp_condC rfl ?_; intro KA KB hKA hKB; try simp only [onB_true, onB_false, onB_dec, onB_ndec, onB_not, onB_and, onB_or]) | (refine AWp_condA rfl ?_ ?_) | with_reducible (first | refine onB_of ?_ ?_ | rfl) | omega)
      all_goals first
        | omega
        | (refine ⟨i + 1, [], ⟨by omega, ?_⟩, by omega, ?_, by simp [hid], by omega⟩
           · rw [if_neg (by omega)]
             first | exact hv | (rw [hinn]; exact hv)
           · rw [z1, z2, z3]
             simp only [Int.natCast_add, Int.add_assoc, List.append_nil])
    · have z0 : (efQ x sc = 0) = False := eq_false hz
      rw [if_neg hz] at hv
      rw [← hv] at hk
      repeat' (first | with_reducible (first | refine And.intro ?_ ?_ | intro _ | refine AWp_seq ?_ | refine AWp_block ?_ | (refine hKv _ _ (AWp_nop ?_); clear hKv Kv) | (refine hKA ?_; clear hKA hKB KA KB) | (refine hKB ?_; clear hKA hKB KA KB) | refine AWp_skipN ?_ | refine AWp_exitO (by repeat (first | exact Out.hit | apply Out.thenA | apply Out.out rfl)) ?_) | ((first | with_reducible (first | (refine hKv _ _ ?_; clear hKv Kv) | ((first | refine AWp_regG gv_24 mu_24 ks_24 (by decide) ?_ | refine AWp_regro mu_24 ks_24 ro_24 ?_ | refine AWp_regC mu_24 ks_24 ?_ | refine AWp_drawT xt_24 mu_24 ks_24 (by decide) ti_mixed (by kernel_rfl) ?_ | refine AWp_regE mu_24 ks_24 ?_); intro Kv hKv) | refine AWp_retR ?_) | refine hc _ ?_ | refine QCall_of (hc _ (Two_intro _ _)) ?_ | refine ECall_of (hc _ (Two_intro _ _)) ?_); try simp (dsimp := false) only [go_sem, Nat.reduceAdd, Nat.reduceBEq, Nat.reduceEqDiff, Nat.reduceLT, Nat.reduceLeDiff, Nat.reduceMul, Int.reduceToNat, reduceCtorEq, ↓reduceIte, Tryd.ntmps24, Tryd.results24, ks_24, mu_24, xt_24, gv_24, ro_24, ti_ag3, ti_ag9, ti_ag34, ti_ag36, ti_fl36_0, ti_fl36_2, ti_fl36_3, ti_fl36_7, ti_fl67_0, ti_fl67_1, ti_fl67_2, ti_hb15, ti_hb24, ti_hb45, ti_hb46, ti_sb34, ti_sl34, ti_sl48, ti_sz3, ti_sz36, ti_zr36, not_true_eq_false, not_false_eq_true, Bool.true_and, Bool.false_and, Int.reduceEq, Int.reduceLT, Int.reduceLE, Int.reduceNeg, List.map_cons, List.map_nil, exD_1, exV, strRow, hx, t1, t2, roP_gen, hle1, hcs1, z0, t3]) | (refine AWp_condC rfl ?_; intro KA KB hKA hKB; try simp only [onB_true, onB_false, onB_dec, onB_ndec, onB_not, onB_and, onB_or]) | (refine AWp_condA rfl ?_ ?_) | with_reducible (first | refine onB_of ?_ ?_ | rfl) | omega)
      all_goals first
        | omega
        | assumption
        | skip
      all_goals first
        | exact keepS (hk _ _ _ (fun e => absurd e hz)) (by simp) (closed_set (closed_self H) (cntC_bel _ _ _ _)) (.d _)
        | exact dropS (hk _ _ _ (fun e => absurd e hz)) (by simp) (closed_set (closed_self H) (cntC_bel _ _ _ _)) (.d _)
  have t3 : ((0 : Int) < (i : Int)) = True := eq_true (by omega)
  rw [if_neg i0] at hv
  have hinn : exInner h sc = sc := by rw [exInner, if_neg (by omega)]
  rw [hinn] at hv hk
  have hc := hcl0 sc (by omega)
  by_cases hz : efQ x sc = 0
  · have z0 : (efQ x sc = 0) = True := eq_true hz
    rw [if_pos hz] at hv
    rw [hz] at hc
    repeat' (first | with_reducible (first | refine And.intro ?_ ?_ | intro _ | refine AWp_seq ?_ | refine AWp_block ?_ | (refine hKv _ _ (AWp_nop ?_); clear hKv Kv) | (refine hKA ?_; clear hKA hKB KA KB) | (refine hKB ?_; clear hKA hKB KA KB) | refine AWp_skipN ?_ | refine AWp_exitO (by repeat (first | exact Out.hit | apply Out.thenA | apply Out.out rfl)) ?_) | ((first | with_reducible (first | (refine hKv _ _ ?_; clear hKv Kv) | ((first | refine AWp_regG gv_24 mu_24 ks_24 (by decide) ?_ | refine AWp_regro mu_24 ks_24 ro_24 ?_ | refine AWp_regC mu_24 ks_24 ?_ | refine AWp_drawT xt_24 mu_24 ks_24 (by decide) ti_mixed (by kernel_rfl) ?_ | refine AWp_regE mu_24 ks_24 ?_); intro Kv hKv) | refine AWp_retR ?_) | refine hc _ ?_ | refine QCall_of (hc _ (Two_intro _ _)) ?_ | refine ECall_of (hc _ (Two_intro _ _)) ?_); try simp (dsimp := false) only [go_sem, Nat.reduceAdd, Nat.reduceBEq, Nat.reduceEqDiff, Nat.reduceLT, Nat.reduceLeDiff, Nat.reduceMul, Int.reduceToNat, reduceCtorEq, ↓reduceIte, Tryd.ntmps24, Tryd.results24, ks_24, mu_24, xt_24, gv_24, ro_24, ti_ag3, ti_ag9, ti_ag34, ti_ag36, ti_fl36_0, ti_fl36_2, ti_fl36_3, ti_fl36_7, ti_fl67_0, ti_fl67_1, ti_fl67_2, ti_hb15, ti_hb24, ti_hb45, ti_hb46, ti_sb34, ti_sl34, ti_sl48, ti_sz3, ti_sz36, ti_zr36, not_true_eq_false, not_false_eq_true, Bool.true_and, Bool.false_and, Int.reduceEq, Int.reduceLT, Int.reduceLE, Int.reduceNeg, List.map_cons, List.map_nil, exD_1, exV, strRow, hx, t1, t2, roP_gen, hle1, hcs1, z0, t3]) | (refine AWp_condC rfl ?_; intro KA KB hKA hKB; try simp only [onB_true, onB_false, onB_dec, onB_ndec, onB_not, onB_and, onB_or]) | (refine AWp_condA rfl ?_ ?_) | with_reducible (first | refine onB_of ?_ ?_ | rfl) | omega)
    all_goals first
      | omega
      | assumption
      | skip
    rename_i a' b' c' hcc
    obtain ⟨rfl, rfl, rfl⟩ := hcc
    repeat' (first | with_reducible (first | refine And.intro ?_ ?_ | intro _ | refine AWp_seq ?_ | refine AWp_block ?_ | (refine hKv _ _ (AWp_nop ?_); clear hKv Kv) | (refine hKA ?_; clear hKA hKB KA KB) | (refine hKB ?_; clear hKA hKB KA KB) | refine AWp_skipN ?_ | refine AWp_exitO (by repeat (first | exact Out.hit | apply Out.thenA | apply Out.out rfl)) ?_) | (with_reducible (first | (refine hKv _ _ ?_; clear hKv Kv) | ((first | refine AWp_regG gv_24 mu_24 ks_24 (by decide) ?_ | refine AWp_regro mu_24 ks_24 ro_24 ?_ | refine AWp_regC mu_24 ks_24 ?_ | refine AWp_drawT xt_24 mu_24 ks_24 (by decide) ti_mixed (by kernel_rfl) ?_ | refine AWp_regE mu_24 ks_24 ?_); intro Kv hKv) | refine AWp_retR ?_); try simp (dsimp := false) only [go_sem, Nat.reduceAdd, Nat.reduceBEq, Nat.reduceEqDiff, Nat.reduceLT, Nat.reduceLeDiff, Nat.reduceMul, Int.reduceToNat, reduceCtorEq, ↓reduceIte, Tryd.ntmps24, Tryd.results24, ks_24, mu_24, xt_24, gv_24, ro_24, ti_ag3, ti_ag9, ti_ag34, ti_ag36, ti_fl36_0, ti_fl36_2, ti_fl36_3, ti_fl36_7, ti_fl67_0, ti_fl67_1, ti_fl67_2, ti_hb15, ti_hb24, ti_hb45, ti_hb46, ti_sb34, ti_sl34, ti_sl48, ti_sz3, ti_sz36, ti_zr36, not_true_eq_false, not_false_eq_true, Bool.true_and, Bool.false_and, Int.reduceEq, Int.reduceLT, Int.reduceLE, Int.reduceNeg, List.map_cons, List.map_nil, exD_1, exV, strRow, hx, t1, t2, roP_gen, hle1, hcs1]) | (refine AWp_condC rfl ?_; intro KA KB hKA hKB; try simp only [onB_true, onB_false, onB_dec, onB_ndec, onB_not, onB_and, onB_or]) | (refine AWp_condA rfl ?_ ?_) | with_reducible (first | refine onB_of ?_ ?_ | rfl) | omega)
    all_goals first
      | omega
      | (refine ⟨i + 1, [], ⟨by omega, ?_⟩, by omega, ?_, by simp [hid], by omega⟩
         · rw [if_neg (by omega)]
           first | exact hv | (rw [hinn]; exact hv)
         · rw [z1, z2, z3]
           simp only [Int.natCast_add, Int.add_assoc, List.append_nil])
  · have z0 : (efQ x sc = 0) = False := eq_false hz
    rw [if_neg hz] at hv
    rw [← hv] at hk
    repeat' (first | with_reducible (first | refine And.intro ?_ ?_ | intro _ | refine AWp_seq ?_ | refine AWp_block ?_ | (refine hKv _ _ (AWp_nop ?_); clear hKv Kv) | (refine hKA ?_; clear hKA hKB KA KB) | (refine hKB ?_; clear hKA hKB KA KB) | refine AWp_skipN ?_ | refine AWp_exitO (by repeat (first | exact Out.hit | apply Out.thenA | apply Out.out rfl)) ?_) | ((first | with_reducible (first | (refine hKv _ _ ?_; clear hKv Kv) | ((first | refine AWp_regG gv_24 mu_24 ks_24 (by decide) ?_ | refine AWp_regro mu_24 ks_24 ro_24 ?_ | refine AWp_regC mu_24 ks_24 ?_ | refine AWp_drawT xt_24 mu_24 ks_24 (by decide) ti_mixed (by kernel_rfl) ?_ | refine AWp_regE mu_24 ks_24 ?_); intro Kv hKv) | refine AWp_retR ?_) | refine hc _ ?_ | refine QCall_of (hc _ (Two_intro _ _)) ?_ | refine ECall_of (hc _ (Two_intro _ _)) ?_); try simp (dsimp := false) only [go_sem, Nat.reduceAdd, Nat.reduceBEq, Nat.reduceEqDiff, Nat.reduceLT, Nat.reduceLeDiff, Nat.reduceMul, Int.reduceToNat, reduceCtorEq, ↓reduceIte, Tryd.ntmps24, Tryd.results24, ks_24, mu_24, xt_24, gv_24, ro_24, ti_ag3, ti_ag9, ti_ag34, ti_ag36, ti_fl36_0, ti_fl36_2, ti_fl36_3, ti_fl36_7, ti_fl67_0, ti_fl67_1, ti_fl67_2, ti_hb15, ti_hb24, ti_hb45, ti_hb46, ti_sb34, ti_sl34, ti_sl48, ti_sz3, ti_sz36, ti_zr36, not_true_eq_false, not_false_eq_true, Bool.true_and, Bool.false_and, Int.reduceEq, Int.reduceLT, Int.reduceLE, Int.reduceNeg, List.map_cons, List.map_nil, exD_1, exV, strRow, hx, t1, t2, roP_gen, hle1, hcs1, z0, t3]) | (refine AWp_condC rfl ?_; intro KA KB hKA hKB; try simp only [onB_true, onB_false, onB_dec, onB_ndec, onB_not, onB_and, onB_or]) | (refine AWp_condA rfl ?_ ?_) | with_reducible (first | refine onB_of ?_ ?_ | rfl) | omega)
    all_goals first
      | omega
      | assumption
      | skip
    all_goals first
      | exact keepS (hk _ _ _ (fun e => absurd e hz)) (by simp) (closed_set (closed_self H) (cntC_bel _ _ _ _)) (.d _)
      | exact dropS (hk _ _ _ (fun e => absurd e hz)) (by simp) (closed_set (closed_self H) (cntC_bel _ _ _ _)) (.d _)
end Go.Proofs.YtppalmoicjogaaaDoor
