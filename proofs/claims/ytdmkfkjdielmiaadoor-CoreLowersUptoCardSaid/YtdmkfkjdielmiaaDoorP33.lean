/- The core: core.check of an expression of kind 7. No condition but that the tables of package unicode/utf8 and of the core's functions are there. -/
import Derived.Test.YtdmkfkjdielmiaaDoorP19
import Derived.Test.YtdmkfkjdielmiaaDoorP25
set_option linter.all false
set_option linter.unusedSimpArgs false
set_option linter.unusedVariables false
namespace Go.Proofs.YtdmkfkjdielmiaaDoor
open Go Go.Proofs.YtdmkfkjdielmiaaDoor.Ab
variable [Glo] [U8] [CAr]
set_option maxHeartbeats 4000000
set_option maxRecDepth 20000
open FN44 in
theorem chk7_A (h : Xh) (l : List Ex) (hkind : h.k = 7) (ok : XhOk h) (hl : l.length ≤ 1048576) (hcount : coreMany h.k < 0 ∨ coreMany h.k = (l.length : Int)) (sc : List (List UInt8)) (hsc : sc.length + 2 ≤ 50000000) (hown : exOwn h l.length sc = 0) (id : Nat) (a b c : Int)
    (ih : ∀ x, x ∈ l → ∀ (sc' : List (List UInt8)), sc'.length ≤ sc.length + 2 → ChkAt id x sc')
    (H : Heap) (K : V → Heap → Prop) (hr : H[id]? = some (cntW a b c)) (hk : ∀ a' b' c', (efQ (.mk h l) sc = 0 → a' = a + exHow 5 6 (.mk h l) ∧ b' = b + exHow 10 10 (.mk h l) ∧ c' = c + exN (.mk h l)) → K (.d (.i .i64 (efQ (.mk h l) sc))) (H.set id (cntW a' b' c'))) :
    ACalls Tryd.prog 44 [exV h l, .d (.sl 1 (sc.map strRow)), .pt id 0 0 0] H K := by
  have hM := many_A 7
  have cm : coreMany 7 = 3 := rfl
  rw [efQ_eq (by omega) hcount, if_pos hown] at hk
  rw [exHow, exHow, exN, hkind] at hk
  rw [hkind, cm] at hcount
  have hO := fun H K hk => own_A h l ok hl sc (by omega) H K hk
  rw [hown, exV_k hkind] at hO
  rw [exV_k hkind]
  have hid := lt_of_get hr
  have hr' := hr
  rw [cntW, cntC] at hr'
  have hss : ∀ X Y, (H.set id X).set id Y = H.set id Y := fun X Y => List.set_set ..
  have hgs : ∀ X, (H.set id X)[id]? = some X := fun X => get_self hr X
  have m2 : ((3 : Int) = (l.length : Int)) = True := eq_true (by omega)
  rw [cm] at hM
  refine We ?_
  have c21 := hM; have c22 := hO; have us := an m2 (an hr' (an hss hgs))
  (repeat' (first | with_reducible (first | refine And.intro ?_ ?_ | intro _ | (refine hKv _ _ (AWp_nop ?_); clear hKv Kv) | (refine hKA ?_; clear hKA hKB KA KB) | (refine hKB ?_; clear hKA hKB KA KB) | refine Wp ?_ | fail) | ((first | with_reducible (first | (refine hKv _ _ ?_; clear hKv Kv) | (refine Wr ?_; intro Kv hKv) | refine AWp_retR ?_ | fail) | refine Wc ?_ | fail); try simp (dsimp := false) only [go_sem, Nat.reduceAdd, Nat.reduceBEq, Nat.reduceEqDiff, Nat.reduceLT, Nat.reduceLeDiff, Nat.reduceMul, Int.reduceToNat, reduceCtorEq, ↓reduceIte, us, Bool.false_and, Bool.true_and, Int.reduceEq, Int.reduceLE, Int.reduceLT, Int.reduceNeg, List.length_set, List.map_cons, List.map_nil, hid, not_false_eq_true, not_true_eq_false, wI_add]) | (refine AWp_condC rfl ?_; intro KA KB hKA hKB; try simp only [onB_true, onB_false, onB_dec, onB_ndec, onB_not, onB_and, onB_or]) | (refine AWp_condA rfl ?_ ?_) | with_reducible (first | refine onB_of ?_ ?_ | rfl) | omega))
  all_goals first
    | assumption
    | omega
    | skip
  refine AWp_whileG (fun i : Nat => i ≤ l.length ∧ efL (l.drop i) (if i = 0 then sc else exInner h sc) (exInner h sc) = efL l sc (exInner h sc))
    (fun i => [(1, .d (.sl 1 (sc.map strRow))), (2, .pt id 0 0 0), (3, .rp [.i .i64 7, .i .i64 h.it.k, .i .i64 h.it.n, .s h.it.s, .s h.nm, .s h.at_, .i .i64 h.n, .i .i64 h.ax, .i .i64 h.tk, .s h.tn, .sl 11 (l.map exD)]), (68, .d (.sl 11 (l.map exD))), (69, .d (.i .i64 l.length)), (70, .d (.i .i64 i))])
    (fun i => H.set id (cntW (a + exHows 5 6 (l.take i)) (b + exHows 10 10 (l.take i)) (c + 1 + exNs (l.take i)))) (fun i => l.length - i) 0 ⟨Nat.zero_le _, rfl⟩ ⟨[], ?_⟩ ?_ ?_ ?_ ?_
  · simp [cntW, cntC, exHows, exNs]
  · simp (dsimp := false) only [go_sem, Nat.reduceAdd, Nat.reduceBEq, Nat.reduceEqDiff, Nat.reduceLT, Nat.reduceLeDiff, Nat.reduceMul, Int.reduceToNat, reduceCtorEq, ↓reduceIte, not_true_eq_false, not_false_eq_true, Bool.true_and, Bool.false_and, Int.reduceEq, Int.reduceLT, Int.reduceLE, Int.reduceNeg, List.map_cons, List.map_nil, m2, hr', hid, hss, hgs, wI_add, List.length_set]
    first | done | (simp [hid]; done)
  · intro i _; simp
  · intro i _; exact closed_set (closed_self H) (cntC_bel _ _ _ _)
  rintro i ⟨hi, hv⟩
  have t2 : ((0 : Int) ≤ (i : Int)) = True := eq_true (by omega)
  have y1 := exNs_le_take l i
  have y2 := exHows_le 5 6 (l.take i)
  have y3 := exHows_le 10 10 (l.take i)
  by_cases hil : i < l.length
  case neg =>
    have t1 : ((i : Int) < (l.length : Int)) = False := eq_false (by omega)
    rw [List.drop_eq_nil_of_le (by omega), efL_nil] at hv
    rw [List.take_of_length_le (by omega)]
    replace hk := hk (a + exHows 5 6 l) (b + exHows 10 10 l) (c + 1 + exNs l) (fun _ => ⟨by simp; try omega, by simp; try omega, by simp; omega⟩)
    rw [← hv] at hk
    have us := an t1 t2
    exact W42
  have t1 : ((i : Int) < (l.length : Int)) = True := eq_true (by omega)
  obtain ⟨x, hx⟩ : ∃ x, l[i]? = some x := ⟨l[i], List.getElem?_eq_getElem hil⟩
  have hmx := List.mem_of_getElem? hx
  have z1 := exNs_take hx
  have z2 := exHows_take (a := 5) (b := 6) hx
  have z3 := exHows_take (a := 10) (b := 10) hx
  have z4 := exNs_le_take l (i + 1)
  have z5 := exHow_le 5 6 x
  have z6 := exHow_le 10 10 x
  have hcall := fun sc' hsc' G K hK => chk_at (ih x hmx sc' hsc') hr (a + exHows 5 6 (l.take i)) (b + exHows 10 10 (l.take i)) (c + 1 + exNs (l.take i)) G K hK
  have hcl0 := fun sc' hsc' K hK => chk_at0 (ih x hmx sc' hsc') hr (a + exHows 5 6 (l.take i)) (b + exHows 10 10 (l.take i)) (c + 1 + exNs (l.take i)) K hK
  obtain ⟨Hc, hHc, hcl, hcs⟩ : ∃ Hc, Hc = H.set id (cntW (a + exHows 5 6 (l.take i)) (b + exHows 10 10 (l.take i)) (c + 1 + exNs (l.take i))) ∧ Hc.length = H.length ∧ Closed H Hc := ⟨_, rfl, by simp, closed_set (closed_self H) (cntC_bel _ _ _ _)⟩
  rw [← hHc] at hcall hcl0 ⊢
  have hle1 : (H.length ≤ Hc.length) = True := eq_true (by omega)
  have hcs1 : Closed H Hc = True := eq_true hcs
  rw [drop_of_get hx, efL_cons] at hv
  by_cases i0 : i = 0
  · have t3 : ((0 : Int) < (i : Int)) = False := eq_false (by omega)
    rw [if_pos i0] at hv
    have hc := hcl0 sc (by omega)
    by_cases hz : efQ x sc = 0
    · have z0 : (efQ x sc = 0) = True := eq_true hz
      rw [if_pos hz] at hv
      rw [hz] at hc
      have c11 := hc; have us := an hx (an t1 (an t2 (an hle1 (an hcs1 (an z0 t3)))))
      (repeat' (first | with_reducible (first | refine And.intro ?_ ?_ | intro _ | (refine hKv _ _ (AWp_nop ?_); clear hKv Kv) | (refine hKA ?_; clear hKA hKB KA KB) | (refine hKB ?_; clear hKA hKB KA KB) | refine Wp ?_ | fail) | ((first | with_reducible (first | (refine hKv _ _ ?_; clear hKv Kv) | (refine Wr ?_; intro Kv hKv) | refine AWp_retR ?_ | fail) | refine Wc ?_ | fail); try simp (dsimp := false) only [go_sem, Nat.reduceAdd, Nat.reduceBEq, Nat.reduceEqDiff, Nat.reduceLT, Nat.reduceLeDiff, Nat.reduceMul, Int.reduceToNat, reduceCtorEq, ↓reduceIte, us, Bool.false_and, Bool.true_and, Int.reduceEq, Int.reduceLE, Int.reduceLT, Int.reduceNeg, List.map_cons, List.map_nil, exD_1, exV, not_false_eq_true, not_true_eq_false, roP_gen, strRow]) | (refine AWp_condC rfl ?_; intro KA KB hKA hKB; try simp only [onB_true, onB_false, onB_dec, onB_ndec, onB_not, onB_and, onB_or]) | (refine AWp_condA rfl ?_ ?_) | with_reducible (first | refine onB_of ?_ ?_ | rfl) | omega))
      all_goals first
        | omega
        | assumption
        | skip
      rename_i a' b' c' hcc
      obtain ⟨rfl, rfl, rfl⟩ := hcc
      have us := an hx (an t1 (an t2 (an hle1 hcs1)))
      refine W43 ?_ ?_ ?_ ?_ <;> try exact trivial
      all_goals first
        | omega
        | (refine ⟨i + 1, [], ⟨by omega, ?_⟩, by omega, ?_, by simp [hid], by omega⟩
           · rw [if_neg (by omega)]
             first | exact hv | (rw [hinn]; exact hv)
           · rw [z1, z2, z3]
             simp only [Int.natCast_add, Int.add_assoc, List.append_nil])
    · have z0 : (efQ x sc = 0) = False := eq_false hz
      rw [if_neg hz] at hv
      rw [← hv] at hk
      have c11 := hc; have us := an hx (an t1 (an t2 (an hle1 (an hcs1 (an z0 t3)))))
      exact W44
  have t3 : ((0 : Int) < (i : Int)) = True := eq_true (by omega)
  rw [if_neg i0] at hv
  have hinn : exInner h sc = sc := by rw [exInner, if_neg (by omega)]
  rw [hinn] at hv hk
  have hc := hcl0 sc (by omega)
  by_cases hz : efQ x sc = 0
  · have z0 : (efQ x sc = 0) = True := eq_true hz
    rw [if_pos hz] at hv
    rw [hz] at hc
    have c11 := hc; have us := an hx (an t1 (an t2 (an hle1 (an hcs1 (an z0 t3)))))
    (repeat' (first | with_reducible (first | refine And.intro ?_ ?_ | intro _ | (refine hKv _ _ (AWp_nop ?_); clear hKv Kv) | (refine hKA ?_; clear hKA hKB KA KB) | (refine hKB ?_; clear hKA hKB KA KB) | refine Wp ?_ | fail) | ((first | with_reducible (first | (refine hKv _ _ ?_; clear hKv Kv) | (refine Wr ?_; intro Kv hKv) | refine AWp_retR ?_ | fail) | refine Wc ?_ | fail); try simp (dsimp := false) only [go_sem, Nat.reduceAdd, Nat.reduceBEq, Nat.reduceEqDiff, Nat.reduceLT, Nat.reduceLeDiff, Nat.reduceMul, Int.reduceToNat, reduceCtorEq, ↓reduceIte, us, Bool.false_and, Bool.true_and, Int.reduceEq, Int.reduceLE, Int.reduceLT, Int.reduceNeg, List.map_cons, List.map_nil, exD_1, exV, not_false_eq_true, not_true_eq_false, roP_gen, strRow]) | (refine AWp_condC rfl ?_; intro KA KB hKA hKB; try simp only [onB_true, onB_false, onB_dec, onB_ndec, onB_not, onB_and, onB_or]) | (refine AWp_condA rfl ?_ ?_) | with_reducible (first | refine onB_of ?_ ?_ | rfl) | omega))
    all_goals first
      | omega
      | assumption
      | skip
    rename_i a' b' c' hcc
    obtain ⟨rfl, rfl, rfl⟩ := hcc
    have us := an hx (an t1 (an t2 (an hle1 hcs1)))
    refine W43 ?_ ?_ ?_ ?_ <;> try exact trivial
    all_goals first
      | omega
      | (refine ⟨i + 1, [], ⟨by omega, ?_⟩, by omega, ?_, by simp [hid], by omega⟩
         · rw [if_neg (by omega)]
           first | exact hv | (rw [hinn]; exact hv)
         · rw [z1, z2, z3]
           simp only [Int.natCast_add, Int.add_assoc, List.append_nil])
  · have z0 : (efQ x sc = 0) = False := eq_false hz
    rw [if_neg hz] at hv
    rw [← hv] at hk
    have c11 := hc; have us := an hx (an t1 (an t2 (an hle1 (an hcs1 (an z0 t3)))))
    exact W44
end Go.Proofs.YtdmkfkjdielmiaaDoor
namespace Go.Proofs.YtdmkfkjdielmiaaDoor
open Go Go.Proofs.YtdmkfkjdielmiaaDoor.Ab
variable [Glo] [U8] [CAr]
set_option maxHeartbeats 4000000
set_option maxRecDepth 20000
open FN44 in
theorem chk8_A (h : Xh) (l : List Ex) (hkind : h.k = 8) (ok : XhOk h) (hl : l.length ≤ 1048576) (hcount : coreMany h.k < 0 ∨ coreMany h.k = (l.length : Int)) (sc : List (List UInt8)) (hsc : sc.length + 2 ≤ 50000000) (hown : exOwn h l.length sc = 0) (id : Nat) (a b c : Int)
    (ih : ∀ x, x ∈ l → ∀ (sc' : List (List UInt8)), sc'.length ≤ sc.length + 2 → ChkAt id x sc')
    (H : Heap) (K : V → Heap → Prop) (hr : H[id]? = some (cntW a b c)) (hk : ∀ a' b' c', (efQ (.mk h l) sc = 0 → a' = a + exHow 5 6 (.mk h l) ∧ b' = b + exHow 10 10 (.mk h l) ∧ c' = c + exN (.mk h l)) → K (.d (.i .i64 (efQ (.mk h l) sc))) (H.set id (cntW a' b' c'))) :
    ACalls Tryd.prog 44 [exV h l, .d (.sl 1 (sc.map strRow)), .pt id 0 0 0] H K := by
  have hM := many_A 8
  have cm : coreMany 8 = -1 := rfl
  rw [efQ_eq (by omega) hcount, if_pos hown] at hk
  rw [exHow, exHow, exN, hkind] at hk
  rw [hkind, cm] at hcount
  have hO := fun H K hk => own_A h l ok hl sc (by omega) H K hk
  rw [hown, exV_k hkind] at hO
  rw [exV_k hkind]
  have hid := lt_of_get hr
  have hr' := hr
  rw [cntW, cntC] at hr'
  have hss : ∀ X Y, (H.set id X).set id Y = H.set id Y := fun X Y => List.set_set ..
  have hgs : ∀ X, (H.set id X)[id]? = some X := fun X => get_self hr X
  rw [cm] at hM
  refine We ?_
  have c21 := hM; have c22 := hO; have us := an hr' (an hss hgs)
  (repeat' (first | with_reducible (first | refine And.intro ?_ ?_ | intro _ | (refine hKv _ _ (AWp_nop ?_); clear hKv Kv) | (refine hKA ?_; clear hKA hKB KA KB) | (refine hKB ?_; clear hKA hKB KA KB) | refine Wp ?_ | fail) | ((first | with_reducible (first | (refine hKv _ _ ?_; clear hKv Kv) | (refine Wr ?_; intro Kv hKv) | refine AWp_retR ?_ | fail) | refine Wc ?_ | fail); try simp (dsimp := false) only [go_sem, Nat.reduceAdd, Nat.reduceBEq, Nat.reduceEqDiff, Nat.reduceLT, Nat.reduceLeDiff, Nat.reduceMul, Int.reduceToNat, reduceCtorEq, ↓reduceIte, us, Bool.false_and, Bool.true_and, Int.reduceEq, Int.reduceLE, Int.reduceLT, Int.reduceNeg, List.length_set, List.map_cons, List.map_nil, hid, not_false_eq_true, not_true_eq_false, wI_add]) | (refine AWp_condC rfl ?_; intro KA KB hKA hKB; try simp only [onB_true, onB_false, onB_dec, onB_ndec, onB_not, onB_and, onB_or]) | (refine AWp_condA rfl ?_ ?_) | with_reducible (first | refine onB_of ?_ ?_ | rfl) | omega))
  all_goals first
    | assumption
    | omega
    | skip
  refine AWp_whileG (fun i : Nat => i ≤ l.length ∧ efL (l.drop i) (if i = 0 then sc else exInner h sc) (exInner h sc) = efL l sc (exInner h sc))
    (fun i => [(1, .d (.sl 1 (sc.map strRow))), (2, .pt id 0 0 0), (3, .rp [.i .i64 8, .i .i64 h.it.k, .i .i64 h.it.n, .s h.it.s, .s h.nm, .s h.at_, .i .i64 h.n, .i .i64 h.ax, .i .i64 h.tk, .s h.tn, .sl 11 (l.map exD)]), (68, .d (.sl 11 (l.map exD))), (69, .d (.i .i64 l.length)), (70, .d (.i .i64 i))])
    (fun i => H.set id (cntW (a + exHows 5 6 (l.take i)) (b + exHows 10 10 (l.take i)) (c + 1 + exNs (l.take i)))) (fun i => l.length - i) 0 ⟨Nat.zero_le _, rfl⟩ ⟨[], ?_⟩ ?_ ?_ ?_ ?_
  · simp [cntW, cntC, exHows, exNs]
  · simp (dsimp := false) only [go_sem, Nat.reduceAdd, Nat.reduceBEq, Nat.reduceEqDiff, Nat.reduceLT, Nat.reduceLeDiff, Nat.reduceMul, Int.reduceToNat, reduceCtorEq, ↓reduceIte, not_true_eq_false, not_false_eq_true, Bool.true_and, Bool.false_and, Int.reduceEq, Int.reduceLT, Int.reduceLE, Int.reduceNeg, List.map_cons, List.map_nil, hr', hid, hss, hgs, wI_add, List.length_set]
    first | done | (simp [hid]; done)
  · intro i _; simp
  · intro i _; exact closed_set (closed_self H) (cntC_bel _ _ _ _)
  rintro i ⟨hi, hv⟩
  have t2 : ((0 : Int) ≤ (i : Int)) = True := eq_true (by omega)
  have y1 := exNs_le_take l i
  have y2 := exHows_le 5 6 (l.take i)
  have y3 := exHows_le 10 10 (l.take i)
  by_cases hil : i < l.length
  case neg =>
    have t1 : ((i : Int) < (l.length : Int)) = False := eq_false (by omega)
    rw [List.drop_eq_nil_of_le (by omega), efL_nil] at hv
    rw [List.take_of_length_le (by omega)]
    replace hk := hk (a + exHows 5 6 l) (b + exHows 10 10 l) (c + 1 + exNs l) (fun _ => ⟨by simp; try omega, by simp; try omega, by simp; omega⟩)
    rw [← hv] at hk
    have us := an t1 t2
    exact W42
  have t1 : ((i : Int) < (l.length : Int)) = True := eq_true (by omega)
  obtain ⟨x, hx⟩ : ∃ x, l[i]? = some x := ⟨l[i], List.getElem?_eq_getElem hil⟩
  have hmx := List.mem_of_getElem? hx
  have z1 := exNs_take hx
  have z2 := exHows_take (a := 5) (b := 6) hx
  have z3 := exHows_take (a := 10) (b := 10) hx
  have z4 := exNs_le_take l (i + 1)
  have z5 := exHow_le 5 6 x
  have z6 := exHow_le 10 10 x
  have hcall := fun sc' hsc' G K hK => chk_at (ih x hmx sc' hsc') hr (a + exHows 5 6 (l.take i)) (b + exHows 10 10 (l.take i)) (c + 1 + exNs (l.take i)) G K hK
  have hcl0 := fun sc' hsc' K hK => chk_at0 (ih x hmx sc' hsc') hr (a + exHows 5 6 (l.take i)) (b + exHows 10 10 (l.take i)) (c + 1 + exNs (l.take i)) K hK
  obtain ⟨Hc, hHc, hcl, hcs⟩ : ∃ Hc, Hc = H.set id (cntW (a + exHows 5 6 (l.take i)) (b + exHows 10 10 (l.take i)) (c + 1 + exNs (l.take i))) ∧ Hc.length = H.length ∧ Closed H Hc := ⟨_, rfl, by simp, closed_set (closed_self H) (cntC_bel _ _ _ _)⟩
  rw [← hHc] at hcall hcl0 ⊢
  have hle1 : (H.length ≤ Hc.length) = True := eq_true (by omega)
  have hcs1 : Closed H Hc = True := eq_true hcs
  rw [drop_of_get hx, efL_cons] at hv
  by_cases i0 : i = 0
  · have t3 : ((0 : Int) < (i : Int)) = False := eq_false (by omega)
    rw [if_pos i0] at hv
    have hc := hcl0 sc (by omega)
    by_cases hz : efQ x sc = 0
    · have z0 : (efQ x sc = 0) = True := eq_true hz
      rw [if_pos hz] at hv
      rw [hz] at hc
      have c11 := hc; have us := an hx (an t1 (an t2 (an hle1 (an hcs1 (an z0 t3)))))
      (repeat' (first | with_reducible (first | refine And.intro ?_ ?_ | intro _ | (refine hKv _ _ (AWp_nop ?_); clear hKv Kv) | (refine hKA ?_; clear hKA hKB KA KB) | (refine hKB ?_; clear hKA hKB KA KB) | refine Wp ?_ | fail) | ((first | with_reducible (first | (refine hKv _ _ ?_; clear hKv Kv) | (refine Wr ?_; intro Kv hKv) | refine AWp_retR ?_ | fail) | refine Wc ?_ | fail); try simp (dsimp := false) only [go_sem, Nat.reduceAdd, Nat.reduceBEq, Nat.reduceEqDiff, Nat.reduceLT, Nat.reduceLeDiff, Nat.reduceMul, Int.reduceToNat, reduceCtorEq, ↓reduceIte, us, Bool.false_and, Bool.true_and, Int.reduceEq, Int.reduceLE, Int.reduceLT, Int.reduceNeg, List.map_cons, List.map_nil, exD_1, exV, not_false_eq_true, not_true_eq_false, roP_gen, strRow]) | (refine AWp_condC rfl ?_; intro KA KB hKA hKB; try simp only [onB_true, onB_false, onB_dec, onB_ndec, onB_not, onB_and, onB_or]) | (refine AWp_condA rfl ?_ ?_) | with_reducible (first | refine onB_of ?_ ?_ | rfl) | omega))
      all_goals first
        | omega
        | assumption
        | skip
      rename_i a' b' c' hcc
      obtain ⟨rfl, rfl, rfl⟩ := hcc
      have us := an hx (an t1 (an t2 (an hle1 hcs1)))
      refine W43 ?_ ?_ ?_ ?_ <;> try exact trivial
      all_goals first
        | omega
        | (refine ⟨i + 1, [], ⟨by omega, ?_⟩, by omega, ?_, by simp [hid], by omega⟩
           · rw [if_neg (by omega)]
             first | exact hv | (rw [hinn]; exact hv)
           · rw [z1, z2, z3]
             simp only [Int.natCast_add, Int.add_assoc, List.append_nil])
    · have z0 : (efQ x sc = 0) = False := eq_false hz
      rw [if_neg hz] at hv
      rw [← hv] at hk
      have c11 := hc; have us := an hx (an t1 (an t2 (an hle1 (an hcs1 (an z0 t3)))))
      exact W44
  have t3 : ((0 : Int) < (i : Int)) = True := eq_true (by omega)
  rw [if_neg i0] at hv
  have hinn : exInner h sc = sc := by rw [exInner, if_neg (by omega)]
  rw [hinn] at hv hk
  have hc := hcl0 sc (by omega)
  by_cases hz : efQ x sc = 0
  · have z0 : (efQ x sc = 0) = True := eq_true hz
    rw [if_pos hz] at hv
    rw [hz] at hc
    have c11 := hc; have us := an hx (an t1 (an t2 (an hle1 (an hcs1 (an z0 t3)))))
    (repeat' (first | with_reducible (first | refine And.intro ?_ ?_ | intro _ | (refine hKv _ _ (AWp_nop ?_); clear hKv Kv) | (refine hKA ?_; clear hKA hKB KA KB) | (refine hKB ?_; clear hKA hKB KA KB) | refine Wp ?_ | fail) | ((first | with_reducible (first | (refine hKv _ _ ?_; clear hKv Kv) | (refine Wr ?_; intro Kv hKv) | refine AWp_retR ?_ | fail) | refine Wc ?_ | fail); try simp (dsimp := false) only [go_sem, Nat.reduceAdd, Nat.reduceBEq, Nat.reduceEqDiff, Nat.reduceLT, Nat.reduceLeDiff, Nat.reduceMul, Int.reduceToNat, reduceCtorEq, ↓reduceIte, us, Bool.false_and, Bool.true_and, Int.reduceEq, Int.reduceLE, Int.reduceLT, Int.reduceNeg, List.map_cons, List.map_nil, exD_1, exV, not_false_eq_true, not_true_eq_false, roP_gen, strRow]) | (refine AWp_condC rfl ?_; intro KA KB hKA hKB; try simp only [onB_true, onB_false, onB_dec, onB_ndec, onB_not, onB_and, onB_or]) | (refine AWp_condA rfl ?_ ?_) | with_reducible (first | refine onB_of ?_ ?_ | rfl) | omega))
    all_goals first
      | omega
      | assumption
      | skip
    rename_i a' b' c' hcc
    obtain ⟨rfl, rfl, rfl⟩ := hcc
    have us := an hx (an t1 (an t2 (an hle1 hcs1)))
    refine W43 ?_ ?_ ?_ ?_ <;> try exact trivial
    all_goals first
      | omega
      | (refine ⟨i + 1, [], ⟨by omega, ?_⟩, by omega, ?_, by simp [hid], by omega⟩
         · rw [if_neg (by omega)]
           first | exact hv | (rw [hinn]; exact hv)
         · rw [z1, z2, z3]
           simp only [Int.natCast_add, Int.add_assoc, List.append_nil])
  · have z0 : (efQ x sc = 0) = False := eq_false hz
    rw [if_neg hz] at hv
    rw [← hv] at hk
    have c11 := hc; have us := an hx (an t1 (an t2 (an hle1 (an hcs1 (an z0 t3)))))
    exact W44
end Go.Proofs.YtdmkfkjdielmiaaDoor
namespace Go.Proofs.YtdmkfkjdielmiaaDoor
open Go Go.Proofs.YtdmkfkjdielmiaaDoor.Ab
variable [Glo] [U8] [CAr]
set_option maxHeartbeats 4000000
set_option maxRecDepth 20000
open FN44 in
theorem chk9_A (h : Xh) (l : List Ex) (hkind : h.k = 9) (ok : XhOk h) (hl : l.length ≤ 1048576) (hcount : coreMany h.k < 0 ∨ coreMany h.k = (l.length : Int)) (sc : List (List UInt8)) (hsc : sc.length + 2 ≤ 50000000) (hown : exOwn h l.length sc = 0) (id : Nat) (a b c : Int)
    (ih : ∀ x, x ∈ l → ∀ (sc' : List (List UInt8)), sc'.length ≤ sc.length + 2 → ChkAt id x sc')
    (H : Heap) (K : V → Heap → Prop) (hr : H[id]? = some (cntW a b c)) (hk : ∀ a' b' c', (efQ (.mk h l) sc = 0 → a' = a + exHow 5 6 (.mk h l) ∧ b' = b + exHow 10 10 (.mk h l) ∧ c' = c + exN (.mk h l)) → K (.d (.i .i64 (efQ (.mk h l) sc))) (H.set id (cntW a' b' c'))) :
    ACalls Tryd.prog 44 [exV h l, .d (.sl 1 (sc.map strRow)), .pt id 0 0 0] H K := by
  have hM := many_A 9
  have cm : coreMany 9 = 1 := rfl
  rw [efQ_eq (by omega) hcount, if_pos hown] at hk
  rw [exHow, exHow, exN, hkind] at hk
  rw [hkind, cm] at hcount
  have hO := fun H K hk => own_A h l ok hl sc (by omega) H K hk
  rw [hown, exV_k hkind] at hO
  rw [exV_k hkind]
  have hid := lt_of_get hr
  have hr' := hr
  rw [cntW, cntC] at hr'
  have hss : ∀ X Y, (H.set id X).set id Y = H.set id Y := fun X Y => List.set_set ..
  have hgs : ∀ X, (H.set id X)[id]? = some X := fun X => get_self hr X
  have m2 : ((1 : Int) = (l.length : Int)) = True := eq_true (by omega)
  rw [cm] at hM
  refine We ?_
  have c21 := hM; have c22 := hO; have us := an m2 (an hr' (an hss hgs))
  (repeat' (first | with_reducible (first | refine And.intro ?_ ?_ | intro _ | (refine hKv _ _ (AWp_nop ?_); clear hKv Kv) | (refine hKA ?_; clear hKA hKB KA KB) | (refine hKB ?_; clear hKA hKB KA KB) | refine Wp ?_ | fail) | ((first | with_reducible (first | (refine hKv _ _ ?_; clear hKv Kv) | (refine Wr ?_; intro Kv hKv) | refine AWp_retR ?_ | fail) | refine Wc ?_ | fail); try simp (dsimp := false) only [go_sem, Nat.reduceAdd, Nat.reduceBEq, Nat.reduceEqDiff, Nat.reduceLT, Nat.reduceLeDiff, Nat.reduceMul, Int.reduceToNat, reduceCtorEq, ↓reduceIte, us, Bool.false_and, Bool.true_and, Int.reduceEq, Int.reduceLE, Int.reduceLT, Int.reduceNeg, List.length_set, List.map_cons, List.map_nil, hid, not_false_eq_true, not_true_eq_false, wI_add]) | (refine AWp_condC rfl ?_; intro KA KB hKA hKB; try simp only [onB_true, onB_false, onB_dec, onB_ndec, onB_not, onB_and, onB_or]) | (refine AWp_condA rfl ?_ ?_) | with_reducible (first | refine onB_of ?_ ?_ | rfl) | omega))
  all_goals first
    | assumption
    | omega
    | skip
  refine AWp_whileG (fun i : Nat => i ≤ l.length ∧ efL (l.drop i) (if i = 0 then sc else exInner h sc) (exInner h sc) = efL l sc (exInner h sc))
    (fun i => [(1, .d (.sl 1 (sc.map strRow))), (2, .pt id 0 0 0), (3, .rp [.i .i64 9, .i .i64 h.it.k, .i .i64 h.it.n, .s h.it.s, .s h.nm, .s h.at_, .i .i64 h.n, .i .i64 h.ax, .i .i64 h.tk, .s h.tn, .sl 11 (l.map exD)]), (68, .d (.sl 11 (l.map exD))), (69, .d (.i .i64 l.length)), (70, .d (.i .i64 i))])
    (fun i => H.set id (cntW (a + exHows 5 6 (l.take i)) (b + exHows 10 10 (l.take i)) (c + 1 + exNs (l.take i)))) (fun i => l.length - i) 0 ⟨Nat.zero_le _, rfl⟩ ⟨[], ?_⟩ ?_ ?_ ?_ ?_
  · simp [cntW, cntC, exHows, exNs]
  · simp (dsimp := false) only [go_sem, Nat.reduceAdd, Nat.reduceBEq, Nat.reduceEqDiff, Nat.reduceLT, Nat.reduceLeDiff, Nat.reduceMul, Int.reduceToNat, reduceCtorEq, ↓reduceIte, not_true_eq_false, not_false_eq_true, Bool.true_and, Bool.false_and, Int.reduceEq, Int.reduceLT, Int.reduceLE, Int.reduceNeg, List.map_cons, List.map_nil, m2, hr', hid, hss, hgs, wI_add, List.length_set]
    first | done | (simp [hid]; done)
  · intro i _; simp
  · intro i _; exact closed_set (closed_self H) (cntC_bel _ _ _ _)
  rintro i ⟨hi, hv⟩
  have t2 : ((0 : Int) ≤ (i : Int)) = True := eq_true (by omega)
  have y1 := exNs_le_take l i
  have y2 := exHows_le 5 6 (l.take i)
  have y3 := exHows_le 10 10 (l.take i)
  by_cases hil : i < l.length
  case neg =>
    have t1 : ((i : Int) < (l.length : Int)) = False := eq_false (by omega)
    rw [List.drop_eq_nil_of_le (by omega), efL_nil] at hv
    rw [List.take_of_length_le (by omega)]
    replace hk := hk (a + exHows 5 6 l) (b + exHows 10 10 l) (c + 1 + exNs l) (fun _ => ⟨by simp; try omega, by simp; try omega, by simp; omega⟩)
    rw [← hv] at hk
    have us := an t1 t2
    exact W42
  have t1 : ((i : Int) < (l.length : Int)) = True := eq_true (by omega)
  obtain ⟨x, hx⟩ : ∃ x, l[i]? = some x := ⟨l[i], List.getElem?_eq_getElem hil⟩
  have hmx := List.mem_of_getElem? hx
  have z1 := exNs_take hx
  have z2 := exHows_take (a := 5) (b := 6) hx
  have z3 := exHows_take (a := 10) (b := 10) hx
  have z4 := exNs_le_take l (i + 1)
  have z5 := exHow_le 5 6 x
  have z6 := exHow_le 10 10 x
  have hcall := fun sc' hsc' G K hK => chk_at (ih x hmx sc' hsc') hr (a + exHows 5 6 (l.take i)) (b + exHows 10 10 (l.take i)) (c + 1 + exNs (l.take i)) G K hK
  have hcl0 := fun sc' hsc' K hK => chk_at0 (ih x hmx sc' hsc') hr (a + exHows 5 6 (l.take i)) (b + exHows 10 10 (l.take i)) (c + 1 + exNs (l.take i)) K hK
  obtain ⟨Hc, hHc, hcl, hcs⟩ : ∃ Hc, Hc = H.set id (cntW (a + exHows 5 6 (l.take i)) (b + exHows 10 10 (l.take i)) (c + 1 + exNs (l.take i))) ∧ Hc.length = H.length ∧ Closed H Hc := ⟨_, rfl, by simp, closed_set (closed_self H) (cntC_bel _ _ _ _)⟩
  rw [← hHc] at hcall hcl0 ⊢
  have hle1 : (H.length ≤ Hc.length) = True := eq_true (by omega)
  have hcs1 : Closed H Hc = True := eq_true hcs
  rw [drop_of_get hx, efL_cons] at hv
  by_cases i0 : i = 0
  · have t3 : ((0 : Int) < (i : Int)) = False := eq_false (by omega)
    rw [if_pos i0] at hv
    have hc := hcl0 sc (by omega)
    by_cases hz : efQ x sc = 0
    · have z0 : (efQ x sc = 0) = True := eq_true hz
      rw [if_pos hz] at hv
      rw [hz] at hc
      have c11 := hc; have us := an hx (an t1 (an t2 (an hle1 (an hcs1 (an z0 t3)))))
      (repeat' (first | with_reducible (first | refine And.intro ?_ ?_ | intro _ | (refine hKv _ _ (AWp_nop ?_); clear hKv Kv) | (refine hKA ?_; clear hKA hKB KA KB) | (refine hKB ?_; clear hKA hKB KA KB) | refine Wp ?_ | fail) | ((first | with_reducible (first | (refine hKv _ _ ?_; clear hKv Kv) | (refine Wr ?_; intro Kv hKv) | refine AWp_retR ?_ | fail) | refine Wc ?_ | fail); try simp (dsimp := false) only [go_sem, Nat.reduceAdd, Nat.reduceBEq, Nat.reduceEqDiff, Nat.reduceLT, Nat.reduceLeDiff, Nat.reduceMul, Int.reduceToNat, reduceCtorEq, ↓reduceIte, us, Bool.false_and, Bool.true_and, Int.reduceEq, Int.reduceLE, Int.reduceLT, Int.reduceNeg, List.map_cons, List.map_nil, exD_1, exV, not_false_eq_true, not_true_eq_false, roP_gen, strRow]) | (refine AWp_condC rfl ?_; intro KA KB hKA hKB; try simp only [onB_true, onB_false, onB_dec, onB_ndec, onB_not, onB_and, onB_or]) | (refine AWp_condA rfl ?_ ?_) | with_reducible (first | refine onB_of ?_ ?_ | rfl) | omega))
      all_goals first
        | omega
        | assumption
        | skip
      rename_i a' b' c' hcc
      obtain ⟨rfl, rfl, rfl⟩ := hcc
      have us := an hx (an t1 (an t2 (an hle1 hcs1)))
      refine W43 ?_ ?_ ?_ ?_ <;> try exact trivial
      all_goals first
        | omega
        | (refine ⟨i + 1, [], ⟨by omega, ?_⟩, by omega, ?_, by simp [hid], by omega⟩
           · rw [if_neg (by omega)]
             first | exact hv | (rw [hinn]; exact hv)
           · rw [z1, z2, z3]
             simp only [Int.natCast_add, Int.add_assoc, List.append_nil])
    · have z0 : (efQ x sc = 0) = False := eq_false hz
      rw [if_neg hz] at hv
      rw [← hv] at hk
      have c11 := hc; have us := an hx (an t1 (an t2 (an hle1 (an hcs1 (an z0 t3)))))
      exact W44
  have t3 : ((0 : Int) < (i : Int)) = True := eq_true (by omega)
  rw [if_neg i0] at hv
  exact absurd hil (by omega)
end Go.Proofs.YtdmkfkjdielmiaaDoor
