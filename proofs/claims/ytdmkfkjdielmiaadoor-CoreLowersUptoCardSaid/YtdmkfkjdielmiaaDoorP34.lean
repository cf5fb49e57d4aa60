/- The core: core.check of an expression of kind 10. No condition but that the tables of package unicode/utf8 and of the core's functions are there. -/
import Derived.Test.YtdmkfkjdielmiaaDoorP19
import Derived.Test.YtdmkfkjdielmiaaDoorP25
import Derived.Test.YtdmkfkjdielmiaaDoorP28
import Derived.Test.YtdmkfkjdielmiaaDoorP30
import Derived.Test.YtdmkfkjdielmiaaDoorP31
import Derived.Test.YtdmkfkjdielmiaaDoorP32
import Derived.Test.YtdmkfkjdielmiaaDoorP33
set_option linter.all false
set_option linter.unusedSimpArgs false
set_option linter.unusedVariables false
namespace Go.Proofs.YtdmkfkjdielmiaaDoor
open Go Go.Proofs.YtdmkfkjdielmiaaDoor.Ab
variable [Glo] [U8] [CAr]
set_option maxHeartbeats 4000000
set_option maxRecDepth 20000
open FN44 in
theorem chk10_A (h : Xh) (l : List Ex) (hkind : h.k = 10) (ok : XhOk h) (hl : l.length ≤ 1048576) (hcount : coreMany h.k < 0 ∨ coreMany h.k = (l.length : Int)) (sc : List (List UInt8)) (hsc : sc.length + 2 ≤ 50000000) (hown : exOwn h l.length sc = 0) (id : Nat) (a b c : Int)
    (ih : ∀ x, x ∈ l → ∀ (sc' : List (List UInt8)), sc'.length ≤ sc.length + 2 → ChkAt id x sc')
    (H : Heap) (K : V → Heap → Prop) (hr : H[id]? = some (cntW a b c)) (hk : ∀ a' b' c', (efQ (.mk h l) sc = 0 → a' = a + exHow 5 6 (.mk h l) ∧ b' = b + exHow 10 10 (.mk h l) ∧ c' = c + exN (.mk h l)) → K (.d (.i .i64 (efQ (.mk h l) sc))) (H.set id (cntW a' b' c'))) :
    ACalls Tryd.prog 44 [exV h l, .d (.sl 1 (sc.map strRow)), .pt id 0 0 0] H K := by
  have hM := many_A 10
  have cm : coreMany 10 = 1 := rfl
  rw [efQ_eq (by omega) hcount, if_pos hown] at hk
  rw [exHow, exHow, exN, hkind] at hk
  rw [hkind, cm] at hcount
  have hO := fun H K hk => own_A h l ok hl sc (by omega) H K hk
  rw [hown, exV_k hkind] at hO
  rw [exV_k hkind]
  have hid := lt_of_get hr
  have hr' := hr
  rw [cntW, cntC] at hr'
  have hss : ∀ X Y, (H.set id X).set id Y = H.set id Y := fun X Y => List.set_set ..
  have hgs : ∀ X, (H.set id X)[id]? = some X := fun X => get_self hr X
  have m2 : ((1 : Int) = (l.length : Int)) = True := eq_true (by omega)
  rw [cm] at hM
  refine We ?_
  have c21 := hM; have c22 := hO; have us := an m2 (an hr' (an hss hgs))
  (repeat' (first | with_reducible (first | refine And.intro ?_ ?_ | intro _ | (refine hKv _ _ (AWp_nop ?_); clear hKv Kv) | (refine hKA ?_; clear hKA hKB KA KB) | (refine hKB ?_; clear hKA hKB KA KB) | refine Wp ?_ | fail) | ((first | with_reducible (first | (refine hKv _ _ ?_; clear hKv Kv) | (refine Wr ?_; intro Kv hKv) | refine AWp_retR ?_ | fail) | refine Wc ?_ | fail); try simp (dsimp := false) only [go_sem, Nat.reduceAdd, Nat.reduceBEq, Nat.reduceEqDiff, Nat.reduceLT, Nat.reduceLeDiff, Nat.reduceMul, Int.reduceToNat, reduceCtorEq, ↓reduceIte, us, Bool.false_and, Bool.true_and, Int.reduceEq, Int.reduceLE, Int.reduceLT, Int.reduceNeg, List.length_set, List.map_cons, List.map_nil, hid, not_false_eq_true, not_true_eq_false, wI_add]) | (refine AWp_condC rfl ?_; intro KA KB hKA hKB; try simp only [onB_true, onB_false, onB_dec, onB_ndec, onB_not, onB_and, onB_or]) | (refine AWp_condA rfl ?_ ?_) | with_reducible (first | refine onB_of ?_ ?_ | rfl) | omega))
  all_goals first
    | assumption
    | omega
    | skip
  refine AWp_whileG (fun i : Nat => i ≤ l.length ∧ efL (l.drop i) (if i = 0 then sc else exInner h sc) (exInner h sc) = efL l sc (exInner h sc))
    (fun i => [(1, .d (.sl 1 (sc.map strRow))), (2, .pt id 0 0 0), (3, .rp [.i .i64 10, .i .i64 h.it.k, .i .i64 h.it.n, .s h.it.s, .s h.nm, .s h.at_, .i .i64 h.n, .i .i64 h.ax, .i .i64 h.tk, .s h.tn, .sl 11 (l.map exD)]), (68, .d (.sl 11 (l.map exD))), (69, .d (.i .i64 l.length)), (70, .d (.i .i64 i))])
    (fun i => H.set id (cntW (a + exHows 5 6 (l.take i)) ((b + 1) + exHows 10 10 (l.take i)) (c + 1 + exNs (l.take i)))) (fun i => l.length - i) 0 ⟨Nat.zero_le _, rfl⟩ ⟨[], ?_⟩ ?_ ?_ ?_ ?_
  · simp [cntW, cntC, exHows, exNs]
  · simp (dsimp := false) only [go_sem, Nat.reduceAdd, Nat.reduceBEq, Nat.reduceEqDiff, Nat.reduceLT, Nat.reduceLeDiff, Nat.reduceMul, Int.reduceToNat, reduceCtorEq, ↓reduceIte, not_true_eq_false, not_false_eq_true, Bool.true_and, Bool.false_and, Int.reduceEq, Int.reduceLT, Int.reduceLE, Int.reduceNeg, List.map_cons, List.map_nil, m2, hr', hid, hss, hgs, wI_add, List.length_set]
    first | done | (simp [hid]; done)
  · intro i _; simp
  · intro i _; exact closed_set (closed_self H) (cntC_bel _ _ _ _)
  rintro i ⟨hi, hv⟩
  have t2 : ((0 : Int) ≤ (i : Int)) = True := eq_true (by omega)
  have y1 := exNs_le_take l i
  have y2 := exHows_le 5 6 (l.take i)
  have y3 := exHows_le 10 10 (l.take i)
  by_cases hil : i < l.length
  case neg =>
    have t1 : ((i : Int) < (l.length : Int)) = False := eq_false (by omega)
    rw [List.drop_eq_nil_of_le (by omega), efL_nil] at hv
    rw [List.take_of_length_le (by omega)]
    replace hk := hk (a + exHows 5 6 l) ((b + 1) + exHows 10 10 l) (c + 1 + exNs l) (fun _ => ⟨by simp; try omega, by simp; try omega, by simp; omega⟩)
    rw [← hv] at hk
    have us := an t1 t2
    exact W42
  have t1 : ((i : Int) < (l.length : Int)) = True := eq_true (by omega)
  obtain ⟨x, hx⟩ : ∃ x, l[i]? = some x := ⟨l[i], List.getElem?_eq_getElem hil⟩
  have hmx := List.mem_of_getElem? hx
  have z1 := exNs_take hx
  have z2 := exHows_take (a := 5) (b := 6) hx
  have z3 := exHows_take (a := 10) (b := 10) hx
  have z4 := exNs_le_take l (i + 1)
  have z5 := exHow_le 5 6 x
  have z6 := exHow_le 10 10 x
  have hcall := fun sc' hsc' G K hK => chk_at (ih x hmx sc' hsc') hr (a + exHows 5 6 (l.take i)) ((b + 1) + exHows 10 10 (l.take i)) (c + 1 + exNs (l.take i)) G K hK
  have hcl0 := fun sc' hsc' K hK => chk_at0 (ih x hmx sc' hsc') hr (a + exHows 5 6 (l.take i)) ((b + 1) + exHows 10 10 (l.take i)) (c + 1 + exNs (l.take i)) K hK
  obtain ⟨Hc, hHc, hcl, hcs⟩ : ∃ Hc, Hc = H.set id (cntW (a + exHows 5 6 (l.take i)) ((b + 1) + exHows 10 10 (l.take i)) (c + 1 + exNs (l.take i))) ∧ Hc.length = H.length ∧ Closed H Hc := ⟨_, rfl, by simp, closed_set (closed_self H) (cntC_bel _ _ _ _)⟩
  rw [← hHc] at hcall hcl0 ⊢
  have hle1 : (H.length ≤ Hc.length) = True := eq_true (by omega)
  have hcs1 : Closed H Hc = True := eq_true hcs
  rw [drop_of_get hx, efL_cons] at hv
  by_cases i0 : i = 0
  · have t3 : ((0 : Int) < (i : Int)) = False := eq_false (by omega)
    rw [if_pos i0] at hv
    have hc := hcl0 sc (by omega)
    by_cases hz : efQ x sc = 0
    · have z0 : (efQ x sc = 0) = True := eq_true hz
      rw [if_pos hz] at hv
      rw [hz] at hc
      have c11 := hc; have us := an hx (an t1 (an t2 (an hle1 (an hcs1 (an z0 t3)))))
      (repeat' (first | with_reducible (first | refine And.intro ?_ ?_ | intro _ | (refine hKv _ _ (AWp_nop ?_); clear hKv Kv) | (refine hKA ?_; clear hKA hKB KA KB) | (refine hKB ?_; clear hKA hKB KA KB) | refine Wp ?_ | fail) | ((first | with_reducible (first | (refine hKv _ _ ?_; clear hKv Kv) | (refine Wr ?_; intro Kv hKv) | refine AWp_retR ?_ | fail) | refine Wc ?_ | fail); try simp (dsimp := false) only [go_sem, Nat.reduceAdd, Nat.reduceBEq, Nat.reduceEqDiff, Nat.reduceLT, Nat.reduceLeDiff, Nat.reduceMul, Int.reduceToNat, reduceCtorEq, ↓reduceIte, us, Bool.false_and, Bool.true_and, Int.reduceEq, Int.reduceLE, Int.reduceLT, Int.reduceNeg, List.map_cons, List.map_nil, exD_1, exV, not_false_eq_true, not_true_eq_false, roP_gen, strRow]) | (refine AWp_condC rfl ?_; intro KA KB hKA hKB; try simp only [onB_true, onB_false, onB_dec, onB_ndec, onB_not, onB_and, onB_or]) | (refine AWp_condA rfl ?_ ?_) | with_reducible (first | refine onB_of ?_ ?_ | rfl) | omega))
      all_goals first
        | omega
        | assumption
        | skip
      rename_i a' b' c' hcc
      obtain ⟨rfl, rfl, rfl⟩ := hcc
      have us := an hx (an t1 (an t2 (an hle1 hcs1)))
      refine W43 ?_ ?_ ?_ ?_ <;> try exact trivial
      all_goals first
        | omega
        | (refine ⟨i + 1, [], ⟨by omega, ?_⟩, by omega, ?_, by simp [hid], by omega⟩
           · rw [if_neg (by omega)]
             first | exact hv | (rw [hinn]; exact hv)
           · rw [z1, z2, z3]
             simp only [Int.natCast_add, Int.add_assoc, List.append_nil])
    · have z0 : (efQ x sc = 0) = False := eq_false hz
      rw [if_neg hz] at hv
      rw [← hv] at hk
      have c11 := hc; have us := an hx (an t1 (an t2 (an hle1 (an hcs1 (an z0 t3)))))
      exact W44
  have t3 : ((0 : Int) < (i : Int)) = True := eq_true (by omega)
  rw [if_neg i0] at hv
  exact absurd hil (by omega)
end Go.Proofs.YtdmkfkjdielmiaaDoor
namespace Go.Proofs.YtdmkfkjdielmiaaDoor
open Go Go.Proofs.YtdmkfkjdielmiaaDoor.Ab
variable [Glo] [U8] [CAr]
set_option maxHeartbeats 4000000
set_option maxRecDepth 20000
open FN44 in
theorem chk11_A (h : Xh) (l : List Ex) (hkind : h.k = 11) (ok : XhOk h) (hl : l.length ≤ 1048576) (hcount : coreMany h.k < 0 ∨ coreMany h.k = (l.length : Int)) (sc : List (List UInt8)) (hsc : sc.length + 2 ≤ 50000000) (hown : exOwn h l.length sc = 0) (id : Nat) (a b c : Int)
    (ih : ∀ x, x ∈ l → ∀ (sc' : List (List UInt8)), sc'.length ≤ sc.length + 2 → ChkAt id x sc')
    (H : Heap) (K : V → Heap → Prop) (hr : H[id]? = some (cntW a b c)) (hk : ∀ a' b' c', (efQ (.mk h l) sc = 0 → a' = a + exHow 5 6 (.mk h l) ∧ b' = b + exHow 10 10 (.mk h l) ∧ c' = c + exN (.mk h l)) → K (.d (.i .i64 (efQ (.mk h l) sc))) (H.set id (cntW a' b' c'))) :
    ACalls Tryd.prog 44 [exV h l, .d (.sl 1 (sc.map strRow)), .pt id 0 0 0] H K := by
  have hM := many_A 11
  have cm : coreMany 11 = 0 := rfl
  rw [efQ_eq (by omega) hcount, if_pos hown] at hk
  rw [exHow, exHow, exN, hkind] at hk
  rw [hkind, cm] at hcount
  have hO := fun H K hk => own_A h l ok hl sc (by omega) H K hk
  rw [hown, exV_k hkind] at hO
  rw [exV_k hkind]
  have hid := lt_of_get hr
  have hr' := hr
  rw [cntW, cntC] at hr'
  have hss : ∀ X Y, (H.set id X).set id Y = H.set id Y := fun X Y => List.set_set ..
  have hgs : ∀ X, (H.set id X)[id]? = some X := fun X => get_self hr X
  have m2 : ((0 : Int) = (l.length : Int)) = True := eq_true (by omega)
  rw [cm] at hM
  refine We ?_
  have c21 := hM; have c22 := hO; have us := an m2 (an hr' (an hss hgs))
  (repeat' (first | with_reducible (first | refine And.intro ?_ ?_ | intro _ | (refine hKv _ _ (AWp_nop ?_); clear hKv Kv) | (refine hKA ?_; clear hKA hKB KA KB) | (refine hKB ?_; clear hKA hKB KA KB) | refine Wp ?_ | fail) | ((first | with_reducible (first | (refine hKv _ _ ?_; clear hKv Kv) | (refine Wr ?_; intro Kv hKv) | refine AWp_retR ?_ | fail) | refine Wc ?_ | fail); try simp (dsimp := false) only [go_sem, Nat.reduceAdd, Nat.reduceBEq, Nat.reduceEqDiff, Nat.reduceLT, Nat.reduceLeDiff, Nat.reduceMul, Int.reduceToNat, reduceCtorEq, ↓reduceIte, us, Bool.false_and, Bool.true_and, Int.reduceEq, Int.reduceLE, Int.reduceLT, Int.reduceNeg, List.length_set, List.map_cons, List.map_nil, hid, not_false_eq_true, not_true_eq_false, wI_add]) | (refine AWp_condC rfl ?_; intro KA KB hKA hKB; try simp only [onB_true, onB_false, onB_dec, onB_ndec, onB_not, onB_and, onB_or]) | (refine AWp_condA rfl ?_ ?_) | with_reducible (first | refine onB_of ?_ ?_ | rfl) | omega))
  all_goals first
    | assumption
    | omega
    | skip
  refine AWp_whileG (fun i : Nat => i ≤ l.length ∧ efL (l.drop i) (if i = 0 then sc else exInner h sc) (exInner h sc) = efL l sc (exInner h sc))
    (fun i => [(1, .d (.sl 1 (sc.map strRow))), (2, .pt id 0 0 0), (3, .rp [.i .i64 11, .i .i64 h.it.k, .i .i64 h.it.n, .s h.it.s, .s h.nm, .s h.at_, .i .i64 h.n, .i .i64 h.ax, .i .i64 h.tk, .s h.tn, .sl 11 (l.map exD)]), (68, .d (.sl 11 (l.map exD))), (69, .d (.i .i64 l.length)), (70, .d (.i .i64 i))])
    (fun i => H.set id (cntW (a + exHows 5 6 (l.take i)) (b + exHows 10 10 (l.take i)) (c + 1 + exNs (l.take i)))) (fun i => l.length - i) 0 ⟨Nat.zero_le _, rfl⟩ ⟨[], ?_⟩ ?_ ?_ ?_ ?_
  · simp [cntW, cntC, exHows, exNs]
  · simp (dsimp := false) only [go_sem, Nat.reduceAdd, Nat.reduceBEq, Nat.reduceEqDiff, Nat.reduceLT, Nat.reduceLeDiff, Nat.reduceMul, Int.reduceToNat, reduceCtorEq, ↓reduceIte, not_true_eq_false, not_false_eq_true, Bool.true_and, Bool.false_and, Int.reduceEq, Int.reduceLT, Int.reduceLE, Int.reduceNeg, List.map_cons, List.map_nil, m2, hr', hid, hss, hgs, wI_add, List.length_set]
    first | done | (simp [hid]; done)
  · intro i _; simp
  · intro i _; exact closed_set (closed_self H) (cntC_bel _ _ _ _)
  rintro i ⟨hi, hv⟩
  have t2 : ((0 : Int) ≤ (i : Int)) = True := eq_true (by omega)
  have y1 := exNs_le_take l i
  have y2 := exHows_le 5 6 (l.take i)
  have y3 := exHows_le 10 10 (l.take i)
  by_cases hil : i < l.length
  case neg =>
    have t1 : ((i : Int) < (l.length : Int)) = False := eq_false (by omega)
    rw [List.drop_eq_nil_of_le (by omega), efL_nil] at hv
    rw [List.take_of_length_le (by omega)]
    replace hk := hk (a + exHows 5 6 l) (b + exHows 10 10 l) (c + 1 + exNs l) (fun _ => ⟨by simp; try omega, by simp; try omega, by simp; omega⟩)
    rw [← hv] at hk
    have us := an t1 t2
    exact W42
  exact absurd hil (by omega)
end Go.Proofs.YtdmkfkjdielmiaaDoor
namespace Go.Proofs.YtdmkfkjdielmiaaDoor
open Go Go.Proofs.YtdmkfkjdielmiaaDoor.Ab
variable [Glo] [U8] [CAr]
set_option maxHeartbeats 4000000
set_option maxRecDepth 20000
open FN44 in
theorem checkS_A (h : Xh) (l : List Ex) (ok : XhOk h) (hl : l.length ≤ 1048576) (sc : List (List UInt8)) (hsc : sc.length + 2 ≤ 50000000) (id : Nat) (a b c : Int)
    (ih : ∀ x, x ∈ l → ∀ (sc' : List (List UInt8)), sc'.length ≤ sc.length + 2 → ChkAt id x sc')
    (H : Heap) (K : V → Heap → Prop) (hr : H[id]? = some (cntW a b c)) (hk : ∀ a' b' c', (efQ (.mk h l) sc = 0 → a' = a + exHow 5 6 (.mk h l) ∧ b' = b + exHow 10 10 (.mk h l) ∧ c' = c + exN (.mk h l)) → K (.d (.i .i64 (efQ (.mk h l) sc))) (H.set id (cntW a' b' c'))) :
    ACalls Tryd.prog 44 [exV h l, .d (.sl 1 (sc.map strRow)), .pt id 0 0 0] H K := by
  have hid := lt_of_get hr
  have hr' := hr
  rw [cntW, cntC] at hr'
  have hsm : H.set id (cntW a b c) = H := set_same hr
  by_cases h1 : 1 ≤ h.k
  case neg =>
    have t1 : (h.k < 1) = True := eq_true (by omega)
    have hq : efQ (.mk h l) sc = 3 := by rw [efQ, if_pos (by omega)]
    rw [hq] at hk
    replace hk := hk a b c (fun e => absurd e (by decide))
    rw [hsm] at hk
    refine We ?_
    have us := t1
    exact W37
  have t1 : (h.k < 1) = False := eq_false (by omega)
  by_cases h2 : h.k ≤ 11
  case neg =>
    have t2 : (11 < h.k) = True := eq_true (by omega)
    have hq : efQ (.mk h l) sc = 3 := by rw [efQ, if_pos (by omega)]
    rw [hq] at hk
    replace hk := hk a b c (fun e => absurd e (by decide))
    rw [hsm] at hk
    refine We ?_
    have us := an t1 t2
    exact W37
  have t2 : (11 < h.k) = False := eq_false (by omega)
  have hM := many_A h.k
  by_cases h3 : 0 ≤ coreMany h.k ∧ coreMany h.k ≠ (l.length : Int)
  · have t3 : (0 ≤ coreMany h.k) = True := eq_true h3.1
    have t4 : (coreMany h.k = (l.length : Int)) = False := eq_false h3.2
    have hq : efQ (.mk h l) sc = 11 := by rw [efQ, if_neg (by omega), if_pos h3]
    rw [hq] at hk
    replace hk := hk a b (c + 1) (fun e => absurd e (by decide))
    rw [cntW, cntC] at hk
    refine We ?_
    have c21 := hM; have us := an t1 (an t2 (an t3 (an t4 hr')))
    exact W45
  have hcount : coreMany h.k < 0 ∨ coreMany h.k = (l.length : Int) := by omega
  by_cases hown : exOwn h l.length sc = 0
  case neg =>
    have hO := own_A h l ok hl sc (by omega)
    have t5 : (exOwn h l.length sc = 0) = False := eq_false hown
    have hq : efQ (.mk h l) sc = exOwn h l.length sc := by rw [efQ_eq ⟨h1, h2⟩ hcount, if_neg hown]
    rw [hq] at hk
    replace hk := hk a b (c + 1) (fun e => absurd e hown)
    rw [cntW, cntC] at hk
    rcases hcount with h4 | h4
    · have t3 : (0 ≤ coreMany h.k) = False := eq_false (by omega)
      refine We ?_
      have c21 := hM; have c22 := hO; have us := an t1 (an t2 (an t3 (an t5 hr')))
      exact W45
    · have t3 : (0 ≤ coreMany h.k) = True := eq_true (by omega)
      have t4 : (coreMany h.k = (l.length : Int)) = True := eq_true h4
      refine We ?_
      have c21 := hM; have c22 := hO; have us := an t1 (an t2 (an t3 (an t4 (an t5 hr'))))
      exact W45
  have : h.k = 1 ∨ h.k = 2 ∨ h.k = 3 ∨ h.k = 4 ∨ h.k = 5 ∨ h.k = 6 ∨ h.k = 7 ∨ h.k = 8 ∨ h.k = 9 ∨ h.k = 10 ∨ h.k = 11 := by omega
  rcases this with e | e | e | e | e | e | e | e | e | e | e
  · exact chk1_A h l e ok hl hcount sc hsc hown id a b c ih H K hr hk
  · exact chk2_A h l e ok hl hcount sc hsc hown id a b c ih H K hr hk
  · exact chk3_A h l e ok hl hcount sc hsc hown id a b c ih H K hr hk
  · exact chk4_A h l e ok hl hcount sc hsc hown id a b c ih H K hr hk
  · exact chk5_A h l e ok hl hcount sc hsc hown id a b c ih H K hr hk
  · exact chk6_A h l e ok hl hcount sc hsc hown id a b c ih H K hr hk
  · exact chk7_A h l e ok hl hcount sc hsc hown id a b c ih H K hr hk
  · exact chk8_A h l e ok hl hcount sc hsc hown id a b c ih H K hr hk
  · exact chk9_A h l e ok hl hcount sc hsc hown id a b c ih H K hr hk
  · exact chk10_A h l e ok hl hcount sc hsc hown id a b c ih H K hr hk
  · exact chk11_A h l e ok hl hcount sc hsc hown id a b c ih H K hr hk
theorem check_A : ∀ (n : Nat) (x : Ex), exH x ≤ n → ExOk x → ∀ (sc : List (List UInt8)) (id : Nat), sc.length + 2 * exH x ≤ 50000000 → ChkAt id x sc
  | 0, x, hn, _, _, _, _ => by rw [exH_eq] at hn; omega
  | n + 1, .mk h l, hn, ok, sc, id, hsc => fun a b c H K hr hk => by
    refine checkS_A h l ok.h ok.len sc (by rw [exH_mk] at hsc; omega) id a b c (fun x hx sc' hsc' => ?_) H K hr hk
    have := exH_lt (x := .mk h l) hx
    exact check_A n x (by omega) (ok.mem x hx) sc' id (by omega)
theorem sees_nil2 {P : Program} {f : Nat} {v u : V} {l : List (List UInt8)} (hl : l = []) {H : Heap} {K : V → Heap → Prop} (h : ACalls P f [v, .d (.sl 1 (l.map strRow)), u] H K) : ACalls P f [v, .d (.c (.slice none 0 0)), u] H K := fun w σ args hw hln hr => h w σ args hw hln fun j c z hc hz => by
  match j, hc with
  | 0, hc => exact hr 0 c z hc hz
  | 1, hc =>
    simp at hc
    subst hc hl
    exact Sees.nil _ _ _ _ _ _ (hr 1 _ z rfl hz)
  | 2, hc => exact hr 2 c z hc hz
theorem sees_nil1 {P : Program} {f : Nat} {v : V} {l : List (List UInt8)} (hl : l = []) {H : Heap} {K : V → Heap → Prop} (h : ACalls P f [v, .d (.sl 1 (l.map strRow))] H K) : ACalls P f [v, .d (.c (.slice none 0 0))] H K := fun w σ args hw hln hr => h w σ args hw hln fun j c z hc hz => by
  match j, hc with
  | 0, hc => exact hr 0 c z hc hz
  | 1, hc =>
    simp at hc
    subst hc hl
    exact Sees.nil _ _ _ _ _ _ (hr 1 _ z rfl hz)
namespace FN16
def tks : Nat → List Nat | 0 => [1] | 1 => [1, 3] | 2 => [3, 4] | 3 => [3, 4, 11] | 4 => [2] | 5 => [31] | 6 => [2] | 7 => [2] | _ => []
def tmu : List Nat := [6]
def tin : List Nat := [0]
abbrev tfn := @Tryd.func16
end FN16
attribute [go_sem] FN16.tks FN16.tmu FN16.tin Tryd.ntmps16 Tryd.results16
open FN16 in
theorem coreCheck_A (x : Ex) (ok : ExOk x) (hn : exH x ≤ 10000000) (H : Heap) (K : V → Heap → Prop) (hk : K (.d (.i .i64 (coreQ x))) H) : ACalls Tryd.prog 16 [exV x.h x.args] H K := by
  have hC0 : ∀ K : V → Heap → Prop, (∀ a' b' c', (efQ x [] = 0 → a' = 0 + (exHow 5 6 x : Int) ∧ b' = 0 + (exHow 10 10 x : Int) ∧ c' = 0 + (exN x : Int)) → K (.d (.i .i64 (efQ x []))) (H ++ [cntW a' b' c'])) → ACalls Tryd.prog 44 [exV x.h x.args, .d (.c (.slice none 0 0)), .pt H.length 0 0 0] (H ++ [cntC 0 0 0]) K := fun K hK =>
    sees_nil2 (l := []) rfl (check_A _ x (Nat.le_refl _) ok [] H.length (by simp; omega) 0 0 0 (H ++ [cntC 0 0 0]) K (by simp [cntW, wI_0]) fun a' b' c' hc => by
      have := hK a' b' c' hc
      rw [set_app0]
      exact this)
  by_cases hz : efQ x [] = 0
  case neg =>
    have u0 : (efQ x [] = 0) = False := eq_false hz
    have hq : coreQ x = efQ x [] := by rw [coreQ, if_neg hz]
    rw [hq] at hk
    refine We ?_
    have c11 := hC0; have us := u0
    exact W46
  have hC : ∀ K : V → Heap → Prop, K (.d (.i .i64 0)) (H ++ [cntW (exHow 5 6 x) (exHow 10 10 x) (exN x)]) → ACalls Tryd.prog 44 [exV x.h x.args, .d (.c (.slice none 0 0)), .pt H.length 0 0 0] (H ++ [cntC 0 0 0]) K := fun K hK => hC0 K fun a' b' c' hc => by
    obtain ⟨rfl, rfl, rfl⟩ := hc hz
    rw [hz]
    simpa using hK
  by_cases g1 : 6 < wI (exHow 5 6 x)
  · have u1 : ((6 : Int) < wI (exHow 5 6 x : Int)) = True := eq_true (by omega)
    have hq : coreQ x = 1 := by rw [coreQ, if_pos hz, if_pos (.inl g1)]
    rw [hq] at hk
    refine We ?_
    have c11 := hC; have us := u1
    exact W47
  have u1 : ((6 : Int) < wI (exHow 5 6 x : Int)) = False := eq_false (by omega)
  by_cases g2 : 6 < wI (exHow 10 10 x)
  · have u2 : ((6 : Int) < wI (exHow 10 10 x : Int)) = True := eq_true (by omega)
    have hq : coreQ x = 1 := by rw [coreQ, if_pos hz, if_pos (.inr (.inl g2))]
    rw [hq] at hk
    refine We ?_
    have c11 := hC; have us := an u1 u2
    exact W47
  have u2 : ((6 : Int) < wI (exHow 10 10 x : Int)) = False := eq_false (by omega)
  by_cases g3 : 700 < wI (exN x)
  · have u3 : ((700 : Int) < wI (exN x : Int)) = True := eq_true (by omega)
    have hq : coreQ x = 1 := by rw [coreQ, if_pos hz, if_pos (.inr (.inr g3))]
    rw [hq] at hk
    refine We ?_
    have c11 := hC; have us := an u1 (an u2 u3)
    exact W47
  have u3 : ((700 : Int) < wI (exN x : Int)) = False := eq_false (by omega)
  have hq : coreQ x = 0 := by rw [coreQ, if_pos hz, if_neg (by omega)]
  rw [hq] at hk
  refine We ?_
  have c11 := hC; have us := an u1 (an u2 u3)
  exact W47
namespace FN18
def tks : Nat → List Nat | 0 => [1] | 1 => [1, 3] | 2 => [3, 22] | 3 => [3] | 4 => [2] | _ => []
def tmu : List Nat := []
def tin : List Nat := [0]
abbrev tfn := @Tryd.func18
end FN18
attribute [go_sem] FN18.tks FN18.tmu FN18.tin Tryd.ntmps18 Tryd.results18
open FN18 in
theorem coreFault_A (x : Ex) (ok : ExOk x) (hn : exH x ≤ 10000000) (H : Heap) (K : V → Heap → Prop) (hk : K (.d (.i .i64 (coreQ x))) H) : ACalls Tryd.prog 18 [exV x.h x.args] H K := by
  have hE := fun H K hk => sees_nil1 (l := []) rfl (exprFault_A _ x (Nat.le_refl _) ok [] (by simp; omega) H K hk)
  have h5 := howMany_A 5 6 _ x (Nat.le_refl _) ok
  have h10 := howMany_A 10 10 _ x (Nat.le_refl _) ok
  have hP := partCount_A _ x (Nat.le_refl _) ok
  by_cases hz : efQ x [] = 0
  case neg =>
    have u0 : (efQ x [] = 0) = False := eq_false hz
    have hq : coreQ x = efQ x [] := by rw [coreQ, if_neg hz]
    rw [hq] at hk
    refine We ?_
    have c21 := hE; have us := u0
    exact W37
  rw [hz] at hE
  by_cases g1 : 6 < wI (exHow 5 6 x)
  · have u1 : ((6 : Int) < wI (exHow 5 6 x : Int)) = True := eq_true (by omega)
    have hq : coreQ x = 1 := by rw [coreQ, if_pos hz, if_pos (.inl g1)]
    rw [hq] at hk
    refine We ?_
    have c21 := hE; have c22 := h5; have c23 := h10; have c24 := hP; have us := u1
    exact W37
  have u1 : ((6 : Int) < wI (exHow 5 6 x : Int)) = False := eq_false (by omega)
  by_cases g2 : 6 < wI (exHow 10 10 x)
  · have u2 : ((6 : Int) < wI (exHow 10 10 x : Int)) = True := eq_true (by omega)
    have hq : coreQ x = 1 := by rw [coreQ, if_pos hz, if_pos (.inr (.inl g2))]
    rw [hq] at hk
    refine We ?_
    have c21 := hE; have c22 := h5; have c23 := h10; have c24 := hP; have us := an u1 u2
    exact W37
  have u2 : ((6 : Int) < wI (exHow 10 10 x : Int)) = False := eq_false (by omega)
  by_cases g3 : 700 < wI (exN x)
  · have u3 : ((700 : Int) < wI (exN x : Int)) = True := eq_true (by omega)
    have hq : coreQ x = 1 := by rw [coreQ, if_pos hz, if_pos (.inr (.inr g3))]
    rw [hq] at hk
    refine We ?_
    have c21 := hE; have c22 := h5; have c23 := h10; have c24 := hP; have us := an u1 (an u2 u3)
    exact W37
  have u3 : ((700 : Int) < wI (exN x : Int)) = False := eq_false (by omega)
  have hq : coreQ x = 0 := by rw [coreQ, if_pos hz, if_neg (by omega)]
  rw [hq] at hk
  refine We ?_
  have c21 := hE; have c22 := h5; have c23 := h10; have c24 := hP; have us := an u1 (an u2 u3)
  exact W37
end Go.Proofs.YtdmkfkjdielmiaaDoor
namespace Go.Proofs.YtdmkfkjdielmiaaDoor
open Go Go.Proofs.YtdmkfkjdielmiaaDoor.Ab
variable [Glo] [U8]
set_option maxHeartbeats 4000000
set_option maxRecDepth 20000
def exW (x : Ex) : V := exV x.h x.args
theorem Fz_last {m : Nat} {H : Heap} {l : List V} {v v' : V} (h : Fz m H v v') : Fz m H (.ag (l ++ [v])) (.ag (l ++ [v'])) :=
  .ag _ _ (by simp) fun j c c' hc hc' => by
    by_cases hj : j < l.length
    · rw [List.getElem?_append_left hj] at hc hc'
      obtain rfl := Option.some.inj (hc.symm.trans hc')
      exact .same _
    · rw [List.getElem?_append_right (by omega)] at hc hc'
      have : j - l.length = 0 := by
        have := lt_of_get hc
        simp at this
        omega
      rw [this] at hc hc'
      simp at hc hc'
      subst hc hc'
      exact h
theorem Fz_ex {m : Nat} {H : Heap} {a b c d e f g h i j v v' : V} (hf : Fz m H v v') : Fz m H (.ag [a, b, c, d, e, f, g, h, i, j, v]) (.ag [a, b, c, d, e, f, g, h, i, j, v']) :=
  Fz_last (l := [a, b, c, d, e, f, g, h, i, j]) hf
theorem exW_bel (m : Nat) (x : Ex) : Bel m (exW x) := by simp [exW, exV, Bel_ag, Bel_d]
namespace FN34
def tks : Nat → List Nat | 0 => [0] | 1 => [0] | _ => []
def tmu : List Nat := []
def tin : List Nat := []
abbrev tfn := @Tryd.func34
end FN34
attribute [go_sem] FN34.tks FN34.tmu FN34.tin Tryd.ntmps34 Tryd.results34
open FN34 in
theorem nothing_A (H : Heap) (K : V → Heap → Prop) (hk : K (exW eNone) H) : ACalls Tryd.prog 34 [] H K := by
  refine We ?_
  have us := eq_self (0 : Nat)
  exact W48
namespace FN46
def tks : Nat → List Nat | 0 => [0] | 1 => [0] | _ => []
def tmu : List Nat := []
def tin : List Nat := []
abbrev tfn := @Tryd.func46
end FN46
attribute [go_sem] FN46.tks FN46.tmu FN46.tin Tryd.ntmps46 Tryd.results46
open FN46 in
theorem none_A (H : Heap) (K : V → Heap → Prop) (hk : K (exW eNone) H) : ACalls Tryd.prog 46 [] H K := by
  refine We ?_
  have us := eq_self (0 : Nat)
  exact W48
namespace FN92
def tks : Nat → List Nat | 0 => [0, 2] | 1 => [2] | _ => []
def tmu : List Nat := []
def tin : List Nat := [0]
abbrev tfn := @Tryd.func92
end FN92
attribute [go_sem] FN92.tks FN92.tmu FN92.tin Tryd.ntmps92 Tryd.results92
open FN92 in
theorem variable_A (s : List UInt8) (H : Heap) (K : V → Heap → Prop) (hk : K (exW (eVar s)) H) : ACalls Tryd.prog 92 [.d (.s s)] H K := by
  refine We ?_
  have us := eq_self (0 : Nat)
  exact W48
namespace FN104
def tks : Nat → List Nat | 0 => [0, 2] | 1 => [2] | _ => []
def tmu : List Nat := []
def tin : List Nat := [0]
abbrev tfn := @Tryd.func104
end FN104
attribute [go_sem] FN104.tks FN104.tmu FN104.tin Tryd.ntmps104 Tryd.results104
open FN104 in
theorem asVar_A (s : List UInt8) (H : Heap) (K : V → Heap → Prop) (hk : K (exW (eVar s)) H) : ACalls Tryd.prog 104 [.d (.s s)] H K := by
  refine We ?_
  have us := eq_self (0 : Nat)
  exact W48
namespace FN40
def tks : Nat → List Nat | 0 => [0, 1, 4] | 1 => [4] | _ => []
def tmu : List Nat := []
def tin : List Nat := [0, 1]
abbrev tfn := @Tryd.func40
end FN40
attribute [go_sem] FN40.tks FN40.tmu FN40.tin Tryd.ntmps40 Tryd.results40
open FN40 in
theorem call_A (s : List UInt8) (l : List Ex) (H : Heap) (K : V → Heap → Prop) (hk : K (exW (eCall s l)) H) : ACalls Tryd.prog 40 [.d (.s s), .d (.sl 11 (l.map exD))] H K := by
  refine We ?_
  have us := eq_self (0 : Nat)
  exact W49
namespace FN60
def tks : Nat → List Nat | 0 => [0, 1, 4] | 1 => [4] | _ => []
def tmu : List Nat := []
def tin : List Nat := [0, 1]
abbrev tfn := @Tryd.func60
end FN60
attribute [go_sem] FN60.tks FN60.tmu FN60.tin Tryd.ntmps60 Tryd.results60
open FN60 in
theorem asCall_A (s : List UInt8) (l : List Ex) (H : Heap) (K : V → Heap → Prop) (hk : K (exW (eCall s l)) H) : ACalls Tryd.prog 60 [.d (.s s), .d (.sl 11 (l.map exD))] H K := by
  refine We ?_
  have us := eq_self (0 : Nat)
  exact W49
namespace FN39
def tks : Nat → List Nat | 0 => [3, 4, 5, 6] | 1 => [6] | _ => []
def tmu : List Nat := []
def tin : List Nat := [0, 1, 2]
abbrev tfn := @Tryd.func39
end FN39
attribute [go_sem] FN39.tks FN39.tmu FN39.tin Tryd.ntmps39 Tryd.results39
open FN39 in
theorem choose_A (a b c : Ex) (H : Heap) (K : V → Heap → Prop) (hk : K (exW (eIf a b c)) H) : ACalls Tryd.prog 39 [exW a, exW b, exW c] H K := by
  refine We ?_
  have us := eq_self (0 : Nat)
  exact W50
namespace FN59
def tks : Nat → List Nat | 0 => [3, 4, 5, 6] | 1 => [6] | _ => []
def tmu : List Nat := []
def tin : List Nat := [0, 1, 2]
abbrev tfn := @Tryd.func59
end FN59
attribute [go_sem] FN59.tks FN59.tmu FN59.tin Tryd.ntmps59 Tryd.results59
open FN59 in
theorem asIf_A (a b c : Ex) (H : Heap) (K : V → Heap → Prop) (hk : K (exW (eIf a b c)) H) : ACalls Tryd.prog 59 [exW a, exW b, exW c] H K := by
  refine We ?_
  have us := eq_self (0 : Nat)
  exact W50
namespace FN96
def tks : Nat → List Nat | 0 => [0, 1, 6, 7, 8] | 1 => [8] | _ => []
def tmu : List Nat := []
def tin : List Nat := [0, 1, 2, 3]
abbrev tfn := @Tryd.func96
end FN96
attribute [go_sem] FN96.tks FN96.tmu FN96.tin Tryd.ntmps96 Tryd.results96
open FN96 in
theorem loop_A (nm at_ : List UInt8) (v b : Ex) (H : Heap) (K : V → Heap → Prop) (hk : K (exW (eFor nm at_ v b)) H) : ACalls Tryd.prog 96 [.d (.s nm), .d (.s at_), exW v, exW b] H K := by
  refine We ?_
  have us := eq_self (0 : Nat)
  exact W51
namespace FN98
def tks : Nat → List Nat | 0 => [0, 4, 5, 6] | 1 => [6] | _ => []
def tmu : List Nat := []
def tin : List Nat := [0, 1, 2]
abbrev tfn := @Tryd.func98
end FN98
attribute [go_sem] FN98.tks FN98.tmu FN98.tin Tryd.ntmps98 Tryd.results98
open FN98 in
theorem be_A (nm : List UInt8) (v b : Ex) (H : Heap) (K : V → Heap → Prop) (hk : K (exW (eLet nm v b)) H) : ACalls Tryd.prog 98 [.d (.s nm), exW v, exW b] H K := by
  refine We ?_
  have us := eq_self (0 : Nat)
  exact W52
namespace FN138
def tks : Nat → List Nat | 0 => [0, 2] | 1 => [0, 2, 3] | 2 => [2, 3, 4] | 3 => [2, 3] | 4 => [2] | _ => []
def tmu : List Nat := []
def tin : List Nat := [0]
abbrev tfn := @Tryd.func138
end FN138
attribute [go_sem] FN138.tks FN138.tmu FN138.tin Tryd.ntmps138 Tryd.results138
open FN138 in
theorem truth_A (t : Bool) (H : Heap) (K : V → Heap → Prop) (hk : K (exW (eBool (if t = true then 1 else 0))) H) : ACalls Tryd.prog 138 [.d (.b t)] H K := by
  cases t with
  | true =>
    refine We ?_
    have us := eq_self (0 : Nat)
    exact W48
  | false =>
    refine We ?_
    have us := eq_self (0 : Nat)
    exact W48
namespace FN107
def tks : Nat → List Nat | 0 => [0, 2] | 1 => [2] | _ => []
def tmu : List Nat := []
def tin : List Nat := [0]
abbrev tfn := @Tryd.func107
end FN107
attribute [go_sem] FN107.tks FN107.tmu FN107.tin Tryd.ntmps107 Tryd.results107
open FN107 in
theorem asBool_A (n : Int) (H : Heap) (K : V → Heap → Prop) (hk : K (exW (eBool n)) H) : ACalls Tryd.prog 107 [.d (.i .i64 n)] H K := by
  refine We ?_
  have us := eq_self (0 : Nat)
  exact W48
def lwC (f : Int) : Ob := .row 0 50 1 [[.d (.i .i64 f)]]
theorem lwC_bel (m : Nat) (f : Int) : ObBel m (lwC f) := by
  intro row hr v hv
  simp at hr
  subst hr
  simp at hv
  subst hv
  exact .d _
theorem lw_keep {H : Heap} {id : Nat} {f : Int} (h : H[id]? = some (lwC f)) : H.set id (lwC f) = H := set_same h
structure AtH (H : Heap) (id : Nat) (ob : Ob) : Prop where
  ga : ∀ G : Heap, (H ++ G)[id]? = some ob
  sa : ∀ (G : Heap) (X : Ob), (H ++ G).set id X = H.set id X ++ G
  gs : ∀ X, (H.set id X)[id]? = some X
  ss : ∀ X Y, (H.set id X).set id Y = H.set id Y
  gsa : ∀ (X : Ob) (G : Heap), (H.set id X ++ G)[id]? = some X
  ssa : ∀ (X Y : Ob) (G : Heap), (H.set id X ++ G).set id Y = H.set id Y ++ G
  gl0 : ∀ (X : Ob) (G : Heap), (H.set id X ++ G)[H.length]? = G[0]?
  glk : ∀ (X : Ob) (G : Heap) (k : Nat), (H.set id X ++ G)[H.length + k]? = G[k]?
  sl0 : ∀ (X Y : Ob) (G : Heap), (H.set id X ++ G).set H.length Y = H.set id X ++ G.set 0 Y
  slk : ∀ (X Y : Ob) (G : Heap) (k : Nat), (H.set id X ++ G).set (H.length + k) Y = H.set id X ++ G.set k Y
theorem atH {H : Heap} {id : Nat} {ob : Ob} (h : H[id]? = some ob) : AtH H id ob := by
  have hid := lt_of_get h
  have hl : ∀ X, (H.set id X).length = H.length := fun X => List.length_set
  refine ⟨fun G => ?_, fun G X => ?_, fun X => get_self h X, fun X Y => List.set_set .., fun X G => ?_, fun X Y G => ?_, fun X G => ?_, fun X G k => ?_, fun X Y G => ?_, fun X Y G k => ?_⟩
  · rw [List.getElem?_append_left hid]; exact h
  · rw [List.set_append_left _ _ hid]
  · rw [List.getElem?_append_left (by rw [hl]; exact hid)]; exact get_self h X
  · rw [List.set_append_left _ _ (by rw [hl]; exact hid), List.set_set]
  · have := get_app0 (H.set id X) G; rwa [hl] at this
  · have := get_appk (H.set id X) G k; rwa [hl] at this
  · have := set_app0 (H.set id X) G Y; rwa [hl] at this
  · have := set_appk (H.set id X) G k Y; rwa [hl] at this
namespace FN36
def tks : Nat → List Nat | 0 => [0, 1, 4] | 1 => [0, 1, 4, 9] | 2 => [4] | 3 => [4] | _ => []
def tmu : List Nat := []
def tin : List Nat := [0, 1]
abbrev tfn := @Tryd.func36
end FN36
attribute [go_sem] FN36.tks FN36.tmu FN36.tin Tryd.ntmps36 Tryd.results36
open FN36 in
theorem wrong_A (id : Nat) (e f : Int) (H : Heap) (K : V → Heap → Prop) (hr : H[id]? = some (lwC f)) (hk : K (exW (wrongQ e f).1) (H.set id (lwC (wrongQ e f).2))) : ACalls Tryd.prog 36 [.pt id 0 0 0, .d (.i .i64 e)] H K := by
  have hid := lt_of_get hr
  have hr' := hr
  rw [lwC] at hr'
  obtain ⟨ga, sa, gs, ss, gsa, ssa, gl0, glk, sl0, slk⟩ := atH hr'
  by_cases h : f = 0
  · have i1 : (f = 0) = True := eq_true h
    rw [wrongQ, if_pos h] at hk
    refine We ?_
    have us := i1
    exact W53
  · have i1 : (f = 0) = False := eq_false h
    rw [wrongQ, if_neg h, lw_keep hr] at hk
    refine We ?_
    have us := i1
    exact W54
end Go.Proofs.YtdmkfkjdielmiaaDoor
