/- Lowering: has a phrase as many parts as it must have, may its clauses stand so: walked. No condition but that the tables of package unicode/utf8 are there. -/
import Derived.Test.YtdmkfkjdielmiaaDoorP19
import Derived.Test.YtdmkfkjdielmiaaDoorP35
set_option linter.all false
set_option linter.unusedSimpArgs false
set_option linter.unusedVariables false
namespace Go.Proofs.YtdmkfkjdielmiaaDoor
open Go Go.Proofs.YtdmkfkjdielmiaaDoor.Ab
variable [Glo] [U8] [CAr]
set_option maxHeartbeats 4000000
set_option maxRecDepth 20000
theorem clsQ_cons (c : Cl) (r : List Cl) (n : Nat) : clsQ (c :: r) n = if ¬(1 ≤ c.c.k ∧ c.c.k ≤ 4) then 3
    else if c.c.k = 3 ∧ ((r.head?.map fun d => decide (d.c.k ≠ 4)).getD false) = true then 4
    else if c.c.k = 4 ∧ (r ≠ [] ∨ n ≠ 1) then 4
    else if (c.c.k = 1 ∨ c.c.k = 2) ∧ bindQ c.c.nm c.c.at_ (decide (c.c.k = 2)) ≠ 0 then bindQ c.c.nm c.c.at_ (decide (c.c.k = 2))
    else clsQ r (if c.c.k = 1 then n + 1 else n) := by rw [clsQ]
structure ClsOk (l : List Cl) : Prop where
  len : l.length ≤ 1048576
  nm : ∀ c, c ∈ l → c.c.nm.length ≤ 1048576
  at_ : ∀ c, c ∈ l → c.c.at_.length ≤ 1048576
namespace FN140
def tks : Nat → List Nat | 0 => [0] | 1 => [0, 3] | 2 => [0, 3, 6, 7, 8] | 3 => [0, 3, 6, 7, 8, 9] | 4 => [0, 3, 4, 5, 6, 7, 8] | 5 => [0, 3, 4, 5, 6, 7, 8, 14] | 6 => [2] | 7 => [0, 3, 4, 5, 6, 7, 8, 14, 15] | 8 => [0, 3, 5, 6, 7, 8] | 9 => [0, 3, 4, 5, 6, 7, 8, 14, 19] | 10 => [0, 3, 4, 5, 6, 7, 8, 14, 21] | 11 => [0, 3, 5, 6, 7, 8, 36] | 12 => [2] | 13 => [0, 3, 4, 5, 6, 7, 8, 37] | 14 => [0, 3, 5, 6, 7, 8, 47] | 15 => [2] | 16 => [0, 3, 5, 6, 7, 8, 55] | 17 => [0, 3, 5, 6, 7, 8, 75] | 18 => [2] | 19 => [0, 3, 6, 7, 8, 85] | 20 => [2] | 21 => [0, 3, 6, 7, 8] | 22 => [2] | _ => []
def tmu : List Nat := []
def tin : List Nat := [0]
def tro : Nat → List Nat | 4 => [5] | _ => []
abbrev tfn := @Tryd.func140
end FN140
attribute [go_sem] FN140.tks FN140.tmu FN140.tin FN140.tro Tryd.ntmps140 Tryd.results140
open FN140 in
theorem clauses_A (l : List Cl) (ok : ClsOk l) (H : Heap) (K : V → Heap → Prop) (hk : K (.d (.i .i64 (clsQ l 0))) H) : ACalls Tryd.prog 140 [.d (.sl 15 (l.map clD))] H K := by
  have hlen := ok.len
  refine We ?_
  have us := eq_self (0 : Nat)
  refine W63 ?_
  refine AWp_while0 (fun y : Nat × Nat => y.1 ≤ l.length ∧ y.2 ≤ y.1 ∧ clsQ (l.drop y.1) y.2 = clsQ l 0) (fun y => [(0, .d (.sl 15 (l.map clD))), (3, .d (.i .i64 (y.2 : Int))), (6, .d (.sl 15 (l.map clD))), (7, .d (.i .i64 l.length)), (8, .d (.i .i64 y.1))]) (fun y => l.length - y.1) (0, 0) ⟨Nat.zero_le _, Nat.le_refl _, rfl⟩ ?_ ?_
  · simp (dsimp := false) only [go_sem, Nat.reduceAdd, Nat.reduceBEq, Nat.reduceEqDiff, Nat.reduceLT, Nat.reduceLeDiff, Nat.reduceMul, Int.reduceToNat, reduceCtorEq, ↓reduceIte, not_true_eq_false, not_false_eq_true, Bool.true_and, Bool.false_and, Int.reduceEq, Int.reduceLT, Int.reduceLE, Int.reduceNeg, List.map_cons, List.map_nil]
    first | done | (simp; done)
  rintro ⟨i, n⟩ ⟨hi, hn, hv⟩
  simp only at hi hn hv
  have t2 : ((0 : Int) ≤ (i : Int)) = True := eq_true (by omega)
  by_cases hil : i < l.length
  case neg =>
    have t1 : ((i : Int) < (l.length : Int)) = False := eq_false (by omega)
    rw [List.drop_eq_nil_of_le (by omega), clsQ] at hv
    have us := t1
    exact W64
  have t1 : ((i : Int) < (l.length : Int)) = True := eq_true (by omega)
  obtain ⟨c, hx⟩ : ∃ x, l[i]? = some x := ⟨l[i], List.getElem?_eq_getElem hil⟩
  have onm := ok.nm c (List.mem_of_getElem? hx)
  have oat := ok.at_ c (List.mem_of_getElem? hx)
  rw [drop_of_get hx, clsQ_cons] at hv
  have hhead : (l.drop (i + 1)).head? = l[i + 1]? := by rw [List.head?_drop]
  have hni : (l.drop (i + 1) = []) ↔ ¬ (i + 1 < l.length) := by rw [List.drop_eq_nil_iff]; omega
  by_cases hr : 1 ≤ c.c.k ∧ c.c.k ≤ 4
  case neg =>
    rw [if_pos hr] at hv
    have k1 : (c.c.k = 1) = False := eq_false (by omega)
    have k2 : (c.c.k = 2) = False := eq_false (by omega)
    have k3 : (c.c.k = 3) = False := eq_false (by omega)
    have k4 : (c.c.k = 4) = False := eq_false (by omega)
    rw [← hv] at hk
    have us := an hx (an t1 (an t2 (an k1 (an k2 (an k3 k4)))))
    exact W65
  rw [if_neg (fun e => e hr)] at hv
  by_cases c3 : c.c.k = 3
  · have k1 : (c.c.k = 1) = False := eq_false (by omega)
    have k2 : (c.c.k = 2) = False := eq_false (by omega)
    have k3 : (c.c.k = 3) = True := eq_true (by omega)
    have k4 : (c.c.k = 4) = False := eq_false (by omega)
    have e4 : ¬(c.c.k = 4 ∧ (l.drop (i + 1) ≠ [] ∨ n ≠ 1)) := fun e => by omega
    have e12 : ¬((c.c.k = 1 ∨ c.c.k = 2) ∧ bindQ c.c.nm c.c.at_ (decide (c.c.k = 2)) ≠ 0) := fun e => by omega
    by_cases hnl : i + 1 < l.length
    · obtain ⟨d, hd⟩ : ∃ x, l[i + 1]? = some x := ⟨l[i + 1], List.getElem?_eq_getElem hnl⟩
      have hnx1 : ((i : Int) + 1 < (l.length : Int)) = True := eq_true (by omega)
      have hnx2 : ((i : Int) < (l.length : Int) - 1) = True := eq_true (by omega)
      have hnx3 : ((0 : Int) ≤ (i : Int) + 1) = True := eq_true (by omega)
      have hnx4 : ((i : Int) + 1).toNat = i + 1 := by omega
      by_cases d4 : d.c.k = 4
      · have q1 : (d.c.k = 4) = True := eq_true d4
        rw [if_neg (fun e => by rw [hhead, hd] at e; simp [d4] at e), if_neg e4, if_neg e12, if_neg (by omega)] at hv
        have us := an hx (an t1 (an t2 (an k1 (an k2 (an k3 (an k4 (an hnx1 (an hnx2 (an hnx3 (an hnx4 (an hd q1)))))))))))
        (repeat' (first | with_reducible (first | refine And.intro ?_ ?_ | intro _ | (refine hKv _ _ (AWp_nop ?_); clear hKv Kv) | (refine hKA ?_; clear hKA hKB KA KB) | (refine hKB ?_; clear hKA hKB KA KB) | refine Wp ?_ | fail) | ((first | with_reducible (first | (refine hKv _ _ ?_; clear hKv Kv) | (refine Wr ?_; intro Kv hKv) | refine AWp_retR ?_ | fail) | refine Wc ?_ | fail); try simp (dsimp := false) only [go_sem, Nat.reduceAdd, Nat.reduceBEq, Nat.reduceEqDiff, Nat.reduceLT, Nat.reduceLeDiff, Nat.reduceMul, Int.reduceToNat, reduceCtorEq, ↓reduceIte, us, Bool.false_and, Bool.true_and, Int.reduceEq, Int.reduceLE, Int.reduceLT, Int.reduceNeg, List.map_cons, List.map_nil, clD_1, not_false_eq_true, not_true_eq_false]) | (refine AWp_condC rfl ?_; intro KA KB hKA hKB; try simp only [onB_true, onB_false, onB_dec, onB_ndec, onB_not, onB_and, onB_or]) | (refine AWp_condA rfl ?_ ?_) | with_reducible (first | refine onB_of ?_ ?_ | rfl) | omega))
        all_goals first
          | omega
          | exact ⟨(i + 1, n), ⟨by simp only; omega, by simp only; omega, hv⟩, by simp only; omega, by simp only; omega⟩
          | exact ⟨(i + 1, n), ⟨by simp only; omega, by simp only; omega, hv⟩, by simp only; omega, by simp only; omega, by simp only; omega⟩
          | (refine ⟨(i + 1, n), ⟨by simp only; omega, by simp only; omega, hv⟩, by simp only; omega, ?_⟩
             (repeat' (refine And.intro ?_ ?_)) <;> first | rfl | omega | (simp only; omega) | (simp; done))
      · have q1 : (d.c.k = 4) = False := eq_false d4
        rw [if_pos ⟨c3, by rw [hhead, hd]; simp [d4]⟩] at hv
        rw [← hv] at hk
        have us := an hx (an t1 (an t2 (an k1 (an k2 (an k3 (an k4 (an hnx1 (an hnx2 (an hnx3 (an hnx4 (an hd q1)))))))))))
        exact W65
    · have hnx1 : ((i : Int) + 1 < (l.length : Int)) = False := eq_false (by omega)
      have hnx2 : ((i : Int) < (l.length : Int) - 1) = False := eq_false (by omega)
      have hnx3 : ((0 : Int) ≤ (i : Int) + 1) = True := eq_true (by omega)
      have hnx4 : ((i : Int) + 1).toNat = i + 1 := by omega
      rw [if_neg (fun e => by rw [hhead, List.getElem?_eq_none (by omega)] at e; simp at e), if_neg e4, if_neg e12, if_neg (by omega)] at hv
      have us := an hx (an t1 (an t2 (an k1 (an k2 (an k3 (an k4 (an hnx1 (an hnx2 (an hnx3 hnx4)))))))))
      (repeat' (first | with_reducible (first | refine And.intro ?_ ?_ | intro _ | (refine hKv _ _ (AWp_nop ?_); clear hKv Kv) | (refine hKA ?_; clear hKA hKB KA KB) | (refine hKB ?_; clear hKA hKB KA KB) | refine Wp ?_ | fail) | ((first | with_reducible (first | (refine hKv _ _ ?_; clear hKv Kv) | (refine Wr ?_; intro Kv hKv) | refine AWp_retR ?_ | fail) | refine Wc ?_ | fail); try simp (dsimp := false) only [go_sem, Nat.reduceAdd, Nat.reduceBEq, Nat.reduceEqDiff, Nat.reduceLT, Nat.reduceLeDiff, Nat.reduceMul, Int.reduceToNat, reduceCtorEq, ↓reduceIte, us, Bool.false_and, Bool.true_and, Int.reduceEq, Int.reduceLE, Int.reduceLT, Int.reduceNeg, List.map_cons, List.map_nil, clD_1, not_false_eq_true, not_true_eq_false]) | (refine AWp_condC rfl ?_; intro KA KB hKA hKB; try simp only [onB_true, onB_false, onB_dec, onB_ndec, onB_not, onB_and, onB_or]) | (refine AWp_condA rfl ?_ ?_) | with_reducible (first | refine onB_of ?_ ?_ | rfl) | omega))
      all_goals first
        | omega
        | exact ⟨(i + 1, n), ⟨by simp only; omega, by simp only; omega, hv⟩, by simp only; omega, by simp only; omega⟩
        | exact ⟨(i + 1, n), ⟨by simp only; omega, by simp only; omega, hv⟩, by simp only; omega, by simp only; omega, by simp only; omega⟩
        | (refine ⟨(i + 1, n), ⟨by simp only; omega, by simp only; omega, hv⟩, by simp only; omega, ?_⟩
           (repeat' (refine And.intro ?_ ?_)) <;> first | rfl | omega | (simp only; omega) | (simp; done))
  have e3 : ¬(c.c.k = 3 ∧ (((l.drop (i + 1)).head?.map fun d => decide (d.c.k ≠ 4)).getD false) = true) := fun e => c3 e.1
  rw [if_neg e3] at hv
  by_cases c4 : c.c.k = 4
  · have k1 : (c.c.k = 1) = False := eq_false (by omega)
    have k2 : (c.c.k = 2) = False := eq_false (by omega)
    have k3 : (c.c.k = 3) = False := eq_false (by omega)
    have k4 : (c.c.k = 4) = True := eq_true (by omega)
    have e12 : ¬((c.c.k = 1 ∨ c.c.k = 2) ∧ bindQ c.c.nm c.c.at_ (decide (c.c.k = 2)) ≠ 0) := fun e => by omega
    by_cases hnl : i + 1 < l.length
    · have hnx1 : ((i : Int) + 1 < (l.length : Int)) = True := eq_true (by omega)
      have hnx2 : ((i : Int) < (l.length : Int) - 1) = True := eq_true (by omega)
      have hnx3 : ((0 : Int) ≤ (i : Int) + 1) = True := eq_true (by omega)
      have hnx4 : ((i : Int) + 1).toNat = i + 1 := by omega
      rw [if_pos ⟨c4, .inl (fun e => (hni.1 e) hnl)⟩] at hv
      rw [← hv] at hk
      have us := an hx (an t1 (an t2 (an k1 (an k2 (an k3 (an k4 (an hnx1 (an hnx2 (an hnx3 hnx4)))))))))
      exact W65
    · have hnx1 : ((i : Int) + 1 < (l.length : Int)) = False := eq_false (by omega)
      have hnx2 : ((i : Int) < (l.length : Int) - 1) = False := eq_false (by omega)
      have hnx3 : ((0 : Int) ≤ (i : Int) + 1) = True := eq_true (by omega)
      have hnx4 : ((i : Int) + 1).toNat = i + 1 := by omega
      have hnil := hni.2 hnl
      by_cases n1 : n = 1
      · have q1 : ((n : Int) = 1) = True := eq_true (by omega)
        rw [if_neg (fun e => by rcases e.2 with e | e; exact e hnil; exact e n1), if_neg e12, if_neg (by omega)] at hv
        have us := an hx (an t1 (an t2 (an k1 (an k2 (an k3 (an k4 (an hnx1 (an hnx2 (an hnx3 (an hnx4 q1))))))))))
        (repeat' (first | with_reducible (first | refine And.intro ?_ ?_ | intro _ | (refine hKv _ _ (AWp_nop ?_); clear hKv Kv) | (refine hKA ?_; clear hKA hKB KA KB) | (refine hKB ?_; clear hKA hKB KA KB) | refine Wp ?_ | fail) | ((first | with_reducible (first | (refine hKv _ _ ?_; clear hKv Kv) | (refine Wr ?_; intro Kv hKv) | refine AWp_retR ?_ | fail) | refine Wc ?_ | fail); try simp (dsimp := false) only [go_sem, Nat.reduceAdd, Nat.reduceBEq, Nat.reduceEqDiff, Nat.reduceLT, Nat.reduceLeDiff, Nat.reduceMul, Int.reduceToNat, reduceCtorEq, ↓reduceIte, us, Bool.false_and, Bool.true_and, Int.reduceEq, Int.reduceLE, Int.reduceLT, Int.reduceNeg, List.map_cons, List.map_nil, clD_1, not_false_eq_true, not_true_eq_false]) | (refine AWp_condC rfl ?_; intro KA KB hKA hKB; try simp only [onB_true, onB_false, onB_dec, onB_ndec, onB_not, onB_and, onB_or]) | (refine AWp_condA rfl ?_ ?_) | with_reducible (first | refine onB_of ?_ ?_ | rfl) | omega))
        all_goals first
          | omega
          | exact ⟨(i + 1, n), ⟨by simp only; omega, by simp only; omega, hv⟩, by simp only; omega, by simp only; omega⟩
          | exact ⟨(i + 1, n), ⟨by simp only; omega, by simp only; omega, hv⟩, by simp only; omega, by simp only; omega, by simp only; omega⟩
          | (refine ⟨(i + 1, n), ⟨by simp only; omega, by simp only; omega, hv⟩, by simp only; omega, ?_⟩
             (repeat' (refine And.intro ?_ ?_)) <;> first | rfl | omega | (simp only; omega) | (simp; done))
      · have q1 : ((n : Int) = 1) = False := eq_false (by omega)
        rw [if_pos ⟨c4, .inr n1⟩] at hv
        rw [← hv] at hk
        have us := an hx (an t1 (an t2 (an k1 (an k2 (an k3 (an k4 (an hnx1 (an hnx2 (an hnx3 (an hnx4 q1))))))))))
        exact W65
  rw [if_neg (fun e => c4 e.1)] at hv
  by_cases c2 : c.c.k = 2
  · have k1 : (c.c.k = 1) = False := eq_false (by omega)
    have k2 : (c.c.k = 2) = True := eq_true (by omega)
    have k3 : (c.c.k = 3) = False := eq_false (by omega)
    have k4 : (c.c.k = 4) = False := eq_false (by omega)
    have hde : decide (c.c.k = 2) = true := decide_eq_true (by omega)
    rw [hde] at hv
    have hN := name_A c.c.nm (by omega)
    have hA := name_A c.c.at_ (by omega)
    rw [bindQ_eq] at hv
    cases v1 : varB c.c.nm with
    | false =>
      rw [v1] at hv hN
      rw [if_pos ⟨by omega, by simp⟩] at hv
      simp only [true_or, if_true] at hv
      rw [← hv] at hk
      have c21 := hN; have c22 := hA; have us := an hx (an t1 (an t2 (an k1 (an k2 (an k3 k4)))))
      exact W65
    | true =>
      rw [v1] at hv hN
      rw [if_neg (fun e => e.2 (by simp)), if_neg (by omega)] at hv
      have c21 := hN; have c22 := hA; have us := an hx (an t1 (an t2 (an k1 (an k2 (an k3 k4)))))
      (repeat' (first | with_reducible (first | refine And.intro ?_ ?_ | intro _ | (refine hKv _ _ (AWp_nop ?_); clear hKv Kv) | (refine hKA ?_; clear hKA hKB KA KB) | (refine hKB ?_; clear hKA hKB KA KB) | refine Wp ?_ | fail) | ((first | with_reducible (first | (refine hKv _ _ ?_; clear hKv Kv) | (refine Wr ?_; intro Kv hKv) | refine AWp_retR ?_ | fail) | refine Wc ?_ | fail); try simp (dsimp := false) only [go_sem, Nat.reduceAdd, Nat.reduceBEq, Nat.reduceEqDiff, Nat.reduceLT, Nat.reduceLeDiff, Nat.reduceMul, Int.reduceToNat, reduceCtorEq, ↓reduceIte, us, Bool.false_and, Bool.true_and, Int.reduceEq, Int.reduceLE, Int.reduceLT, Int.reduceNeg, List.map_cons, List.map_nil, clD_1, not_false_eq_true, not_true_eq_false]) | (refine AWp_condC rfl ?_; intro KA KB hKA hKB; try simp only [onB_true, onB_false, onB_dec, onB_ndec, onB_not, onB_and, onB_or]) | (refine AWp_condA rfl ?_ ?_) | with_reducible (first | refine onB_of ?_ ?_ | rfl) | omega))
      all_goals first
        | omega
        | exact ⟨(i + 1, n), ⟨by simp only; omega, by simp only; omega, hv⟩, by simp only; omega, by simp only; omega⟩
        | exact ⟨(i + 1, n), ⟨by simp only; omega, by simp only; omega, hv⟩, by simp only; omega, by simp only; omega, by simp only; omega⟩
        | (refine ⟨(i + 1, n), ⟨by simp only; omega, by simp only; omega, hv⟩, by simp only; omega, ?_⟩
           (repeat' (refine And.intro ?_ ?_)) <;> first | rfl | omega | (simp only; omega) | (simp; done))
  have c1 : c.c.k = 1 := by omega
  have k1 : (c.c.k = 1) = True := eq_true (by omega)
  have k2 : (c.c.k = 2) = False := eq_false (by omega)
  have k3 : (c.c.k = 3) = False := eq_false (by omega)
  have k4 : (c.c.k = 4) = False := eq_false (by omega)
  have hde : decide (c.c.k = 2) = false := decide_eq_false (by omega)
  rw [hde] at hv
  have hN := name_A c.c.nm (by omega)
  have hA := name_A c.c.at_ (by omega)
  rw [bindQ_eq] at hv
  cases v1 : varB c.c.nm with
  | false =>
    rw [v1] at hv hN
    rw [if_pos ⟨by omega, by simp⟩] at hv
    simp only [true_or, if_true] at hv
    rw [← hv] at hk
    have c21 := hN; have c22 := hA; have us := an hx (an t1 (an t2 (an k1 (an k2 (an k3 k4)))))
    exact W65
  | true =>
    rw [v1] at hv hN
    have hne : c.c.nm ≠ [] := fun e => by rw [e] at v1; exact absurd v1 (by decide)
    by_cases a0 : c.c.at_ = []
    · have q0 : (c.c.at_ = []) = True := eq_true a0
      have q1 : (c.c.at_ = c.c.nm) = False := eq_false (by rw [a0]; exact Ne.symm hne)
      rw [if_neg (fun e => e.2 (by simp [a0, Ne.symm hne])), if_pos (by omega)] at hv
      have c21 := hN; have c22 := hA; have us := an hx (an t1 (an t2 (an k1 (an k2 (an k3 (an k4 (an q0 q1)))))))
      (repeat' (first | with_reducible (first | refine And.intro ?_ ?_ | intro _ | (refine hKv _ _ (AWp_nop ?_); clear hKv Kv) | (refine hKA ?_; clear hKA hKB KA KB) | (refine hKB ?_; clear hKA hKB KA KB) | refine Wp ?_ | fail) | ((first | with_reducible (first | (refine hKv _ _ ?_; clear hKv Kv) | (refine Wr ?_; intro Kv hKv) | refine AWp_retR ?_ | fail) | refine Wc ?_ | fail); try simp (dsimp := false) only [go_sem, Nat.reduceAdd, Nat.reduceBEq, Nat.reduceEqDiff, Nat.reduceLT, Nat.reduceLeDiff, Nat.reduceMul, Int.reduceToNat, reduceCtorEq, ↓reduceIte, us, Bool.false_and, Bool.true_and, Int.reduceEq, Int.reduceLE, Int.reduceLT, Int.reduceNeg, List.map_cons, List.map_nil, clD_1, not_false_eq_true, not_true_eq_false]) | (refine AWp_condC rfl ?_; intro KA KB hKA hKB; try simp only [onB_true, onB_false, onB_dec, onB_ndec, onB_not, onB_and, onB_or]) | (refine AWp_condA rfl ?_ ?_) | with_reducible (first | refine onB_of ?_ ?_ | rfl) | omega))
      all_goals first
        | omega
        | exact ⟨(i + 1, n + 1), ⟨by simp only; omega, by simp only; omega, hv⟩, by simp only; omega, by simp only; omega⟩
        | exact ⟨(i + 1, n + 1), ⟨by simp only; omega, by simp only; omega, hv⟩, by simp only; omega, by simp only; omega, by simp only; omega⟩
        | (refine ⟨(i + 1, n + 1), ⟨by simp only; omega, by simp only; omega, hv⟩, by simp only; omega, ?_⟩
           (repeat' (refine And.intro ?_ ?_)) <;> first | rfl | omega | (simp only; omega) | (simp; done))
    have q0 : (c.c.at_ = []) = False := eq_false a0
    cases v2 : varB c.c.at_ with
    | false =>
      rw [v2] at hv hA
      rw [if_pos ⟨by omega, by simp [a0]⟩] at hv
      simp only [a0, Bool.true_eq_false, false_or, true_and, ne_eq, not_false_eq_true, and_self, if_true] at hv
      rw [← hv] at hk
      have c21 := hN; have c22 := hA; have us := an hx (an t1 (an t2 (an k1 (an k2 (an k3 (an k4 q0))))))
      exact W65
    | true =>
      rw [v2] at hv hA
      by_cases a1 : c.c.at_ = c.c.nm
      · have q1 : (c.c.at_ = c.c.nm) = True := eq_true a1
        have hb7 : (if true = false ∨ (false = false ∧ c.c.at_ ≠ [] ∧ true = false) then (10 : Int) else if false = false ∧ c.c.at_ = c.c.nm then 7 else 0) = 7 := by simp [a1]
        rw [hb7, if_pos ⟨by omega, by decide⟩] at hv
        rw [← hv] at hk
        have c21 := hN; have c22 := hA; have us := an hx (an t1 (an t2 (an k1 (an k2 (an k3 (an k4 (an q0 q1)))))))
        exact W65
      · have q1 : (c.c.at_ = c.c.nm) = False := eq_false a1
        rw [if_neg (fun e => e.2 (by simp [a1])), if_pos (by omega)] at hv
        have c21 := hN; have c22 := hA; have us := an hx (an t1 (an t2 (an k1 (an k2 (an k3 (an k4 (an q0 q1)))))))
        (repeat' (first | with_reducible (first | refine And.intro ?_ ?_ | intro _ | (refine hKv _ _ (AWp_nop ?_); clear hKv Kv) | (refine hKA ?_; clear hKA hKB KA KB) | (refine hKB ?_; clear hKA hKB KA KB) | refine Wp ?_ | fail) | ((first | with_reducible (first | (refine hKv _ _ ?_; clear hKv Kv) | (refine Wr ?_; intro Kv hKv) | refine AWp_retR ?_ | fail) | refine Wc ?_ | fail); try simp (dsimp := false) only [go_sem, Nat.reduceAdd, Nat.reduceBEq, Nat.reduceEqDiff, Nat.reduceLT, Nat.reduceLeDiff, Nat.reduceMul, Int.reduceToNat, reduceCtorEq, ↓reduceIte, us, Bool.false_and, Bool.true_and, Int.reduceEq, Int.reduceLE, Int.reduceLT, Int.reduceNeg, List.map_cons, List.map_nil, clD_1, not_false_eq_true, not_true_eq_false]) | (refine AWp_condC rfl ?_; intro KA KB hKA hKB; try simp only [onB_true, onB_false, onB_dec, onB_ndec, onB_not, onB_and, onB_or]) | (refine AWp_condA rfl ?_ ?_) | with_reducible (first | refine onB_of ?_ ?_ | rfl) | omega))
        all_goals first
          | omega
          | exact ⟨(i + 1, n + 1), ⟨by simp only; omega, by simp only; omega, hv⟩, by simp only; omega, by simp only; omega⟩
          | exact ⟨(i + 1, n + 1), ⟨by simp only; omega, by simp only; omega, hv⟩, by simp only; omega, by simp only; omega, by simp only; omega⟩
          | (refine ⟨(i + 1, n + 1), ⟨by simp only; omega, by simp only; omega, hv⟩, by simp only; omega, ?_⟩
             (repeat' (refine And.intro ?_ ?_)) <;> first | rfl | omega | (simp only; omega) | (simp; done))
namespace FN53
def tks : Nat → List Nat | 0 => [0] | 1 => [0, 3] | 2 => [0, 3, 4] | 3 => [0, 3, 4, 10] | 4 => [0, 3, 4] | 5 => [0, 3, 4, 5] | 6 => [0, 3, 4, 5, 20] | 7 => [2] | 8 => [0, 3, 4, 5, 39] | 9 => [2] | 10 => [0, 3, 4, 5, 53] | 11 => [2] | 12 => [0, 3, 4, 5, 56] | 13 => [0, 3, 4, 5] | 14 => [0, 3, 4, 5, 66] | 15 => [0, 3, 4, 6] | 16 => [0, 3, 4, 6, 76] | 17 => [2] | 18 => [2] | _ => []
def tmu : List Nat := []
def tin : List Nat := [0]
def tro : Nat → List Nat | 5 => [5] | _ => []
abbrev tfn := @Tryd.func53
end FN53
attribute [go_sem] FN53.tks FN53.tmu FN53.tin FN53.tro Tryd.ntmps53 Tryd.results53
open FN53 in
theorem clausesFault_A (l : List Cl) (ok : ClsOk l) (H : Heap) (K : V → Heap → Prop) (hk : K (.d (.i .i64 (clsQ l 0))) H) : ACalls Tryd.prog 53 [.d (.sl 15 (l.map clD))] H K := by
  have hlen := ok.len
  refine We ?_
  have us := eq_self (0 : Nat)
  refine W63 ?_
  refine AWp_while0 (fun y : Nat × Nat => y.1 ≤ l.length ∧ y.2 ≤ y.1 ∧ clsQ (l.drop y.1) y.2 = clsQ l 0) (fun y => [(0, .d (.sl 15 (l.map clD))), (3, .d (.i .i64 (y.2 : Int))), (4, .d (.i .i64 y.1))]) (fun y => l.length - y.1) (0, 0) ⟨Nat.zero_le _, Nat.le_refl _, rfl⟩ ?_ ?_
  · simp (dsimp := false) only [go_sem, Nat.reduceAdd, Nat.reduceBEq, Nat.reduceEqDiff, Nat.reduceLT, Nat.reduceLeDiff, Nat.reduceMul, Int.reduceToNat, reduceCtorEq, ↓reduceIte, not_true_eq_false, not_false_eq_true, Bool.true_and, Bool.false_and, Int.reduceEq, Int.reduceLT, Int.reduceLE, Int.reduceNeg, List.map_cons, List.map_nil]
    first | done | (simp; done)
  rintro ⟨i, n⟩ ⟨hi, hn, hv⟩
  simp only at hi hn hv
  have t2 : ((0 : Int) ≤ (i : Int)) = True := eq_true (by omega)
  by_cases hil : i < l.length
  case neg =>
    have t1 : ((i : Int) < (l.length : Int)) = False := eq_false (by omega)
    rw [List.drop_eq_nil_of_le (by omega), clsQ] at hv
    have us := t1
    exact W64
  have t1 : ((i : Int) < (l.length : Int)) = True := eq_true (by omega)
  obtain ⟨c, hx⟩ : ∃ x, l[i]? = some x := ⟨l[i], List.getElem?_eq_getElem hil⟩
  have onm := ok.nm c (List.mem_of_getElem? hx)
  have oat := ok.at_ c (List.mem_of_getElem? hx)
  rw [drop_of_get hx, clsQ_cons] at hv
  have hhead : (l.drop (i + 1)).head? = l[i + 1]? := by rw [List.head?_drop]
  have hni : (l.drop (i + 1) = []) ↔ ¬ (i + 1 < l.length) := by rw [List.drop_eq_nil_iff]; omega
  have hI := in_A c.c.k 1 4
  have j1 : ((i : Int) < (l.length : Int) - 1) = decide (i + 1 < l.length) := by rw [eq_iff_iff, decide_eq_true_iff]; omega
  by_cases hr : 1 ≤ c.c.k ∧ c.c.k ≤ 4
  case neg =>
    rw [if_pos hr] at hv
    rw [decide_eq_false (by omega)] at hI
    have k1 : (c.c.k = 1) = False := eq_false (by omega)
    have k2 : (c.c.k = 2) = False := eq_false (by omega)
    have k3 : (c.c.k = 3) = False := eq_false (by omega)
    have k4 : (c.c.k = 4) = False := eq_false (by omega)
    rw [← hv] at hk
    have c21 := hI; have us := an hx (an t1 (an t2 (an k1 (an k2 (an k3 k4)))))
    exact W65
  rw [if_neg (fun e => e hr)] at hv
  rw [decide_eq_true (by omega)] at hI
  by_cases c3 : c.c.k = 3
  · have k1 : (c.c.k = 1) = False := eq_false (by omega)
    have k2 : (c.c.k = 2) = False := eq_false (by omega)
    have k3 : (c.c.k = 3) = True := eq_true (by omega)
    have k4 : (c.c.k = 4) = False := eq_false (by omega)
    have e4 : ¬(c.c.k = 4 ∧ (l.drop (i + 1) ≠ [] ∨ n ≠ 1)) := fun e => by omega
    have e12 : ¬((c.c.k = 1 ∨ c.c.k = 2) ∧ bindQ c.c.nm c.c.at_ (decide (c.c.k = 2)) ≠ 0) := fun e => by omega
    by_cases hnl : i + 1 < l.length
    · obtain ⟨d, hd⟩ : ∃ x, l[i + 1]? = some x := ⟨l[i + 1], List.getElem?_eq_getElem hnl⟩
      have hnx1 : ((i : Int) + 1 < (l.length : Int)) = True := eq_true (by omega)
      have hnx2 : ((i : Int) < (l.length : Int) - 1) = True := eq_true (by omega)
      have hnx3 : ((0 : Int) ≤ (i : Int) + 1) = True := eq_true (by omega)
      have hnx4 : ((i : Int) + 1).toNat = i + 1 := by omega
      by_cases d4 : d.c.k = 4
      · have q1 : (d.c.k = 4) = True := eq_true d4
        rw [if_neg (fun e => by rw [hhead, hd] at e; simp [d4] at e), if_neg e4, if_neg e12, if_neg (by omega)] at hv
        have c21 := hI; have us := an hx (an t1 (an t2 (an k1 (an k2 (an k3 (an k4 (an hnx1 (an hnx2 (an hnx3 (an hnx4 (an hd q1)))))))))))
        (repeat' (first | with_reducible (first | refine And.intro ?_ ?_ | intro _ | (refine hKv _ _ (AWp_nop ?_); clear hKv Kv) | (refine hKA ?_; clear hKA hKB KA KB) | (refine hKB ?_; clear hKA hKB KA KB) | refine Wp ?_ | fail) | ((first | with_reducible (first | (refine hKv _ _ ?_; clear hKv Kv) | (refine Wr ?_; intro Kv hKv) | refine AWp_retR ?_ | fail) | refine Wc ?_ | fail); try simp (dsimp := false) only [go_sem, Nat.reduceAdd, Nat.reduceBEq, Nat.reduceEqDiff, Nat.reduceLT, Nat.reduceLeDiff, Nat.reduceMul, Int.reduceToNat, reduceCtorEq, ↓reduceIte, us, Bool.false_and, Bool.true_and, Int.reduceEq, Int.reduceLE, Int.reduceLT, Int.reduceNeg, List.map_cons, List.map_nil, clD_1, not_false_eq_true, not_true_eq_false]) | (refine AWp_condC rfl ?_; intro KA KB hKA hKB; try simp only [onB_true, onB_false, onB_dec, onB_ndec, onB_not, onB_and, onB_or]) | (refine AWp_condA rfl ?_ ?_) | with_reducible (first | refine onB_of ?_ ?_ | rfl) | omega))
        all_goals first
          | omega
          | exact ⟨(i + 1, n), ⟨by simp only; omega, by simp only; omega, hv⟩, by simp only; omega, by simp only; omega⟩
          | exact ⟨(i + 1, n), ⟨by simp only; omega, by simp only; omega, hv⟩, by simp only; omega, by simp only; omega, by simp only; omega⟩
          | (refine ⟨(i + 1, n), ⟨by simp only; omega, by simp only; omega, hv⟩, by simp only; omega, ?_⟩
             (repeat' (refine And.intro ?_ ?_)) <;> first | rfl | omega | (simp only; omega) | (simp; done))
      · have q1 : (d.c.k = 4) = False := eq_false d4
        rw [if_pos ⟨c3, by rw [hhead, hd]; simp [d4]⟩] at hv
        rw [← hv] at hk
        have c21 := hI; have us := an hx (an t1 (an t2 (an k1 (an k2 (an k3 (an k4 (an hnx1 (an hnx2 (an hnx3 (an hnx4 (an hd q1)))))))))))
        exact W65
    · have hnx1 : ((i : Int) + 1 < (l.length : Int)) = False := eq_false (by omega)
      have hnx2 : ((i : Int) < (l.length : Int) - 1) = False := eq_false (by omega)
      have hnx3 : ((0 : Int) ≤ (i : Int) + 1) = True := eq_true (by omega)
      have hnx4 : ((i : Int) + 1).toNat = i + 1 := by omega
      rw [if_neg (fun e => by rw [hhead, List.getElem?_eq_none (by omega)] at e; simp at e), if_neg e4, if_neg e12, if_neg (by omega)] at hv
      have c21 := hI; have us := an hx (an t1 (an t2 (an k1 (an k2 (an k3 (an k4 (an hnx1 (an hnx2 (an hnx3 hnx4)))))))))
      (repeat' (first | with_reducible (first | refine And.intro ?_ ?_ | intro _ | (refine hKv _ _ (AWp_nop ?_); clear hKv Kv) | (refine hKA ?_; clear hKA hKB KA KB) | (refine hKB ?_; clear hKA hKB KA KB) | refine Wp ?_ | fail) | ((first | with_reducible (first | (refine hKv _ _ ?_; clear hKv Kv) | (refine Wr ?_; intro Kv hKv) | refine AWp_retR ?_ | fail) | refine Wc ?_ | fail); try simp (dsimp := false) only [go_sem, Nat.reduceAdd, Nat.reduceBEq, Nat.reduceEqDiff, Nat.reduceLT, Nat.reduceLeDiff, Nat.reduceMul, Int.reduceToNat, reduceCtorEq, ↓reduceIte, us, Bool.false_and, Bool.true_and, Int.reduceEq, Int.reduceLE, Int.reduceLT, Int.reduceNeg, List.map_cons, List.map_nil, clD_1, not_false_eq_true, not_true_eq_false]) | (refine AWp_condC rfl ?_; intro KA KB hKA hKB; try simp only [onB_true, onB_false, onB_dec, onB_ndec, onB_not, onB_and, onB_or]) | (refine AWp_condA rfl ?_ ?_) | with_reducible (first | refine onB_of ?_ ?_ | rfl) | omega))
      all_goals first
        | omega
        | exact ⟨(i + 1, n), ⟨by simp only; omega, by simp only; omega, hv⟩, by simp only; omega, by simp only; omega⟩
        | exact ⟨(i + 1, n), ⟨by simp only; omega, by simp only; omega, hv⟩, by simp only; omega, by simp only; omega, by simp only; omega⟩
        | (refine ⟨(i + 1, n), ⟨by simp only; omega, by simp only; omega, hv⟩, by simp only; omega, ?_⟩
           (repeat' (refine And.intro ?_ ?_)) <;> first | rfl | omega | (simp only; omega) | (simp; done))
  have e3 : ¬(c.c.k = 3 ∧ (((l.drop (i + 1)).head?.map fun d => decide (d.c.k ≠ 4)).getD false) = true) := fun e => c3 e.1
  rw [if_neg e3] at hv
  by_cases c4 : c.c.k = 4
  · have k1 : (c.c.k = 1) = False := eq_false (by omega)
    have k2 : (c.c.k = 2) = False := eq_false (by omega)
    have k3 : (c.c.k = 3) = False := eq_false (by omega)
    have k4 : (c.c.k = 4) = True := eq_true (by omega)
    have e12 : ¬((c.c.k = 1 ∨ c.c.k = 2) ∧ bindQ c.c.nm c.c.at_ (decide (c.c.k = 2)) ≠ 0) := fun e => by omega
    by_cases hnl : i + 1 < l.length
    · have hnx1 : ((i : Int) + 1 < (l.length : Int)) = True := eq_true (by omega)
      have hnx2 : ((i : Int) < (l.length : Int) - 1) = True := eq_true (by omega)
      have hnx3 : ((0 : Int) ≤ (i : Int) + 1) = True := eq_true (by omega)
      have hnx4 : ((i : Int) + 1).toNat = i + 1 := by omega
      rw [if_pos ⟨c4, .inl (fun e => (hni.1 e) hnl)⟩] at hv
      rw [← hv] at hk
      have c21 := hI; have us := an hx (an t1 (an t2 (an k1 (an k2 (an k3 (an k4 (an hnx1 (an hnx2 (an hnx3 hnx4)))))))))
      exact W65
    · have hnx1 : ((i : Int) + 1 < (l.length : Int)) = False := eq_false (by omega)
      have hnx2 : ((i : Int) < (l.length : Int) - 1) = False := eq_false (by omega)
      have hnx3 : ((0 : Int) ≤ (i : Int) + 1) = True := eq_true (by omega)
      have hnx4 : ((i : Int) + 1).toNat = i + 1 := by omega
      have hnil := hni.2 hnl
      by_cases n1 : n = 1
      · have q1 : ((n : Int) = 1) = True := eq_true (by omega)
        rw [if_neg (fun e => by rcases e.2 with e | e; exact e hnil; exact e n1), if_neg e12, if_neg (by omega)] at hv
        have c21 := hI; have us := an hx (an t1 (an t2 (an k1 (an k2 (an k3 (an k4 (an hnx1 (an hnx2 (an hnx3 (an hnx4 q1))))))))))
        (repeat' (first | with_reducible (first | refine And.intro ?_ ?_ | intro _ | (refine hKv _ _ (AWp_nop ?_); clear hKv Kv) | (refine hKA ?_; clear hKA hKB KA KB) | (refine hKB ?_; clear hKA hKB KA KB) | refine Wp ?_ | fail) | ((first | with_reducible (first | (refine hKv _ _ ?_; clear hKv Kv) | (refine Wr ?_; intro Kv hKv) | refine AWp_retR ?_ | fail) | refine Wc ?_ | fail); try simp (dsimp := false) only [go_sem, Nat.reduceAdd, Nat.reduceBEq, Nat.reduceEqDiff, Nat.reduceLT, Nat.reduceLeDiff, Nat.reduceMul, Int.reduceToNat, reduceCtorEq, ↓reduceIte, us, Bool.false_and, Bool.true_and, Int.reduceEq, Int.reduceLE, Int.reduceLT, Int.reduceNeg, List.map_cons, List.map_nil, clD_1, not_false_eq_true, not_true_eq_false]) | (refine AWp_condC rfl ?_; intro KA KB hKA hKB; try simp only [onB_true, onB_false, onB_dec, onB_ndec, onB_not, onB_and, onB_or]) | (refine AWp_condA rfl ?_ ?_) | with_reducible (first | refine onB_of ?_ ?_ | rfl) | omega))
        all_goals first
          | omega
          | exact ⟨(i + 1, n), ⟨by simp only; omega, by simp only; omega, hv⟩, by simp only; omega, by simp only; omega⟩
          | exact ⟨(i + 1, n), ⟨by simp only; omega, by simp only; omega, hv⟩, by simp only; omega, by simp only; omega, by simp only; omega⟩
          | (refine ⟨(i + 1, n), ⟨by simp only; omega, by simp only; omega, hv⟩, by simp only; omega, ?_⟩
             (repeat' (refine And.intro ?_ ?_)) <;> first | rfl | omega | (simp only; omega) | (simp; done))
      · have q1 : ((n : Int) = 1) = False := eq_false (by omega)
        rw [if_pos ⟨c4, .inr n1⟩] at hv
        rw [← hv] at hk
        have c21 := hI; have us := an hx (an t1 (an t2 (an k1 (an k2 (an k3 (an k4 (an hnx1 (an hnx2 (an hnx3 (an hnx4 q1))))))))))
        exact W65
  rw [if_neg (fun e => c4 e.1)] at hv
  by_cases c2 : c.c.k = 2
  · have k1 : (c.c.k = 1) = False := eq_false (by omega)
    have k2 : (c.c.k = 2) = True := eq_true (by omega)
    have k3 : (c.c.k = 3) = False := eq_false (by omega)
    have k4 : (c.c.k = 4) = False := eq_false (by omega)
    have hde : decide (c.c.k = 2) = true := decide_eq_true (by omega)
    rw [hde] at hv
    have hb := bindFault_A c.c.nm c.c.at_ true (by omega) (by omega)
    by_cases hz : bindQ c.c.nm c.c.at_ true = 0
    · have q1 : (bindQ c.c.nm c.c.at_ true = 0) = True := eq_true hz
      rw [if_neg (fun e => e.2 hz), if_neg (by omega)] at hv
      have c21 := hI; have c22 := hb; have us := an hx (an t1 (an t2 (an k1 (an k2 (an k3 (an k4 q1))))))
      (repeat' (first | with_reducible (first | refine And.intro ?_ ?_ | intro _ | (refine hKv _ _ (AWp_nop ?_); clear hKv Kv) | (refine hKA ?_; clear hKA hKB KA KB) | (refine hKB ?_; clear hKA hKB KA KB) | refine Wp ?_ | fail) | ((first | with_reducible (first | (refine hKv _ _ ?_; clear hKv Kv) | (refine Wr ?_; intro Kv hKv) | refine AWp_retR ?_ | fail) | refine Wc ?_ | fail); try simp (dsimp := false) only [go_sem, Nat.reduceAdd, Nat.reduceBEq, Nat.reduceEqDiff, Nat.reduceLT, Nat.reduceLeDiff, Nat.reduceMul, Int.reduceToNat, reduceCtorEq, ↓reduceIte, us, Bool.false_and, Bool.true_and, Int.reduceEq, Int.reduceLE, Int.reduceLT, Int.reduceNeg, List.map_cons, List.map_nil, clD_1, not_false_eq_true, not_true_eq_false]) | (refine AWp_condC rfl ?_; intro KA KB hKA hKB; try simp only [onB_true, onB_false, onB_dec, onB_ndec, onB_not, onB_and, onB_or]) | (refine AWp_condA rfl ?_ ?_) | with_reducible (first | refine onB_of ?_ ?_ | rfl) | omega))
      all_goals first
        | omega
        | exact ⟨(i + 1, n), ⟨by simp only; omega, by simp only; omega, hv⟩, by simp only; omega, by simp only; omega⟩
        | exact ⟨(i + 1, n), ⟨by simp only; omega, by simp only; omega, hv⟩, by simp only; omega, by simp only; omega, by simp only; omega⟩
        | (refine ⟨(i + 1, n), ⟨by simp only; omega, by simp only; omega, hv⟩, by simp only; omega, ?_⟩
           (repeat' (refine And.intro ?_ ?_)) <;> first | rfl | omega | (simp only; omega) | (simp; done))
    · have q1 : (bindQ c.c.nm c.c.at_ true = 0) = False := eq_false hz
      rw [if_pos ⟨by omega, hz⟩] at hv
      rw [← hv] at hk
      have c21 := hI; have c22 := hb; have us := an hx (an t1 (an t2 (an k1 (an k2 (an k3 (an k4 q1))))))
      exact W65
  have c1 : c.c.k = 1 := by omega
  have k1 : (c.c.k = 1) = True := eq_true (by omega)
  have k2 : (c.c.k = 2) = False := eq_false (by omega)
  have k3 : (c.c.k = 3) = False := eq_false (by omega)
  have k4 : (c.c.k = 4) = False := eq_false (by omega)
  have hde : decide (c.c.k = 2) = false := decide_eq_false (by omega)
  rw [hde] at hv
  have hb := bindFault_A c.c.nm c.c.at_ false (by omega) (by omega)
  by_cases hz : bindQ c.c.nm c.c.at_ false = 0
  · have q1 : (bindQ c.c.nm c.c.at_ false = 0) = True := eq_true hz
    rw [if_neg (fun e => e.2 hz), if_pos (by omega)] at hv
    have c21 := hI; have c22 := hb; have us := an hx (an t1 (an t2 (an k1 (an k2 (an k3 (an k4 q1))))))
    (repeat' (first | with_reducible (first | refine And.intro ?_ ?_ | intro _ | (refine hKv _ _ (AWp_nop ?_); clear hKv Kv) | (refine hKA ?_; clear hKA hKB KA KB) | (refine hKB ?_; clear hKA hKB KA KB) | refine Wp ?_ | fail) | ((first | with_reducible (first | (refine hKv _ _ ?_; clear hKv Kv) | (refine Wr ?_; intro Kv hKv) | refine AWp_retR ?_ | fail) | refine Wc ?_ | fail); try simp (dsimp := false) only [go_sem, Nat.reduceAdd, Nat.reduceBEq, Nat.reduceEqDiff, Nat.reduceLT, Nat.reduceLeDiff, Nat.reduceMul, Int.reduceToNat, reduceCtorEq, ↓reduceIte, us, Bool.false_and, Bool.true_and, Int.reduceEq, Int.reduceLE, Int.reduceLT, Int.reduceNeg, List.map_cons, List.map_nil, clD_1, not_false_eq_true, not_true_eq_false]) | (refine AWp_condC rfl ?_; intro KA KB hKA hKB; try simp only [onB_true, onB_false, onB_dec, onB_ndec, onB_not, onB_and, onB_or]) | (refine AWp_condA rfl ?_ ?_) | with_reducible (first | refine onB_of ?_ ?_ | rfl) | omega))
    all_goals first
      | omega
      | exact ⟨(i + 1, n + 1), ⟨by simp only; omega, by simp only; omega, hv⟩, by simp only; omega, by simp only; omega⟩
      | exact ⟨(i + 1, n + 1), ⟨by simp only; omega, by simp only; omega, hv⟩, by simp only; omega, by simp only; omega, by simp only; omega⟩
      | (refine ⟨(i + 1, n + 1), ⟨by simp only; omega, by simp only; omega, hv⟩, by simp only; omega, ?_⟩
         (repeat' (refine And.intro ?_ ?_)) <;> first | rfl | omega | (simp only; omega) | (simp; done))
  · have q1 : (bindQ c.c.nm c.c.at_ false = 0) = False := eq_false hz
    rw [if_pos ⟨by omega, hz⟩] at hv
    rw [← hv] at hk
    have c21 := hI; have c22 := hb; have us := an hx (an t1 (an t2 (an k1 (an k2 (an k3 (an k4 q1))))))
    exact W65
end Go.Proofs.YtdmkfkjdielmiaaDoor
