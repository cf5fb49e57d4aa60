/- Lowering: has a phrase as many parts as it must have, may its clauses stand so: walked. No condition but that the tables of package unicode/utf8 are there. -/
import Derived.Test.YtdmkfkjdielmiaaDoorP19
import Derived.Test.YtdmkfkjdielmiaaDoorP35
import Derived.Test.YtdmkfkjdielmiaaDoorP41
import Derived.Test.YtdmkfkjdielmiaaDoorP37
set_option linter.all false
set_option linter.unusedSimpArgs false
set_option linter.unusedVariables false
namespace Go.Proofs.YtdmkfkjdielmiaaDoor
open Go Go.Proofs.YtdmkfkjdielmiaaDoor.Ab
variable [Glo] [U8] [CAr]
set_option maxHeartbeats 4000000
set_option maxRecDepth 20000
namespace FN45
def tks : Nat → List Nat | 0 => [1] | 1 => [1, 3] | 2 => [1, 3] | 3 => [3, 9] | 4 => [2] | 5 => [3, 9, 10] | 6 => [3, 9, 10] | 7 => [3, 9, 10] | 8 => [3, 9, 10] | 9 => [3, 9, 10] | 10 => [4] | 11 => [3, 9, 18] | 12 => [3, 9, 18] | 13 => [3, 9, 18] | 14 => [4] | 15 => [3, 9, 24] | 16 => [3, 9, 24] | 17 => [3, 9, 24] | 18 => [3, 9, 24] | 19 => [4] | 20 => [3, 9, 31] | 21 => [4] | 22 => [3, 9, 35] | 23 => [3, 9, 35] | 24 => [4] | 25 => [3, 38] | 26 => [4] | 27 => [43] | 28 => [2] | 29 => [2] | _ => []
def tmu : List Nat := []
def tin : List Nat := [0]
abbrev tfn := @Tryd.func45
end FN45
attribute [go_sem] FN45.tks FN45.tmu FN45.tin Tryd.ntmps45 Tryd.results45
open FN45 in
theorem phraseFault_A (h : Phh) (l : List Ph) (c : List Cl) (hl : l.length ≤ 1048576) (H : Heap) (K : V → Heap → Prop) (hk : K (.d (.i .i64 (formQ h.k l.length))) H) : ACalls Tryd.prog 45 [phW h l c] H K := by
  by_cases c1 : h.k = 1
  · by_cases hn : l.length = 0
    · have i1 : ((l.length : Int) = 0) = True := eq_true (by omega)
      have i2 : ((0 : Int) = (l.length : Int)) = True := eq_true (by omega)
      have e : formQ h.k l.length = 0 := by simp [formQ, c1, hn]
      rw [e] at hk
      refine We ?_
      have us := an c1 (an i1 i2)
      exact W66
    · have i1 : ((l.length : Int) = 0) = False := eq_false (by omega)
      have i2 : ((0 : Int) = (l.length : Int)) = False := eq_false (by omega)
      have e : formQ h.k l.length = 11 := by simp [formQ, c1, hn]
      rw [e] at hk
      refine We ?_
      have us := an c1 (an i1 i2)
      exact W66
  by_cases c2 : h.k = 2
  · by_cases hn : l.length = 0
    · have i1 : ((l.length : Int) = 0) = True := eq_true (by omega)
      have i2 : ((0 : Int) = (l.length : Int)) = True := eq_true (by omega)
      have e : formQ h.k l.length = 0 := by simp [formQ, c2, hn]
      rw [e] at hk
      refine We ?_
      have us := an c2 (an i1 i2)
      exact W66
    · have i1 : ((l.length : Int) = 0) = False := eq_false (by omega)
      have i2 : ((0 : Int) = (l.length : Int)) = False := eq_false (by omega)
      have e : formQ h.k l.length = 11 := by simp [formQ, c2, hn]
      rw [e] at hk
      refine We ?_
      have us := an c2 (an i1 i2)
      exact W66
  by_cases c11 : h.k = 11
  · by_cases hn : l.length = 0
    · have i1 : ((l.length : Int) = 0) = True := eq_true (by omega)
      have i2 : ((0 : Int) = (l.length : Int)) = True := eq_true (by omega)
      have e : formQ h.k l.length = 0 := by simp [formQ, c11, hn]
      rw [e] at hk
      refine We ?_
      have us := an c11 (an i1 i2)
      exact W66
    · have i1 : ((l.length : Int) = 0) = False := eq_false (by omega)
      have i2 : ((0 : Int) = (l.length : Int)) = False := eq_false (by omega)
      have e : formQ h.k l.length = 11 := by simp [formQ, c11, hn]
      rw [e] at hk
      refine We ?_
      have us := an c11 (an i1 i2)
      exact W66
  by_cases c27 : h.k = 27
  · by_cases hn : l.length = 0
    · have i1 : ((l.length : Int) = 0) = True := eq_true (by omega)
      have i2 : ((0 : Int) = (l.length : Int)) = True := eq_true (by omega)
      have e : formQ h.k l.length = 0 := by simp [formQ, c27, hn]
      rw [e] at hk
      refine We ?_
      have us := an c27 (an i1 i2)
      exact W66
    · have i1 : ((l.length : Int) = 0) = False := eq_false (by omega)
      have i2 : ((0 : Int) = (l.length : Int)) = False := eq_false (by omega)
      have e : formQ h.k l.length = 11 := by simp [formQ, c27, hn]
      rw [e] at hk
      refine We ?_
      have us := an c27 (an i1 i2)
      exact W66
  by_cases c9 : h.k = 9
  · by_cases hn : l.length = 0
    · have i1 : ((l.length : Int) = 0) = True := eq_true (by omega)
      have i2 : ((0 : Int) = (l.length : Int)) = True := eq_true (by omega)
      have e : formQ h.k l.length = 0 := by simp [formQ, c9, hn]
      rw [e] at hk
      refine We ?_
      have us := an c9 (an i1 i2)
      exact W66
    · have i1 : ((l.length : Int) = 0) = False := eq_false (by omega)
      have i2 : ((0 : Int) = (l.length : Int)) = False := eq_false (by omega)
      have e : formQ h.k l.length = 11 := by simp [formQ, c9, hn]
      rw [e] at hk
      refine We ?_
      have us := an c9 (an i1 i2)
      exact W66
  by_cases c10 : h.k = 10
  · by_cases hn : l.length = 1
    · have i1 : ((l.length : Int) = 1) = True := eq_true (by omega)
      have i2 : ((1 : Int) = (l.length : Int)) = True := eq_true (by omega)
      have e : formQ h.k l.length = 0 := by simp [formQ, c10, hn]
      rw [e] at hk
      refine We ?_
      have us := an c10 (an i1 i2)
      exact W66
    · have i1 : ((l.length : Int) = 1) = False := eq_false (by omega)
      have i2 : ((1 : Int) = (l.length : Int)) = False := eq_false (by omega)
      have e : formQ h.k l.length = 11 := by simp [formQ, c10, hn]
      rw [e] at hk
      refine We ?_
      have us := an c10 (an i1 i2)
      exact W66
  by_cases c26 : h.k = 26
  · by_cases hn : l.length = 1
    · have i1 : ((l.length : Int) = 1) = True := eq_true (by omega)
      have i2 : ((1 : Int) = (l.length : Int)) = True := eq_true (by omega)
      have e : formQ h.k l.length = 0 := by simp [formQ, c26, hn]
      rw [e] at hk
      refine We ?_
      have us := an c26 (an i1 i2)
      exact W66
    · have i1 : ((l.length : Int) = 1) = False := eq_false (by omega)
      have i2 : ((1 : Int) = (l.length : Int)) = False := eq_false (by omega)
      have e : formQ h.k l.length = 11 := by simp [formQ, c26, hn]
      rw [e] at hk
      refine We ?_
      have us := an c26 (an i1 i2)
      exact W66
  by_cases c28 : h.k = 28
  · by_cases hn : l.length = 1
    · have i1 : ((l.length : Int) = 1) = True := eq_true (by omega)
      have i2 : ((1 : Int) = (l.length : Int)) = True := eq_true (by omega)
      have e : formQ h.k l.length = 0 := by simp [formQ, c28, hn]
      rw [e] at hk
      refine We ?_
      have us := an c28 (an i1 i2)
      exact W66
    · have i1 : ((l.length : Int) = 1) = False := eq_false (by omega)
      have i2 : ((1 : Int) = (l.length : Int)) = False := eq_false (by omega)
      have e : formQ h.k l.length = 11 := by simp [formQ, c28, hn]
      rw [e] at hk
      refine We ?_
      have us := an c28 (an i1 i2)
      exact W66
  by_cases c21 : h.k = 21
  · by_cases hn : l.length = 2
    · have i1 : ((l.length : Int) = 2) = True := eq_true (by omega)
      have i2 : ((2 : Int) = (l.length : Int)) = True := eq_true (by omega)
      have e : formQ h.k l.length = 0 := by simp [formQ, c21, hn]
      rw [e] at hk
      refine We ?_
      have us := an c21 (an i1 i2)
      exact W66
    · have i1 : ((l.length : Int) = 2) = False := eq_false (by omega)
      have i2 : ((2 : Int) = (l.length : Int)) = False := eq_false (by omega)
      have e : formQ h.k l.length = 11 := by simp [formQ, c21, hn]
      rw [e] at hk
      refine We ?_
      have us := an c21 (an i1 i2)
      exact W66
  by_cases c23 : h.k = 23
  · by_cases hn : l.length = 2
    · have i1 : ((l.length : Int) = 2) = True := eq_true (by omega)
      have i2 : ((2 : Int) = (l.length : Int)) = True := eq_true (by omega)
      have e : formQ h.k l.length = 0 := by simp [formQ, c23, hn]
      rw [e] at hk
      refine We ?_
      have us := an c23 (an i1 i2)
      exact W66
    · have i1 : ((l.length : Int) = 2) = False := eq_false (by omega)
      have i2 : ((2 : Int) = (l.length : Int)) = False := eq_false (by omega)
      have e : formQ h.k l.length = 11 := by simp [formQ, c23, hn]
      rw [e] at hk
      refine We ?_
      have us := an c23 (an i1 i2)
      exact W66
  by_cases c24 : h.k = 24
  · by_cases hn : l.length = 2
    · have i1 : ((l.length : Int) = 2) = True := eq_true (by omega)
      have i2 : ((2 : Int) = (l.length : Int)) = True := eq_true (by omega)
      have e : formQ h.k l.length = 0 := by simp [formQ, c24, hn]
      rw [e] at hk
      refine We ?_
      have us := an c24 (an i1 i2)
      exact W66
    · have i1 : ((l.length : Int) = 2) = False := eq_false (by omega)
      have i2 : ((2 : Int) = (l.length : Int)) = False := eq_false (by omega)
      have e : formQ h.k l.length = 11 := by simp [formQ, c24, hn]
      rw [e] at hk
      refine We ?_
      have us := an c24 (an i1 i2)
      exact W66
  by_cases c25 : h.k = 25
  · by_cases hn : l.length = 2
    · have i1 : ((l.length : Int) = 2) = True := eq_true (by omega)
      have i2 : ((2 : Int) = (l.length : Int)) = True := eq_true (by omega)
      have e : formQ h.k l.length = 0 := by simp [formQ, c25, hn]
      rw [e] at hk
      refine We ?_
      have us := an c25 (an i1 i2)
      exact W66
    · have i1 : ((l.length : Int) = 2) = False := eq_false (by omega)
      have i2 : ((2 : Int) = (l.length : Int)) = False := eq_false (by omega)
      have e : formQ h.k l.length = 11 := by simp [formQ, c25, hn]
      rw [e] at hk
      refine We ?_
      have us := an c25 (an i1 i2)
      exact W66
  by_cases c7 : h.k = 7
  · by_cases hn : l.length = 3
    · have i1 : ((l.length : Int) = 3) = True := eq_true (by omega)
      have i2 : ((3 : Int) = (l.length : Int)) = True := eq_true (by omega)
      have e : formQ h.k l.length = 0 := by simp [formQ, c7, hn]
      rw [e] at hk
      refine We ?_
      have us := an c7 (an i1 i2)
      exact W66
    · have i1 : ((l.length : Int) = 3) = False := eq_false (by omega)
      have i2 : ((3 : Int) = (l.length : Int)) = False := eq_false (by omega)
      have e : formQ h.k l.length = 11 := by simp [formQ, c7, hn]
      rw [e] at hk
      refine We ?_
      have us := an c7 (an i1 i2)
      exact W66
  by_cases c3 : h.k = 3
  · have e : formQ h.k l.length = 0 := by simp [formQ, c3]
    rw [e] at hk
    refine We ?_
    have us := c3
    exact W66
  by_cases c8 : h.k = 8
  · have e : formQ h.k l.length = 0 := by simp [formQ, c8]
    rw [e] at hk
    refine We ?_
    have us := c8
    exact W66
  by_cases c22 : h.k = 22
  · by_cases hn : l.length = 0
    · have i1 : ((l.length : Int) = 0) = True := eq_true (by omega)
      have i2 : ((0 : Int) < (l.length : Int)) = False := eq_false (by omega)
      have e : formQ h.k l.length = 11 := by simp [formQ, c22, hn]
      rw [e] at hk
      refine We ?_
      have us := an c22 (an i1 i2)
      exact W66
    · have i1 : ((l.length : Int) = 0) = False := eq_false (by omega)
      have i2 : ((0 : Int) < (l.length : Int)) = True := eq_true (by omega)
      have e : formQ h.k l.length = 0 := by simp [formQ, c22, hn]
      rw [e] at hk
      refine We ?_
      have us := an c22 (an i1 i2)
      exact W66
  have k1 : (h.k = 1) = False := eq_false c1
  have k2 : (h.k = 2) = False := eq_false c2
  have k11 : (h.k = 11) = False := eq_false c11
  have k27 : (h.k = 27) = False := eq_false c27
  have k9 : (h.k = 9) = False := eq_false c9
  have k10 : (h.k = 10) = False := eq_false c10
  have k26 : (h.k = 26) = False := eq_false c26
  have k28 : (h.k = 28) = False := eq_false c28
  have k21 : (h.k = 21) = False := eq_false c21
  have k23 : (h.k = 23) = False := eq_false c23
  have k24 : (h.k = 24) = False := eq_false c24
  have k25 : (h.k = 25) = False := eq_false c25
  have k7 : (h.k = 7) = False := eq_false c7
  have k3 : (h.k = 3) = False := eq_false c3
  have k8 : (h.k = 8) = False := eq_false c8
  have k22 : (h.k = 22) = False := eq_false c22
  have e : formQ h.k l.length = 3 := by simp [formQ, c1, c2, c11, c27, c9, c10, c26, c28, c21, c23, c24, c25, c7, c3, c8, c22]
  rw [e] at hk
  refine We ?_
  have us := an k1 (an k2 (an k11 (an k27 (an k9 (an k10 (an k26 (an k28 (an k21 (an k23 (an k24 (an k25 (an k7 (an k3 (an k8 k22))))))))))))))
  exact W66
end Go.Proofs.YtdmkfkjdielmiaaDoor
namespace Go.Proofs.YtdmkfkjdielmiaaDoor
open Go Go.Proofs.YtdmkfkjdielmiaaDoor.Ab
variable [Glo] [U8] [CAr]
set_option maxHeartbeats 4000000
set_option maxRecDepth 20000
def loV (r : Ex × Int) : V := .tu [exW r.1, .d (.i .i64 r.2)]
theorem loV_bel (m : Nat) (r : Ex × Int) : Bel m (loV r) := by simp [loV, exW, exV, Bel_tu, Bel_ag, Bel_d]
def RefAt (g : Ph → Sc → Ex × Int) (B : Nat) : Prop := ∀ (p : Ph) (sc : Sc) (H : Heap) (K : V → Heap → Prop), PLow B p sc → K (loV (g p sc)) H → ACalls Tryd.prog 17 [phW p.h p.args p.cls, .d (.sl 1 (sc.map strRow))] H K
theorem allR_fault {g : Ph → Sc → Ex × Int} {sc : Sc} {x : Ph} : ∀ {l : List Ph} {i : Nat}, (∀ p, p ∈ l.take i → (g p sc).2 = 0) → l[i]? = some x → (g x sc).2 ≠ 0 → allR g l sc = ([], (g x sc).2)
  | [], i, _, h, _ => by simp at h
  | p :: l, 0, _, h, hx => by
    simp at h
    subst h
    rw [allR, if_pos hx]
  | p :: l, i + 1, hp, h, hx => by
    have ih := allR_fault (l := l) (i := i) (fun q hq => hp q (by simp [hq])) (by simpa using h) hx
    rw [allR, if_neg (nn (hp p (by simp))), ih, if_pos hx]
theorem allR_ok {g : Ph → Sc → Ex × Int} {sc : Sc} : ∀ {l : List Ph}, (∀ p, p ∈ l → (g p sc).2 = 0) → allR g l sc = (l.map fun p => (g p sc).1, 0)
  | [], _ => rfl
  | p :: l, hp => by
    have ih := allR_ok (l := l) fun q hq => hp q (.tail _ hq)
    rw [allR, if_neg (nn (hp p (.head _))), ih, if_neg (nn rfl), List.map_cons]
def alV (r : List Ex × Int) : V := .tu [.d (.sl 11 (r.1.map exD)), .d (.i .i64 r.2)]
namespace FN58
def tks : Nat → List Nat | 0 => [0, 1] | 1 => [0, 1, 6] | 2 => [0, 1, 6, 7] | 3 => [0, 1, 6, 7, 13] | 4 => [0, 1, 6, 7] | 5 => [0, 1, 6, 7, 8, 9] | 6 => [0, 1, 6, 7, 8, 9, 26] | 7 => [4, 5] | 8 => [0, 1, 6, 7] | 9 => [4, 5] | _ => []
def tmu : List Nat := [6]
def tin : List Nat := [0, 1]
abbrev tfn := @Tryd.func58
end FN58
attribute [go_sem] FN58.tks FN58.tmu FN58.tin Tryd.ntmps58 Tryd.results58
open FN58 in
theorem loweredAll_A {g : Ph → Sc → Ex × Int} {B : Nat} (hg : RefAt g B) (l : List Ph) (hlen : l.length ≤ 1048576) (sc : Sc) (hp : ∀ p, p ∈ l → PLow B p sc) (H : Heap) (K : V → Heap → Prop) (hk : K (alV (allR g l sc)) H) :
    ACalls Tryd.prog 58 [.d (.sl 11 (l.map phD)), .d (.sl 1 (sc.map strRow))] H K := by
  refine We ?_
  have us := eq_self (0 : Nat)
  refine W1 ?_
  refine AWp_whileD (fun i : Nat => i ≤ l.length ∧ ∀ p, p ∈ l.take i → (g p sc).2 = 0) (fun i => [(0, .d (.sl 11 (l.map phD))), (1, .d (.sl 1 (sc.map strRow))), (6, .os H.length i), (7, .d (.i .i64 i))])
    (fun i => [.row i 32 11 (((l.take i).map fun p => (g p sc).1).map exC)]) (fun i => l.length - i) 0 ⟨Nat.zero_le _, by simp⟩ ⟨[], ?_⟩ ?_ ?_ ?_
  · first | rfl | (simp; done)
  · simp (dsimp := false) only [go_sem, Nat.reduceAdd, Nat.reduceBEq, Nat.reduceEqDiff, Nat.reduceLT, Nat.reduceLeDiff, Nat.reduceMul, Int.reduceToNat, reduceCtorEq, ↓reduceIte]
    first | done | (simp; done)
  · rintro i _ ob hob
    rw [List.mem_singleton.1 hob]
    exact exC_bel _ _ _ _ _
  rintro i ⟨hi, hv⟩
  have t2 : ((0 : Int) ≤ (i : Int)) = True := eq_true (by omega)
  by_cases hil : i < l.length
  case neg =>
    have t1 : ((i : Int) < (l.length : Int)) = False := eq_false (by omega)
    rw [List.take_of_length_le (by omega)] at hv ⊢
    rw [allR_ok hv, alV] at hk
    have us := t1
    refine W93 ?_ ?_ ?_ ?_ <;> try exact trivial
    all_goals first
      | omega
      | (refine dropF hk (Fz_tu2 ?_ (.same _)) ?_
         · exact .os _ _ 32 11 _ _ (by omega) (get_app0 _ _) (exC_data _)
         · simp [Bel_tu, Bel_d])
  have t1 : ((i : Int) < (l.length : Int)) = True := eq_true (by omega)
  obtain ⟨p, hx⟩ : ∃ x, l[i]? = some x := ⟨l[i], List.getElem?_eq_getElem hil⟩
  have hc := fun H K hk => hg p sc H K (hp p (List.mem_of_getElem? hx)) hk
  rw [phW, loV] at hc
  have hal : (((l.take i).map fun p => (g p sc).1).map exC).length = i := by simp; omega
  by_cases hz : (g p sc).2 = 0
  · have z0 : ((g p sc).2 = 0) = True := eq_true hz
    have c21 := hc; have us := an hx (an t1 (an t2 (an z0 hal)))
    (repeat' (first | with_reducible (first | refine And.intro ?_ ?_ | intro _ | (refine hKv _ _ (AWp_nop ?_); clear hKv Kv) | (refine hKA ?_; clear hKA hKB KA KB) | (refine hKB ?_; clear hKA hKB KA KB) | refine Wp ?_ | fail) | ((first | with_reducible (first | (refine hKv _ _ ?_; clear hKv Kv) | (refine Wr ?_; intro Kv hKv) | refine AWp_retR ?_ | fail) | refine Wc ?_ | fail); try simp (dsimp := false) only [go_sem, Nat.reduceAdd, Nat.reduceBEq, Nat.reduceEqDiff, Nat.reduceLT, Nat.reduceLeDiff, Nat.reduceMul, Int.reduceToNat, reduceCtorEq, ↓reduceIte, us, exV, exW, phD_1]) | (refine AWp_condC rfl ?_; intro KA KB hKA hKB; try simp only [onB_true, onB_false, onB_dec, onB_ndec, onB_not, onB_and, onB_or]) | (refine AWp_condA rfl ?_ ?_) | with_reducible (first | refine onB_of ?_ ?_ | rfl) | omega))
    all_goals first
      | omega
      | skip
    refine ⟨i + 1, [.row 0 32 11 [exC (g p sc).1]], ⟨by omega, fun q hq => ?_⟩, by omega, ?_, ?_⟩
    · rw [take_of_get hx] at hq
      rcases List.mem_append.1 hq with h | h
      · exact hv q h
      · rw [List.mem_singleton.1 h]; exact hz
    · rw [take_of_get hx, List.map_append, List.map_append]
      simp [exC_1]
    · (repeat' (refine And.intro ?_ ?_)) <;> first | rfl | omega | (simp; done) | (simp [hal]; done)
  · have z0 : ((g p sc).2 = 0) = False := eq_false hz
    rw [allR_fault hv hx hz, alV, List.map_nil] at hk
    have c21 := hc; have us := an hx (an t1 (an t2 (an z0 hal)))
    exact W94
end Go.Proofs.YtdmkfkjdielmiaaDoor
namespace Go.Proofs.YtdmkfkjdielmiaaDoor
open Go Go.Proofs.YtdmkfkjdielmiaaDoor.Ab
variable [Glo] [U8] [CAr]
set_option maxHeartbeats 4000000
set_option maxRecDepth 20000
theorem wq00 : (([116, 114, 117, 101] : List UInt8) = [116, 114, 117, 101]) = True := eq_true (by decide)
theorem wq01 : (([116, 114, 117, 101] : List UInt8) = [102, 97, 108, 115, 101]) = False := eq_false (by decide)
theorem wq02 : (([116, 114, 117, 101] : List UInt8) = [112, 111, 115, 105, 116, 105, 111, 110]) = False := eq_false (by decide)
theorem wq03 : (([116, 114, 117, 101] : List UInt8) = [108, 97, 115, 116]) = False := eq_false (by decide)
theorem wq10 : (([102, 97, 108, 115, 101] : List UInt8) = [116, 114, 117, 101]) = False := eq_false (by decide)
theorem wq11 : (([102, 97, 108, 115, 101] : List UInt8) = [102, 97, 108, 115, 101]) = True := eq_true (by decide)
theorem wq12 : (([102, 97, 108, 115, 101] : List UInt8) = [112, 111, 115, 105, 116, 105, 111, 110]) = False := eq_false (by decide)
theorem wq13 : (([102, 97, 108, 115, 101] : List UInt8) = [108, 97, 115, 116]) = False := eq_false (by decide)
theorem wq20 : (([112, 111, 115, 105, 116, 105, 111, 110] : List UInt8) = [116, 114, 117, 101]) = False := eq_false (by decide)
theorem wq21 : (([112, 111, 115, 105, 116, 105, 111, 110] : List UInt8) = [102, 97, 108, 115, 101]) = False := eq_false (by decide)
theorem wq22 : (([112, 111, 115, 105, 116, 105, 111, 110] : List UInt8) = [112, 111, 115, 105, 116, 105, 111, 110]) = True := eq_true (by decide)
theorem wq23 : (([112, 111, 115, 105, 116, 105, 111, 110] : List UInt8) = [108, 97, 115, 116]) = False := eq_false (by decide)
theorem wq30 : (([108, 97, 115, 116] : List UInt8) = [116, 114, 117, 101]) = False := eq_false (by decide)
theorem wq31 : (([108, 97, 115, 116] : List UInt8) = [102, 97, 108, 115, 101]) = False := eq_false (by decide)
theorem wq32 : (([108, 97, 115, 116] : List UInt8) = [112, 111, 115, 105, 116, 105, 111, 110]) = False := eq_false (by decide)
theorem wq33 : (([108, 97, 115, 116] : List UInt8) = [108, 97, 115, 116]) = True := eq_true (by decide)
theorem calQ_ne : ∀ p, p ∈ calledE → p.2 ≠ [] := by decide
namespace FN55
def tks : Nat → List Nat | 0 => [1, 2, 4] | 1 => [1, 2, 4, 26] | 2 => [1, 2, 4, 30] | 3 => [4, 5] | 4 => [1, 4, 33] | 5 => [1, 4, 33, 34] | 6 => [4, 5] | 7 => [1, 4, 33, 37] | 8 => [4, 5] | 9 => [1, 4, 40] | 10 => [4, 5] | 11 => [4, 5] | 12 => [1, 2, 4, 6] | 13 => [1, 2, 4, 6, 54] | 14 => [4, 5] | 15 => [1, 2, 4, 6, 61] | 16 => [4, 5] | 17 => [4, 6, 7, 8] | 18 => [4, 5] | _ => []
def tmu : List Nat := []
def tin : List Nat := [0, 1]
def tnd : Nat → Nat | 15 => 5 | _ => 0
abbrev tfn := @Tryd.func55
end FN55
attribute [go_sem] FN55.tks FN55.tmu FN55.tin FN55.tnd Tryd.ntmps55 Tryd.results55
open FN55 in
theorem loweredCall_A {g : Ph → Sc → Ex × Int} {B : Nat} (hg : RefAt g B) (h : Phh) (l : List Ph) (c : List Cl) (ok : PhhOk h) (hl : l.length ≤ 1048576) (sc : Sc) (hsc : sc.length ≤ 10000000) (hp : ∀ p, p ∈ l → PLow B p sc) (H : Heap) (K : V → Heap → Prop) (hk : K (loV (callR g h.nm l sc)) H) :
    ACalls Tryd.prog 55 [phW h l c, .d (.sl 1 (sc.map strRow))] H K := by
  have o2 := ok.nm
  rw [callR] at hk
  have hn := none_A
  by_cases w0 : h.nm = sTrue
  · rw [if_pos (by rw [w0]; decide)] at hk
    by_cases hn0 : l.length = 0
    · have i1 : ((0 : Int) < (l.length : Int)) = False := eq_false (by omega)
      rw [if_neg (show ¬ l.length ≠ 0 from fun e => e hn0), w0] at hk
      rw [if_pos rfl] at hk
      have hs := asBool_A 1
      refine We ?_
      have c21 := hs; have us := an w0 i1
      exact W95
    · have i1 : ((0 : Int) < (l.length : Int)) = True := eq_true (by omega)
      rw [if_pos (show l.length ≠ 0 from hn0)] at hk
      refine We ?_
      have c21 := hn; have us := an w0 i1
      exact W95
  have v0 : (h.nm = sTrue) = False := eq_false w0
  rw [sTrue] at v0
  by_cases w1 : h.nm = sFalse
  · rw [if_pos (by rw [w1]; decide)] at hk
    by_cases hn0 : l.length = 0
    · have i1 : ((0 : Int) < (l.length : Int)) = False := eq_false (by omega)
      rw [if_neg (show ¬ l.length ≠ 0 from fun e => e hn0), w1] at hk
      rw [if_neg (by decide), if_pos rfl] at hk
      have hs := asBool_A 0
      refine We ?_
      have c21 := hs; have us := an w1 i1
      exact W96
    · have i1 : ((0 : Int) < (l.length : Int)) = True := eq_true (by omega)
      rw [if_pos (show l.length ≠ 0 from hn0)] at hk
      refine We ?_
      have c21 := hn; have us := an w1 i1
      exact W96
  have v1 : (h.nm = sFalse) = False := eq_false w1
  rw [sFalse] at v1
  by_cases w2 : h.nm = sPosition
  · rw [if_pos (by rw [w2]; decide)] at hk
    by_cases hn0 : l.length = 0
    · have i1 : ((0 : Int) < (l.length : Int)) = False := eq_false (by omega)
      rw [if_neg (show ¬ l.length ≠ 0 from fun e => e hn0), w2] at hk
      rw [if_neg (by decide), if_neg (by decide), if_pos rfl] at hk
      have hs := visible_A sAt sc (by omega)
      refine We ?_
      have c21 := hs; have us := an w2 i1
      exact W97
    · have i1 : ((0 : Int) < (l.length : Int)) = True := eq_true (by omega)
      rw [if_pos (show l.length ≠ 0 from hn0)] at hk
      refine We ?_
      have c21 := hn; have us := an w2 i1
      exact W97
  have v2 : (h.nm = sPosition) = False := eq_false w2
  rw [sPosition] at v2
  by_cases w3 : h.nm = sLastW
  · rw [if_pos (by rw [w3]; decide)] at hk
    by_cases hn0 : l.length = 0
    · have i1 : ((0 : Int) < (l.length : Int)) = False := eq_false (by omega)
      rw [if_neg (show ¬ l.length ≠ 0 from fun e => e hn0), w3] at hk
      rw [if_neg (by decide), if_neg (by decide), if_neg (by decide)] at hk
      have hs := visible_A sLast sc (by omega)
      refine We ?_
      have c21 := hs; have us := an w3 i1
      exact W98
    · have i1 : ((0 : Int) < (l.length : Int)) = True := eq_true (by omega)
      rw [if_pos (show l.length ≠ 0 from hn0)] at hk
      refine We ?_
      have c21 := hn; have us := an w3 i1
      exact W98
  have v3 : (h.nm = sLastW) = False := eq_false w3
  rw [sLastW] at v3
  rw [if_neg (by unfold wordB; simp [w0, w1, w2, w3])] at hk
  have hf := functionOf_A h.nm
  cases hlk : lookS calledE h.nm with
  | none =>
    rw [hlk] at hk
    have e : calQ h.nm = [] := by rw [calQ, hlk]; rfl
    rw [e] at hf
    refine We ?_
    have c21 := hf; have c22 := hn; have us := an v0 (an v1 (an v2 v3))
    exact W99
  | some s =>
    rw [hlk] at hk
    have e : calQ h.nm = s := by rw [calQ, hlk]; rfl
    rw [e] at hf
    have hne : s ≠ [] := calQ_ne _ ((lookS_iff calledE_nodup).1 hlk)
    have s0 : (s = []) = False := eq_false hne
    have ha := argsOf_A s
    have hA := loweredAll_A hg l hl sc hp
    rw [alV] at hA
    replace hk : K (loV (if argsQ s ≠ l.length then (eNone, 11) else (eCall s (allR g l sc).1, (allR g l sc).2))) H := hk
    by_cases hml : argsQ s = (l.length : Int)
    · have i1 : (argsQ s = (l.length : Int)) = True := eq_true hml
      rw [if_neg (fun e => e hml)] at hk
      refine We ?_
      have c21 := hf; have c22 := ha; have c23 := hA; have us := an v0 (an v1 (an v2 (an v3 (an s0 i1))))
      exact W99
    · have i1 : (argsQ s = (l.length : Int)) = False := eq_false hml
      rw [if_pos hml] at hk
      refine We ?_
      have c21 := hf; have c22 := ha; have c23 := hn; have us := an v0 (an v1 (an v2 (an v3 (an s0 i1))))
      exact W99
end Go.Proofs.YtdmkfkjdielmiaaDoor
namespace Go.Proofs.YtdmkfkjdielmiaaDoor
open Go Go.Proofs.YtdmkfkjdielmiaaDoor.Ab
variable [Glo] [U8] [CAr]
set_option maxHeartbeats 4000000
set_option maxRecDepth 20000
namespace FN50
def tks : Nat → List Nat | 0 => [1, 2, 4] | 1 => [1, 2, 4, 6, 7] | 2 => [1, 2, 4, 6, 7, 20] | 3 => [4, 5] | 4 => [1, 4, 6, 8] | 5 => [1, 4, 6, 8, 35] | 6 => [4, 6, 8, 41] | 7 => [4, 5] | 8 => [4, 5] | 9 => [4, 6, 7, 9] | 10 => [4, 5] | _ => []
def tmu : List Nat := []
def tin : List Nat := [0, 1]
def txa : Nat → Nat × Nat × List Nat | 9 => (8, 9, [0, 3, 0, 0, 0, 3, 3, 3, 2]) | _ => (0, 0, [])
abbrev tfn := @Tryd.func50
end FN50
attribute [go_sem] FN50.tks FN50.tmu FN50.tin FN50.txa Tryd.ntmps50 Tryd.results50
open FN50 in
theorem loweredPath_A {g : Ph → Sc → Ex × Int} {B : Nat} (hg : RefAt g B) (h : Phh) (l : List Ph) (c : List Cl) (hl2 : l.length = 2) (sc : Sc) (hsc : sc.length ≤ 10000000) (hp : ∀ p, p ∈ l → PLow B p sc) (hp1 : ∀ p, p ∈ l → PLow B p (sc ++ [sDot])) (H : Heap) (K : V → Heap → Prop) (hk : K (loV (pathR g l sc)) H) :
    ACalls Tryd.prog 50 [phW h l c, .d (.sl 1 (sc.map strRow))] H K := by
  rw [pathR] at hk
  have m2 := hp1 _ (List.mem_of_getElem? (show l[1]? = some (argAt l 1) by rw [argAt, List.getD_eq_getElem?_getD]; cases hh : l[1]? with | none => rw [List.getElem?_eq_none_iff] at hh; omega | some v => rfl))
  have a0 : l[0]? = some (argAt l 0) := by rw [argAt, List.getD_eq_getElem?_getD]; cases hh : l[0]? with | none => rw [List.getElem?_eq_none_iff] at hh; omega | some v => rfl
  have a1 : l[1]? = some (argAt l 1) := by rw [argAt, List.getD_eq_getElem?_getD]; cases hh : l[1]? with | none => rw [List.getElem?_eq_none_iff] at hh; omega | some v => rfl
  have l0 : ((0 : Int) < (l.length : Int)) = True := eq_true (by omega)
  have l1 : ((1 : Int) < (l.length : Int)) = True := eq_true (by omega)
  have m0 := hp _ (List.mem_of_getElem? a0)
  have m1 := hp _ (List.mem_of_getElem? a1)
  generalize argAt l 0 = p0 at a0 m0 hk
  generalize argAt l 1 = p1 at a1 m1 m2 hk
  have r0 := hg p0 sc
  rw [phW, loV] at r0
  have hn := none_A
  have r1 := hg p1 (sc ++ [sDot])
  rw [phW, loV] at r1
  have hpl := plus_A sc [sDot] (by omega) (by simp)
  have hst := stepMay_A p1.h.ax p1.h.tk p1.h.tn
  by_cases hz : (g p0 sc).2 = 0
  case neg =>
    have z0 : ((g p0 sc).2 = 0) = False := eq_false hz
    rw [if_pos (show (g p0 sc).2 ≠ 0 from hz)] at hk
    refine We ?_
    have c21 := fun x0 x1 => r0 x0 x1 m0; have c22 := hn; have us := an a0 (an a1 (an l0 (an l1 z0)))
    exact W100
  have z0 : ((g p0 sc).2 = 0) = True := eq_true hz
  rw [if_neg (nn hz)] at hk
  by_cases hs : isStep p1
  · rw [if_pos hs] at hk
    have k9 := hs.1
    have e1 : (p1.h.k = 9) = True := eq_true hs.1
    have e2 : ((p1.args.length : Int) = 0) = True := eq_true (by have := hs.2; omega)
    cases hb : stepB p1.h.ax p1.h.tk with
    | true =>
      rw [hb] at hst hk
      rw [if_pos rfl] at hk
      refine We ?_
      have c21 := fun x0 x1 => r0 x0 x1 m0; have c22 := hn; have c23 := hst; have us := an a0 (an a1 (an l0 (an l1 (an z0 (an e1 e2)))))
      exact W100
    | false =>
      rw [hb] at hst hk
      rw [if_neg (by decide)] at hk
      refine We ?_
      have c21 := fun x0 x1 => r0 x0 x1 m0; have c22 := hn; have c23 := hst; have us := an a0 (an a1 (an l0 (an l1 (an z0 (an e1 e2)))))
      exact W100
  rw [if_neg hs] at hk
  have hcall := asCall_A sDdo [eFor sDot [] (g p0 sc).1 (g p1 (sc ++ [sDot])).1]
  simp only [exW, exV, List.map_cons, List.map_nil, exD_1, eFor, Ex.h, Ex.args, xh0] at hcall
  by_cases e9 : p1.h.k = 9
  · have e1 : (p1.h.k = 9) = True := eq_true e9
    have e2 : ((p1.args.length : Int) = 0) = False := eq_false (fun e => hs ⟨e9, by omega⟩)
    refine We ?_
    have c21 := fun x0 x1 => r0 x0 x1 m0; have c22 := fun x0 x1 => r1 x0 x1 m2; have c23 := hn; have c24 := hpl; have c25 := hcall; have us := an a0 (an a1 (an l0 (an l1 (an z0 (an e1 e2)))))
    exact W101
  · have e1 : (p1.h.k = 9) = False := eq_false e9
    refine We ?_
    have c21 := fun x0 x1 => r0 x0 x1 m0; have c22 := fun x0 x1 => r1 x0 x1 m2; have c23 := hn; have c24 := hpl; have c25 := hcall; have us := an a0 (an a1 (an l0 (an l1 (an z0 e1))))
    exact W101
end Go.Proofs.YtdmkfkjdielmiaaDoor
namespace Go.Proofs.YtdmkfkjdielmiaaDoor
open Go Go.Proofs.YtdmkfkjdielmiaaDoor.Ab
variable [Glo] [U8] [CAr]
set_option maxHeartbeats 4000000
set_option maxRecDepth 20000
namespace FN52
def tks : Nat → List Nat | 0 => [1, 2, 4] | 1 => [1, 2, 4, 14] | 2 => [4, 5] | 3 => [1, 2, 4, 6, 7] | 4 => [1, 2, 4, 6, 7, 26] | 5 => [4, 5] | 6 => [2, 4, 6, 7, 8] | 7 => [2, 4, 6, 7, 8, 9] | 8 => [2, 4, 6, 7, 8, 9, 10] | 9 => [2, 4, 6, 7, 8, 9, 10, 50] | 10 => [2, 4, 6, 7, 9] | 11 => [2, 4, 6, 7, 9, 10] | 12 => [4, 5] | _ => []
def tmu : List Nat := []
def tin : List Nat := [0, 1]
def txa : Nat → Nat × Nat × List Nat | 6 => (13, 14, [0, 0, 0, 0, 3, 0, 0, 0, 0, 0, 3, 3, 3, 2]) | _ => (0, 0, [])
abbrev tfn := @Tryd.func52
end FN52
attribute [go_sem] FN52.tks FN52.tmu FN52.tin FN52.txa Tryd.ntmps52 Tryd.results52
open FN52 in
theorem loweredSome_A {g : Ph → Sc → Ex × Int} {B : Nat} (hg : RefAt g B) (h : Phh) (l : List Ph) (c : List Cl) (ok : PhhOk h) (hkind : h.k = 23 ∨ h.k = 24) (hl2 : l.length = 2) (sc : Sc) (hsc : sc.length ≤ 10000000) (hp : ∀ p, p ∈ l → PLow B p sc) (hp1 : ∀ p, p ∈ l → PLow B p (sc ++ [h.nm])) (H : Heap) (K : V → Heap → Prop) (hk : K (loV (someR g h.k h.nm l sc)) H) :
    ACalls Tryd.prog 52 [phW h l c, .d (.sl 1 (sc.map strRow))] H K := by
  rw [someR] at hk
  have o2 := ok.nm
  have m2 := hp1 _ (List.mem_of_getElem? (show l[1]? = some (argAt l 1) by rw [argAt, List.getD_eq_getElem?_getD]; cases hh : l[1]? with | none => rw [List.getElem?_eq_none_iff] at hh; omega | some v => rfl))
  have a0 : l[0]? = some (argAt l 0) := by rw [argAt, List.getD_eq_getElem?_getD]; cases hh : l[0]? with | none => rw [List.getElem?_eq_none_iff] at hh; omega | some v => rfl
  have a1 : l[1]? = some (argAt l 1) := by rw [argAt, List.getD_eq_getElem?_getD]; cases hh : l[1]? with | none => rw [List.getElem?_eq_none_iff] at hh; omega | some v => rfl
  have l0 : ((0 : Int) < (l.length : Int)) = True := eq_true (by omega)
  have l1 : ((1 : Int) < (l.length : Int)) = True := eq_true (by omega)
  have m0 := hp _ (List.mem_of_getElem? a0)
  have m1 := hp _ (List.mem_of_getElem? a1)
  generalize argAt l 0 = p0 at a0 m0 hk
  generalize argAt l 1 = p1 at a1 m1 m2 hk
  have r0 := hg p0 sc
  rw [phW, loV] at r0
  have hn := none_A
  have r1 := hg p1 (sc ++ [h.nm])
  rw [phW, loV] at r1
  have hpl := plus_A sc [h.nm] (by omega) (by simp)
  have hv := varMay_A h.nm (by omega)
  cases hb : varB h.nm with
  | false =>
    rw [hb] at hv hk
    rw [if_pos rfl] at hk
    refine We ?_
    have c21 := hv; have c22 := hn; have us := eq_self (0 : Nat)
    exact W99
  | true =>
    rw [hb] at hv hk
    rw [if_neg (by decide)] at hk
    by_cases hz : (g p0 sc).2 = 0
    case neg =>
      have z0 : ((g p0 sc).2 = 0) = False := eq_false hz
      rw [if_pos (show (g p0 sc).2 ≠ 0 from hz)] at hk
      refine We ?_
      have c21 := hv; have c22 := fun x0 x1 => r0 x0 x1 m0; have c23 := hn; have us := an a0 (an a1 (an l0 (an l1 z0)))
      exact W100
    have z0 : ((g p0 sc).2 = 0) = True := eq_true hz
    rw [if_neg (nn hz)] at hk
    have hbo := asBool_A 1
    have hcb := asCall_A sBoolean [(g p1 (sc ++ [h.nm])).1]
    have hi1 := asIf_A (eCall sBoolean [(g p1 (sc ++ [h.nm])).1]) (eBool 1) eNone
    have hi2 := asIf_A (eCall sBoolean [(g p1 (sc ++ [h.nm])).1]) eNone (eBool 1)
    obtain ⟨E1, hE1⟩ : ∃ e, e = eIf (eCall sBoolean [(g p1 (sc ++ [h.nm])).1]) (eBool 1) eNone := ⟨_, rfl⟩
    obtain ⟨E2, hE2⟩ : ∃ e, e = eIf (eCall sBoolean [(g p1 (sc ++ [h.nm])).1]) eNone (eBool 1) := ⟨_, rfl⟩
    rw [← hE1] at hi1
    rw [← hE2] at hi2
    have hx1 := asCall_A sExists [eFor h.nm [] (g p0 sc).1 E1]
    have hx2 := asCall_A sEmpty [eFor h.nm [] (g p0 sc).1 E2]
    simp only [exW, exV, List.map_cons, List.map_nil, exD_1] at hcb hi1 hi2
    simp only [exW, exV, List.map_cons, List.map_nil, exD_1, eFor, Ex.h, Ex.args, xh0] at hx1 hx2
    rcases hkind with hkk | hkk
    · have e1 : (h.k = 24) = False := eq_false (by omega)
      rw [quantE, if_pos hkk, ← hE1] at hk
      refine We ?_
      have c21 := hv; have c22 := fun x0 x1 => r0 x0 x1 m0; have c23 := fun x0 x1 => r1 x0 x1 m2; have c24 := hn; have c25 := hpl; have c26 := hbo; have c27 := hcb; have c28 := hi1; have c29 := hi2; have c210 := hx1; have c211 := hx2; have us := an a0 (an a1 (an l0 (an l1 (an z0 e1))))
      exact W102
    · have e1 : (h.k = 24) = True := eq_true hkk
      rw [quantE, if_neg (by omega), ← hE2] at hk
      refine We ?_
      have c21 := hv; have c22 := fun x0 x1 => r0 x0 x1 m0; have c23 := fun x0 x1 => r1 x0 x1 m2; have c24 := hn; have c25 := hpl; have c26 := hbo; have c27 := hcb; have c28 := hi1; have c29 := hi2; have c210 := hx1; have c211 := hx2; have us := an a0 (an a1 (an l0 (an l1 (an z0 e1))))
      exact W102
end Go.Proofs.YtdmkfkjdielmiaaDoor
