/- The core: the reference's check of an expression of kind 11. No condition but that the tables of package unicode/utf8 and of the core's functions are there. -/
import Derived.Test.YtdmkfkjdielmiaaDoorP19
import Derived.Test.YtdmkfkjdielmiaaDoorP24
import Derived.Test.YtdmkfkjdielmiaaDoorP25
import Derived.Test.YtdmkfkjdielmiaaDoorP26
import Derived.Test.YtdmkfkjdielmiaaDoorP27
set_option linter.all false
set_option linter.unusedSimpArgs false
set_option linter.unusedVariables false
namespace Go.Proofs.YtdmkfkjdielmiaaDoor
open Go Go.Proofs.YtdmkfkjdielmiaaDoor.Ab
variable [Glo] [U8] [CAr]
set_option maxHeartbeats 4000000
set_option maxRecDepth 20000
open FN61 in
theorem exprFault11_A (h : Xh) (l : List Ex) (hkind : h.k = 11) (ok : XhOk h) (hl : l.length ≤ 1048576) (hcount : coreMany h.k < 0 ∨ coreMany h.k = (l.length : Int)) (sc : List (List UInt8)) (hsc : sc.length + 2 ≤ 50000000)
    (ih : ∀ x, x ∈ l → ∀ (sc' : List (List UInt8)), sc'.length ≤ sc.length + 2 → ∀ (H : Heap) (K : V → Heap → Prop), K (.d (.i .i64 (efQ x sc'))) H → ACalls Tryd.prog 61 [exV x.h x.args, .d (.sl 1 (sc'.map strRow))] H K)
    (H : Heap) (K : V → Heap → Prop) (hk : K (.d (.i .i64 (efQ (.mk h l) sc))) H) : ACalls Tryd.prog 61 [exV h l, .d (.sl 1 (sc.map strRow))] H K := by
  have o1 := ok.it
  have o2 := ok.nm
  have o3 := ok.at_
  have o4 := ok.tn
  have hI := in_A 11 1 11
  have hM := argCount_A 11
  have cm : coreMany 11 = 0 := rfl
  rw [efQ_eq (by omega) hcount] at hk
  rw [hkind, cm] at hcount
  rw [exV_k hkind]
  have m2 : ((0 : Int) = (l.length : Int)) = True := eq_true (by omega)
  rw [decide_eq_true (by decide)] at hI
  rw [cm] at hM
  refine We ?_
  repeat' (first | (refine halt_block 0 ?_) | with_reducible (first | refine And.intro ?_ ?_ | intro _ | refine AWp_seq ?_ | refine AWp_block ?_ | (refine hKv _ _ (AWp_nop ?_); clear hKv Kv) | (refine hKA ?_; clear hKA hKB KA KB) | (refine hKB ?_; clear hKA hKB KA KB) | refine AWp_skipN ?_ | refine AWp_exitO (by repeat (first | exact Out.hit | apply Out.thenA | apply Out.out rfl)) ?_) | ((first | with_reducible (first | (refine hKv _ _ ?_; clear hKv Kv) | ((first | refine AWp_regC tmu tks ?_ | refine AWp_draw tnd tmu tks ti_mixed (by kernel_rfl) ?_ | refine AWp_regE tmu tks ?_ | refine AWp_drawE tnd tmu tks ti_mixed (by kernel_rfl) ?_); intro Kv hKv) | refine AWp_retR ?_) | refine hI _ _ ?_ | refine QCall_of (hI _ _ (Two_intro _ _)) ?_ | refine hM _ _ ?_ | refine QCall_of (hM _ _ (Two_intro _ _)) ?_); try simp (dsimp := false) only [go_sem, Nat.reduceAdd, Nat.reduceBEq, Nat.reduceEqDiff, Nat.reduceLT, Nat.reduceLeDiff, Nat.reduceMul, Int.reduceToNat, reduceCtorEq, ↓reduceIte, not_true_eq_false, not_false_eq_true, Bool.true_and, Bool.false_and, Int.reduceEq, Int.reduceLT, Int.reduceLE, Int.reduceNeg, List.map_cons, List.map_nil, m2]) | (refine AWp_condC rfl ?_; intro KA KB hKA hKB; try simp only [onB_true, onB_false, onB_dec, onB_ndec, onB_not, onB_and, onB_or]) | (refine AWp_condA rfl ?_ ?_) | with_reducible (first | refine onB_of ?_ ?_ | rfl) | omega)
  refine AWp_cutG (ι := Unit) (fun _ => True) (fun _ => [(1, .d (.sl 1 (sc.map strRow))), (2, .rp [.i .i64 11, .i .i64 h.it.k, .i .i64 h.it.n, .s h.it.s, .s h.nm, .s h.at_, .i .i64 h.n, .i .i64 h.ax, .i .i64 h.tk, .s h.tn, .sl 11 (l.map exD)]), (5, .d (.b false)), (6, .d (.i .i64 (exOwn h l.length sc)))]) (fun _ => H) (fun _ _ => Nat.le_refl _) (fun _ _ => closed_self H) ?loop ?switch
  case switch =>
    have hE : exOwn h l.length sc = 0 := by rw [exOwn, if_neg (by omega), if_neg (by omega), if_neg (by omega), if_neg (by omega), if_neg (by omega), if_neg (by omega)]
    have us := hE
    refine W32 ?_ ?_ ?_ ?_ <;> try exact trivial
    all_goals first
      | omega
      | exact ⟨(), [], (List.append_nil H).symm⟩
      | (refine ⟨(), [], trivial, (List.append_nil H).symm, ?_⟩
         simp (dsimp := false) only [go_sem, Nat.reduceAdd, Nat.reduceBEq, Nat.reduceEqDiff, Nat.reduceLT, Nat.reduceLeDiff, Nat.reduceMul, Int.reduceToNat, reduceCtorEq, ↓reduceIte, not_true_eq_false, not_false_eq_true, Bool.true_and, Bool.false_and, Int.reduceEq, Int.reduceLT, Int.reduceLE, Int.reduceNeg, List.map_cons, List.map_nil, hE, itD, itV, strRow, tsV]
         first | done | (simp [hE]; done))
  case loop =>
    intro _ _
    generalize hgo : exOwn h l.length sc = ow at hk ⊢
    have hinn : exInner h sc = sc := by rw [exInner, if_neg (by omega)]
    have hle : (exInner h sc).length ≤ sc.length + 2 := exInner_len h sc
    generalize hg : exInner h sc = inn at hk hle hinn
    have us := hinn.symm
    refine W33 ?_
    refine AWp_while0 (fun y : Nat × Int => y.1 ≤ l.length ∧ (if y.2 = 0 then efL (l.drop y.1) (if y.1 = 0 then sc else inn) inn else y.2) = (if ow = 0 then efL l sc inn else ow)) (fun y => [(1, .d (.sl 1 (sc.map strRow))), (2, .rp [.i .i64 11, .i .i64 h.it.k, .i .i64 h.it.n, .s h.it.s, .s h.nm, .s h.at_, .i .i64 h.n, .i .i64 h.ax, .i .i64 h.tk, .s h.tn, .sl 11 (l.map exD)]), (6, .d (.i .i64 y.2)), (7, .d (.sl 1 (inn.map strRow))), (8, .d (.i .i64 y.1))]) (fun y => 2 * (l.length - y.1) + (if y.2 = 0 then 1 else 0)) (0, ow) ⟨Nat.zero_le _, by simp⟩ ?_ ?_
    · simp (dsimp := false) only [go_sem, Nat.reduceAdd, Nat.reduceBEq, Nat.reduceEqDiff, Nat.reduceLT, Nat.reduceLeDiff, Nat.reduceMul, Int.reduceToNat, reduceCtorEq, ↓reduceIte, not_true_eq_false, not_false_eq_true, Bool.true_and, Bool.false_and, Int.reduceEq, Int.reduceLT, Int.reduceLE, Int.reduceNeg, List.map_cons, List.map_nil, ← hinn, strRow]
      first | done | (simp [hinn]; done)
    rintro ⟨i, e⟩ ⟨hi, hv⟩
    simp only at hi hv
    have t2 : ((0 : Int) ≤ (i : Int)) = True := eq_true (by omega)
    by_cases hil : i < l.length
    · have t1 : ((i : Int) < (l.length : Int)) = True := eq_true (by omega)
      by_cases he : e = 0
      · subst he
        obtain ⟨a, ha⟩ : ∃ x, l[i]? = some x := ⟨l[i], List.getElem?_eq_getElem hil⟩
        have hma := List.mem_of_getElem? ha
        rw [if_pos rfl, drop_of_get ha, efL_cons] at hv
        by_cases i0 : i = 0
        · have t3 : ((i : Int) = 0) = True := eq_true (by omega)
          rw [if_pos i0] at hv
          have hc := ih a hma sc (by omega)
          have c21 := hc; have us := an ha (an t1 (an t2 t3))
          refine W34 ?_ ?_ ?_ ?_ <;> try exact trivial
          all_goals first
            | omega
            | (refine ⟨(i + 1, efQ a sc), ⟨by simp only; omega, by simp only; rw [← hv]; by_cases hz : efQ a sc = 0 <;> simp [hz]⟩, by simp only; split <;> omega, ?_⟩
               first | rfl | ((repeat' (refine And.intro ?_ ?_)) <;> first | rfl | omega | (simp; done) | (simp only; omega)))
        · have t3 : ((i : Int) = 0) = False := eq_false (by omega)
          rw [if_neg i0] at hv
          have hc := ih a hma inn (by omega)
          have c21 := hc; have us := an ha (an t1 (an t2 t3))
          refine W34 ?_ ?_ ?_ ?_ <;> try exact trivial
          all_goals first
            | omega
            | (refine ⟨(i + 1, efQ a inn), ⟨by simp only; omega, by simp only; rw [← hv]; by_cases hz : efQ a inn = 0 <;> simp [hz]⟩, by simp only; split <;> omega, ?_⟩
               first | rfl | ((repeat' (refine And.intro ?_ ?_)) <;> first | rfl | omega | (simp; done) | (simp only; omega)))
      · have t3 : (e = 0) = False := eq_false he
        rw [if_neg he] at hv
        have us := an t1 (an t2 t3)
        exact W35
    · have t1 : ((i : Int) < (l.length : Int)) = False := eq_false (by omega)
      have hee : e = (if ow = 0 then efL l sc inn else ow) := by
        rw [List.drop_eq_nil_of_le (by omega), efL_nil] at hv
        by_cases he : e = 0
        · rw [if_pos he] at hv; rw [he]; exact hv
        · rw [if_neg he] at hv; exact hv
      have us := an t1 t2
      exact W36
end Go.Proofs.YtdmkfkjdielmiaaDoor
namespace Go.Proofs.YtdmkfkjdielmiaaDoor
open Go Go.Proofs.YtdmkfkjdielmiaaDoor.Ab
variable [Glo] [U8] [CAr]
set_option maxHeartbeats 4000000
set_option maxRecDepth 20000
open FN61 in
theorem exprFaultS_A (h : Xh) (l : List Ex) (ok : XhOk h) (hl : l.length ≤ 1048576) (sc : List (List UInt8)) (hsc : sc.length + 2 ≤ 50000000)
    (ih : ∀ x, x ∈ l → ∀ (sc' : List (List UInt8)), sc'.length ≤ sc.length + 2 → ∀ (H : Heap) (K : V → Heap → Prop), K (.d (.i .i64 (efQ x sc'))) H → ACalls Tryd.prog 61 [exV x.h x.args, .d (.sl 1 (sc'.map strRow))] H K)
    (H : Heap) (K : V → Heap → Prop) (hk : K (.d (.i .i64 (efQ (.mk h l) sc))) H) : ACalls Tryd.prog 61 [exV h l, .d (.sl 1 (sc.map strRow))] H K := by
  have hI := in_A h.k 1 11
  have hM := argCount_A h.k
  by_cases h1 : 1 ≤ h.k ∧ h.k ≤ 11
  case neg =>
    rw [decide_eq_false h1] at hI
    rw [efQ, if_pos h1] at hk
    refine We ?_
    have c21 := hI; have us := eq_self (0 : Nat)
    exact W37
  by_cases h2 : 0 ≤ coreMany h.k ∧ coreMany h.k ≠ (l.length : Int)
  · rw [decide_eq_true h1] at hI
    rw [efQ, if_neg (by simpa using h1), if_pos h2] at hk
    have t1 : (0 ≤ coreMany h.k) = True := eq_true h2.1
    have t2 : (coreMany h.k = (l.length : Int)) = False := eq_false h2.2
    refine We ?_
    have c21 := hI; have c22 := hM; have us := an t1 t2
    exact W37
  have hcount : coreMany h.k < 0 ∨ coreMany h.k = (l.length : Int) := by omega
  have : h.k = 1 ∨ h.k = 2 ∨ h.k = 3 ∨ h.k = 4 ∨ h.k = 5 ∨ h.k = 6 ∨ h.k = 7 ∨ h.k = 8 ∨ h.k = 9 ∨ h.k = 10 ∨ h.k = 11 := by omega
  rcases this with e | e | e | e | e | e | e | e | e | e | e
  · exact exprFault1_A h l e ok hl hcount sc hsc ih H K hk
  · exact exprFault2_A h l e ok hl hcount sc hsc ih H K hk
  · exact exprFault3_A h l e ok hl hcount sc hsc ih H K hk
  · exact exprFault4_A h l e ok hl hcount sc hsc ih H K hk
  · exact exprFault5_A h l e ok hl hcount sc hsc ih H K hk
  · exact exprFault6_A h l e ok hl hcount sc hsc ih H K hk
  · exact exprFault7_A h l e ok hl hcount sc hsc ih H K hk
  · exact exprFault8_A h l e ok hl hcount sc hsc ih H K hk
  · exact exprFault9_A h l e ok hl hcount sc hsc ih H K hk
  · exact exprFault10_A h l e ok hl hcount sc hsc ih H K hk
  · exact exprFault11_A h l e ok hl hcount sc hsc ih H K hk
theorem exprFault_A : ∀ (n : Nat) (x : Ex), exH x ≤ n → ExOk x → ∀ (sc : List (List UInt8)), sc.length + 2 * exH x ≤ 50000000 → ∀ (H : Heap) (K : V → Heap → Prop), K (.d (.i .i64 (efQ x sc))) H → ACalls Tryd.prog 61 [exV x.h x.args, .d (.sl 1 (sc.map strRow))] H K
  | 0, x, hn, _, _, _, _, _, _ => by rw [exH_eq] at hn; omega
  | n + 1, .mk h l, hn, ok, sc, hsc, H, K, hk => by
    refine exprFaultS_A h l ok.h ok.len sc (by rw [exH_mk] at hsc; omega) (fun x hx sc' hsc' H K hk => ?_) H K hk
    have := exH_lt (x := .mk h l) hx
    exact exprFault_A n x (by omega) (ok.mem x hx) sc' (by omega) H K hk
theorem wI_1 : wI 1 = 1 := rfl
theorem wI_0 : wI 0 = 0 := rfl
namespace FN63
def tks : Nat → List Nat | 0 => [1] | 1 => [1, 3] | 2 => [1, 3, 4] | 3 => [1, 3, 4, 9] | 4 => [1, 3, 4] | 5 => [1, 3, 4] | 6 => [2] | _ => []
def tmu : List Nat := [19]
def tin : List Nat := [0]
abbrev tfn := @Tryd.func63
end FN63
attribute [go_sem] FN63.tks FN63.tmu FN63.tin Tryd.ntmps63 Tryd.results63
open FN63 in
theorem partCountS_A (h : Xh) (l : List Ex) (hl : l.length ≤ 1048576) (ih : ∀ x, x ∈ l → ∀ (H : Heap) (K : V → Heap → Prop), K (.d (.i .i64 (wI (exN x)))) H → ACalls Tryd.prog 63 [exV x.h x.args] H K)
    (H : Heap) (K : V → Heap → Prop) (hk : K (.d (.i .i64 (wI (exN (.mk h l))))) H) : ACalls Tryd.prog 63 [exV h l] H K := by
  rw [exN] at hk
  refine We ?_
  have us := eq_self (0 : Nat)
  refine W38 ?_
  refine AWp_while0 (fun i : Nat => i ≤ l.length) (fun i => [(1, .rp [.i .i64 h.k, .i .i64 h.it.k, .i .i64 h.it.n, .s h.it.s, .s h.nm, .s h.at_, .i .i64 h.n, .i .i64 h.ax, .i .i64 h.tk, .s h.tn, .sl 11 (l.map exD)]), (3, .d (.i .i64 (wI (1 + (exNs (l.take i) : Int))))), (4, .d (.i .i64 i))]) (fun i => l.length - i) 0 (Nat.zero_le _) ?_ ?_
  · simp (dsimp := false) only [go_sem, Nat.reduceAdd, Nat.reduceBEq, Nat.reduceEqDiff, Nat.reduceLT, Nat.reduceLeDiff, Nat.reduceMul, Int.reduceToNat, reduceCtorEq, ↓reduceIte, not_true_eq_false, not_false_eq_true, Bool.true_and, Bool.false_and, Int.reduceEq, Int.reduceLT, Int.reduceLE, Int.reduceNeg, List.map_cons, List.map_nil, exV]
    first | done | (simp [exNs, wI_1]; done)
  rintro i hi
  have t2 : ((0 : Int) ≤ (i : Int)) = True := eq_true (by omega)
  by_cases hil : i < l.length
  · obtain ⟨x, hx⟩ : ∃ x, l[i]? = some x := ⟨l[i], List.getElem?_eq_getElem hil⟩
    have t1 : ((i : Int) < (l.length : Int)) = True := eq_true (by omega)
    have hc := ih x (List.mem_of_getElem? hx)
    have z1 := exNs_take hx
    have c21 := hc; have us := an hx (an t1 t2)
    exact W39
  · have t1 : ((i : Int) < (l.length : Int)) = False := eq_false (by omega)
    rw [List.take_of_length_le (by omega)]
    have us := t1
    exact W40
theorem partCount_A : ∀ (n : Nat) (x : Ex), exN x ≤ n → ExOk x → ∀ (H : Heap) (K : V → Heap → Prop), K (.d (.i .i64 (wI (exN x)))) H → ACalls Tryd.prog 63 [exV x.h x.args] H K
  | 0, x, hn, _, _, _, _ => by rw [exN_eq] at hn; omega
  | n + 1, .mk h l, hn, ok, H, K, hk => by
    refine partCountS_A h l ok.len (fun x hx H K hk => ?_) H K hk
    have := exN_lt (x := .mk h l) hx
    exact partCount_A n x (by omega) (ok.mem x hx) H K hk
namespace FN62
def tks : Nat → List Nat | 0 => [1, 2, 3] | 1 => [1, 2, 3, 7] | 2 => [1, 2, 3, 7, 18] | 3 => [1, 2, 3, 7] | 4 => [1, 2, 3, 7, 8] | 5 => [1, 2, 3, 7, 8, 23] | 6 => [1, 2, 3, 7, 8] | 7 => [1, 2, 3, 7, 8] | 8 => [6] | _ => []
def tmu : List Nat := [35]
def tin : List Nat := [0, 1, 2]
abbrev tfn := @Tryd.func62
end FN62
attribute [go_sem] FN62.tks FN62.tmu FN62.tin Tryd.ntmps62 Tryd.results62
open FN62 in
theorem howManyS_A (h : Xh) (l : List Ex) (p q : Int) (hl : l.length ≤ 1048576) (ih : ∀ x, x ∈ l → ∀ (H : Heap) (K : V → Heap → Prop), K (.d (.i .i64 (wI (exHow p q x)))) H → ACalls Tryd.prog 62 [exV x.h x.args, .d (.i .i64 p), .d (.i .i64 q)] H K)
    (H : Heap) (K : V → Heap → Prop) (hk : K (.d (.i .i64 (wI (exHow p q (.mk h l))))) H) : ACalls Tryd.prog 62 [exV h l, .d (.i .i64 p), .d (.i .i64 q)] H K := by
  rw [exHow] at hk
  by_cases c1 : h.k = p
  · have i1 : (h.k = p) = True := eq_true c1
    have hw : (if h.k = p ∨ h.k = q then 1 else 0) = 1 := by rw [if_pos (by first | exact .inl c1 | exact .inr c2)]
    rw [hw] at hk
    refine We ?_
    have us := i1
    refine W38 ?_
    refine AWp_while0 (fun i : Nat => i ≤ l.length) (fun i => [(1, .d (.i .i64 p)), (2, .d (.i .i64 q)), (3, .rp [.i .i64 h.k, .i .i64 h.it.k, .i .i64 h.it.n, .s h.it.s, .s h.nm, .s h.at_, .i .i64 h.n, .i .i64 h.ax, .i .i64 h.tk, .s h.tn, .sl 11 (l.map exD)]), (7, .d (.i .i64 (wI (1 + (exHows p q (l.take i) : Int))))), (8, .d (.i .i64 i))]) (fun i => l.length - i) 0 (Nat.zero_le _) ?_ ?_
    · simp (dsimp := false) only [go_sem, Nat.reduceAdd, Nat.reduceBEq, Nat.reduceEqDiff, Nat.reduceLT, Nat.reduceLeDiff, Nat.reduceMul, Int.reduceToNat, reduceCtorEq, ↓reduceIte, not_true_eq_false, not_false_eq_true, Bool.true_and, Bool.false_and, Int.reduceEq, Int.reduceLT, Int.reduceLE, Int.reduceNeg, List.map_cons, List.map_nil, exV, i1]
      first | done | (simp [exHows, wI_1, wI_0]; done)
    rintro i hi
    have t2 : ((0 : Int) ≤ (i : Int)) = True := eq_true (by omega)
    by_cases hil : i < l.length
    · obtain ⟨x, hx⟩ : ∃ x, l[i]? = some x := ⟨l[i], List.getElem?_eq_getElem hil⟩
      have t1 : ((i : Int) < (l.length : Int)) = True := eq_true (by omega)
      have hc := ih x (List.mem_of_getElem? hx)
      have z1 := exHows_take (a := p) (b := q) hx
      have c21 := hc; have us := an hx (an t1 t2)
      exact W39
    · have t1 : ((i : Int) < (l.length : Int)) = False := eq_false (by omega)
      rw [List.take_of_length_le (by omega)]
      have us := t1
      exact W41
  have i1 : (h.k = p) = False := eq_false c1
  by_cases c2 : h.k = q
  · have i2 : (h.k = q) = True := eq_true c2
    have hw : (if h.k = p ∨ h.k = q then 1 else 0) = 1 := by rw [if_pos (by first | exact .inl c1 | exact .inr c2)]
    rw [hw] at hk
    refine We ?_
    have us := an i1 i2
    refine W38 ?_
    refine AWp_while0 (fun i : Nat => i ≤ l.length) (fun i => [(1, .d (.i .i64 p)), (2, .d (.i .i64 q)), (3, .rp [.i .i64 h.k, .i .i64 h.it.k, .i .i64 h.it.n, .s h.it.s, .s h.nm, .s h.at_, .i .i64 h.n, .i .i64 h.ax, .i .i64 h.tk, .s h.tn, .sl 11 (l.map exD)]), (7, .d (.i .i64 (wI (1 + (exHows p q (l.take i) : Int))))), (8, .d (.i .i64 i))]) (fun i => l.length - i) 0 (Nat.zero_le _) ?_ ?_
    · simp (dsimp := false) only [go_sem, Nat.reduceAdd, Nat.reduceBEq, Nat.reduceEqDiff, Nat.reduceLT, Nat.reduceLeDiff, Nat.reduceMul, Int.reduceToNat, reduceCtorEq, ↓reduceIte, not_true_eq_false, not_false_eq_true, Bool.true_and, Bool.false_and, Int.reduceEq, Int.reduceLT, Int.reduceLE, Int.reduceNeg, List.map_cons, List.map_nil, exV, i1, i2]
      first | done | (simp [exHows, wI_1, wI_0]; done)
    rintro i hi
    have t2 : ((0 : Int) ≤ (i : Int)) = True := eq_true (by omega)
    by_cases hil : i < l.length
    · obtain ⟨x, hx⟩ : ∃ x, l[i]? = some x := ⟨l[i], List.getElem?_eq_getElem hil⟩
      have t1 : ((i : Int) < (l.length : Int)) = True := eq_true (by omega)
      have hc := ih x (List.mem_of_getElem? hx)
      have z1 := exHows_take (a := p) (b := q) hx
      have c21 := hc; have us := an hx (an t1 t2)
      exact W39
    · have t1 : ((i : Int) < (l.length : Int)) = False := eq_false (by omega)
      rw [List.take_of_length_le (by omega)]
      have us := t1
      exact W41
  have i2 : (h.k = q) = False := eq_false c2
  have hw : (if h.k = p ∨ h.k = q then 1 else 0) = 0 := by rw [if_neg (by simp [c1, c2])]
  rw [hw] at hk
  refine We ?_
  have us := an i1 i2
  refine W38 ?_
  refine AWp_while0 (fun i : Nat => i ≤ l.length) (fun i => [(1, .d (.i .i64 p)), (2, .d (.i .i64 q)), (3, .rp [.i .i64 h.k, .i .i64 h.it.k, .i .i64 h.it.n, .s h.it.s, .s h.nm, .s h.at_, .i .i64 h.n, .i .i64 h.ax, .i .i64 h.tk, .s h.tn, .sl 11 (l.map exD)]), (7, .d (.i .i64 (wI (0 + (exHows p q (l.take i) : Int))))), (8, .d (.i .i64 i))]) (fun i => l.length - i) 0 (Nat.zero_le _) ?_ ?_
  · simp (dsimp := false) only [go_sem, Nat.reduceAdd, Nat.reduceBEq, Nat.reduceEqDiff, Nat.reduceLT, Nat.reduceLeDiff, Nat.reduceMul, Int.reduceToNat, reduceCtorEq, ↓reduceIte, not_true_eq_false, not_false_eq_true, Bool.true_and, Bool.false_and, Int.reduceEq, Int.reduceLT, Int.reduceLE, Int.reduceNeg, List.map_cons, List.map_nil, exV, i1, i2]
    first | done | (simp [exHows, wI_1, wI_0]; done)
  rintro i hi
  have t2 : ((0 : Int) ≤ (i : Int)) = True := eq_true (by omega)
  by_cases hil : i < l.length
  · obtain ⟨x, hx⟩ : ∃ x, l[i]? = some x := ⟨l[i], List.getElem?_eq_getElem hil⟩
    have t1 : ((i : Int) < (l.length : Int)) = True := eq_true (by omega)
    have hc := ih x (List.mem_of_getElem? hx)
    have z1 := exHows_take (a := p) (b := q) hx
    have c21 := hc; have us := an hx (an t1 t2)
    exact W39
  · have t1 : ((i : Int) < (l.length : Int)) = False := eq_false (by omega)
    rw [List.take_of_length_le (by omega)]
    have us := t1
    exact W41
theorem howMany_A (p q : Int) : ∀ (n : Nat) (x : Ex), exN x ≤ n → ExOk x → ∀ (H : Heap) (K : V → Heap → Prop), K (.d (.i .i64 (wI (exHow p q x)))) H → ACalls Tryd.prog 62 [exV x.h x.args, .d (.i .i64 p), .d (.i .i64 q)] H K
  | 0, x, hn, _, _, _, _ => by rw [exN_eq] at hn; omega
  | n + 1, .mk h l, hn, ok, H, K, hk => by
    refine howManyS_A h l p q ok.len (fun x hx H K hk => ?_) H K hk
    have := exN_lt (x := .mk h l) hx
    exact howMany_A p q n x (by omega) (ok.mem x hx) H K hk
def coreQ (x : Ex) : Int := if efQ x [] = 0 then (if 6 < wI (exHow 5 6 x) ∨ 6 < wI (exHow 10 10 x) ∨ 700 < wI (exN x) then 1 else 0) else efQ x []
end Go.Proofs.YtdmkfkjdielmiaaDoor
namespace Go.Proofs.YtdmkfkjdielmiaaDoor
open Go Go.Proofs.YtdmkfkjdielmiaaDoor.Ab
variable [Glo]
set_option maxRecDepth 20000
structure Phh where
  k : Int
  it : It
  nm : List UInt8
  n : Int
  ax : Int
  tk : Int
  tn : List UInt8
structure Clh where
  k : Int
  nm : List UInt8
  at_ : List UInt8
  down : Bool
mutual
inductive Ph where
  | mk (h : Phh) (args : List Ph) (cls : List Cl)
inductive Cl where
  | mk (c : Clh) (x : Ph)
end
def Ph.h : Ph → Phh | .mk h _ _ => h
def Ph.args : Ph → List Ph | .mk _ l _ => l
def Ph.cls : Ph → List Cl | .mk _ _ c => c
def Cl.c : Cl → Clh | .mk c _ => c
def Cl.x : Cl → Ph | .mk _ x => x
def phhD (h : Phh) : List D := [.i .i64 h.k, .i .i64 h.it.k, .i .i64 h.it.n, .s h.it.s, .s h.nm, .i .i64 h.n, .i .i64 h.ax, .i .i64 h.tk, .s h.tn]
def clhD (c : Clh) : List D := [.i .i64 c.k, .s c.nm, .s c.at_, .b c.down]
mutual
def phD : Ph → List D
  | .mk h l c => phhD h ++ [.sl 11 (phDs l), .sl 15 (clDs c)]
def phDs : List Ph → List (List D)
  | [] => []
  | x :: l => phD x :: phDs l
def clD : Cl → List D
  | .mk c x => clhD c ++ phD x
def clDs : List Cl → List (List D)
  | [] => []
  | x :: l => clD x :: clDs l
end
theorem phDs_map : ∀ l : List Ph, phDs l = l.map phD
  | [] => by rw [phDs, List.map_nil]
  | x :: l => by rw [phDs, phDs_map l, List.map_cons]
theorem clDs_map : ∀ l : List Cl, clDs l = l.map clD
  | [] => by rw [clDs, List.map_nil]
  | x :: l => by rw [clDs, clDs_map l, List.map_cons]
theorem phD_eq (h : Phh) (l : List Ph) (c : List Cl) : phD (.mk h l c) = phhD h ++ [.sl 11 (l.map phD), .sl 15 (c.map clD)] := by rw [phD, phDs_map, clDs_map]
theorem clD_eq (c : Clh) (x : Ph) : clD (.mk c x) = clhD c ++ phD x := by rw [clD]
mutual
def phN : Ph → Nat
  | .mk _ l c => phNs l + clNs c + 1
def phNs : List Ph → Nat
  | [] => 0
  | x :: l => phN x + phNs l
def clN : Cl → Nat
  | .mk _ x => phN x + 1
def clNs : List Cl → Nat
  | [] => 0
  | x :: l => clN x + clNs l
end
theorem phN_eq (h : Phh) (l : List Ph) (c : List Cl) : phN (.mk h l c) = phNs l + clNs c + 1 := by rw [phN]
theorem phNs_nil : phNs [] = 0 := by rw [phNs]
theorem phNs_cons (x : Ph) (l : List Ph) : phNs (x :: l) = phN x + phNs l := by rw [phNs]
theorem clN_eq (c : Clh) (x : Ph) : clN (.mk c x) = phN x + 1 := by rw [clN]
theorem clNs_nil : clNs [] = 0 := by rw [clNs]
theorem clNs_cons (x : Cl) (l : List Cl) : clNs (x :: l) = clN x + clNs l := by rw [clNs]
theorem phNs_mem {x : Ph} : ∀ {l : List Ph}, x ∈ l → phN x ≤ phNs l
  | [], h => by cases h
  | y :: l, h => by
    rw [phNs_cons]
    rcases List.mem_cons.1 h with rfl | h
    · omega
    · have := phNs_mem h; omega
theorem phNs_len : ∀ l : List Ph, l.length ≤ phNs l
  | [] => by simp
  | .mk h a c :: l => by rw [phNs_cons, phN_eq, List.length_cons]; have := phNs_len l; omega
theorem clNs_len : ∀ l : List Cl, l.length ≤ clNs l
  | [] => by simp
  | .mk c x :: l => by rw [clNs_cons, clN_eq, List.length_cons]; have := clNs_len l; omega
theorem phN_args {p x : Ph} (h : x ∈ p.args) : phN x < phN p := by
  cases p with | mk h l c => rw [phN_eq]; have := phNs_mem (l := l) h; omega
structure PhhOk (h : Phh) : Prop where
  it : h.it.s.length ≤ 1048576
  nm : h.nm.length ≤ 1048576
  tn : h.tn.length ≤ 1048576
mutual
inductive PhOk : Ph → Prop where
  | mk (h : Phh) (l : List Ph) (c : List Cl) : PhhOk h → l.length ≤ 1048576 → c.length ≤ 1048576 → (∀ x, x ∈ l → PhOk x) → (∀ x, x ∈ c → ClOk x) → PhOk (.mk h l c)
inductive ClOk : Cl → Prop where
  | mk (c : Clh) (x : Ph) : c.nm.length ≤ 1048576 → c.at_.length ≤ 1048576 → PhOk x → ClOk (.mk c x)
end
abbrev tyPhT (tp tc : TypeId) : TyR := .cons (.i .i64) (.cons (.cons (.i .i64) (.cons (.i .i64) (.cons .s .nil))) (.cons .s (.cons (.i .i64) (.cons (.i .i64) (.cons (.cons (.i .i64) (.cons .s .nil)) (.cons (.sl (.rf tp 11)) (.cons (.sl (.rf tc 15)) .nil)))))))
abbrev tyClT (tp tc : TypeId) : TyR := .cons (.i .i64) (.cons .s (.cons .s (.cons .b (.cons (tyPhT tp tc) .nil))))
theorem phNs_sum : ∀ {xs : List Ph} {ws : List Nat}, ws.length = xs.length → (∀ (i : Nat) (x : Ph) (w : Nat), xs[i]? = some x → ws[i]? = some w → phN x ≤ w) → phNs xs ≤ ws.sum
  | [], ws, _, _ => by simp [phNs_nil]
  | x :: xs, [], h, _ => by simp at h
  | x :: xs, w :: ws, h, hw => by
    have h0 := hw 0 x w rfl rfl
    have h1 := phNs_sum (xs := xs) (ws := ws) (by simpa using h) fun i x w h1 h2 => hw (i + 1) x w (by simpa using h1) (by simpa using h2)
    rw [phNs_cons, List.sum_cons]
    omega
theorem clNs_sum : ∀ {xs : List Cl} {ws : List Nat}, ws.length = xs.length → (∀ (i : Nat) (x : Cl) (w : Nat), xs[i]? = some x → ws[i]? = some w → clN x ≤ w) → clNs xs ≤ ws.sum
  | [], ws, _, _ => by simp [clNs_nil]
  | x :: xs, [], h, _ => by simp at h
  | x :: xs, w :: ws, h, hw => by
    have h0 := hw 0 x w rfl rfl
    have h1 := clNs_sum (xs := xs) (ws := ws) (by simpa using h) fun i x w h1 h2 => hw (i + 1) x w (by simpa using h1) (by simpa using h2)
    rw [clNs_cons, List.sum_cons]
    omega
theorem typed_ph {env : TypeId → Option TyR} {tp tc : TypeId} (he : env tp = some (tyPhT tp tc)) (hc : env tc = some (tyClT tp tc)) : ∀ (m : Nat) (ds : List D), m ≤ 1048576 → TypedR env (tyPhT tp tc) ds m → ∃ x, ds = phD x ∧ PhOk x ∧ phN x ≤ m := by
  intro m
  induction m using Nat.strongRecOn with
  | ind m ih =>
  intro ds hm h
  obtain ⟨_, _, _, _, rfl, e1, h1, g1⟩ := typedR_cons h
  obtain ⟨_, _, _, _, rfl, e2, h2, g2⟩ := typedR_cons g1
  obtain ⟨_, _, _, _, rfl, e3, h3, g3⟩ := typedR_cons g2
  obtain ⟨_, _, _, _, rfl, e4, h4, g4⟩ := typedR_cons g3
  obtain ⟨_, _, _, _, rfl, e5, h5, g5⟩ := typedR_cons g4
  obtain ⟨_, _, _, _, rfl, e6, h6, g6⟩ := typedR_cons g5
  obtain ⟨_, _, _, _, rfl, e7, h7, g7⟩ := typedR_cons g6
  obtain ⟨_, _, _, _, rfl, e8, h8, g8⟩ := typedR_cons g7
  obtain rfl := typedR_nil g8
  obtain ⟨_, _, _, _, rfl, f1, i1, j1⟩ := typedR_cons h2
  obtain ⟨_, _, _, _, rfl, f2, i2, j2⟩ := typedR_cons j1
  obtain ⟨_, _, _, _, rfl, f3, i3, j3⟩ := typedR_cons j2
  obtain rfl := typedR_nil j3
  obtain ⟨_, _, _, _, rfl, q1, u1, v1⟩ := typedR_cons h6
  obtain ⟨_, _, _, _, rfl, q2, u2, v2⟩ := typedR_cons v1
  obtain rfl := typedR_nil v2
  obtain ⟨k, rfl, rk, lk⟩ := typedR_i h1
  obtain ⟨ik, rfl, rik, lik⟩ := typedR_i i1
  obtain ⟨in_, rfl, rin, lin⟩ := typedR_i i2
  obtain ⟨is_, rfl, lis⟩ := typedR_s i3
  obtain ⟨nm, rfl, lnm⟩ := typedR_s h3
  obtain ⟨n, rfl, rn, ln⟩ := typedR_i h4
  obtain ⟨ax, rfl, rax, lax⟩ := typedR_i h5
  obtain ⟨tk, rfl, rtk, ltk⟩ := typedR_i u1
  obtain ⟨tn, rfl, ltn⟩ := typedR_s u2
  obtain ⟨rows, rfl, ws, w1, w2, w3⟩ := typedR_sl h7
  obtain ⟨crows, rfl, cws, c1, c2, c3⟩ := typedR_sl h8
  obtain ⟨xs, rfl, hxs⟩ := typedR_list (env := env) (E := tyPhT tp tc) (f := phD) (p := fun x w => PhOk x ∧ phN x ≤ w) w1 fun i row w hr hw => by
    have hle := le_sum hw
    obtain ⟨T, hT, _, h9⟩ := typedR_rf (w3 i row w hr hw)
    obtain rfl := Option.some.inj (hT.symm.trans he)
    obtain ⟨x, hx, o1, o2⟩ := ih w (by omega) row (by omega) h9
    exact ⟨x, hx, o1, o2⟩
  obtain ⟨cs, rfl, hcs⟩ := typedR_list (env := env) (E := tyPhT tp tc) (f := clD) (p := fun x w => ClOk x ∧ clN x ≤ w) c1 fun i row w hr hw => by
    have hle := le_sum hw
    obtain ⟨T, hT, _, h9⟩ := typedR_rf (c3 i row w hr hw)
    obtain rfl := Option.some.inj (hT.symm.trans hc)
    obtain ⟨_, _, _, _, rfl, d1, k1, l1⟩ := typedR_cons h9
    obtain ⟨_, _, _, _, rfl, d2, k2, l2⟩ := typedR_cons l1
    obtain ⟨_, _, _, _, rfl, d3, k3, l3⟩ := typedR_cons l2
    obtain ⟨_, _, _, _, rfl, d4, k4, l4⟩ := typedR_cons l3
    obtain ⟨_, _, _, _, rfl, d5, k5, l5⟩ := typedR_cons l4
    obtain rfl := typedR_nil l5
    obtain ⟨kk, rfl, _, m1⟩ := typedR_i k1
    obtain ⟨cn, rfl, m2⟩ := typedR_s k2
    obtain ⟨ca, rfl, m3⟩ := typedR_s k3
    obtain ⟨cd, rfl, m4⟩ := typedR_b k4
    obtain ⟨x, rfl, o1, o2⟩ := ih _ (by omega) _ (by omega) k5
    exact ⟨.mk ⟨kk, cn, ca, cd⟩ x, by rw [clD_eq]; simp [clhD], .mk _ _ (by simp only; omega) (by simp only; omega) o1, by rw [clN_eq]; omega⟩
  have w1 : ws.length = xs.length := by simpa using w1
  have c1 : cws.length = cs.length := by simpa using c1
  have hsum := phNs_sum w1 fun i x w h1 h2 => (hxs i x w h1 h2).2
  have hcsum := clNs_sum c1 fun i x w h1 h2 => (hcs i x w h1 h2).2
  have hlen := phNs_len xs
  have hclen := clNs_len cs
  refine ⟨.mk ⟨k, ⟨ik, in_, is_⟩, nm, n, ax, tk, tn⟩ xs cs, ?_, .mk _ _ _ ⟨by simp only; omega, by simp only; omega, by simp only; omega⟩ (by omega) (by omega) (fun x hx => ?_) (fun x hx => ?_), by rw [phN_eq]; omega⟩
  · rw [phD_eq]; rfl
  · obtain ⟨i, hi, rfl⟩ := List.mem_iff_getElem.1 hx
    obtain ⟨w, hw⟩ : ∃ w, ws[i]? = some w := ⟨ws[i]'(by omega), List.getElem?_eq_getElem (by omega)⟩
    exact (hxs i _ w (List.getElem?_eq_getElem hi) hw).1
  · obtain ⟨i, hi, rfl⟩ := List.mem_iff_getElem.1 hx
    obtain ⟨w, hw⟩ : ∃ w, cws[i]? = some w := ⟨cws[i]'(by omega), List.getElem?_eq_getElem (by omega)⟩
    exact (hcs i _ w (List.getElem?_eq_getElem hi) hw).1
end Go.Proofs.YtdmkfkjdielmiaaDoor
