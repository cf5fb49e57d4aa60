/- A clone of a list of texts, as an own object. No condition. -/
import Derived.Test.YtdmkfkjdielmiaaDoorP19
import Derived.Test.YtdmkfkjdielmiaaDoorP18
import Derived.Test.YtdmkfkjdielmiaaDoorP20
import Derived.Test.YtdmkfkjdielmiaaDoorP24
set_option linter.all false
set_option linter.unusedSimpArgs false
set_option linter.unusedVariables false
namespace Go.Proofs.YtdmkfkjdielmiaaDoor
open Go Go.Proofs.YtdmkfkjdielmiaaDoor.Ab
variable [Glo]
set_option maxHeartbeats 4000000
set_option maxRecDepth 20000
end Go.Proofs.YtdmkfkjdielmiaaDoor
namespace Go.Proofs.YtdmkfkjdielmiaaDoor.RkO
open Go Go.Proofs.YtdmkfkjdielmiaaDoor Go.Proofs.YtdmkfkjdielmiaaDoor.Ab
variable [Glo]
theorem cellsD_bel (m v e sz : Nat) (R : List (List D)) : ObBel m (.row v e sz (R.map fun r => r.map V.d)) := by
  intro row hr v hv
  obtain ⟨r, _, rfl⟩ := List.mem_map.1 hr
  obtain ⟨d, _, rfl⟩ := List.mem_map.1 hv
  exact .d _
namespace FNc103
def tks : Nat → List Nat | 0 => [0] | 1 => [0, 4] | 2 => [2] | 3 => [2] | _ => []
def tmu : List Nat := [2, 5]
def tin : List Nat := [0]
abbrev tfn := @Tryd.func103
end FNc103
attribute [go_sem] FNc103.tks FNc103.tmu FNc103.tin Tryd.ntmps103 Tryd.results103
open FNc103 in
theorem cloneStrsO_A (R : List (List D)) (hlen : R.length * 16 ≤ 140737488355328) (H : Heap) (K : V → Heap → Prop) (hk : K (.os (H.length + 1) 1) (H ++ [.row 0 9 1 [], .row 1 9 1 (R.map fun r => r.map .d)])) : ACalls Tryd.prog 103 [.d (.sl 1 R)] H K := by
  have hc : Closed H (H ++ [.row 0 9 1 [], .row 1 9 1 (R.map fun r => r.map .d)]) := closed_app fun ob hob => by
    simp only [List.mem_cons, List.not_mem_nil, or_false] at hob
    rcases hob with rfl | rfl
    · exact cellsD_bel _ _ _ _ []
    · exact cellsD_bel _ _ _ _ _
  cases R with
  | nil =>
    refine We ?_
    repeat' (first | (refine AWp_bump 2 (H.length + 1) 0 rfl ((get_appk _ _ 1).trans rfl) ?_) | with_reducible (first | refine And.intro ?_ ?_ | intro _ | refine AWp_seq ?_ | refine AWp_block ?_ | (refine hKv _ _ (AWp_nop ?_); clear hKv Kv) | (refine hKA ?_; clear hKA hKB KA KB) | (refine hKB ?_; clear hKA hKB KA KB) | refine AWp_skipN ?_ | refine AWp_exitO (by repeat (first | exact Out.hit | apply Out.thenA | apply Out.out rfl)) ?_) | (with_reducible (first | (refine hKv _ _ ?_; clear hKv Kv) | ((first | refine AWp_regC tmu tks ?_ | refine AWp_regE tmu tks ?_); intro Kv hKv) | refine AWp_retR ?_); try simp (dsimp := false) only [go_sem, Nat.reduceAdd, Nat.reduceBEq, Nat.reduceEqDiff, Nat.reduceLT, Nat.reduceLeDiff, Nat.reduceMul, Int.reduceToNat, reduceCtorEq, ↓reduceIte]) | (refine AWp_condC rfl ?_; intro KA KB hKA hKB; try simp only [onB_true, onB_false, onB_dec, onB_ndec, onB_not, onB_and, onB_or]) | (refine AWp_condA rfl ?_ ?_) | with_reducible (first | refine onB_of ?_ ?_ | rfl) | omega)
    all_goals first
      | omega
      | exact keepS hk (by simp) hc (.os _ _ (by simp))
  | cons r R =>
    simp only [List.length_cons] at hlen
    refine We ?_
    have us := eq_self (0 : Nat)
    exact W31
end Go.Proofs.YtdmkfkjdielmiaaDoor.RkO
namespace Go.Proofs.YtdmkfkjdielmiaaDoor
open Go Go.Proofs.YtdmkfkjdielmiaaDoor.Ab
variable [Glo] [U8] [CAr]
set_option maxHeartbeats 4000000
set_option maxRecDepth 20000
def cntC (a b c : Int) : Ob := .row 0 90 3 [[.d (.i .i64 a), .d (.i .i64 b), .d (.i .i64 c)]]
theorem cntC_bel (m : Nat) (a b c : Int) : ObBel m (cntC a b c) := by
  intro row hr v hv
  simp at hr
  subst hr
  simp at hv
  rcases hv with rfl | rfl | rfl <;> exact .d _
def wI (n : Int) : Int := IntKind.wrap .i64 n
theorem wI_spec (n : Int) : ∃ k : Int, wI n = n - k * 18446744073709551616 ∧ -9223372036854775808 ≤ wI n ∧ wI n ≤ 9223372036854775807 := by
  have e : wI n = if n % 18446744073709551616 ≥ 9223372036854775808 then n % 18446744073709551616 - 18446744073709551616 else n % 18446744073709551616 := by
    simp [wI, IntKind.wrap, IntKind.bits, IntKind.signed]
  rw [e]
  split
  · exact ⟨n / 18446744073709551616 + 1, by omega, by omega, by omega⟩
  · exact ⟨n / 18446744073709551616, by omega, by omega, by omega⟩
theorem wI_add (x y : Int) : IntKind.wrap .i64 (wI x + y) = wI (x + y) := by
  obtain ⟨k1, h1, _, _⟩ := wI_spec x
  obtain ⟨k2, h2, h3, h4⟩ := wI_spec (wI x + y)
  obtain ⟨k3, h5, h6, h7⟩ := wI_spec (x + y)
  show wI (wI x + y) = _
  omega
theorem wI_add' (x y : Int) : IntKind.wrap .i64 (wI x + wI y) = wI (x + y) := by
  rw [wI_add]
  obtain ⟨k1, h1, _, _⟩ := wI_spec y
  obtain ⟨k2, h2, h3, h4⟩ := wI_spec (x + wI y)
  obtain ⟨k3, h5, h6, h7⟩ := wI_spec (x + y)
  omega
def cntW (a b c : Int) : Ob := cntC (wI a) (wI b) (wI c)
def ChkAt (id : Nat) (x : Ex) (sc : List (List UInt8)) : Prop := ∀ (a b c : Int) (H : Heap) (K : V → Heap → Prop), H[id]? = some (cntW a b c) →
  (∀ a' b' c', (efQ x sc = 0 → a' = a + exHow 5 6 x ∧ b' = b + exHow 10 10 x ∧ c' = c + exN x) → K (.d (.i .i64 (efQ x sc))) (H.set id (cntW a' b' c'))) →
  ACalls Tryd.prog 44 [exV x.h x.args, .d (.sl 1 (sc.map strRow)), .pt id 0 0 0] H K
theorem chk_at {id : Nat} {x : Ex} {sc : List (List UInt8)} (h : ChkAt id x sc) {H : Heap} {o : Ob} (hr : H[id]? = some o) (a b c : Int) (G : Heap) (K : V → Heap → Prop)
    (hK : ∀ a' b' c', (efQ x sc = 0 → a' = a + exHow 5 6 x ∧ b' = b + exHow 10 10 x ∧ c' = c + exN x) → K (.d (.i .i64 (efQ x sc))) (H.set id (cntW a' b' c') ++ G)) :
    ACalls Tryd.prog 44 [exV x.h x.args, .d (.sl 1 (sc.map strRow)), .pt id 0 0 0] (H.set id (cntW a b c) ++ G) K := by
  have hid := lt_of_get hr
  refine h a b c _ K (by rw [List.getElem?_append_left (by simpa using hid)]; exact get_self hr _) fun a' b' c' hh => ?_
  have := hK a' b' c' hh
  rw [List.set_append_left _ _ (by simpa using hid), List.set_set]
  exact this
theorem chk_at0 {id : Nat} {x : Ex} {sc : List (List UInt8)} (h : ChkAt id x sc) {H : Heap} {o : Ob} (hr : H[id]? = some o) (a b c : Int) (K : V → Heap → Prop)
    (hK : ∀ a' b' c', (efQ x sc = 0 → a' = a + exHow 5 6 x ∧ b' = b + exHow 10 10 x ∧ c' = c + exN x) → K (.d (.i .i64 (efQ x sc))) (H.set id (cntW a' b' c'))) :
    ACalls Tryd.prog 44 [exV x.h x.args, .d (.sl 1 (sc.map strRow)), .pt id 0 0 0] (H.set id (cntW a b c)) K := by
  refine h a b c _ K (get_self hr _) fun a' b' c' hh => ?_
  have := hK a' b' c' hh
  rw [List.set_set]
  exact this
namespace FN44
def tks : Nat → List Nat | 0 => [1, 2, 3] | 1 => [1, 2, 3, 20] | 2 => [6] | 3 => [1, 2, 3] | 4 => [1, 2, 3, 7] | 5 => [1, 2, 3, 39] | 6 => [6] | 7 => [1, 2, 3, 8] | 8 => [1, 2, 3, 8, 44] | 9 => [6] | 10 => [1, 2, 3, 47] | 11 => [1, 2, 3, 47, 48] | 12 => [1, 2, 3, 47, 48] | 13 => [1, 2, 3] | 14 => [1, 2, 3, 58] | 15 => [1, 2, 3] | 16 => [1, 2, 3, 68, 69, 70] | 17 => [1, 2, 3, 68, 69, 70, 71] | 18 => [1, 2, 3, 9, 10, 68, 69, 70] | 19 => [1, 2, 3, 9, 10, 11, 68, 69, 70] | 20 => [1, 2, 3, 10, 11, 68, 69, 70, 92] | 21 => [1, 2, 3, 10, 11, 68, 69, 70] | 22 => [1, 2, 3, 10, 11, 68, 69, 70, 106] | 23 => [1, 2, 3, 10, 11, 68, 69, 70] | 24 => [1, 2, 3, 12, 68, 69, 70] | 25 => [1, 2, 3, 12, 68, 69, 70, 117] | 26 => [6] | 27 => [1, 2, 3, 68, 69, 70] | 28 => [6] | _ => []
def tmu : List Nat := [25, 55, 64]
def tin : List Nat := [0, 1, 2]
def tro : Nat → List Nat | 18 => [10] | _ => []
def txt : Nat → Nat × List Cd | 21 => (6, [.q 0 0, .t, .q 1 0, .q 1 0, .q 1 0, .t]) | _ => (0, [])
def tgv : Nat → List Bool | 24 => [false, true] | _ => []
abbrev tfn := @Tryd.func44
end FN44
attribute [go_sem] FN44.tks FN44.tmu FN44.tin FN44.tro FN44.txt FN44.tgv Tryd.ntmps44 Tryd.results44
end Go.Proofs.YtdmkfkjdielmiaaDoor
namespace Go.Proofs.YtdmkfkjdielmiaaDoor
open Go Go.Proofs.YtdmkfkjdielmiaaDoor.Ab
variable [Glo] [U8] [CAr]
set_option maxHeartbeats 4000000
set_option maxRecDepth 20000
open FN61 in
theorem exprFault1_A (h : Xh) (l : List Ex) (hkind : h.k = 1) (ok : XhOk h) (hl : l.length ≤ 1048576) (hcount : coreMany h.k < 0 ∨ coreMany h.k = (l.length : Int)) (sc : List (List UInt8)) (hsc : sc.length + 2 ≤ 50000000)
    (ih : ∀ x, x ∈ l → ∀ (sc' : List (List UInt8)), sc'.length ≤ sc.length + 2 → ∀ (H : Heap) (K : V → Heap → Prop), K (.d (.i .i64 (efQ x sc'))) H → ACalls Tryd.prog 61 [exV x.h x.args, .d (.sl 1 (sc'.map strRow))] H K)
    (H : Heap) (K : V → Heap → Prop) (hk : K (.d (.i .i64 (efQ (.mk h l) sc))) H) : ACalls Tryd.prog 61 [exV h l, .d (.sl 1 (sc.map strRow))] H K := by
  have o1 := ok.it
  have o2 := ok.nm
  have o3 := ok.at_
  have o4 := ok.tn
  have hI := in_A 1 1 11
  have hM := argCount_A 1
  have cm : coreMany 1 = 0 := rfl
  rw [efQ_eq (by omega) hcount] at hk
  rw [hkind, cm] at hcount
  rw [exV_k hkind]
  have m2 : ((0 : Int) = (l.length : Int)) = True := eq_true (by omega)
  rw [decide_eq_true (by decide)] at hI
  rw [cm] at hM
  refine We ?_
  repeat' (first | (refine halt_block 0 ?_) | with_reducible (first | refine And.intro ?_ ?_ | intro _ | refine AWp_seq ?_ | refine AWp_block ?_ | (refine hKv _ _ (AWp_nop ?_); clear hKv Kv) | (refine hKA ?_; clear hKA hKB KA KB) | (refine hKB ?_; clear hKA hKB KA KB) | refine AWp_skipN ?_ | refine AWp_exitO (by repeat (first | exact Out.hit | apply Out.thenA | apply Out.out rfl)) ?_) | ((first | with_reducible (first | (refine hKv _ _ ?_; clear hKv Kv) | ((first | refine AWp_regC tmu tks ?_ | refine AWp_draw tnd tmu tks ti_mixed (by kernel_rfl) ?_ | refine AWp_regE tmu tks ?_ | refine AWp_drawE tnd tmu tks ti_mixed (by kernel_rfl) ?_); intro Kv hKv) | refine AWp_retR ?_) | refine hI _ _ ?_ | refine QCall_of (hI _ _ (Two_intro _ _)) ?_ | refine hM _ _ ?_ | refine QCall_of (hM _ _ (Two_intro _ _)) ?_); try simp (dsimp := false) only [go_sem, Nat.reduceAdd, Nat.reduceBEq, Nat.reduceEqDiff, Nat.reduceLT, Nat.reduceLeDiff, Nat.reduceMul, Int.reduceToNat, reduceCtorEq, ↓reduceIte, not_true_eq_false, not_false_eq_true, Bool.true_and, Bool.false_and, Int.reduceEq, Int.reduceLT, Int.reduceLE, Int.reduceNeg, List.map_cons, List.map_nil, m2]) | (refine AWp_condC rfl ?_; intro KA KB hKA hKB; try simp only [onB_true, onB_false, onB_dec, onB_ndec, onB_not, onB_and, onB_or]) | (refine AWp_condA rfl ?_ ?_) | with_reducible (first | refine onB_of ?_ ?_ | rfl) | omega)
  refine AWp_cutG (ι := Unit) (fun _ => True) (fun _ => [(1, .d (.sl 1 (sc.map strRow))), (2, .rp [.i .i64 1, .i .i64 h.it.k, .i .i64 h.it.n, .s h.it.s, .s h.nm, .s h.at_, .i .i64 h.n, .i .i64 h.ax, .i .i64 h.tk, .s h.tn, .sl 11 (l.map exD)]), (5, .d (.b false)), (6, .d (.i .i64 (exOwn h l.length sc)))]) (fun _ => H) (fun _ _ => Nat.le_refl _) (fun _ _ => closed_self H) ?loop ?switch
  case switch =>
    have hm := itemMay_A h.it (by omega)
    by_cases ci : h.it.k = 1
    · have i1 : (h.it.k = 1) = True := eq_true ci
      have hE : exOwn h l.length sc = 12 := by rw [exOwn, if_pos hkind, if_pos ci]
      have c21 := hm; have us := an hE i1
      refine W32 ?_ ?_ ?_ ?_ <;> try exact trivial
      all_goals first
        | omega
        | exact ⟨(), [], (List.append_nil H).symm⟩
        | (refine ⟨(), [], trivial, (List.append_nil H).symm, ?_⟩
           simp (dsimp := false) only [go_sem, Nat.reduceAdd, Nat.reduceBEq, Nat.reduceEqDiff, Nat.reduceLT, Nat.reduceLeDiff, Nat.reduceMul, Int.reduceToNat, reduceCtorEq, ↓reduceIte, not_true_eq_false, not_false_eq_true, Bool.true_and, Bool.false_and, Int.reduceEq, Int.reduceLT, Int.reduceLE, Int.reduceNeg, List.map_cons, List.map_nil, hE, itD, itV, strRow, tsV, i1]
           first | done | (simp [hE]; done))
    · have i1 : (h.it.k = 1) = False := eq_false ci
      cases hb : itemB h.it with
      | true =>
        rw [hb] at hm
        have hE : exOwn h l.length sc = 0 := by rw [exOwn, if_pos hkind, if_neg ci, itemFault, hb]; rfl
        have c21 := hm; have us := an hE i1
        refine W32 ?_ ?_ ?_ ?_ <;> try exact trivial
        all_goals first
          | omega
          | exact ⟨(), [], (List.append_nil H).symm⟩
          | (refine ⟨(), [], trivial, (List.append_nil H).symm, ?_⟩
             simp (dsimp := false) only [go_sem, Nat.reduceAdd, Nat.reduceBEq, Nat.reduceEqDiff, Nat.reduceLT, Nat.reduceLeDiff, Nat.reduceMul, Int.reduceToNat, reduceCtorEq, ↓reduceIte, not_true_eq_false, not_false_eq_true, Bool.true_and, Bool.false_and, Int.reduceEq, Int.reduceLT, Int.reduceLE, Int.reduceNeg, List.map_cons, List.map_nil, hE, itD, itV, strRow, tsV, i1]
             first | done | (simp [hE]; done))
      | false =>
        rw [hb] at hm
        have hE : exOwn h l.length sc = 12 := by rw [exOwn, if_pos hkind, if_neg ci, itemFault, hb]; rfl
        have c21 := hm; have us := an hE i1
        refine W32 ?_ ?_ ?_ ?_ <;> try exact trivial
        all_goals first
          | omega
          | exact ⟨(), [], (List.append_nil H).symm⟩
          | (refine ⟨(), [], trivial, (List.append_nil H).symm, ?_⟩
             simp (dsimp := false) only [go_sem, Nat.reduceAdd, Nat.reduceBEq, Nat.reduceEqDiff, Nat.reduceLT, Nat.reduceLeDiff, Nat.reduceMul, Int.reduceToNat, reduceCtorEq, ↓reduceIte, not_true_eq_false, not_false_eq_true, Bool.true_and, Bool.false_and, Int.reduceEq, Int.reduceLT, Int.reduceLE, Int.reduceNeg, List.map_cons, List.map_nil, hE, itD, itV, strRow, tsV, i1]
             first | done | (simp [hE]; done))
  case loop =>
    intro _ _
    generalize hgo : exOwn h l.length sc = ow at hk ⊢
    have hinn : exInner h sc = sc := by rw [exInner, if_neg (by omega)]
    have hle : (exInner h sc).length ≤ sc.length + 2 := exInner_len h sc
    generalize hg : exInner h sc = inn at hk hle hinn
    have us := hinn.symm
    refine W33 ?_
    refine AWp_while0 (fun y : Nat × Int => y.1 ≤ l.length ∧ (if y.2 = 0 then efL (l.drop y.1) (if y.1 = 0 then sc else inn) inn else y.2) = (if ow = 0 then efL l sc inn else ow)) (fun y => [(1, .d (.sl 1 (sc.map strRow))), (2, .rp [.i .i64 1, .i .i64 h.it.k, .i .i64 h.it.n, .s h.it.s, .s h.nm, .s h.at_, .i .i64 h.n, .i .i64 h.ax, .i .i64 h.tk, .s h.tn, .sl 11 (l.map exD)]), (6, .d (.i .i64 y.2)), (7, .d (.sl 1 (inn.map strRow))), (8, .d (.i .i64 y.1))]) (fun y => 2 * (l.length - y.1) + (if y.2 = 0 then 1 else 0)) (0, ow) ⟨Nat.zero_le _, by simp⟩ ?_ ?_
    · simp (dsimp := false) only [go_sem, Nat.reduceAdd, Nat.reduceBEq, Nat.reduceEqDiff, Nat.reduceLT, Nat.reduceLeDiff, Nat.reduceMul, Int.reduceToNat, reduceCtorEq, ↓reduceIte, not_true_eq_false, not_false_eq_true, Bool.true_and, Bool.false_and, Int.reduceEq, Int.reduceLT, Int.reduceLE, Int.reduceNeg, List.map_cons, List.map_nil, ← hinn, strRow]
      first | done | (simp [hinn]; done)
    rintro ⟨i, e⟩ ⟨hi, hv⟩
    simp only at hi hv
    have t2 : ((0 : Int) ≤ (i : Int)) = True := eq_true (by omega)
    by_cases hil : i < l.length
    · have t1 : ((i : Int) < (l.length : Int)) = True := eq_true (by omega)
      by_cases he : e = 0
      · subst he
        obtain ⟨a, ha⟩ : ∃ x, l[i]? = some x := ⟨l[i], List.getElem?_eq_getElem hil⟩
        have hma := List.mem_of_getElem? ha
        rw [if_pos rfl, drop_of_get ha, efL_cons] at hv
        by_cases i0 : i = 0
        · have t3 : ((i : Int) = 0) = True := eq_true (by omega)
          rw [if_pos i0] at hv
          have hc := ih a hma sc (by omega)
          have c21 := hc; have us := an ha (an t1 (an t2 t3))
          refine W34 ?_ ?_ ?_ ?_ <;> try exact trivial
          all_goals first
            | omega
            | (refine ⟨(i + 1, efQ a sc), ⟨by simp only; omega, by simp only; rw [← hv]; by_cases hz : efQ a sc = 0 <;> simp [hz]⟩, by simp only; split <;> omega, ?_⟩
               first | rfl | ((repeat' (refine And.intro ?_ ?_)) <;> first | rfl | omega | (simp; done) | (simp only; omega)))
        · have t3 : ((i : Int) = 0) = False := eq_false (by omega)
          rw [if_neg i0] at hv
          have hc := ih a hma inn (by omega)
          have c21 := hc; have us := an ha (an t1 (an t2 t3))
          refine W34 ?_ ?_ ?_ ?_ <;> try exact trivial
          all_goals first
            | omega
            | (refine ⟨(i + 1, efQ a inn), ⟨by simp only; omega, by simp only; rw [← hv]; by_cases hz : efQ a inn = 0 <;> simp [hz]⟩, by simp only; split <;> omega, ?_⟩
               first | rfl | ((repeat' (refine And.intro ?_ ?_)) <;> first | rfl | omega | (simp; done) | (simp only; omega)))
      · have t3 : (e = 0) = False := eq_false he
        rw [if_neg he] at hv
        have us := an t1 (an t2 t3)
        exact W35
    · have t1 : ((i : Int) < (l.length : Int)) = False := eq_false (by omega)
      have hee : e = (if ow = 0 then efL l sc inn else ow) := by
        rw [List.drop_eq_nil_of_le (by omega), efL_nil] at hv
        by_cases he : e = 0
        · rw [if_pos he] at hv; rw [he]; exact hv
        · rw [if_neg he] at hv; exact hv
      have us := an t1 t2
      exact W36
end Go.Proofs.YtdmkfkjdielmiaaDoor
namespace Go.Proofs.YtdmkfkjdielmiaaDoor
open Go Go.Proofs.YtdmkfkjdielmiaaDoor.Ab
variable [Glo] [U8] [CAr]
set_option maxHeartbeats 4000000
set_option maxRecDepth 20000
open FN61 in
theorem exprFault2_A (h : Xh) (l : List Ex) (hkind : h.k = 2) (ok : XhOk h) (hl : l.length ≤ 1048576) (hcount : coreMany h.k < 0 ∨ coreMany h.k = (l.length : Int)) (sc : List (List UInt8)) (hsc : sc.length + 2 ≤ 50000000)
    (ih : ∀ x, x ∈ l → ∀ (sc' : List (List UInt8)), sc'.length ≤ sc.length + 2 → ∀ (H : Heap) (K : V → Heap → Prop), K (.d (.i .i64 (efQ x sc'))) H → ACalls Tryd.prog 61 [exV x.h x.args, .d (.sl 1 (sc'.map strRow))] H K)
    (H : Heap) (K : V → Heap → Prop) (hk : K (.d (.i .i64 (efQ (.mk h l) sc))) H) : ACalls Tryd.prog 61 [exV h l, .d (.sl 1 (sc.map strRow))] H K := by
  have o1 := ok.it
  have o2 := ok.nm
  have o3 := ok.at_
  have o4 := ok.tn
  have hI := in_A 2 1 11
  have hM := argCount_A 2
  have cm : coreMany 2 = 0 := rfl
  rw [efQ_eq (by omega) hcount] at hk
  rw [hkind, cm] at hcount
  rw [exV_k hkind]
  have m2 : ((0 : Int) = (l.length : Int)) = True := eq_true (by omega)
  rw [decide_eq_true (by decide)] at hI
  rw [cm] at hM
  refine We ?_
  repeat' (first | (refine halt_block 0 ?_) | with_reducible (first | refine And.intro ?_ ?_ | intro _ | refine AWp_seq ?_ | refine AWp_block ?_ | (refine hKv _ _ (AWp_nop ?_); clear hKv Kv) | (refine hKA ?_; clear hKA hKB KA KB) | (refine hKB ?_; clear hKA hKB KA KB) | refine AWp_skipN ?_ | refine AWp_exitO (by repeat (first | exact Out.hit | apply Out.thenA | apply Out.out rfl)) ?_) | ((first | with_reducible (first | (refine hKv _ _ ?_; clear hKv Kv) | ((first | refine AWp_regC tmu tks ?_ | refine AWp_draw tnd tmu tks ti_mixed (by kernel_rfl) ?_ | refine AWp_regE tmu tks ?_ | refine AWp_drawE tnd tmu tks ti_mixed (by kernel_rfl) ?_); intro Kv hKv) | refine AWp_retR ?_) | refine hI _ _ ?_ | refine QCall_of (hI _ _ (Two_intro _ _)) ?_ | refine hM _ _ ?_ | refine QCall_of (hM _ _ (Two_intro _ _)) ?_); try simp (dsimp := false) only [go_sem, Nat.reduceAdd, Nat.reduceBEq, Nat.reduceEqDiff, Nat.reduceLT, Nat.reduceLeDiff, Nat.reduceMul, Int.reduceToNat, reduceCtorEq, ↓reduceIte, not_true_eq_false, not_false_eq_true, Bool.true_and, Bool.false_and, Int.reduceEq, Int.reduceLT, Int.reduceLE, Int.reduceNeg, List.map_cons, List.map_nil, m2]) | (refine AWp_condC rfl ?_; intro KA KB hKA hKB; try simp only [onB_true, onB_false, onB_dec, onB_ndec, onB_not, onB_and, onB_or]) | (refine AWp_condA rfl ?_ ?_) | with_reducible (first | refine onB_of ?_ ?_ | rfl) | omega)
  refine AWp_cutG (ι := Unit) (fun _ => True) (fun _ => [(1, .d (.sl 1 (sc.map strRow))), (2, .rp [.i .i64 2, .i .i64 h.it.k, .i .i64 h.it.n, .s h.it.s, .s h.nm, .s h.at_, .i .i64 h.n, .i .i64 h.ax, .i .i64 h.tk, .s h.tn, .sl 11 (l.map exD)]), (5, .d (.b false)), (6, .d (.i .i64 (exOwn h l.length sc)))]) (fun _ => H) (fun _ _ => Nat.le_refl _) (fun _ _ => closed_self H) ?loop ?switch
  case switch =>
    have hc := hasText_A sc h.nm (by omega)
    cases hm : decide (h.nm ∈ sc) with
    | true =>
      rw [hm] at hc
      have hE : exOwn h l.length sc = 0 := by rw [exOwn, if_neg (by omega), if_pos hkind, if_pos (of_decide_eq_true hm)]
      have c21 := hc; have us := hE
      refine W32 ?_ ?_ ?_ ?_ <;> try exact trivial
      all_goals first
        | omega
        | exact ⟨(), [], (List.append_nil H).symm⟩
        | (refine ⟨(), [], trivial, (List.append_nil H).symm, ?_⟩
           simp (dsimp := false) only [go_sem, Nat.reduceAdd, Nat.reduceBEq, Nat.reduceEqDiff, Nat.reduceLT, Nat.reduceLeDiff, Nat.reduceMul, Int.reduceToNat, reduceCtorEq, ↓reduceIte, not_true_eq_false, not_false_eq_true, Bool.true_and, Bool.false_and, Int.reduceEq, Int.reduceLT, Int.reduceLE, Int.reduceNeg, List.map_cons, List.map_nil, hE, itD, itV, strRow, tsV]
           first | done | (simp [hE]; done))
    | false =>
      rw [hm] at hc
      have hE : exOwn h l.length sc = 6 := by rw [exOwn, if_neg (by omega), if_pos hkind, if_neg (of_decide_eq_false hm)]
      have c21 := hc; have us := hE
      refine W32 ?_ ?_ ?_ ?_ <;> try exact trivial
      all_goals first
        | omega
        | exact ⟨(), [], (List.append_nil H).symm⟩
        | (refine ⟨(), [], trivial, (List.append_nil H).symm, ?_⟩
           simp (dsimp := false) only [go_sem, Nat.reduceAdd, Nat.reduceBEq, Nat.reduceEqDiff, Nat.reduceLT, Nat.reduceLeDiff, Nat.reduceMul, Int.reduceToNat, reduceCtorEq, ↓reduceIte, not_true_eq_false, not_false_eq_true, Bool.true_and, Bool.false_and, Int.reduceEq, Int.reduceLT, Int.reduceLE, Int.reduceNeg, List.map_cons, List.map_nil, hE, itD, itV, strRow, tsV]
           first | done | (simp [hE]; done))
  case loop =>
    intro _ _
    generalize hgo : exOwn h l.length sc = ow at hk ⊢
    have hinn : exInner h sc = sc := by rw [exInner, if_neg (by omega)]
    have hle : (exInner h sc).length ≤ sc.length + 2 := exInner_len h sc
    generalize hg : exInner h sc = inn at hk hle hinn
    have us := hinn.symm
    refine W33 ?_
    refine AWp_while0 (fun y : Nat × Int => y.1 ≤ l.length ∧ (if y.2 = 0 then efL (l.drop y.1) (if y.1 = 0 then sc else inn) inn else y.2) = (if ow = 0 then efL l sc inn else ow)) (fun y => [(1, .d (.sl 1 (sc.map strRow))), (2, .rp [.i .i64 2, .i .i64 h.it.k, .i .i64 h.it.n, .s h.it.s, .s h.nm, .s h.at_, .i .i64 h.n, .i .i64 h.ax, .i .i64 h.tk, .s h.tn, .sl 11 (l.map exD)]), (6, .d (.i .i64 y.2)), (7, .d (.sl 1 (inn.map strRow))), (8, .d (.i .i64 y.1))]) (fun y => 2 * (l.length - y.1) + (if y.2 = 0 then 1 else 0)) (0, ow) ⟨Nat.zero_le _, by simp⟩ ?_ ?_
    · simp (dsimp := false) only [go_sem, Nat.reduceAdd, Nat.reduceBEq, Nat.reduceEqDiff, Nat.reduceLT, Nat.reduceLeDiff, Nat.reduceMul, Int.reduceToNat, reduceCtorEq, ↓reduceIte, not_true_eq_false, not_false_eq_true, Bool.true_and, Bool.false_and, Int.reduceEq, Int.reduceLT, Int.reduceLE, Int.reduceNeg, List.map_cons, List.map_nil, ← hinn, strRow]
      first | done | (simp [hinn]; done)
    rintro ⟨i, e⟩ ⟨hi, hv⟩
    simp only at hi hv
    have t2 : ((0 : Int) ≤ (i : Int)) = True := eq_true (by omega)
    by_cases hil : i < l.length
    · have t1 : ((i : Int) < (l.length : Int)) = True := eq_true (by omega)
      by_cases he : e = 0
      · subst he
        obtain ⟨a, ha⟩ : ∃ x, l[i]? = some x := ⟨l[i], List.getElem?_eq_getElem hil⟩
        have hma := List.mem_of_getElem? ha
        rw [if_pos rfl, drop_of_get ha, efL_cons] at hv
        by_cases i0 : i = 0
        · have t3 : ((i : Int) = 0) = True := eq_true (by omega)
          rw [if_pos i0] at hv
          have hc := ih a hma sc (by omega)
          have c21 := hc; have us := an ha (an t1 (an t2 t3))
          refine W34 ?_ ?_ ?_ ?_ <;> try exact trivial
          all_goals first
            | omega
            | (refine ⟨(i + 1, efQ a sc), ⟨by simp only; omega, by simp only; rw [← hv]; by_cases hz : efQ a sc = 0 <;> simp [hz]⟩, by simp only; split <;> omega, ?_⟩
               first | rfl | ((repeat' (refine And.intro ?_ ?_)) <;> first | rfl | omega | (simp; done) | (simp only; omega)))
        · have t3 : ((i : Int) = 0) = False := eq_false (by omega)
          rw [if_neg i0] at hv
          have hc := ih a hma inn (by omega)
          have c21 := hc; have us := an ha (an t1 (an t2 t3))
          refine W34 ?_ ?_ ?_ ?_ <;> try exact trivial
          all_goals first
            | omega
            | (refine ⟨(i + 1, efQ a inn), ⟨by simp only; omega, by simp only; rw [← hv]; by_cases hz : efQ a inn = 0 <;> simp [hz]⟩, by simp only; split <;> omega, ?_⟩
               first | rfl | ((repeat' (refine And.intro ?_ ?_)) <;> first | rfl | omega | (simp; done) | (simp only; omega)))
      · have t3 : (e = 0) = False := eq_false he
        rw [if_neg he] at hv
        have us := an t1 (an t2 t3)
        exact W35
    · have t1 : ((i : Int) < (l.length : Int)) = False := eq_false (by omega)
      have hee : e = (if ow = 0 then efL l sc inn else ow) := by
        rw [List.drop_eq_nil_of_le (by omega), efL_nil] at hv
        by_cases he : e = 0
        · rw [if_pos he] at hv; rw [he]; exact hv
        · rw [if_neg he] at hv; exact hv
      have us := an t1 t2
      exact W36
end Go.Proofs.YtdmkfkjdielmiaaDoor
namespace Go.Proofs.YtdmkfkjdielmiaaDoor
open Go Go.Proofs.YtdmkfkjdielmiaaDoor.Ab
variable [Glo] [U8] [CAr]
set_option maxHeartbeats 4000000
set_option maxRecDepth 20000
open FN61 in
theorem exprFault3_A (h : Xh) (l : List Ex) (hkind : h.k = 3) (ok : XhOk h) (hl : l.length ≤ 1048576) (hcount : coreMany h.k < 0 ∨ coreMany h.k = (l.length : Int)) (sc : List (List UInt8)) (hsc : sc.length + 2 ≤ 50000000)
    (ih : ∀ x, x ∈ l → ∀ (sc' : List (List UInt8)), sc'.length ≤ sc.length + 2 → ∀ (H : Heap) (K : V → Heap → Prop), K (.d (.i .i64 (efQ x sc'))) H → ACalls Tryd.prog 61 [exV x.h x.args, .d (.sl 1 (sc'.map strRow))] H K)
    (H : Heap) (K : V → Heap → Prop) (hk : K (.d (.i .i64 (efQ (.mk h l) sc))) H) : ACalls Tryd.prog 61 [exV h l, .d (.sl 1 (sc.map strRow))] H K := by
  have o1 := ok.it
  have o2 := ok.nm
  have o3 := ok.at_
  have o4 := ok.tn
  have hI := in_A 3 1 11
  have hM := argCount_A 3
  have cm : coreMany 3 = -1 := rfl
  rw [efQ_eq (by omega) hcount] at hk
  rw [hkind, cm] at hcount
  rw [exV_k hkind]
  rw [decide_eq_true (by decide)] at hI
  rw [cm] at hM
  refine We ?_
  repeat' (first | (refine halt_block 0 ?_) | with_reducible (first | refine And.intro ?_ ?_ | intro _ | refine AWp_seq ?_ | refine AWp_block ?_ | (refine hKv _ _ (AWp_nop ?_); clear hKv Kv) | (refine hKA ?_; clear hKA hKB KA KB) | (refine hKB ?_; clear hKA hKB KA KB) | refine AWp_skipN ?_ | refine AWp_exitO (by repeat (first | exact Out.hit | apply Out.thenA | apply Out.out rfl)) ?_) | ((first | with_reducible (first | (refine hKv _ _ ?_; clear hKv Kv) | ((first | refine AWp_regC tmu tks ?_ | refine AWp_draw tnd tmu tks ti_mixed (by kernel_rfl) ?_ | refine AWp_regE tmu tks ?_ | refine AWp_drawE tnd tmu tks ti_mixed (by kernel_rfl) ?_); intro Kv hKv) | refine AWp_retR ?_) | refine hI _ _ ?_ | refine QCall_of (hI _ _ (Two_intro _ _)) ?_ | refine hM _ _ ?_ | refine QCall_of (hM _ _ (Two_intro _ _)) ?_); try simp (dsimp := false) only [go_sem, Nat.reduceAdd, Nat.reduceBEq, Nat.reduceEqDiff, Nat.reduceLT, Nat.reduceLeDiff, Nat.reduceMul, Int.reduceToNat, reduceCtorEq, ↓reduceIte, not_true_eq_false, not_false_eq_true, Bool.true_and, Bool.false_and, Int.reduceEq, Int.reduceLT, Int.reduceLE, Int.reduceNeg, List.map_cons, List.map_nil]) | (refine AWp_condC rfl ?_; intro KA KB hKA hKB; try simp only [onB_true, onB_false, onB_dec, onB_ndec, onB_not, onB_and, onB_or]) | (refine AWp_condA rfl ?_ ?_) | with_reducible (first | refine onB_of ?_ ?_ | rfl) | omega)
  refine AWp_cutG (ι := Unit) (fun _ => True) (fun _ => [(1, .d (.sl 1 (sc.map strRow))), (2, .rp [.i .i64 3, .i .i64 h.it.k, .i .i64 h.it.n, .s h.it.s, .s h.nm, .s h.at_, .i .i64 h.n, .i .i64 h.ax, .i .i64 h.tk, .s h.tn, .sl 11 (l.map exD)]), (5, .d (.b false)), (6, .d (.i .i64 (exOwn h l.length sc)))]) (fun _ => H) (fun _ _ => Nat.le_refl _) (fun _ _ => closed_self H) ?loop ?switch
  case switch =>
    have hE : exOwn h l.length sc = 0 := by rw [exOwn, if_neg (by omega), if_neg (by omega), if_neg (by omega), if_neg (by omega), if_neg (by omega), if_neg (by omega)]
    have us := hE
    refine W32 ?_ ?_ ?_ ?_ <;> try exact trivial
    all_goals first
      | omega
      | exact ⟨(), [], (List.append_nil H).symm⟩
      | (refine ⟨(), [], trivial, (List.append_nil H).symm, ?_⟩
         simp (dsimp := false) only [go_sem, Nat.reduceAdd, Nat.reduceBEq, Nat.reduceEqDiff, Nat.reduceLT, Nat.reduceLeDiff, Nat.reduceMul, Int.reduceToNat, reduceCtorEq, ↓reduceIte, not_true_eq_false, not_false_eq_true, Bool.true_and, Bool.false_and, Int.reduceEq, Int.reduceLT, Int.reduceLE, Int.reduceNeg, List.map_cons, List.map_nil, hE, itD, itV, strRow, tsV]
         first | done | (simp [hE]; done))
  case loop =>
    intro _ _
    generalize hgo : exOwn h l.length sc = ow at hk ⊢
    have hinn : exInner h sc = sc := by rw [exInner, if_neg (by omega)]
    have hle : (exInner h sc).length ≤ sc.length + 2 := exInner_len h sc
    generalize hg : exInner h sc = inn at hk hle hinn
    have us := hinn.symm
    refine W33 ?_
    refine AWp_while0 (fun y : Nat × Int => y.1 ≤ l.length ∧ (if y.2 = 0 then efL (l.drop y.1) (if y.1 = 0 then sc else inn) inn else y.2) = (if ow = 0 then efL l sc inn else ow)) (fun y => [(1, .d (.sl 1 (sc.map strRow))), (2, .rp [.i .i64 3, .i .i64 h.it.k, .i .i64 h.it.n, .s h.it.s, .s h.nm, .s h.at_, .i .i64 h.n, .i .i64 h.ax, .i .i64 h.tk, .s h.tn, .sl 11 (l.map exD)]), (6, .d (.i .i64 y.2)), (7, .d (.sl 1 (inn.map strRow))), (8, .d (.i .i64 y.1))]) (fun y => 2 * (l.length - y.1) + (if y.2 = 0 then 1 else 0)) (0, ow) ⟨Nat.zero_le _, by simp⟩ ?_ ?_
    · simp (dsimp := false) only [go_sem, Nat.reduceAdd, Nat.reduceBEq, Nat.reduceEqDiff, Nat.reduceLT, Nat.reduceLeDiff, Nat.reduceMul, Int.reduceToNat, reduceCtorEq, ↓reduceIte, not_true_eq_false, not_false_eq_true, Bool.true_and, Bool.false_and, Int.reduceEq, Int.reduceLT, Int.reduceLE, Int.reduceNeg, List.map_cons, List.map_nil, ← hinn, strRow]
      first | done | (simp [hinn]; done)
    rintro ⟨i, e⟩ ⟨hi, hv⟩
    simp only at hi hv
    have t2 : ((0 : Int) ≤ (i : Int)) = True := eq_true (by omega)
    by_cases hil : i < l.length
    · have t1 : ((i : Int) < (l.length : Int)) = True := eq_true (by omega)
      by_cases he : e = 0
      · subst he
        obtain ⟨a, ha⟩ : ∃ x, l[i]? = some x := ⟨l[i], List.getElem?_eq_getElem hil⟩
        have hma := List.mem_of_getElem? ha
        rw [if_pos rfl, drop_of_get ha, efL_cons] at hv
        by_cases i0 : i = 0
        · have t3 : ((i : Int) = 0) = True := eq_true (by omega)
          rw [if_pos i0] at hv
          have hc := ih a hma sc (by omega)
          have c21 := hc; have us := an ha (an t1 (an t2 t3))
          refine W34 ?_ ?_ ?_ ?_ <;> try exact trivial
          all_goals first
            | omega
            | (refine ⟨(i + 1, efQ a sc), ⟨by simp only; omega, by simp only; rw [← hv]; by_cases hz : efQ a sc = 0 <;> simp [hz]⟩, by simp only; split <;> omega, ?_⟩
               first | rfl | ((repeat' (refine And.intro ?_ ?_)) <;> first | rfl | omega | (simp; done) | (simp only; omega)))
        · have t3 : ((i : Int) = 0) = False := eq_false (by omega)
          rw [if_neg i0] at hv
          have hc := ih a hma inn (by omega)
          have c21 := hc; have us := an ha (an t1 (an t2 t3))
          refine W34 ?_ ?_ ?_ ?_ <;> try exact trivial
          all_goals first
            | omega
            | (refine ⟨(i + 1, efQ a inn), ⟨by simp only; omega, by simp only; rw [← hv]; by_cases hz : efQ a inn = 0 <;> simp [hz]⟩, by simp only; split <;> omega, ?_⟩
               first | rfl | ((repeat' (refine And.intro ?_ ?_)) <;> first | rfl | omega | (simp; done) | (simp only; omega)))
      · have t3 : (e = 0) = False := eq_false he
        rw [if_neg he] at hv
        have us := an t1 (an t2 t3)
        exact W35
    · have t1 : ((i : Int) < (l.length : Int)) = False := eq_false (by omega)
      have hee : e = (if ow = 0 then efL l sc inn else ow) := by
        rw [List.drop_eq_nil_of_le (by omega), efL_nil] at hv
        by_cases he : e = 0
        · rw [if_pos he] at hv; rw [he]; exact hv
        · rw [if_neg he] at hv; exact hv
      have us := an t1 t2
      exact W36
end Go.Proofs.YtdmkfkjdielmiaaDoor
