/- What is made of a part's items: what the program and the reference make. No condition. -/
import Derived.Test.YtafbojmnmadlpaaDoorGp0
import Derived.Test.YtafbojmnmadlpaaDoorIn
set_option linter.all false
set_option linter.unusedSimpArgs false
set_option linter.unusedVariables false
namespace Go.Proofs.YtafbojmnmadlpaaDoor
open Go Go.Proofs.YtafbojmnmadlpaaDoor.Ab
variable [Glo] [U8]
set_option maxHeartbeats 4000000
set_option maxRecDepth 20000
theorem aggGo_step {w : List UInt8} {l : List It} {i : Nat} {x : It} {n : Int} (h : l[i]? = some x) : aggGo w (l.drop i) (decide (i = 0)) n = match aggStep w x (decide (i = 0)) n with | some m => aggGo w (l.drop (i + 1)) (decide (i + 1 = 0)) m | none => none := by
  rw [aggGo_next h]
  rfl
theorem whichB_or {w : List UInt8} (h : whichB w = true) : w = cntT ∨ w = sumT ∨ w = minT ∨ w = maxT := by simpa [whichB] using h
theorem it_bd {x : It} (h : itemB x = true) (h2 : x.k = 2) : -1099511627776 ≤ x.n ∧ x.n ≤ 1099511627776 := by
  rw [itemB, if_neg (by omega), if_pos h2] at h
  simp at h
  omega
def aggR (w : List UInt8) (l : List It) : V := match aggOf w l with | some n => .tu [itV ⟨2, n, []⟩, .d (.b true)] | none => .tu [itV ⟨0, 0, []⟩, .d (.b false)]
def aggR2 (w : List UInt8) (l : List It) : V := match aggOf w l with | some n => .tu [.d (.i .i64 n), .d (.b true)] | none => .tu [.d (.i .i64 0), .d (.b false)]
def AI (w : List UInt8) (l : List It) (i : Nat) (n : Int) : Prop := aggGo w (l.drop i) (decide (i = 0)) n = aggOf w l
/-- One more item. -/
theorem AI_next {w : List UInt8} {l : List It} {i : Nat} {x : It} {n : Int} (hx : l[i]? = some x) (h : AI w l i n) {m : Int} (hm : aggStep w x (decide (i = 0)) n = some m) : AI w l (i + 1) m := by
  unfold AI at h ⊢
  rw [aggGo_step hx, hm] at h
  exact h
theorem AI_none {w : List UInt8} {l : List It} {i : Nat} {x : It} {n : Int} (hx : l[i]? = some x) (h : AI w l i n) (hm : aggStep w x (decide (i = 0)) n = none) : aggOf w l = none := by
  unfold AI at h
  rw [aggGo_step hx, hm] at h
  exact h.symm
theorem AI_end {w : List UInt8} {l : List It} {n : Int} (h : AI w l l.length n) : aggOf w l = some n := by
  unfold AI at h
  rw [List.drop_length, aggGo] at h
  exact h.symm
theorem step_cnt (x : It) (f : Bool) (n : Int) : aggStep cntT x f n = some (n + 1) := by rw [aggStep, if_pos rfl]
theorem step_bad {w : List UInt8} {x : It} (hw : w ≠ cntT) (hk : ¬ x.k = 2) (f : Bool) (n : Int) : aggStep w x f n = none := by rw [aggStep, if_neg hw, if_neg hk]
theorem step_sum {x : It} (hk : x.k = 2) (f : Bool) (n : Int) : aggStep sumT x f n = if n + x.n ≤ 1099511627776 ∧ -1099511627776 ≤ n + x.n then some (n + x.n) else none := by rw [aggStep, if_neg (by decide), if_pos hk, if_pos rfl]
theorem step_min {x : It} (hk : x.k = 2) (f : Bool) (n : Int) : aggStep minT x f n = if f = true ∨ x.n < n then some x.n else some n := by
  rw [aggStep, if_neg (by decide), if_pos hk, if_neg (by decide)]
  have h1 : (minT = minT) = True := eq_true rfl
  have h2 : (minT = maxT) = False := eq_false (by decide)
  simp only [h1, h2, true_and, false_and, or_false]
theorem step_max {x : It} (hk : x.k = 2) (f : Bool) (n : Int) : aggStep maxT x f n = if f = true ∨ n < x.n then some x.n else some n := by
  rw [aggStep, if_neg (by decide), if_pos hk, if_neg (by decide)]
  have h1 : (maxT = maxT) = True := eq_true rfl
  have h2 : (maxT = minT) = False := eq_false (by decide)
  simp only [h1, h2, true_and, false_and, false_or]
theorem tok_it0 {m : Nat} : ObBel m (.row 0 35 3 [[.d (.i .i64 0), .d (.i .i64 0), .d (.s [])]]) := obBel_data m 0 _ 3 [[.i .i64 0, .i .i64 0, .s []]]

/- the live slots of pleacher/rel.aggregate -/
def ks_45 : Nat → List Nat
  | 0 => [0, 1, 4]
  | 1 => [0, 1, 4, 6]
  | 2 => [0, 4, 6, 9, 10, 11]
  | 3 => [0, 4, 6, 9, 10, 11, 12]
  | 4 => [0, 4, 6, 7, 8, 9, 10, 11]
  | 5 => [0, 4, 6, 7, 8, 9, 10, 11, 17]
  | 6 => [0, 4, 6, 9, 10, 11]
  | 7 => [0, 4, 6, 7, 8, 9, 10, 11, 22]
  | 8 => [4, 5]
  | 9 => [0, 4, 6, 7, 8, 9, 10, 11, 24]
  | 10 => [0, 4, 6, 9, 10, 11]
  | 11 => [0, 4, 6, 9, 10, 11, 36]
  | 12 => [4, 5]
  | 13 => [0, 4, 6, 8, 9, 10, 11, 38]
  | 14 => [0, 4, 6, 8, 9, 10, 11, 38]
  | 15 => [0, 4, 6, 8, 9, 10, 11, 38]
  | 16 => [0, 4, 6, 9, 10, 11]
  | 17 => [0, 4, 6, 9, 10, 11]
  | 18 => [4, 5]
  | _ => []
def mu_45 : List Nat := []
def in_45 : List Nat := [0, 1]
def ro_45 : Nat → List Nat
  | 4 => [8]
  | _ => []
theorem aggregate_A (w : List UInt8) (l : List It) (id ver e : Nat) (hw : whichB w = true) (hlen : l.length ≤ 1000000) (hb : ∀ x, x ∈ l → itemB x = true) (H : Heap) (K : V → Heap → Prop) (hr : H[id]? = some (.row ver e 3 (l.map itC)))
    (hk : K (aggR w l) H) : ACalls Tryd.prog 45 [.d (.s w), .os id ver] H K := by
  have hid := (List.getElem?_eq_some_iff.1 hr).1
  have hr1 : ∀ x, (H ++ x)[id]? = some (.row ver e 3 (l.map itC)) := fun x => by rw [List.getElem?_append_left hid]; exact hr
  unfold aggR at hk
  
  refine ACalls_of Tryd.func45 rfl in_45 (Nat.le_of_ble_eq_true rfl) ?_
  intro F hF
  simp (dsimp := false) only [go_sem, Nat.reduceAdd, Nat.reduceBEq, Nat.reduceEqDiff, Nat.reduceLT, Nat.reduceLeDiff, Nat.reduceMul, Int.reduceToNat, reduceCtorEq, ↓reduceIte, Tryd.ntmps45, Tryd.results45, ks_45, mu_45, ro_45, ti_ag3, ti_ag35, ti_fl35_0, ti_fl35_1, ti_pl35, ti_sb68, ti_sl68, ti_sz35, ti_zr35, itD, itV, itC, hr, hr1, hid, List.length_map, in_45] at hF
  subst hF
  repeat' (first
    | with_reducible refine And.intro ?_ ?_
    | with_reducible intro _
    | with_reducible refine AWp_seq ?_
    | with_reducible refine AWp_block ?_
    | (with_reducible refine hKv _ _ (AWp_nop ?_); clear hKv Kv)
    | (with_reducible refine hKv _ _ ?_; clear hKv Kv; simp (dsimp := false) only [go_sem, Nat.reduceAdd, Nat.reduceBEq, Nat.reduceEqDiff, Nat.reduceLT, Nat.reduceLeDiff, Nat.reduceMul, Int.reduceToNat, reduceCtorEq, ↓reduceIte, Tryd.ntmps45, Tryd.results45, ks_45, mu_45, ro_45, ti_ag3, ti_ag35, ti_fl35_0, ti_fl35_1, ti_pl35, ti_sb68, ti_sl68, ti_sz35, ti_zr35, itD, itV, itC, hr, hr1, hid, List.length_map])
    | (with_reducible refine hKA ?_; clear hKA hKB KA KB)
    | (with_reducible refine hKB ?_; clear hKA hKB KA KB)
    | ((first | with_reducible refine AWp_regro mu_45 ks_45 ro_45 ?_ | with_reducible refine AWp_regC mu_45 ks_45 ?_); intro Kv hKv; simp (dsimp := false) only [go_sem, Nat.reduceAdd, Nat.reduceBEq, Nat.reduceEqDiff, Nat.reduceLT, Nat.reduceLeDiff, Nat.reduceMul, Int.reduceToNat, reduceCtorEq, ↓reduceIte, Tryd.ntmps45, Tryd.results45, ks_45, mu_45, ro_45, ti_ag3, ti_ag35, ti_fl35_0, ti_fl35_1, ti_pl35, ti_sb68, ti_sl68, ti_sz35, ti_zr35, itD, itV, itC, hr, hr1, hid, List.length_map])
    | with_reducible refine AWp_skipN ?_
    | with_reducible refine AWp_exitO (by repeat (first | with_reducible exact Out.hit | with_reducible apply Out.thenA | with_reducible apply Out.out rfl)) ?_
    | (with_reducible refine AWp_retR ?_; simp (dsimp := false) only [go_sem, Nat.reduceAdd, Nat.reduceBEq, Nat.reduceEqDiff, Nat.reduceLT, Nat.reduceLeDiff, Nat.reduceMul, Int.reduceToNat, reduceCtorEq, ↓reduceIte, Tryd.ntmps45, Tryd.results45, ks_45, mu_45, ro_45, ti_ag3, ti_ag35, ti_fl35_0, ti_fl35_1, ti_pl35, ti_sb68, ti_sl68, ti_sz35, ti_zr35, itD, itV, itC, hr, hr1, hid, List.length_map])
    | (with_reducible refine AWp_regE mu_45 ks_45 ?_; intro Kv hKv; simp (dsimp := false) only [go_sem, Nat.reduceAdd, Nat.reduceBEq, Nat.reduceEqDiff, Nat.reduceLT, Nat.reduceLeDiff, Nat.reduceMul, Int.reduceToNat, reduceCtorEq, ↓reduceIte, Tryd.ntmps45, Tryd.results45, ks_45, mu_45, ro_45, ti_ag3, ti_ag35, ti_fl35_0, ti_fl35_1, ti_pl35, ti_sb68, ti_sl68, ti_sz35, ti_zr35, itD, itV, itC, hr, hr1, hid, List.length_map])
    | (refine AWp_condC rfl ?_; intro KA KB hKA hKB; try simp only [onB_true, onB_false, onB_dec, onB_ndec, onB_not, onB_and, onB_or])
    | (refine AWp_condA rfl ?_ ?_)
    | with_reducible refine onB_of ?_ ?_
    | with_reducible rfl
    | omega)
  refine AWp_whileH (fun y : Nat × Int => y.1 ≤ l.length ∧ -1099511627776 ≤ y.2 ∧ y.2 ≤ 1099511627776 ∧ (w = cntT → y.2 = y.1) ∧ AI w l y.1 y.2)
    (fun y => [(0, .d (.s w)), (4, .pt H.length 0 0 0), (6, .d (.i .i64 y.2)), (9, .os id ver), (10, .d (.i .i64 l.length)), (11, .d (.i .i64 y.1))]) (fun _ => [.row 0 35 3 [[.d (.i .i64 0), .d (.i .i64 0), .d (.s [])]]]) (fun y => l.length - y.1) (0, 0)
    ⟨Nat.zero_le _, by show (-1099511627776 : Int) ≤ 0; decide, by show (0 : Int) ≤ 1099511627776; decide, fun _ => rfl, rfl⟩ rfl ?_ ?_ ?_
  · simp (dsimp := false) only [go_sem, Nat.reduceAdd, Nat.reduceBEq, Nat.reduceEqDiff, Nat.reduceLT, Nat.reduceLeDiff, Nat.reduceMul, Int.reduceToNat, reduceCtorEq, ↓reduceIte, Tryd.ntmps45, Tryd.results45, ks_45, mu_45, ro_45, ti_ag3, ti_ag35, ti_fl35_0, ti_fl35_1, ti_pl35, ti_sb68, ti_sl68, ti_sz35, ti_zr35, itD, itV, itC, hr, hr1, hid, List.length_map]
    first | done | omega | (simp; omega)
  · intro _ _ ob hob
    rw [List.mem_singleton] at hob
    subst hob
    exact tok_it0
  rintro ⟨i, n⟩ ⟨i1, i2, i3, i4, i5⟩
  simp only [] at i1 i2 i3 i4 i5 ⊢
  have nxt : ∀ (m : Int), AI w l (i + 1) m → i + 1 ≤ l.length → -1099511627776 ≤ m → m ≤ 1099511627776 → (w = cntT → m = (i : Int) + 1) → ∃ i' : Nat × Int, (i'.1 ≤ l.length ∧ -1099511627776 ≤ i'.2 ∧ i'.2 ≤ 1099511627776 ∧ (w = cntT → i'.2 = i'.1) ∧ AI w l i'.1 i'.2) ∧ l.length - i'.1 < l.length - i ∧ (i + 1, m) = i' := fun m h1 h2 h3 h4 h5 => ⟨(i + 1, m), ⟨h2, h3, h4, fun h => by rw [h5 h]; rfl, h1⟩, by show l.length - (i + 1) < l.length - i; omega, rfl⟩
  by_cases hi : i < l.length
  · obtain ⟨x, hx⟩ : ∃ x, l[i]? = some x := ⟨l[i], List.getElem?_eq_getElem hi⟩
    have hbx := hb x (List.mem_of_getElem? hx)
    by_cases hc : w = cntT
    · have c1 : (w = [99, 111, 117, 110, 116]) = True := eq_true hc
      obtain ⟨i', g1, g2, rfl⟩ := nxt (n + 1) (AI_next hx i5 (by rw [hc]; exact step_cnt _ _ _)) (by omega) (by omega) (by have := i4 hc; omega) (fun h => by rw [i4 h])
      
      repeat' (first
        | with_reducible refine And.intro ?_ ?_
        | with_reducible intro _
        | with_reducible refine AWp_seq ?_
        | with_reducible refine AWp_block ?_
        | (with_reducible refine hKv _ _ (AWp_nop ?_); clear hKv Kv)
        | (with_reducible refine hKv _ _ ?_; clear hKv Kv; simp (dsimp := false) only [go_sem, Nat.reduceAdd, Nat.reduceBEq, Nat.reduceEqDiff, Nat.reduceLT, Nat.reduceLeDiff, Nat.reduceMul, Int.reduceToNat, reduceCtorEq, ↓reduceIte, Tryd.ntmps45, Tryd.results45, ks_45, mu_45, ro_45, ti_ag3, ti_ag35, ti_fl35_0, ti_fl35_1, ti_pl35, ti_sb68, ti_sl68, ti_sz35, ti_zr35, itD, itV, itC, hr, hr1, hid, List.length_map, hx, c1])
        | (with_reducible refine hKA ?_; clear hKA hKB KA KB)
        | (with_reducible refine hKB ?_; clear hKA hKB KA KB)
        | ((first | with_reducible refine AWp_regro mu_45 ks_45 ro_45 ?_ | with_reducible refine AWp_regC mu_45 ks_45 ?_); intro Kv hKv; simp (dsimp := false) only [go_sem, Nat.reduceAdd, Nat.reduceBEq, Nat.reduceEqDiff, Nat.reduceLT, Nat.reduceLeDiff, Nat.reduceMul, Int.reduceToNat, reduceCtorEq, ↓reduceIte, Tryd.ntmps45, Tryd.results45, ks_45, mu_45, ro_45, ti_ag3, ti_ag35, ti_fl35_0, ti_fl35_1, ti_pl35, ti_sb68, ti_sl68, ti_sz35, ti_zr35, itD, itV, itC, hr, hr1, hid, List.length_map, hx, c1])
        | with_reducible refine AWp_skipN ?_
        | with_reducible refine AWp_exitO (by repeat (first | with_reducible exact Out.hit | with_reducible apply Out.thenA | with_reducible apply Out.out rfl)) ?_
        | (with_reducible refine AWp_retR ?_; simp (dsimp := false) only [go_sem, Nat.reduceAdd, Nat.reduceBEq, Nat.reduceEqDiff, Nat.reduceLT, Nat.reduceLeDiff, Nat.reduceMul, Int.reduceToNat, reduceCtorEq, ↓reduceIte, Tryd.ntmps45, Tryd.results45, ks_45, mu_45, ro_45, ti_ag3, ti_ag35, ti_fl35_0, ti_fl35_1, ti_pl35, ti_sb68, ti_sl68, ti_sz35, ti_zr35, itD, itV, itC, hr, hr1, hid, List.length_map, hx, c1])
        | (with_reducible refine AWp_regE mu_45 ks_45 ?_; intro Kv hKv; simp (dsimp := false) only [go_sem, Nat.reduceAdd, Nat.reduceBEq, Nat.reduceEqDiff, Nat.reduceLT, Nat.reduceLeDiff, Nat.reduceMul, Int.reduceToNat, reduceCtorEq, ↓reduceIte, Tryd.ntmps45, Tryd.results45, ks_45, mu_45, ro_45, ti_ag3, ti_ag35, ti_fl35_0, ti_fl35_1, ti_pl35, ti_sb68, ti_sl68, ti_sz35, ti_zr35, itD, itV, itC, hr, hr1, hid, List.length_map, hx, c1])
        | (refine AWp_condC rfl ?_; intro KA KB hKA hKB; try simp only [onB_true, onB_false, onB_dec, onB_ndec, onB_not, onB_and, onB_or])
        | (refine AWp_condA rfl ?_ ?_)
        | with_reducible refine onB_of ?_ ?_
        | with_reducible rfl
        | omega)
      all_goals first
        | omega
        | (refine closed_app fun ob hob => ?_
           rw [List.mem_singleton] at hob
           subst hob
           exact tok_it0)
        | exact ⟨_, g1, g2, by (repeat' (refine And.intro ?_ ?_)) <;> first | rfl | omega | (simp; done) | (simp (dsimp := false) only [go_sem, Nat.reduceAdd, Nat.reduceBEq, Nat.reduceEqDiff, Nat.reduceLT, Nat.reduceLeDiff, Nat.reduceMul, Int.reduceToNat, reduceCtorEq, ↓reduceIte, Tryd.ntmps45, Tryd.results45, ks_45, mu_45, ro_45, ti_ag3, ti_ag35, ti_fl35_0, ti_fl35_1, ti_pl35, ti_sb68, ti_sl68, ti_sz35, ti_zr35, itD, itV, itC, hr, hr1, hid, List.length_map, hx, c1]; done) | (simp (dsimp := false) only [go_sem, Nat.reduceAdd, Nat.reduceBEq, Nat.reduceEqDiff, Nat.reduceLT, Nat.reduceLeDiff, Nat.reduceMul, Int.reduceToNat, reduceCtorEq, ↓reduceIte, Tryd.ntmps45, Tryd.results45, ks_45, mu_45, ro_45, ti_ag3, ti_ag35, ti_fl35_0, ti_fl35_1, ti_pl35, ti_sb68, ti_sl68, ti_sz35, ti_zr35, itD, itV, itC, hr, hr1, hid, List.length_map, hx, c1]; omega)⟩
    · have c1 : (w = [99, 111, 117, 110, 116]) = False := eq_false hc
      have hcn : ∀ m : Int, w = cntT → m = (i : Int) + 1 := fun m h => absurd h hc
      by_cases hk2 : x.k = 2
      · obtain ⟨b1, b2⟩ := it_bd hbx hk2
        rcases whichB_or hw with h | h | h | h
        · exact absurd h hc
        · have c2 : (w = [115, 117, 109]) = True := eq_true h
          have hst := step_sum hk2 (decide (i = 0)) n
          rw [← h] at hst
          
          repeat' (first
            | with_reducible refine And.intro ?_ ?_
            | with_reducible intro _
            | with_reducible refine AWp_seq ?_
            | with_reducible refine AWp_block ?_
            | (with_reducible refine hKv _ _ (AWp_nop ?_); clear hKv Kv)
            | (with_reducible refine hKv _ _ ?_; clear hKv Kv; simp (dsimp := false) only [go_sem, Nat.reduceAdd, Nat.reduceBEq, Nat.reduceEqDiff, Nat.reduceLT, Nat.reduceLeDiff, Nat.reduceMul, Int.reduceToNat, reduceCtorEq, ↓reduceIte, Tryd.ntmps45, Tryd.results45, ks_45, mu_45, ro_45, ti_ag3, ti_ag35, ti_fl35_0, ti_fl35_1, ti_pl35, ti_sb68, ti_sl68, ti_sz35, ti_zr35, itD, itV, itC, hr, hr1, hid, List.length_map, hx, c1, c2, eq_true hk2])
            | (with_reducible refine hKA ?_; clear hKA hKB KA KB)
            | (with_reducible refine hKB ?_; clear hKA hKB KA KB)
            | ((first | with_reducible refine AWp_regro mu_45 ks_45 ro_45 ?_ | with_reducible refine AWp_regC mu_45 ks_45 ?_); intro Kv hKv; simp (dsimp := false) only [go_sem, Nat.reduceAdd, Nat.reduceBEq, Nat.reduceEqDiff, Nat.reduceLT, Nat.reduceLeDiff, Nat.reduceMul, Int.reduceToNat, reduceCtorEq, ↓reduceIte, Tryd.ntmps45, Tryd.results45, ks_45, mu_45, ro_45, ti_ag3, ti_ag35, ti_fl35_0, ti_fl35_1, ti_pl35, ti_sb68, ti_sl68, ti_sz35, ti_zr35, itD, itV, itC, hr, hr1, hid, List.length_map, hx, c1, c2, eq_true hk2])
            | with_reducible refine AWp_skipN ?_
            | with_reducible refine AWp_exitO (by repeat (first | with_reducible exact Out.hit | with_reducible apply Out.thenA | with_reducible apply Out.out rfl)) ?_
            | (with_reducible refine AWp_retR ?_; simp (dsimp := false) only [go_sem, Nat.reduceAdd, Nat.reduceBEq, Nat.reduceEqDiff, Nat.reduceLT, Nat.reduceLeDiff, Nat.reduceMul, Int.reduceToNat, reduceCtorEq, ↓reduceIte, Tryd.ntmps45, Tryd.results45, ks_45, mu_45, ro_45, ti_ag3, ti_ag35, ti_fl35_0, ti_fl35_1, ti_pl35, ti_sb68, ti_sl68, ti_sz35, ti_zr35, itD, itV, itC, hr, hr1, hid, List.length_map, hx, c1, c2, eq_true hk2])
            | (with_reducible refine AWp_regE mu_45 ks_45 ?_; intro Kv hKv; simp (dsimp := false) only [go_sem, Nat.reduceAdd, Nat.reduceBEq, Nat.reduceEqDiff, Nat.reduceLT, Nat.reduceLeDiff, Nat.reduceMul, Int.reduceToNat, reduceCtorEq, ↓reduceIte, Tryd.ntmps45, Tryd.results45, ks_45, mu_45, ro_45, ti_ag3, ti_ag35, ti_fl35_0, ti_fl35_1, ti_pl35, ti_sb68, ti_sl68, ti_sz35, ti_zr35, itD, itV, itC, hr, hr1, hid, List.length_map, hx, c1, c2, eq_true hk2])
            | (refine AWp_condC rfl ?_; intro KA KB hKA hKB; try simp only [onB_true, onB_false, onB_dec, onB_ndec, onB_not, onB_and, onB_or])
            | (refine AWp_condA rfl ?_ ?_)
            | with_reducible refine onB_of ?_ ?_
            | with_reducible rfl
            | omega)
          all_goals first
            | omega
            | (refine closed_app fun ob hob => ?_
               rw [List.mem_singleton] at hob
               subst hob
               exact tok_it0)
            | (rw [if_neg (by omega)] at hst
               rw [AI_none hx i5 hst] at hk
               exact dropK hk (by simp [itV, Bel_tu, Bel_ag, Bel_d]) rfl)
            | (rw [if_pos (by omega)] at hst
               obtain ⟨i', g1, g2, rfl⟩ := nxt _ (AI_next hx i5 hst) (by omega) (by omega) (by omega) (hcn _)
               exact ⟨_, g1, g2, by (repeat' (refine And.intro ?_ ?_)) <;> first | rfl | omega | (simp; done) | (simp (dsimp := false) only [go_sem, Nat.reduceAdd, Nat.reduceBEq, Nat.reduceEqDiff, Nat.reduceLT, Nat.reduceLeDiff, Nat.reduceMul, Int.reduceToNat, reduceCtorEq, ↓reduceIte, Tryd.ntmps45, Tryd.results45, ks_45, mu_45, ro_45, ti_ag3, ti_ag35, ti_fl35_0, ti_fl35_1, ti_pl35, ti_sb68, ti_sl68, ti_sz35, ti_zr35, itD, itV, itC, hr, hr1, hid, List.length_map, hx, c1, c2, eq_true hk2]; done) | (simp (dsimp := false) only [go_sem, Nat.reduceAdd, Nat.reduceBEq, Nat.reduceEqDiff, Nat.reduceLT, Nat.reduceLeDiff, Nat.reduceMul, Int.reduceToNat, reduceCtorEq, ↓reduceIte, Tryd.ntmps45, Tryd.results45, ks_45, mu_45, ro_45, ti_ag3, ti_ag35, ti_fl35_0, ti_fl35_1, ti_pl35, ti_sb68, ti_sl68, ti_sz35, ti_zr35, itD, itV, itC, hr, hr1, hid, List.length_map, hx, c1, c2, eq_true hk2]; omega)⟩)
        · have c2 : (w = [115, 117, 109]) = False := eq_false (by rw [h]; decide)
          have c3 : (w = [109, 105, 110]) = True := eq_true h
          have c4 : (w = [109, 97, 120]) = False := eq_false (by rw [h]; decide)
          have hst := step_min hk2 (decide (i = 0)) n
          rw [← h] at hst
          
          repeat' (first
            | with_reducible refine And.intro ?_ ?_
            | with_reducible intro _
            | with_reducible refine AWp_seq ?_
            | with_reducible refine AWp_block ?_
            | (with_reducible refine hKv _ _ (AWp_nop ?_); clear hKv Kv)
            | (with_reducible refine hKv _ _ ?_; clear hKv Kv; simp (dsimp := false) only [go_sem, Nat.reduceAdd, Nat.reduceBEq, Nat.reduceEqDiff, Nat.reduceLT, Nat.reduceLeDiff, Nat.reduceMul, Int.reduceToNat, reduceCtorEq, ↓reduceIte, Tryd.ntmps45, Tryd.results45, ks_45, mu_45, ro_45, ti_ag3, ti_ag35, ti_fl35_0, ti_fl35_1, ti_pl35, ti_sb68, ti_sl68, ti_sz35, ti_zr35, itD, itV, itC, hr, hr1, hid, List.length_map, hx, c1, c2, c3, c4, eq_true hk2])
            | (with_reducible refine hKA ?_; clear hKA hKB KA KB)
            | (with_reducible refine hKB ?_; clear hKA hKB KA KB)
            | ((first | with_reducible refine AWp_regro mu_45 ks_45 ro_45 ?_ | with_reducible refine AWp_regC mu_45 ks_45 ?_); intro Kv hKv; simp (dsimp := false) only [go_sem, Nat.reduceAdd, Nat.reduceBEq, Nat.reduceEqDiff, Nat.reduceLT, Nat.reduceLeDiff, Nat.reduceMul, Int.reduceToNat, reduceCtorEq, ↓reduceIte, Tryd.ntmps45, Tryd.results45, ks_45, mu_45, ro_45, ti_ag3, ti_ag35, ti_fl35_0, ti_fl35_1, ti_pl35, ti_sb68, ti_sl68, ti_sz35, ti_zr35, itD, itV, itC, hr, hr1, hid, List.length_map, hx, c1, c2, c3, c4, eq_true hk2])
            | with_reducible refine AWp_skipN ?_
            | with_reducible refine AWp_exitO (by repeat (first | with_reducible exact Out.hit | with_reducible apply Out.thenA | with_reducible apply Out.out rfl)) ?_
            | (with_reducible refine AWp_retR ?_; simp (dsimp := false) only [go_sem, Nat.reduceAdd, Nat.reduceBEq, Nat.reduceEqDiff, Nat.reduceLT, Nat.reduceLeDiff, Nat.reduceMul, Int.reduceToNat, reduceCtorEq, ↓reduceIte, Tryd.ntmps45, Tryd.results45, ks_45, mu_45, ro_45, ti_ag3, ti_ag35, ti_fl35_0, ti_fl35_1, ti_pl35, ti_sb68, ti_sl68, ti_sz35, ti_zr35, itD, itV, itC, hr, hr1, hid, List.length_map, hx, c1, c2, c3, c4, eq_true hk2])
            | (with_reducible refine AWp_regE mu_45 ks_45 ?_; intro Kv hKv; simp (dsimp := false) only [go_sem, Nat.reduceAdd, Nat.reduceBEq, Nat.reduceEqDiff, Nat.reduceLT, Nat.reduceLeDiff, Nat.reduceMul, Int.reduceToNat, reduceCtorEq, ↓reduceIte, Tryd.ntmps45, Tryd.results45, ks_45, mu_45, ro_45, ti_ag3, ti_ag35, ti_fl35_0, ti_fl35_1, ti_pl35, ti_sb68, ti_sl68, ti_sz35, ti_zr35, itD, itV, itC, hr, hr1, hid, List.length_map, hx, c1, c2, c3, c4, eq_true hk2])
            | (refine AWp_condC rfl ?_; intro KA KB hKA hKB; try simp only [onB_true, onB_false, onB_dec, onB_ndec, onB_not, onB_and, onB_or])
            | (refine AWp_condA rfl ?_ ?_)
            | with_reducible refine onB_of ?_ ?_
            | with_reducible rfl
            | omega)
          all_goals first
            | omega
            | (refine closed_app fun ob hob => ?_
               rw [List.mem_singleton] at hob
               subst hob
               exact tok_it0)
            | (rw [if_pos (by simp; omega)] at hst
               obtain ⟨i', g1, g2, rfl⟩ := nxt _ (AI_next hx i5 hst) (by omega) (by omega) (by omega) (hcn _)
               exact ⟨_, g1, g2, by (repeat' (refine And.intro ?_ ?_)) <;> first | rfl | omega | (simp; done) | (simp (dsimp := false) only [go_sem, Nat.reduceAdd, Nat.reduceBEq, Nat.reduceEqDiff, Nat.reduceLT, Nat.reduceLeDiff, Nat.reduceMul, Int.reduceToNat, reduceCtorEq, ↓reduceIte, Tryd.ntmps45, Tryd.results45, ks_45, mu_45, ro_45, ti_ag3, ti_ag35, ti_fl35_0, ti_fl35_1, ti_pl35, ti_sb68, ti_sl68, ti_sz35, ti_zr35, itD, itV, itC, hr, hr1, hid, List.length_map, hx, c1, c2, c3, c4, eq_true hk2]; done) | (simp (dsimp := false) only [go_sem, Nat.reduceAdd, Nat.reduceBEq, Nat.reduceEqDiff, Nat.reduceLT, Nat.reduceLeDiff, Nat.reduceMul, Int.reduceToNat, reduceCtorEq, ↓reduceIte, Tryd.ntmps45, Tryd.results45, ks_45, mu_45, ro_45, ti_ag3, ti_ag35, ti_fl35_0, ti_fl35_1, ti_pl35, ti_sb68, ti_sl68, ti_sz35, ti_zr35, itD, itV, itC, hr, hr1, hid, List.length_map, hx, c1, c2, c3, c4, eq_true hk2]; omega)⟩)
            | (rw [if_neg (by simp; omega)] at hst
               obtain ⟨i', g1, g2, rfl⟩ := nxt _ (AI_next hx i5 hst) (by omega) (by omega) (by omega) (hcn _)
               exact ⟨_, g1, g2, by (repeat' (refine And.intro ?_ ?_)) <;> first | rfl | omega | (simp; done) | (simp (dsimp := false) only [go_sem, Nat.reduceAdd, Nat.reduceBEq, Nat.reduceEqDiff, Nat.reduceLT, Nat.reduceLeDiff, Nat.reduceMul, Int.reduceToNat, reduceCtorEq, ↓reduceIte, Tryd.ntmps45, Tryd.results45, ks_45, mu_45, ro_45, ti_ag3, ti_ag35, ti_fl35_0, ti_fl35_1, ti_pl35, ti_sb68, ti_sl68, ti_sz35, ti_zr35, itD, itV, itC, hr, hr1, hid, List.length_map, hx, c1, c2, c3, c4, eq_true hk2]; done) | (simp (dsimp := false) only [go_sem, Nat.reduceAdd, Nat.reduceBEq, Nat.reduceEqDiff, Nat.reduceLT, Nat.reduceLeDiff, Nat.reduceMul, Int.reduceToNat, reduceCtorEq, ↓reduceIte, Tryd.ntmps45, Tryd.results45, ks_45, mu_45, ro_45, ti_ag3, ti_ag35, ti_fl35_0, ti_fl35_1, ti_pl35, ti_sb68, ti_sl68, ti_sz35, ti_zr35, itD, itV, itC, hr, hr1, hid, List.length_map, hx, c1, c2, c3, c4, eq_true hk2]; omega)⟩)
        · have c2 : (w = [115, 117, 109]) = False := eq_false (by rw [h]; decide)
          have c3 : (w = [109, 105, 110]) = False := eq_false (by rw [h]; decide)
          have c4 : (w = [109, 97, 120]) = True := eq_true h
          have hst := step_max hk2 (decide (i = 0)) n
          rw [← h] at hst
          
          repeat' (first
            | with_reducible refine And.intro ?_ ?_
            | with_reducible intro _
            | with_reducible refine AWp_seq ?_
            | with_reducible refine AWp_block ?_
            | (with_reducible refine hKv _ _ (AWp_nop ?_); clear hKv Kv)
            | (with_reducible refine hKv _ _ ?_; clear hKv Kv; simp (dsimp := false) only [go_sem, Nat.reduceAdd, Nat.reduceBEq, Nat.reduceEqDiff, Nat.reduceLT, Nat.reduceLeDiff, Nat.reduceMul, Int.reduceToNat, reduceCtorEq, ↓reduceIte, Tryd.ntmps45, Tryd.results45, ks_45, mu_45, ro_45, ti_ag3, ti_ag35, ti_fl35_0, ti_fl35_1, ti_pl35, ti_sb68, ti_sl68, ti_sz35, ti_zr35, itD, itV, itC, hr, hr1, hid, List.length_map, hx, c1, c2, c3, c4, eq_true hk2])
            | (with_reducible refine hKA ?_; clear hKA hKB KA KB)
            | (with_reducible refine hKB ?_; clear hKA hKB KA KB)
            | ((first | with_reducible refine AWp_regro mu_45 ks_45 ro_45 ?_ | with_reducible refine AWp_regC mu_45 ks_45 ?_); intro Kv hKv; simp (dsimp := false) only [go_sem, Nat.reduceAdd, Nat.reduceBEq, Nat.reduceEqDiff, Nat.reduceLT, Nat.reduceLeDiff, Nat.reduceMul, Int.reduceToNat, reduceCtorEq, ↓reduceIte, Tryd.ntmps45, Tryd.results45, ks_45, mu_45, ro_45, ti_ag3, ti_ag35, ti_fl35_0, ti_fl35_1, ti_pl35, ti_sb68, ti_sl68, ti_sz35, ti_zr35, itD, itV, itC, hr, hr1, hid, List.length_map, hx, c1, c2, c3, c4, eq_true hk2])
            | with_reducible refine AWp_skipN ?_
            | with_reducible refine AWp_exitO (by repeat (first | with_reducible exact Out.hit | with_reducible apply Out.thenA | with_reducible apply Out.out rfl)) ?_
            | (with_reducible refine AWp_retR ?_; simp (dsimp := false) only [go_sem, Nat.reduceAdd, Nat.reduceBEq, Nat.reduceEqDiff, Nat.reduceLT, Nat.reduceLeDiff, Nat.reduceMul, Int.reduceToNat, reduceCtorEq, ↓reduceIte, Tryd.ntmps45, Tryd.results45, ks_45, mu_45, ro_45, ti_ag3, ti_ag35, ti_fl35_0, ti_fl35_1, ti_pl35, ti_sb68, ti_sl68, ti_sz35, ti_zr35, itD, itV, itC, hr, hr1, hid, List.length_map, hx, c1, c2, c3, c4, eq_true hk2])
            | (with_reducible refine AWp_regE mu_45 ks_45 ?_; intro Kv hKv; simp (dsimp := false) only [go_sem, Nat.reduceAdd, Nat.reduceBEq, Nat.reduceEqDiff, Nat.reduceLT, Nat.reduceLeDiff, Nat.reduceMul, Int.reduceToNat, reduceCtorEq, ↓reduceIte, Tryd.ntmps45, Tryd.results45, ks_45, mu_45, ro_45, ti_ag3, ti_ag35, ti_fl35_0, ti_fl35_1, ti_pl35, ti_sb68, ti_sl68, ti_sz35, ti_zr35, itD, itV, itC, hr, hr1, hid, List.length_map, hx, c1, c2, c3, c4, eq_true hk2])
            | (refine AWp_condC rfl ?_; intro KA KB hKA hKB; try simp only [onB_true, onB_false, onB_dec, onB_ndec, onB_not, onB_and, onB_or])
            | (refine AWp_condA rfl ?_ ?_)
            | with_reducible refine onB_of ?_ ?_
            | with_reducible rfl
            | omega)
          all_goals first
            | omega
            | (refine closed_app fun ob hob => ?_
               rw [List.mem_singleton] at hob
               subst hob
               exact tok_it0)
            | (rw [if_pos (by simp; omega)] at hst
               obtain ⟨i', g1, g2, rfl⟩ := nxt _ (AI_next hx i5 hst) (by omega) (by omega) (by omega) (hcn _)
               exact ⟨_, g1, g2, by (repeat' (refine And.intro ?_ ?_)) <;> first | rfl | omega | (simp; done) | (simp (dsimp := false) only [go_sem, Nat.reduceAdd, Nat.reduceBEq, Nat.reduceEqDiff, Nat.reduceLT, Nat.reduceLeDiff, Nat.reduceMul, Int.reduceToNat, reduceCtorEq, ↓reduceIte, Tryd.ntmps45, Tryd.results45, ks_45, mu_45, ro_45, ti_ag3, ti_ag35, ti_fl35_0, ti_fl35_1, ti_pl35, ti_sb68, ti_sl68, ti_sz35, ti_zr35, itD, itV, itC, hr, hr1, hid, List.length_map, hx, c1, c2, c3, c4, eq_true hk2]; done) | (simp (dsimp := false) only [go_sem, Nat.reduceAdd, Nat.reduceBEq, Nat.reduceEqDiff, Nat.reduceLT, Nat.reduceLeDiff, Nat.reduceMul, Int.reduceToNat, reduceCtorEq, ↓reduceIte, Tryd.ntmps45, Tryd.results45, ks_45, mu_45, ro_45, ti_ag3, ti_ag35, ti_fl35_0, ti_fl35_1, ti_pl35, ti_sb68, ti_sl68, ti_sz35, ti_zr35, itD, itV, itC, hr, hr1, hid, List.length_map, hx, c1, c2, c3, c4, eq_true hk2]; omega)⟩)
            | (rw [if_neg (by simp; omega)] at hst
               obtain ⟨i', g1, g2, rfl⟩ := nxt _ (AI_next hx i5 hst) (by omega) (by omega) (by omega) (hcn _)
               exact ⟨_, g1, g2, by (repeat' (refine And.intro ?_ ?_)) <;> first | rfl | omega | (simp; done) | (simp (dsimp := false) only [go_sem, Nat.reduceAdd, Nat.reduceBEq, Nat.reduceEqDiff, Nat.reduceLT, Nat.reduceLeDiff, Nat.reduceMul, Int.reduceToNat, reduceCtorEq, ↓reduceIte, Tryd.ntmps45, Tryd.results45, ks_45, mu_45, ro_45, ti_ag3, ti_ag35, ti_fl35_0, ti_fl35_1, ti_pl35, ti_sb68, ti_sl68, ti_sz35, ti_zr35, itD, itV, itC, hr, hr1, hid, List.length_map, hx, c1, c2, c3, c4, eq_true hk2]; done) | (simp (dsimp := false) only [go_sem, Nat.reduceAdd, Nat.reduceBEq, Nat.reduceEqDiff, Nat.reduceLT, Nat.reduceLeDiff, Nat.reduceMul, Int.reduceToNat, reduceCtorEq, ↓reduceIte, Tryd.ntmps45, Tryd.results45, ks_45, mu_45, ro_45, ti_ag3, ti_ag35, ti_fl35_0, ti_fl35_1, ti_pl35, ti_sb68, ti_sl68, ti_sz35, ti_zr35, itD, itV, itC, hr, hr1, hid, List.length_map, hx, c1, c2, c3, c4, eq_true hk2]; omega)⟩)
      · rw [AI_none hx i5 (step_bad hc hk2 _ _)] at hk
        
        repeat' (first
          | with_reducible refine And.intro ?_ ?_
          | with_reducible intro _
          | with_reducible refine AWp_seq ?_
          | with_reducible refine AWp_block ?_
          | (with_reducible refine hKv _ _ (AWp_nop ?_); clear hKv Kv)
          | (with_reducible refine hKv _ _ ?_; clear hKv Kv; simp (dsimp := false) only [go_sem, Nat.reduceAdd, Nat.reduceBEq, Nat.reduceEqDiff, Nat.reduceLT, Nat.reduceLeDiff, Nat.reduceMul, Int.reduceToNat, reduceCtorEq, ↓reduceIte, Tryd.ntmps45, Tryd.results45, ks_45, mu_45, ro_45, ti_ag3, ti_ag35, ti_fl35_0, ti_fl35_1, ti_pl35, ti_sb68, ti_sl68, ti_sz35, ti_zr35, itD, itV, itC, hr, hr1, hid, List.length_map, hx, c1, eq_false hk2])
          | (with_reducible refine hKA ?_; clear hKA hKB KA KB)
          | (with_reducible refine hKB ?_; clear hKA hKB KA KB)
          | ((first | with_reducible refine AWp_regro mu_45 ks_45 ro_45 ?_ | with_reducible refine AWp_regC mu_45 ks_45 ?_); intro Kv hKv; simp (dsimp := false) only [go_sem, Nat.reduceAdd, Nat.reduceBEq, Nat.reduceEqDiff, Nat.reduceLT, Nat.reduceLeDiff, Nat.reduceMul, Int.reduceToNat, reduceCtorEq, ↓reduceIte, Tryd.ntmps45, Tryd.results45, ks_45, mu_45, ro_45, ti_ag3, ti_ag35, ti_fl35_0, ti_fl35_1, ti_pl35, ti_sb68, ti_sl68, ti_sz35, ti_zr35, itD, itV, itC, hr, hr1, hid, List.length_map, hx, c1, eq_false hk2])
          | with_reducible refine AWp_skipN ?_
          | with_reducible refine AWp_exitO (by repeat (first | with_reducible exact Out.hit | with_reducible apply Out.thenA | with_reducible apply Out.out rfl)) ?_
          | (with_reducible refine AWp_retR ?_; simp (dsimp := false) only [go_sem, Nat.reduceAdd, Nat.reduceBEq, Nat.reduceEqDiff, Nat.reduceLT, Nat.reduceLeDiff, Nat.reduceMul, Int.reduceToNat, reduceCtorEq, ↓reduceIte, Tryd.ntmps45, Tryd.results45, ks_45, mu_45, ro_45, ti_ag3, ti_ag35, ti_fl35_0, ti_fl35_1, ti_pl35, ti_sb68, ti_sl68, ti_sz35, ti_zr35, itD, itV, itC, hr, hr1, hid, List.length_map, hx, c1, eq_false hk2])
          | (with_reducible refine AWp_regE mu_45 ks_45 ?_; intro Kv hKv; simp (dsimp := false) only [go_sem, Nat.reduceAdd, Nat.reduceBEq, Nat.reduceEqDiff, Nat.reduceLT, Nat.reduceLeDiff, Nat.reduceMul, Int.reduceToNat, reduceCtorEq, ↓reduceIte, Tryd.ntmps45, Tryd.results45, ks_45, mu_45, ro_45, ti_ag3, ti_ag35, ti_fl35_0, ti_fl35_1, ti_pl35, ti_sb68, ti_sl68, ti_sz35, ti_zr35, itD, itV, itC, hr, hr1, hid, List.length_map, hx, c1, eq_false hk2])
          | (refine AWp_condC rfl ?_; intro KA KB hKA hKB; try simp only [onB_true, onB_false, onB_dec, onB_ndec, onB_not, onB_and, onB_or])
          | (refine AWp_condA rfl ?_ ?_)
          | with_reducible refine onB_of ?_ ?_
          | with_reducible rfl
          | omega)
        all_goals first
          | omega
          | (refine closed_app fun ob hob => ?_
             rw [List.mem_singleton] at hob
             subst hob
             exact tok_it0)
          | exact dropK hk (by simp [itV, Bel_tu, Bel_ag, Bel_d]) rfl
  · have e : i = l.length := by omega
    subst e
    rw [AI_end i5] at hk
    
    repeat' (first
      | with_reducible refine And.intro ?_ ?_
      | with_reducible intro _
      | with_reducible refine AWp_seq ?_
      | with_reducible refine AWp_block ?_
      | (with_reducible refine hKv _ _ (AWp_nop ?_); clear hKv Kv)
      | (with_reducible refine hKv _ _ ?_; clear hKv Kv; simp (dsimp := false) only [go_sem, Nat.reduceAdd, Nat.reduceBEq, Nat.reduceEqDiff, Nat.reduceLT, Nat.reduceLeDiff, Nat.reduceMul, Int.reduceToNat, reduceCtorEq, ↓reduceIte, Tryd.ntmps45, Tryd.results45, ks_45, mu_45, ro_45, ti_ag3, ti_ag35, ti_fl35_0, ti_fl35_1, ti_pl35, ti_sb68, ti_sl68, ti_sz35, ti_zr35, itD, itV, itC, hr, hr1, hid, List.length_map])
      | (with_reducible refine hKA ?_; clear hKA hKB KA KB)
      | (with_reducible refine hKB ?_; clear hKA hKB KA KB)
      | ((first | with_reducible refine AWp_regro mu_45 ks_45 ro_45 ?_ | with_reducible refine AWp_regC mu_45 ks_45 ?_); intro Kv hKv; simp (dsimp := false) only [go_sem, Nat.reduceAdd, Nat.reduceBEq, Nat.reduceEqDiff, Nat.reduceLT, Nat.reduceLeDiff, Nat.reduceMul, Int.reduceToNat, reduceCtorEq, ↓reduceIte, Tryd.ntmps45, Tryd.results45, ks_45, mu_45, ro_45, ti_ag3, ti_ag35, ti_fl35_0, ti_fl35_1, ti_pl35, ti_sb68, ti_sl68, ti_sz35, ti_zr35, itD, itV, itC, hr, hr1, hid, List.length_map])
      | with_reducible refine AWp_skipN ?_
      | with_reducible refine AWp_exitO (by repeat (first | with_reducible exact Out.hit | with_reducible apply Out.thenA | with_reducible apply Out.out rfl)) ?_
      | (with_reducible refine AWp_retR ?_; simp (dsimp := false) only [go_sem, Nat.reduceAdd, Nat.reduceBEq, Nat.reduceEqDiff, Nat.reduceLT, Nat.reduceLeDiff, Nat.reduceMul, Int.reduceToNat, reduceCtorEq, ↓reduceIte, Tryd.ntmps45, Tryd.results45, ks_45, mu_45, ro_45, ti_ag3, ti_ag35, ti_fl35_0, ti_fl35_1, ti_pl35, ti_sb68, ti_sl68, ti_sz35, ti_zr35, itD, itV, itC, hr, hr1, hid, List.length_map])
      | (with_reducible refine AWp_regE mu_45 ks_45 ?_; intro Kv hKv; simp (dsimp := false) only [go_sem, Nat.reduceAdd, Nat.reduceBEq, Nat.reduceEqDiff, Nat.reduceLT, Nat.reduceLeDiff, Nat.reduceMul, Int.reduceToNat, reduceCtorEq, ↓reduceIte, Tryd.ntmps45, Tryd.results45, ks_45, mu_45, ro_45, ti_ag3, ti_ag35, ti_fl35_0, ti_fl35_1, ti_pl35, ti_sb68, ti_sl68, ti_sz35, ti_zr35, itD, itV, itC, hr, hr1, hid, List.length_map])
      | (refine AWp_condC rfl ?_; intro KA KB hKA hKB; try simp only [onB_true, onB_false, onB_dec, onB_ndec, onB_not, onB_and, onB_or])
      | (refine AWp_condA rfl ?_ ?_)
      | with_reducible refine onB_of ?_ ?_
      | with_reducible rfl
      | omega)
    all_goals first
      | omega
      | (refine closed_app fun ob hob => ?_
         rw [List.mem_singleton] at hob
         subst hob
         exact tok_it0)
      | exact dropK hk (by simp [itV, Bel_tu, Bel_ag, Bel_d]) rfl

/- the live slots of pleacher/pleacherref.aggregated -/
def ks_49 : Nat → List Nat
  | 0 => [0, 1]
  | 1 => [0, 1, 9]
  | 2 => [4, 5]
  | 3 => [0, 1, 6]
  | 4 => [0, 1, 6, 7]
  | 5 => [0, 1, 6, 7, 15]
  | 6 => [0, 1, 6, 7]
  | 7 => [0, 1, 6, 7, 23]
  | 8 => [4, 5]
  | 9 => [0, 1, 6, 7, 24]
  | 10 => [0, 1, 6, 7, 35]
  | 11 => [0, 1, 6, 7]
  | 12 => [0, 1, 6, 7, 24, 41]
  | 13 => [0, 1, 6, 7]
  | 14 => [0, 1, 6, 7, 52]
  | 15 => [4, 5]
  | 16 => [0, 1, 6, 7, 53]
  | 17 => [0, 1, 6, 7, 65]
  | 18 => [0, 1, 6, 7]
  | 19 => [4, 5]
  | _ => []
def mu_49 : List Nat := []
def in_49 : List Nat := [0, 1]
theorem aggregated_A (w : List UInt8) (l : List It) (id ver e : Nat) (hw : whichB w = true) (hlen : l.length ≤ 1000000) (hb : ∀ x, x ∈ l → itemB x = true) (H : Heap) (K : V → Heap → Prop) (hr : H[id]? = some (.row ver e 3 (l.map itC)))
    (hk : K (aggR2 w l) H) : ACalls Tryd.prog 49 [.d (.s w), .os id ver] H K := by
  have hid := (List.getElem?_eq_some_iff.1 hr).1
  have hr1 : ∀ x, (H ++ x)[id]? = some (.row ver e 3 (l.map itC)) := fun x => by rw [List.getElem?_append_left hid]; exact hr
  unfold aggR2 at hk
  by_cases hc : w = cntT
  · have c1 : (w = [99, 111, 117, 110, 116]) = True := eq_true hc
    have ho : aggOf w l = some (l.length : Int) := by rw [hc, aggOf, aggGo_cnt]; simp
    rw [ho] at hk
    
    refine ACalls_of Tryd.func49 rfl in_49 (Nat.le_of_ble_eq_true rfl) ?_
    intro F hF
    simp (dsimp := false) only [go_sem, Nat.reduceAdd, Nat.reduceBEq, Nat.reduceEqDiff, Nat.reduceLT, Nat.reduceLeDiff, Nat.reduceMul, Int.reduceToNat, reduceCtorEq, ↓reduceIte, Tryd.ntmps49, Tryd.results49, ks_49, mu_49, ti_ag3, ti_fl35_0, ti_fl35_1, ti_hb72, ti_sb68, ti_sl68, itD, itV, itC, hr, hr1, hid, List.length_map, c1, in_49] at hF
    subst hF
    repeat' (first
      | with_reducible refine And.intro ?_ ?_
      | with_reducible intro _
      | with_reducible refine AWp_seq ?_
      | with_reducible refine AWp_block ?_
      | (with_reducible refine hKv _ _ (AWp_nop ?_); clear hKv Kv)
      | (with_reducible refine hKv _ _ ?_; clear hKv Kv; simp (dsimp := false) only [go_sem, Nat.reduceAdd, Nat.reduceBEq, Nat.reduceEqDiff, Nat.reduceLT, Nat.reduceLeDiff, Nat.reduceMul, Int.reduceToNat, reduceCtorEq, ↓reduceIte, Tryd.ntmps49, Tryd.results49, ks_49, mu_49, ti_ag3, ti_fl35_0, ti_fl35_1, ti_hb72, ti_sb68, ti_sl68, itD, itV, itC, hr, hr1, hid, List.length_map, c1])
      | (with_reducible refine hKA ?_; clear hKA hKB KA KB)
      | (with_reducible refine hKB ?_; clear hKA hKB KA KB)
      | (with_reducible refine AWp_regC mu_49 ks_49 ?_; intro Kv hKv; simp (dsimp := false) only [go_sem, Nat.reduceAdd, Nat.reduceBEq, Nat.reduceEqDiff, Nat.reduceLT, Nat.reduceLeDiff, Nat.reduceMul, Int.reduceToNat, reduceCtorEq, ↓reduceIte, Tryd.ntmps49, Tryd.results49, ks_49, mu_49, ti_ag3, ti_fl35_0, ti_fl35_1, ti_hb72, ti_sb68, ti_sl68, itD, itV, itC, hr, hr1, hid, List.length_map, c1])
      | with_reducible refine AWp_skipN ?_
      | with_reducible refine AWp_exitO (by repeat (first | with_reducible exact Out.hit | with_reducible apply Out.thenA | with_reducible apply Out.out rfl)) ?_
      | (with_reducible refine AWp_retR ?_; simp (dsimp := false) only [go_sem, Nat.reduceAdd, Nat.reduceBEq, Nat.reduceEqDiff, Nat.reduceLT, Nat.reduceLeDiff, Nat.reduceMul, Int.reduceToNat, reduceCtorEq, ↓reduceIte, Tryd.ntmps49, Tryd.results49, ks_49, mu_49, ti_ag3, ti_fl35_0, ti_fl35_1, ti_hb72, ti_sb68, ti_sl68, itD, itV, itC, hr, hr1, hid, List.length_map, c1])
      | (with_reducible refine AWp_regE mu_49 ks_49 ?_; intro Kv hKv; simp (dsimp := false) only [go_sem, Nat.reduceAdd, Nat.reduceBEq, Nat.reduceEqDiff, Nat.reduceLT, Nat.reduceLeDiff, Nat.reduceMul, Int.reduceToNat, reduceCtorEq, ↓reduceIte, Tryd.ntmps49, Tryd.results49, ks_49, mu_49, ti_ag3, ti_fl35_0, ti_fl35_1, ti_hb72, ti_sb68, ti_sl68, itD, itV, itC, hr, hr1, hid, List.length_map, c1])
      | (refine AWp_condC rfl ?_; intro KA KB hKA hKB; try simp only [onB_true, onB_false, onB_dec, onB_ndec, onB_not, onB_and, onB_or])
      | (refine AWp_condA rfl ?_ ?_)
      | with_reducible refine onB_of ?_ ?_
      | with_reducible rfl
      | omega)
    all_goals first
      | omega
      | (refine closed_app fun ob hob => ?_
         rw [List.mem_singleton] at hob
         subst hob
         exact tok_it0)
      | exact keepK hk (by simp [itV, Bel_tu, Bel_ag, Bel_d]) rfl
  have c1 : (w = [99, 111, 117, 110, 116]) = False := eq_false hc
  
  refine ACalls_of Tryd.func49 rfl in_49 (Nat.le_of_ble_eq_true rfl) ?_
  intro F hF
  simp (dsimp := false) only [go_sem, Nat.reduceAdd, Nat.reduceBEq, Nat.reduceEqDiff, Nat.reduceLT, Nat.reduceLeDiff, Nat.reduceMul, Int.reduceToNat, reduceCtorEq, ↓reduceIte, Tryd.ntmps49, Tryd.results49, ks_49, mu_49, ti_ag3, ti_fl35_0, ti_fl35_1, ti_hb72, ti_sb68, ti_sl68, itD, itV, itC, hr, hr1, hid, List.length_map, c1, in_49] at hF
  subst hF
  repeat' (first
    | with_reducible refine And.intro ?_ ?_
    | with_reducible intro _
    | with_reducible refine AWp_seq ?_
    | with_reducible refine AWp_block ?_
    | (with_reducible refine hKv _ _ (AWp_nop ?_); clear hKv Kv)
    | (with_reducible refine hKv _ _ ?_; clear hKv Kv; simp (dsimp := false) only [go_sem, Nat.reduceAdd, Nat.reduceBEq, Nat.reduceEqDiff, Nat.reduceLT, Nat.reduceLeDiff, Nat.reduceMul, Int.reduceToNat, reduceCtorEq, ↓reduceIte, Tryd.ntmps49, Tryd.results49, ks_49, mu_49, ti_ag3, ti_fl35_0, ti_fl35_1, ti_hb72, ti_sb68, ti_sl68, itD, itV, itC, hr, hr1, hid, List.length_map, c1])
    | (with_reducible refine hKA ?_; clear hKA hKB KA KB)
    | (with_reducible refine hKB ?_; clear hKA hKB KA KB)
    | (with_reducible refine AWp_regC mu_49 ks_49 ?_; intro Kv hKv; simp (dsimp := false) only [go_sem, Nat.reduceAdd, Nat.reduceBEq, Nat.reduceEqDiff, Nat.reduceLT, Nat.reduceLeDiff, Nat.reduceMul, Int.reduceToNat, reduceCtorEq, ↓reduceIte, Tryd.ntmps49, Tryd.results49, ks_49, mu_49, ti_ag3, ti_fl35_0, ti_fl35_1, ti_hb72, ti_sb68, ti_sl68, itD, itV, itC, hr, hr1, hid, List.length_map, c1])
    | with_reducible refine AWp_skipN ?_
    | with_reducible refine AWp_exitO (by repeat (first | with_reducible exact Out.hit | with_reducible apply Out.thenA | with_reducible apply Out.out rfl)) ?_
    | (with_reducible refine AWp_retR ?_; simp (dsimp := false) only [go_sem, Nat.reduceAdd, Nat.reduceBEq, Nat.reduceEqDiff, Nat.reduceLT, Nat.reduceLeDiff, Nat.reduceMul, Int.reduceToNat, reduceCtorEq, ↓reduceIte, Tryd.ntmps49, Tryd.results49, ks_49, mu_49, ti_ag3, ti_fl35_0, ti_fl35_1, ti_hb72, ti_sb68, ti_sl68, itD, itV, itC, hr, hr1, hid, List.length_map, c1])
    | (with_reducible refine AWp_regE mu_49 ks_49 ?_; intro Kv hKv; simp (dsimp := false) only [go_sem, Nat.reduceAdd, Nat.reduceBEq, Nat.reduceEqDiff, Nat.reduceLT, Nat.reduceLeDiff, Nat.reduceMul, Int.reduceToNat, reduceCtorEq, ↓reduceIte, Tryd.ntmps49, Tryd.results49, ks_49, mu_49, ti_ag3, ti_fl35_0, ti_fl35_1, ti_hb72, ti_sb68, ti_sl68, itD, itV, itC, hr, hr1, hid, List.length_map, c1])
    | (refine AWp_condC rfl ?_; intro KA KB hKA hKB; try simp only [onB_true, onB_false, onB_dec, onB_ndec, onB_not, onB_and, onB_or])
    | (refine AWp_condA rfl ?_ ?_)
    | with_reducible refine onB_of ?_ ?_
    | with_reducible rfl
    | omega)
  refine AWp_while0 (fun y : Nat × Int => y.1 ≤ l.length ∧ -1099511627776 ≤ y.2 ∧ y.2 ≤ 1099511627776 ∧ AI w l y.1 y.2)
    (fun y => [(0, .d (.s w)), (1, .os id ver), (6, .d (.i .i64 y.2)), (7, .d (.i .i64 y.1))]) (fun y => l.length - y.1) (0, 0)
    ⟨Nat.zero_le _, by show (-1099511627776 : Int) ≤ 0; decide, by show (0 : Int) ≤ 1099511627776; decide, rfl⟩ ?_ ?_
  · simp (dsimp := false) only [go_sem, Nat.reduceAdd, Nat.reduceBEq, Nat.reduceEqDiff, Nat.reduceLT, Nat.reduceLeDiff, Nat.reduceMul, Int.reduceToNat, reduceCtorEq, ↓reduceIte, Tryd.ntmps49, Tryd.results49, ks_49, mu_49, ti_ag3, ti_fl35_0, ti_fl35_1, ti_hb72, ti_sb68, ti_sl68, itD, itV, itC, hr, hr1, hid, List.length_map, c1]
    first | done | omega | (simp; omega)
  rintro ⟨i, n⟩ ⟨i1, i2, i3, i5⟩
  simp only [] at i1 i2 i3 i5 ⊢
  have nxt : ∀ (m : Int), AI w l (i + 1) m → i + 1 ≤ l.length → -1099511627776 ≤ m → m ≤ 1099511627776 → ∃ i' : Nat × Int, (i'.1 ≤ l.length ∧ -1099511627776 ≤ i'.2 ∧ i'.2 ≤ 1099511627776 ∧ AI w l i'.1 i'.2) ∧ l.length - i'.1 < l.length - i ∧ (i + 1, m) = i' := fun m h1 h2 h3 h4 => ⟨(i + 1, m), ⟨h2, h3, h4, h1⟩, by show l.length - (i + 1) < l.length - i; omega, rfl⟩
  by_cases hi : i < l.length
  · obtain ⟨x, hx⟩ : ∃ x, l[i]? = some x := ⟨l[i], List.getElem?_eq_getElem hi⟩
    have hbx := hb x (List.mem_of_getElem? hx)
    by_cases hk2 : x.k = 2
    · obtain ⟨b1, b2⟩ := it_bd hbx hk2
      rcases whichB_or hw with h | h | h | h
      · exact absurd h hc
      · have c2 : (w = [115, 117, 109]) = True := eq_true h
        have hst := step_sum hk2 (decide (i = 0)) n
        rw [← h] at hst
        
        repeat' (first
          | with_reducible refine And.intro ?_ ?_
          | with_reducible intro _
          | with_reducible refine AWp_seq ?_
          | with_reducible refine AWp_block ?_
          | (with_reducible refine hKv _ _ (AWp_nop ?_); clear hKv Kv)
          | (with_reducible refine hKv _ _ ?_; clear hKv Kv; simp (dsimp := false) only [go_sem, Nat.reduceAdd, Nat.reduceBEq, Nat.reduceEqDiff, Nat.reduceLT, Nat.reduceLeDiff, Nat.reduceMul, Int.reduceToNat, reduceCtorEq, ↓reduceIte, Tryd.ntmps49, Tryd.results49, ks_49, mu_49, ti_ag3, ti_fl35_0, ti_fl35_1, ti_hb72, ti_sb68, ti_sl68, itD, itV, itC, hr, hr1, hid, List.length_map, hx, c1, c2, eq_true hk2])
          | (with_reducible refine hKA ?_; clear hKA hKB KA KB)
          | (with_reducible refine hKB ?_; clear hKA hKB KA KB)
          | (with_reducible refine AWp_regC mu_49 ks_49 ?_; intro Kv hKv; simp (dsimp := false) only [go_sem, Nat.reduceAdd, Nat.reduceBEq, Nat.reduceEqDiff, Nat.reduceLT, Nat.reduceLeDiff, Nat.reduceMul, Int.reduceToNat, reduceCtorEq, ↓reduceIte, Tryd.ntmps49, Tryd.results49, ks_49, mu_49, ti_ag3, ti_fl35_0, ti_fl35_1, ti_hb72, ti_sb68, ti_sl68, itD, itV, itC, hr, hr1, hid, List.length_map, hx, c1, c2, eq_true hk2])
          | with_reducible refine AWp_skipN ?_
          | with_reducible refine AWp_exitO (by repeat (first | with_reducible exact Out.hit | with_reducible apply Out.thenA | with_reducible apply Out.out rfl)) ?_
          | (with_reducible refine AWp_retR ?_; simp (dsimp := false) only [go_sem, Nat.reduceAdd, Nat.reduceBEq, Nat.reduceEqDiff, Nat.reduceLT, Nat.reduceLeDiff, Nat.reduceMul, Int.reduceToNat, reduceCtorEq, ↓reduceIte, Tryd.ntmps49, Tryd.results49, ks_49, mu_49, ti_ag3, ti_fl35_0, ti_fl35_1, ti_hb72, ti_sb68, ti_sl68, itD, itV, itC, hr, hr1, hid, List.length_map, hx, c1, c2, eq_true hk2])
          | (with_reducible refine AWp_regE mu_49 ks_49 ?_; intro Kv hKv; simp (dsimp := false) only [go_sem, Nat.reduceAdd, Nat.reduceBEq, Nat.reduceEqDiff, Nat.reduceLT, Nat.reduceLeDiff, Nat.reduceMul, Int.reduceToNat, reduceCtorEq, ↓reduceIte, Tryd.ntmps49, Tryd.results49, ks_49, mu_49, ti_ag3, ti_fl35_0, ti_fl35_1, ti_hb72, ti_sb68, ti_sl68, itD, itV, itC, hr, hr1, hid, List.length_map, hx, c1, c2, eq_true hk2])
          | (refine AWp_condC rfl ?_; intro KA KB hKA hKB; try simp only [onB_true, onB_false, onB_dec, onB_ndec, onB_not, onB_and, onB_or])
          | (refine AWp_condA rfl ?_ ?_)
          | (refine in_A _ _ _ _ _ ?_; try simp (dsimp := false) only [go_sem, Nat.reduceAdd, Nat.reduceBEq, Nat.reduceEqDiff, Nat.reduceLT, Nat.reduceLeDiff, Nat.reduceMul, Int.reduceToNat, reduceCtorEq, ↓reduceIte, Tryd.ntmps49, Tryd.results49, ks_49, mu_49, ti_ag3, ti_fl35_0, ti_fl35_1, ti_hb72, ti_sb68, ti_sl68, itD, itV, itC, hr, hr1, hid, List.length_map, hx, c1, c2, eq_true hk2])
          | with_reducible refine onB_of ?_ ?_
          | with_reducible rfl
          | omega)
        all_goals first
          | omega
          | (refine closed_app fun ob hob => ?_
             rw [List.mem_singleton] at hob
             subst hob
             exact tok_it0)
          | (rw [if_neg (by omega)] at hst
             rw [AI_none hx i5 hst] at hk
             exact keepK hk (by simp [itV, Bel_tu, Bel_ag, Bel_d]) rfl)
          | (rw [if_pos (by omega)] at hst
             obtain ⟨i', g1, g2, rfl⟩ := nxt _ (AI_next hx i5 hst) (by omega) (by omega) (by omega)
             exact ⟨_, g1, g2, by (repeat' (refine And.intro ?_ ?_)) <;> first | rfl | omega | (simp; done) | (simp (dsimp := false) only [go_sem, Nat.reduceAdd, Nat.reduceBEq, Nat.reduceEqDiff, Nat.reduceLT, Nat.reduceLeDiff, Nat.reduceMul, Int.reduceToNat, reduceCtorEq, ↓reduceIte, Tryd.ntmps49, Tryd.results49, ks_49, mu_49, ti_ag3, ti_fl35_0, ti_fl35_1, ti_hb72, ti_sb68, ti_sl68, itD, itV, itC, hr, hr1, hid, List.length_map, hx, c1, c2, eq_true hk2]; done) | (simp (dsimp := false) only [go_sem, Nat.reduceAdd, Nat.reduceBEq, Nat.reduceEqDiff, Nat.reduceLT, Nat.reduceLeDiff, Nat.reduceMul, Int.reduceToNat, reduceCtorEq, ↓reduceIte, Tryd.ntmps49, Tryd.results49, ks_49, mu_49, ti_ag3, ti_fl35_0, ti_fl35_1, ti_hb72, ti_sb68, ti_sl68, itD, itV, itC, hr, hr1, hid, List.length_map, hx, c1, c2, eq_true hk2]; omega)⟩)
      · have c2 : (w = [115, 117, 109]) = False := eq_false (by rw [h]; decide)
        have c3 : (w = [109, 105, 110]) = True := eq_true h
        have hst := step_min hk2 (decide (i = 0)) n
        rw [← h] at hst
        
        repeat' (first
          | with_reducible refine And.intro ?_ ?_
          | with_reducible intro _
          | with_reducible refine AWp_seq ?_
          | with_reducible refine AWp_block ?_
          | (with_reducible refine hKv _ _ (AWp_nop ?_); clear hKv Kv)
          | (with_reducible refine hKv _ _ ?_; clear hKv Kv; simp (dsimp := false) only [go_sem, Nat.reduceAdd, Nat.reduceBEq, Nat.reduceEqDiff, Nat.reduceLT, Nat.reduceLeDiff, Nat.reduceMul, Int.reduceToNat, reduceCtorEq, ↓reduceIte, Tryd.ntmps49, Tryd.results49, ks_49, mu_49, ti_ag3, ti_fl35_0, ti_fl35_1, ti_hb72, ti_sb68, ti_sl68, itD, itV, itC, hr, hr1, hid, List.length_map, hx, c1, c2, c3, eq_true hk2])
          | (with_reducible refine hKA ?_; clear hKA hKB KA KB)
          | (with_reducible refine hKB ?_; clear hKA hKB KA KB)
          | (with_reducible refine AWp_regC mu_49 ks_49 ?_; intro Kv hKv; simp (dsimp := false) only [go_sem, Nat.reduceAdd, Nat.reduceBEq, Nat.reduceEqDiff, Nat.reduceLT, Nat.reduceLeDiff, Nat.reduceMul, Int.reduceToNat, reduceCtorEq, ↓reduceIte, Tryd.ntmps49, Tryd.results49, ks_49, mu_49, ti_ag3, ti_fl35_0, ti_fl35_1, ti_hb72, ti_sb68, ti_sl68, itD, itV, itC, hr, hr1, hid, List.length_map, hx, c1, c2, c3, eq_true hk2])
          | with_reducible refine AWp_skipN ?_
          | with_reducible refine AWp_exitO (by repeat (first | with_reducible exact Out.hit | with_reducible apply Out.thenA | with_reducible apply Out.out rfl)) ?_
          | (with_reducible refine AWp_retR ?_; simp (dsimp := false) only [go_sem, Nat.reduceAdd, Nat.reduceBEq, Nat.reduceEqDiff, Nat.reduceLT, Nat.reduceLeDiff, Nat.reduceMul, Int.reduceToNat, reduceCtorEq, ↓reduceIte, Tryd.ntmps49, Tryd.results49, ks_49, mu_49, ti_ag3, ti_fl35_0, ti_fl35_1, ti_hb72, ti_sb68, ti_sl68, itD, itV, itC, hr, hr1, hid, List.length_map, hx, c1, c2, c3, eq_true hk2])
          | (with_reducible refine AWp_regE mu_49 ks_49 ?_; intro Kv hKv; simp (dsimp := false) only [go_sem, Nat.reduceAdd, Nat.reduceBEq, Nat.reduceEqDiff, Nat.reduceLT, Nat.reduceLeDiff, Nat.reduceMul, Int.reduceToNat, reduceCtorEq, ↓reduceIte, Tryd.ntmps49, Tryd.results49, ks_49, mu_49, ti_ag3, ti_fl35_0, ti_fl35_1, ti_hb72, ti_sb68, ti_sl68, itD, itV, itC, hr, hr1, hid, List.length_map, hx, c1, c2, c3, eq_true hk2])
          | (refine AWp_condC rfl ?_; intro KA KB hKA hKB; try simp only [onB_true, onB_false, onB_dec, onB_ndec, onB_not, onB_and, onB_or])
          | (refine AWp_condA rfl ?_ ?_)
          | with_reducible refine onB_of ?_ ?_
          | with_reducible rfl
          | omega)
        all_goals first
          | omega
          | (refine closed_app fun ob hob => ?_
             rw [List.mem_singleton] at hob
             subst hob
             exact tok_it0)
          | (rw [if_pos (by simp; omega)] at hst
             obtain ⟨i', g1, g2, rfl⟩ := nxt _ (AI_next hx i5 hst) (by omega) (by omega) (by omega)
             exact ⟨_, g1, g2, by (repeat' (refine And.intro ?_ ?_)) <;> first | rfl | omega | (simp; done) | (simp (dsimp := false) only [go_sem, Nat.reduceAdd, Nat.reduceBEq, Nat.reduceEqDiff, Nat.reduceLT, Nat.reduceLeDiff, Nat.reduceMul, Int.reduceToNat, reduceCtorEq, ↓reduceIte, Tryd.ntmps49, Tryd.results49, ks_49, mu_49, ti_ag3, ti_fl35_0, ti_fl35_1, ti_hb72, ti_sb68, ti_sl68, itD, itV, itC, hr, hr1, hid, List.length_map, hx, c1, c2, c3, eq_true hk2]; done) | (simp (dsimp := false) only [go_sem, Nat.reduceAdd, Nat.reduceBEq, Nat.reduceEqDiff, Nat.reduceLT, Nat.reduceLeDiff, Nat.reduceMul, Int.reduceToNat, reduceCtorEq, ↓reduceIte, Tryd.ntmps49, Tryd.results49, ks_49, mu_49, ti_ag3, ti_fl35_0, ti_fl35_1, ti_hb72, ti_sb68, ti_sl68, itD, itV, itC, hr, hr1, hid, List.length_map, hx, c1, c2, c3, eq_true hk2]; omega)⟩)
          | (rw [if_neg (by simp; omega)] at hst
             obtain ⟨i', g1, g2, rfl⟩ := nxt _ (AI_next hx i5 hst) (by omega) (by omega) (by omega)
             exact ⟨_, g1, g2, by (repeat' (refine And.intro ?_ ?_)) <;> first | rfl | omega | (simp; done) | (simp (dsimp := false) only [go_sem, Nat.reduceAdd, Nat.reduceBEq, Nat.reduceEqDiff, Nat.reduceLT, Nat.reduceLeDiff, Nat.reduceMul, Int.reduceToNat, reduceCtorEq, ↓reduceIte, Tryd.ntmps49, Tryd.results49, ks_49, mu_49, ti_ag3, ti_fl35_0, ti_fl35_1, ti_hb72, ti_sb68, ti_sl68, itD, itV, itC, hr, hr1, hid, List.length_map, hx, c1, c2, c3, eq_true hk2]; done) | (simp (dsimp := false) only [go_sem, Nat.reduceAdd, Nat.reduceBEq, Nat.reduceEqDiff, Nat.reduceLT, Nat.reduceLeDiff, Nat.reduceMul, Int.reduceToNat, reduceCtorEq, ↓reduceIte, Tryd.ntmps49, Tryd.results49, ks_49, mu_49, ti_ag3, ti_fl35_0, ti_fl35_1, ti_hb72, ti_sb68, ti_sl68, itD, itV, itC, hr, hr1, hid, List.length_map, hx, c1, c2, c3, eq_true hk2]; omega)⟩)
      · have c2 : (w = [115, 117, 109]) = False := eq_false (by rw [h]; decide)
        have c3 : (w = [109, 105, 110]) = False := eq_false (by rw [h]; decide)
        have hst := step_max hk2 (decide (i = 0)) n
        rw [← h] at hst
        
        repeat' (first
          | with_reducible refine And.intro ?_ ?_
          | with_reducible intro _
          | with_reducible refine AWp_seq ?_
          | with_reducible refine AWp_block ?_
          | (with_reducible refine hKv _ _ (AWp_nop ?_); clear hKv Kv)
          | (with_reducible refine hKv _ _ ?_; clear hKv Kv; simp (dsimp := false) only [go_sem, Nat.reduceAdd, Nat.reduceBEq, Nat.reduceEqDiff, Nat.reduceLT, Nat.reduceLeDiff, Nat.reduceMul, Int.reduceToNat, reduceCtorEq, ↓reduceIte, Tryd.ntmps49, Tryd.results49, ks_49, mu_49, ti_ag3, ti_fl35_0, ti_fl35_1, ti_hb72, ti_sb68, ti_sl68, itD, itV, itC, hr, hr1, hid, List.length_map, hx, c1, c2, c3, eq_true hk2])
          | (with_reducible refine hKA ?_; clear hKA hKB KA KB)
          | (with_reducible refine hKB ?_; clear hKA hKB KA KB)
          | (with_reducible refine AWp_regC mu_49 ks_49 ?_; intro Kv hKv; simp (dsimp := false) only [go_sem, Nat.reduceAdd, Nat.reduceBEq, Nat.reduceEqDiff, Nat.reduceLT, Nat.reduceLeDiff, Nat.reduceMul, Int.reduceToNat, reduceCtorEq, ↓reduceIte, Tryd.ntmps49, Tryd.results49, ks_49, mu_49, ti_ag3, ti_fl35_0, ti_fl35_1, ti_hb72, ti_sb68, ti_sl68, itD, itV, itC, hr, hr1, hid, List.length_map, hx, c1, c2, c3, eq_true hk2])
          | with_reducible refine AWp_skipN ?_
          | with_reducible refine AWp_exitO (by repeat (first | with_reducible exact Out.hit | with_reducible apply Out.thenA | with_reducible apply Out.out rfl)) ?_
          | (with_reducible refine AWp_retR ?_; simp (dsimp := false) only [go_sem, Nat.reduceAdd, Nat.reduceBEq, Nat.reduceEqDiff, Nat.reduceLT, Nat.reduceLeDiff, Nat.reduceMul, Int.reduceToNat, reduceCtorEq, ↓reduceIte, Tryd.ntmps49, Tryd.results49, ks_49, mu_49, ti_ag3, ti_fl35_0, ti_fl35_1, ti_hb72, ti_sb68, ti_sl68, itD, itV, itC, hr, hr1, hid, List.length_map, hx, c1, c2, c3, eq_true hk2])
          | (with_reducible refine AWp_regE mu_49 ks_49 ?_; intro Kv hKv; simp (dsimp := false) only [go_sem, Nat.reduceAdd, Nat.reduceBEq, Nat.reduceEqDiff, Nat.reduceLT, Nat.reduceLeDiff, Nat.reduceMul, Int.reduceToNat, reduceCtorEq, ↓reduceIte, Tryd.ntmps49, Tryd.results49, ks_49, mu_49, ti_ag3, ti_fl35_0, ti_fl35_1, ti_hb72, ti_sb68, ti_sl68, itD, itV, itC, hr, hr1, hid, List.length_map, hx, c1, c2, c3, eq_true hk2])
          | (refine AWp_condC rfl ?_; intro KA KB hKA hKB; try simp only [onB_true, onB_false, onB_dec, onB_ndec, onB_not, onB_and, onB_or])
          | (refine AWp_condA rfl ?_ ?_)
          | with_reducible refine onB_of ?_ ?_
          | with_reducible rfl
          | omega)
        all_goals first
          | omega
          | (refine closed_app fun ob hob => ?_
             rw [List.mem_singleton] at hob
             subst hob
             exact tok_it0)
          | (rw [if_pos (by simp; omega)] at hst
             obtain ⟨i', g1, g2, rfl⟩ := nxt _ (AI_next hx i5 hst) (by omega) (by omega) (by omega)
             exact ⟨_, g1, g2, by (repeat' (refine And.intro ?_ ?_)) <;> first | rfl | omega | (simp; done) | (simp (dsimp := false) only [go_sem, Nat.reduceAdd, Nat.reduceBEq, Nat.reduceEqDiff, Nat.reduceLT, Nat.reduceLeDiff, Nat.reduceMul, Int.reduceToNat, reduceCtorEq, ↓reduceIte, Tryd.ntmps49, Tryd.results49, ks_49, mu_49, ti_ag3, ti_fl35_0, ti_fl35_1, ti_hb72, ti_sb68, ti_sl68, itD, itV, itC, hr, hr1, hid, List.length_map, hx, c1, c2, c3, eq_true hk2]; done) | (simp (dsimp := false) only [go_sem, Nat.reduceAdd, Nat.reduceBEq, Nat.reduceEqDiff, Nat.reduceLT, Nat.reduceLeDiff, Nat.reduceMul, Int.reduceToNat, reduceCtorEq, ↓reduceIte, Tryd.ntmps49, Tryd.results49, ks_49, mu_49, ti_ag3, ti_fl35_0, ti_fl35_1, ti_hb72, ti_sb68, ti_sl68, itD, itV, itC, hr, hr1, hid, List.length_map, hx, c1, c2, c3, eq_true hk2]; omega)⟩)
          | (rw [if_neg (by simp; omega)] at hst
             obtain ⟨i', g1, g2, rfl⟩ := nxt _ (AI_next hx i5 hst) (by omega) (by omega) (by omega)
             exact ⟨_, g1, g2, by (repeat' (refine And.intro ?_ ?_)) <;> first | rfl | omega | (simp; done) | (simp (dsimp := false) only [go_sem, Nat.reduceAdd, Nat.reduceBEq, Nat.reduceEqDiff, Nat.reduceLT, Nat.reduceLeDiff, Nat.reduceMul, Int.reduceToNat, reduceCtorEq, ↓reduceIte, Tryd.ntmps49, Tryd.results49, ks_49, mu_49, ti_ag3, ti_fl35_0, ti_fl35_1, ti_hb72, ti_sb68, ti_sl68, itD, itV, itC, hr, hr1, hid, List.length_map, hx, c1, c2, c3, eq_true hk2]; done) | (simp (dsimp := false) only [go_sem, Nat.reduceAdd, Nat.reduceBEq, Nat.reduceEqDiff, Nat.reduceLT, Nat.reduceLeDiff, Nat.reduceMul, Int.reduceToNat, reduceCtorEq, ↓reduceIte, Tryd.ntmps49, Tryd.results49, ks_49, mu_49, ti_ag3, ti_fl35_0, ti_fl35_1, ti_hb72, ti_sb68, ti_sl68, itD, itV, itC, hr, hr1, hid, List.length_map, hx, c1, c2, c3, eq_true hk2]; omega)⟩)
    · rw [AI_none hx i5 (step_bad hc hk2 _ _)] at hk
      
      repeat' (first
        | with_reducible refine And.intro ?_ ?_
        | with_reducible intro _
        | with_reducible refine AWp_seq ?_
        | with_reducible refine AWp_block ?_
        | (with_reducible refine hKv _ _ (AWp_nop ?_); clear hKv Kv)
        | (with_reducible refine hKv _ _ ?_; clear hKv Kv; simp (dsimp := false) only [go_sem, Nat.reduceAdd, Nat.reduceBEq, Nat.reduceEqDiff, Nat.reduceLT, Nat.reduceLeDiff, Nat.reduceMul, Int.reduceToNat, reduceCtorEq, ↓reduceIte, Tryd.ntmps49, Tryd.results49, ks_49, mu_49, ti_ag3, ti_fl35_0, ti_fl35_1, ti_hb72, ti_sb68, ti_sl68, itD, itV, itC, hr, hr1, hid, List.length_map, hx, c1, eq_false hk2])
        | (with_reducible refine hKA ?_; clear hKA hKB KA KB)
        | (with_reducible refine hKB ?_; clear hKA hKB KA KB)
        | (with_reducible refine AWp_regC mu_49 ks_49 ?_; intro Kv hKv; simp (dsimp := false) only [go_sem, Nat.reduceAdd, Nat.reduceBEq, Nat.reduceEqDiff, Nat.reduceLT, Nat.reduceLeDiff, Nat.reduceMul, Int.reduceToNat, reduceCtorEq, ↓reduceIte, Tryd.ntmps49, Tryd.results49, ks_49, mu_49, ti_ag3, ti_fl35_0, ti_fl35_1, ti_hb72, ti_sb68, ti_sl68, itD, itV, itC, hr, hr1, hid, List.length_map, hx, c1, eq_false hk2])
        | with_reducible refine AWp_skipN ?_
        | with_reducible refine AWp_exitO (by repeat (first | with_reducible exact Out.hit | with_reducible apply Out.thenA | with_reducible apply Out.out rfl)) ?_
        | (with_reducible refine AWp_retR ?_; simp (dsimp := false) only [go_sem, Nat.reduceAdd, Nat.reduceBEq, Nat.reduceEqDiff, Nat.reduceLT, Nat.reduceLeDiff, Nat.reduceMul, Int.reduceToNat, reduceCtorEq, ↓reduceIte, Tryd.ntmps49, Tryd.results49, ks_49, mu_49, ti_ag3, ti_fl35_0, ti_fl35_1, ti_hb72, ti_sb68, ti_sl68, itD, itV, itC, hr, hr1, hid, List.length_map, hx, c1, eq_false hk2])
        | (with_reducible refine AWp_regE mu_49 ks_49 ?_; intro Kv hKv; simp (dsimp := false) only [go_sem, Nat.reduceAdd, Nat.reduceBEq, Nat.reduceEqDiff, Nat.reduceLT, Nat.reduceLeDiff, Nat.reduceMul, Int.reduceToNat, reduceCtorEq, ↓reduceIte, Tryd.ntmps49, Tryd.results49, ks_49, mu_49, ti_ag3, ti_fl35_0, ti_fl35_1, ti_hb72, ti_sb68, ti_sl68, itD, itV, itC, hr, hr1, hid, List.length_map, hx, c1, eq_false hk2])
        | (refine AWp_condC rfl ?_; intro KA KB hKA hKB; try simp only [onB_true, onB_false, onB_dec, onB_ndec, onB_not, onB_and, onB_or])
        | (refine AWp_condA rfl ?_ ?_)
        | with_reducible refine onB_of ?_ ?_
        | with_reducible rfl
        | omega)
      all_goals first
        | omega
        | (refine closed_app fun ob hob => ?_
           rw [List.mem_singleton] at hob
           subst hob
           exact tok_it0)
        | exact keepK hk (by simp [itV, Bel_tu, Bel_ag, Bel_d]) rfl
  · have e : i = l.length := by omega
    subst e
    rw [AI_end i5] at hk
    
    repeat' (first
      | with_reducible refine And.intro ?_ ?_
      | with_reducible intro _
      | with_reducible refine AWp_seq ?_
      | with_reducible refine AWp_block ?_
      | (with_reducible refine hKv _ _ (AWp_nop ?_); clear hKv Kv)
      | (with_reducible refine hKv _ _ ?_; clear hKv Kv; simp (dsimp := false) only [go_sem, Nat.reduceAdd, Nat.reduceBEq, Nat.reduceEqDiff, Nat.reduceLT, Nat.reduceLeDiff, Nat.reduceMul, Int.reduceToNat, reduceCtorEq, ↓reduceIte, Tryd.ntmps49, Tryd.results49, ks_49, mu_49, ti_ag3, ti_fl35_0, ti_fl35_1, ti_hb72, ti_sb68, ti_sl68, itD, itV, itC, hr, hr1, hid, List.length_map, c1])
      | (with_reducible refine hKA ?_; clear hKA hKB KA KB)
      | (with_reducible refine hKB ?_; clear hKA hKB KA KB)
      | (with_reducible refine AWp_regC mu_49 ks_49 ?_; intro Kv hKv; simp (dsimp := false) only [go_sem, Nat.reduceAdd, Nat.reduceBEq, Nat.reduceEqDiff, Nat.reduceLT, Nat.reduceLeDiff, Nat.reduceMul, Int.reduceToNat, reduceCtorEq, ↓reduceIte, Tryd.ntmps49, Tryd.results49, ks_49, mu_49, ti_ag3, ti_fl35_0, ti_fl35_1, ti_hb72, ti_sb68, ti_sl68, itD, itV, itC, hr, hr1, hid, List.length_map, c1])
      | with_reducible refine AWp_skipN ?_
      | with_reducible refine AWp_exitO (by repeat (first | with_reducible exact Out.hit | with_reducible apply Out.thenA | with_reducible apply Out.out rfl)) ?_
      | (with_reducible refine AWp_retR ?_; simp (dsimp := false) only [go_sem, Nat.reduceAdd, Nat.reduceBEq, Nat.reduceEqDiff, Nat.reduceLT, Nat.reduceLeDiff, Nat.reduceMul, Int.reduceToNat, reduceCtorEq, ↓reduceIte, Tryd.ntmps49, Tryd.results49, ks_49, mu_49, ti_ag3, ti_fl35_0, ti_fl35_1, ti_hb72, ti_sb68, ti_sl68, itD, itV, itC, hr, hr1, hid, List.length_map, c1])
      | (with_reducible refine AWp_regE mu_49 ks_49 ?_; intro Kv hKv; simp (dsimp := false) only [go_sem, Nat.reduceAdd, Nat.reduceBEq, Nat.reduceEqDiff, Nat.reduceLT, Nat.reduceLeDiff, Nat.reduceMul, Int.reduceToNat, reduceCtorEq, ↓reduceIte, Tryd.ntmps49, Tryd.results49, ks_49, mu_49, ti_ag3, ti_fl35_0, ti_fl35_1, ti_hb72, ti_sb68, ti_sl68, itD, itV, itC, hr, hr1, hid, List.length_map, c1])
      | (refine AWp_condC rfl ?_; intro KA KB hKA hKB; try simp only [onB_true, onB_false, onB_dec, onB_ndec, onB_not, onB_and, onB_or])
      | (refine AWp_condA rfl ?_ ?_)
      | with_reducible refine onB_of ?_ ?_
      | with_reducible rfl
      | omega)
    all_goals first
      | omega
      | (refine closed_app fun ob hob => ?_
         rw [List.mem_singleton] at hob
         subst hob
         exact tok_it0)
      | exact keepK hk (by simp [itV, Bel_tu, Bel_ag, Bel_d]) rfl
end Go.Proofs.YtafbojmnmadlpaaDoor
