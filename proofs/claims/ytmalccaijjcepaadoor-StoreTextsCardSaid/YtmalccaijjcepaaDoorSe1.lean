/- Events of a node: what the program and the reference make of them. No condition but that the tables of package unicode/utf8 are there. -/
import Derived.Test.YtmalccaijjcepaaDoorSt3
import Derived.Test.YtmalccaijjcepaaDoorSe0
set_option linter.all false
set_option linter.unusedSimpArgs false
set_option linter.unusedVariables false
namespace Go.Proofs.YtmalccaijjcepaaDoor
open Go Go.Proofs.YtmalccaijjcepaaDoor.Ab
variable [Glo] [U8]
set_option maxHeartbeats 4000000
set_option maxRecDepth 20000

/-- Whether there is such a node, in a store that may be. -/
def atFault (l : List Nd) (n : Int) : Int := if nodesFault l = 0 then (if 0 ≤ n ∧ n < l.length then 0 else 6) else nodesFault l
theorem atFault_ok {l : List Nd} {n : Int} (h : atFault l n = 0) : nodesFault l = 0 ∧ 0 ≤ n ∧ n < l.length := by
  unfold atFault at h
  split at h
  · rename_i h1
    split at h
    · rename_i h2
      exact ⟨h1, h2.1, h2.2⟩
    · omega
  · contradiction
/- the live slots of pleacher/store.at -/
def ks_41 : Nat → List Nat
  | 0 => [0, 1]
  | 1 => [0, 1, 5]
  | 2 => [0, 1, 5, 9]
  | 3 => [4]
  | 4 => [18]
  | 5 => [4]
  | 6 => [4]
  | _ => []
def mu_41 : List Nat := []
def in_41 : List Nat := [0, 1]
theorem at_A (l : List Nd) (n : Int) (hlen : l.length ≤ 9223372036854775807) (hS : Short l) (H : Heap) (K : V → Heap → Prop) (hk : K (.d (.i .i64 (atFault l n))) H) :
    ACalls Tryd.prog 41 [.d (.sl 6 (l.map ndD)), .d (.i .i64 n)] H K := by
  refine ACalls_of Tryd.func41 rfl in_41 (Nat.le_of_ble_eq_true rfl) ?_
  intro F hF
  simp (dsimp := false) only [go_sem, Nat.reduceAdd, Nat.reduceBEq, Nat.reduceEqDiff, Nat.reduceLT, Nat.reduceLeDiff, Nat.reduceMul, Int.reduceToNat, reduceCtorEq, ↓reduceIte, Tryd.ntmps41, Tryd.results41, ks_41, mu_41, ti_hb15, ti_sb29, itD, itV, ndD, ndV, evD, evV, in_41] at hF
  subst hF
  repeat' (first | with_reducible (first | refine And.intro ?_ ?_ | intro _ | refine AWp_seq ?_ | refine AWp_block ?_ | (refine hKv _ _ (AWp_nop ?_); clear hKv Kv) | (refine hKA ?_; clear hKA hKB KA KB) | (refine hKB ?_; clear hKA hKB KA KB) | refine AWp_skipN ?_ | refine AWp_exitO (by repeat (first | exact Out.hit | apply Out.thenA | apply Out.out rfl)) ?_) | ((first | with_reducible (first | (refine hKv _ _ ?_; clear hKv Kv) | ((first | refine AWp_regC mu_41 ks_41 ?_ | refine AWp_regE mu_41 ks_41 ?_); intro Kv hKv) | refine AWp_retR ?_) | refine storeCheck_A l hlen hS _ _ ?_); try simp (dsimp := false) only [go_sem, Nat.reduceAdd, Nat.reduceBEq, Nat.reduceEqDiff, Nat.reduceLT, Nat.reduceLeDiff, Nat.reduceMul, Int.reduceToNat, reduceCtorEq, ↓reduceIte, Tryd.ntmps41, Tryd.results41, ks_41, mu_41, ti_hb15, ti_sb29, itD, itV, ndD, ndV, evD, evV]) | (refine AWp_condC rfl ?_; intro KA KB hKA hKB; try simp only [onB_true, onB_false, onB_dec, onB_ndec, onB_not, onB_and, onB_or]) | (refine AWp_condA rfl ?_ ?_) | with_reducible (first | refine onB_of ?_ ?_ | rfl) | omega)
  all_goals exact keepD hk (by (simp only [V.d.injEq, D.i.injEq, D.b.injEq, D.s.injEq, true_and]; grind [atFault]))
/- the live slots of pleacher/pleacherref.nodeFault -/
def ks_42 : Nat → List Nat
  | 0 => [0, 1]
  | 1 => [0, 1, 5]
  | 2 => [5, 17]
  | 3 => [5]
  | 4 => [4]
  | _ => []
def mu_42 : List Nat := []
def in_42 : List Nat := [0, 1]
theorem nodeFault_A (l : List Nd) (n : Int) (hlen : l.length ≤ 9223372036854775807) (hS : Short l) (H : Heap) (K : V → Heap → Prop) (hk : K (.d (.i .i64 (atFault l n))) H) :
    ACalls Tryd.prog 42 [.d (.sl 6 (l.map ndD)), .d (.i .i64 n)] H K := by
  refine ACalls_of Tryd.func42 rfl in_42 (Nat.le_of_ble_eq_true rfl) ?_
  intro F hF
  simp (dsimp := false) only [go_sem, Nat.reduceAdd, Nat.reduceBEq, Nat.reduceEqDiff, Nat.reduceLT, Nat.reduceLeDiff, Nat.reduceMul, Int.reduceToNat, reduceCtorEq, ↓reduceIte, Tryd.ntmps42, Tryd.results42, ks_42, mu_42, ti_hb17, ti_hb36, ti_sb29, itD, itV, ndD, ndV, evD, evV, in_42] at hF
  subst hF
  repeat' (first | with_reducible (first | refine And.intro ?_ ?_ | intro _ | refine AWp_seq ?_ | refine AWp_block ?_ | (refine hKv _ _ (AWp_nop ?_); clear hKv Kv) | (refine hKA ?_; clear hKA hKB KA KB) | (refine hKB ?_; clear hKA hKB KA KB) | refine AWp_skipN ?_ | refine AWp_exitO (by repeat (first | exact Out.hit | apply Out.thenA | apply Out.out rfl)) ?_) | ((first | with_reducible (first | (refine hKv _ _ ?_; clear hKv Kv) | ((first | refine AWp_regC mu_42 ks_42 ?_ | refine AWp_regE mu_42 ks_42 ?_); intro Kv hKv) | refine AWp_retR ?_) | refine nodesFault_A l hlen hS _ _ ?_ | refine in_A _ _ _ _ _ ?_); try simp (dsimp := false) only [go_sem, Nat.reduceAdd, Nat.reduceBEq, Nat.reduceEqDiff, Nat.reduceLT, Nat.reduceLeDiff, Nat.reduceMul, Int.reduceToNat, reduceCtorEq, ↓reduceIte, Tryd.ntmps42, Tryd.results42, ks_42, mu_42, ti_hb17, ti_hb36, ti_sb29, itD, itV, ndD, ndV, evD, evV]) | (refine AWp_condC rfl ?_; intro KA KB hKA hKB; try simp only [onB_true, onB_false, onB_dec, onB_ndec, onB_not, onB_and, onB_or]) | (refine AWp_condA rfl ?_ ?_) | with_reducible (first | refine onB_of ?_ ?_ | rfl) | omega)
  all_goals exact keepD hk (by (simp only [V.d.injEq, D.i.injEq, D.b.injEq, D.s.injEq, true_and]; grind [atFault]))
def evC (x : Ev) : List V := [.d (.i .i64 x.k), .d (.s x.nm), .d (.s x.vl)]
theorem evs_data (l : List Ev) : dsRows (l.map evC) = some (l.map evD) := by
  induction l with
  | nil => rfl
  | cons x rs ih => simp [dsRows, evC, evD, dsOf, asD, ih]
def natCells (e : Nat) : List V := [.d (.i .i64 (e : Int))]
theorem obBel_nat (m ver e sz : Nat) (xs : List Nat) : ObBel m (.row ver e sz (xs.map natCells)) := obBel_map (fun e => [D.i .i64 ((e : Nat) : Int)]) m ver e sz xs
theorem obBel_ev (m ver e sz : Nat) (xs : List Ev) : ObBel m (.row ver e sz (xs.map evC)) := obBel_map evD m ver e sz xs
theorem nat_top {e : Nat} {r st : List Nat} (h : st = e :: r) : st.reverse[((st.length : Int) - 1).toNat]? = some e := by
  subst h
  have : (((e :: r).length : Int) - 1).toNat = r.length := by simp
  rw [this, List.reverse_cons, List.getElem?_append_right (by simp)]
  simp
theorem nat_take {e : Nat} {r st : List Nat} (h : st = e :: r) : List.take ((st.length : Int) - 1).toNat (st.reverse.map natCells) = r.reverse.map natCells := by
  subst h
  have : (((e :: r).length : Int) - 1).toNat = r.length := by simp
  rw [this, List.reverse_cons, List.map_append, List.take_left' (by simp)]
/-- Where what is open began. -/
def org (l : List Nd) (i : Nat) (st : List Nat) : Prop := ∀ e, e ∈ st → ∃ j, j < i ∧ j + (gd l j).sz.toNat = e
theorem org.mono {l : List Nd} {i : Nat} {st : List Nat} (h : org l i st) : org l (i + 1) st := fun e he => by
  obtain ⟨j, j1, j2⟩ := h e he
  exact ⟨j, by omega, j2⟩
theorem org.push {l : List Nd} {i : Nat} {st : List Nat} (h : org l i st) {e : Nat} (he : i + (gd l i).sz.toNat = e) : org l (i + 1) (e :: st) := fun e' h' => by
  rcases List.mem_cons.1 h' with rfl | h'
  · exact ⟨i, by omega, he⟩
  · exact h.mono e' h'
theorem stk_top {l : List Nd} {N i : Nat} : ∀ {st : List Nat}, stk N i st → N ≤ i → remE l N i st = List.replicate st.length evE
  | [], _, h => by rw [remE, evF_end h]; rfl
  | e :: r, hs, h => by
    have h1 := stk_le hs
    have h2 := stk_le hs.2
    have h3 := hs.1
    rw [remE, evF_end (by omega), stk_top (i := e + 1) hs.2 (by omega)]
    rfl

/- the live slots of pleacher/store.Events -/
def ks_21 : Nat → List Nat
  | 0 => [0, 1]
  | 1 => [0, 1, 6]
  | 2 => [0, 1, 6, 15]
  | 3 => [4, 5]
  | 4 => [0, 1, 7]
  | 5 => [0, 1, 7, 8]
  | 6 => [0, 1, 7, 8, 9]
  | 7 => [0, 1, 7, 8, 9, 26]
  | 8 => [0, 1, 7, 8, 9]
  | 9 => [0, 1, 7, 8, 9, 41]
  | 10 => [0, 1, 7, 8, 9]
  | 11 => [0, 1, 7, 8, 9, 10]
  | 12 => [0, 1, 7, 8, 9, 10, 57]
  | 13 => [0, 1, 7, 8, 9, 10]
  | 14 => [0, 1, 7, 8, 9, 10, 70]
  | 15 => [0, 1, 7, 8, 9]
  | 16 => [7, 79, 80]
  | 17 => [7, 79, 80, 81]
  | 18 => [7, 79, 80]
  | 19 => [7, 79, 80]
  | 20 => [4, 5]
  | _ => []
def mu_21 : List Nat := [7, 8, 50]
def in_21 : List Nat := [0, 1]
def ro_21 : Nat → List Nat
  | 11 => [10]
  | _ => []
def xd_21 : Nat → Nat × Nat × List Bool
  | 10 => (10, 3, [false, false, false, false, false, true])
  | _ => (0, 0, [])
def vw_21 : Nat → List Nat
  | 10 => [8]
  | _ => []
theorem storeEvents_A (l : List Nd) (n : Int) (hlen : l.length ≤ 9223372036854775807) (hS : Short l) (H : Heap) (K : V → Heap → Prop)
    (hk : K (.tu [.d (.sl 3 ((if atFault l n = 0 then evF l n.toNat (n.toNat + (gd l n).sz.toNat + 1) else []).map evD)), .d (.i .i64 (atFault l n))]) H) :
    ACalls Tryd.prog 21 [.d (.sl 6 (l.map ndD)), .d (.i .i64 n)] H K := by
  refine ACalls_of Tryd.func21 rfl in_21 (Nat.le_of_ble_eq_true rfl) ?_
  intro F hF
  simp (dsimp := false) only [go_sem, Nat.reduceAdd, Nat.reduceBEq, Nat.reduceEqDiff, Nat.reduceLT, Nat.reduceLeDiff, Nat.reduceMul, Int.reduceToNat, reduceCtorEq, ↓reduceIte, Tryd.ntmps21, Tryd.results21, ks_21, mu_21, xd_21, vw_21, ro_21, ti_ag3, ti_ag9, ti_ag57, ti_fl57_0, ti_fl57_1, ti_fl57_2, ti_fl57_3, ti_hb41, ti_pl65, ti_sb55, ti_sl29, ti_sl40, ti_sl55, ti_sz57, ti_zr57, ti_zr65, itD, itV, ndD, ndV, evD, evV, evC, List.length_reverse, in_21] at hF
  subst hF
  repeat' (first | with_reducible (first | refine And.intro ?_ ?_ | intro _ | refine AWp_seq ?_ | refine AWp_block ?_ | (refine hKv _ _ (AWp_nop ?_); clear hKv Kv) | (refine hKA ?_; clear hKA hKB KA KB) | (refine hKB ?_; clear hKA hKB KA KB) | refine AWp_skipN ?_ | refine AWp_exitO (by repeat (first | exact Out.hit | apply Out.thenA | apply Out.out rfl)) ?_) | ((first | with_reducible (first | (refine hKv _ _ ?_; clear hKv Kv) | ((first | refine AWp_regro mu_21 ks_21 ro_21 ?_ | refine AWp_regvw mu_21 ks_21 vw_21 ?_ | refine AWp_drawX xd_21 mu_21 ks_21 vw_21 (by decide) ti_mixed (by kernel_rfl) ?_ | refine AWp_regE mu_21 ks_21 ?_ | refine AWp_drawXE xd_21 mu_21 ks_21 vw_21 (by decide) ti_mixed (by kernel_rfl) ?_); intro Kv hKv) | refine AWp_retR ?_) | refine at_A l n hlen hS _ _ ?_ | refine QCall_of (at_A l n hlen hS _ _ (Two_intro _ _)) ?_); try simp (dsimp := false) only [go_sem, Nat.reduceAdd, Nat.reduceBEq, Nat.reduceEqDiff, Nat.reduceLT, Nat.reduceLeDiff, Nat.reduceMul, Int.reduceToNat, reduceCtorEq, ↓reduceIte, Tryd.ntmps21, Tryd.results21, ks_21, mu_21, xd_21, vw_21, ro_21, ti_ag3, ti_ag9, ti_ag57, ti_fl57_0, ti_fl57_1, ti_fl57_2, ti_fl57_3, ti_hb41, ti_pl65, ti_sb55, ti_sl29, ti_sl40, ti_sl55, ti_sz57, ti_zr57, ti_zr65, itD, itV, ndD, ndV, evD, evV, evC, List.length_reverse]) | (refine AWp_condC rfl ?_; intro KA KB hKA hKB; try simp only [onB_true, onB_false, onB_dec, onB_ndec, onB_not, onB_and, onB_or]) | (refine AWp_condA rfl ?_ ?_) | with_reducible (first | refine onB_of ?_ ?_ | rfl) | omega)
  rotate_left
  · rename_i hf
    rw [if_neg hf] at hk
    exact keepFz hk (Fz_tu2 (.nil 3) (.same _)) (by simp [Bel_tu, Bel_d])
  rename_i hf
  obtain ⟨hnf, hn0, hnl⟩ := atFault_ok hf
  obtain ⟨hN, hg⟩ := good_of hnf
  rw [if_pos hf, hf] at hk
  obtain ⟨k, rfl⟩ : ∃ k : Nat, n = k := ⟨n.toNat, by omega⟩
  have hkl : k < l.length := by omega
  simp only [Int.toNat_natCast] at hk
  obtain ⟨x, hx⟩ : ∃ x, l[k]? = some x := ⟨l[k], List.getElem?_eq_getElem hkl⟩
  have hgx := gd_of_get hx
  obtain ⟨b1, b2, b3, b4, b5, b6⟩ := good_bd hg k hkl
  rw [hgx] at b1 b2 b3 b4 b5 b6 hk
  generalize hNe : k + x.sz.toNat + 1 = N at hk
  have hlenE := evF_len (l := l) (N - k) k N (Nat.le_refl _)
  refine AWp_whileH (fun y : Nat × Nat × Nat × List Ev × List Nat => k ≤ y.2.2.1 ∧ stk N y.2.2.1 y.2.2.2.2 ∧ y.2.2.2.1 ++ remE l N y.2.2.1 y.2.2.2.2 = evF l k N ∧ y.2.2.2.2.length ≤ y.2.2.1 - k ∧ org l y.2.2.1 y.2.2.2.2)
    (fun y => [(0, .d (.sl 6 (l.map ndD))), (1, .d (.i .i64 k)), (7, .os H.length y.1), (8, .os (H.length + 1) y.2.1), (9, .d (.i .i64 y.2.2.1))])
    (fun y => [.row y.1 65 3 (y.2.2.2.1.map evC), .row y.2.1 3 1 (y.2.2.2.2.reverse.map natCells)]) (fun y => N - y.2.2.1) (0, 0, k, [], []) ⟨Nat.le_refl _, by show k ≤ N; omega, by simp [remE], by simp, by intro e he; cases he⟩ rfl ?_ ?_ ?_
  · simp (dsimp := false) only [go_sem, Nat.reduceAdd, Nat.reduceBEq, Nat.reduceEqDiff, Nat.reduceLT, Nat.reduceLeDiff, Nat.reduceMul, Int.reduceToNat, reduceCtorEq, ↓reduceIte, Tryd.ntmps21, Tryd.results21, ks_21, mu_21, xd_21, vw_21, ro_21, ti_ag3, ti_ag9, ti_ag57, ti_fl57_0, ti_fl57_1, ti_fl57_2, ti_fl57_3, ti_hb41, ti_pl65, ti_sb55, ti_sl29, ti_sl40, ti_sl55, ti_sz57, ti_zr57, ti_zr65, itD, itV, ndD, ndV, evD, evV, evC, List.length_reverse]
    simp
  · rintro ⟨v1, v2, i, out, st⟩ _ ob hob
    simp only [List.mem_cons, List.not_mem_nil, or_false] at hob
    rcases hob with rfl | rfl
    · exact obBel_ev _ _ _ _ _
    · exact obBel_nat _ _ _ _ _
  rintro ⟨v1, v2, i, out, st⟩ ⟨i1, i2, i3, i4, i5⟩
  simp only [] at i1 i2 i3 i4 i5 ⊢
  
  repeat' (first | with_reducible (first | refine And.intro ?_ ?_ | intro _ | refine AWp_seq ?_ | refine AWp_block ?_ | (refine hKv _ _ (AWp_nop ?_); clear hKv Kv) | (refine hKA ?_; clear hKA hKB KA KB) | (refine hKB ?_; clear hKA hKB KA KB) | refine AWp_skipN ?_ | refine AWp_exitO (by repeat (first | exact Out.hit | apply Out.thenA | apply Out.out rfl)) ?_) | (with_reducible (first | (refine hKv _ _ ?_; clear hKv Kv) | ((first | refine AWp_regro mu_21 ks_21 ro_21 ?_ | refine AWp_regvw mu_21 ks_21 vw_21 ?_ | refine AWp_drawX xd_21 mu_21 ks_21 vw_21 (by decide) ti_mixed (by kernel_rfl) ?_ | refine AWp_regE mu_21 ks_21 ?_ | refine AWp_drawXE xd_21 mu_21 ks_21 vw_21 (by decide) ti_mixed (by kernel_rfl) ?_); intro Kv hKv) | refine AWp_retR ?_); try simp (dsimp := false) only [go_sem, Nat.reduceAdd, Nat.reduceBEq, Nat.reduceEqDiff, Nat.reduceLT, Nat.reduceLeDiff, Nat.reduceMul, Int.reduceToNat, reduceCtorEq, ↓reduceIte, Tryd.ntmps21, Tryd.results21, ks_21, mu_21, xd_21, vw_21, ro_21, ti_ag3, ti_ag9, ti_ag57, ti_fl57_0, ti_fl57_1, ti_fl57_2, ti_fl57_3, ti_hb41, ti_pl65, ti_sb55, ti_sl29, ti_sl40, ti_sl55, ti_sz57, ti_zr57, ti_zr65, itD, itV, ndD, ndV, evD, evV, evC, List.length_reverse, hx]) | (refine AWp_condC rfl ?_; intro KA KB hKA hKB; try simp only [onB_true, onB_false, onB_dec, onB_ndec, onB_not, onB_and, onB_or]) | (refine AWp_condA rfl ?_ ?_) | with_reducible (first | refine onB_of ?_ ?_ | rfl) | omega)
  · rename_i hi
    have hin : i < N := by omega
    have hil : i < l.length := by omega
    obtain ⟨y, hy⟩ : ∃ y, l[i]? = some y := ⟨l[i], List.getElem?_eq_getElem hil⟩
    have hgy := gd_of_get hy
    obtain ⟨c1, c2, c3, c4, c5, c6⟩ := good_bd hg i hil
    rw [hgy] at c1 c2 c3 c4 c5 c6
    refine AWp_whileH (fun z : Nat × Nat × List Ev × List Nat => stk N i z.2.2.2 ∧ z.2.2.1 ++ remE l N i z.2.2.2 = evF l k N ∧ z.2.2.2.length ≤ i - k ∧ org l i z.2.2.2)
      (fun z => [(0, .d (.sl 6 (l.map ndD))), (1, .d (.i .i64 k)), (7, .os H.length z.1), (8, .os (H.length + 1) z.2.1), (9, .d (.i .i64 i))])
      (fun z => [.row z.1 65 3 (z.2.2.1.map evC), .row z.2.1 3 1 (z.2.2.2.reverse.map natCells)]) (fun z => z.2.2.2.length) (v1, v2, out, st) ⟨i2, i3, i4, i5⟩ rfl ?_ ?_ ?_
    · simp (dsimp := false) only [go_sem, Nat.reduceAdd, Nat.reduceBEq, Nat.reduceEqDiff, Nat.reduceLT, Nat.reduceLeDiff, Nat.reduceMul, Int.reduceToNat, reduceCtorEq, ↓reduceIte, Tryd.ntmps21, Tryd.results21, ks_21, mu_21, xd_21, vw_21, ro_21, ti_ag3, ti_ag9, ti_ag57, ti_fl57_0, ti_fl57_1, ti_fl57_2, ti_fl57_3, ti_hb41, ti_pl65, ti_sb55, ti_sl29, ti_sl40, ti_sl55, ti_sz57, ti_zr57, ti_zr65, itD, itV, ndD, ndV, evD, evV, evC, List.length_reverse, hx]
      simp
    · rintro ⟨v1, v2, out, st⟩ _ ob hob
      simp only [List.mem_cons, List.not_mem_nil, or_false] at hob
      rcases hob with rfl | rfl
      · exact obBel_ev _ _ _ _ _
      · exact obBel_nat _ _ _ _ _
    clear i2 i3 i4 i5
    rintro ⟨v1, v2, out, st⟩ ⟨i2, i3, i4, i5⟩
    simp only [] at i2 i3 i4 i5 ⊢
    have hol : out.length ≤ 400000 := by
      have := congrArg List.length i3
      rw [List.length_append] at this
      omega
    have hfin : i < topN N st → ∀ (u1 u2 : Nat), y.k = 6 → (k ≤ i + 1 ∧ stk N (i + 1) st ∧ out ++ remE l N (i + 1) st = evF l k N ∧ st.length ≤ i + 1 - k ∧ org l (i + 1) st) := fun ht u1 u2 h6 => by
      refine ⟨by omega, ?_, ?_, by omega, i5.mono⟩
      · cases st with
        | nil => exact ht
        | cons e r => exact ⟨ht, i2.2⟩
      · rw [← remE_doc ht (by rw [hgy]; exact h6)]
        exact i3
    have hleaf : i < topN N st → y.k ≠ 6 → y.k ≠ 1 → (k ≤ i + 1 ∧ stk N (i + 1) st ∧ (out ++ [evN y]) ++ remE l N (i + 1) st = evF l k N ∧ st.length ≤ i + 1 - k ∧ org l (i + 1) st) := fun ht h6 h1 => by
      refine ⟨by omega, ?_, ?_, by omega, i5.mono⟩
      · cases st with
        | nil => exact ht
        | cons e r => exact ⟨ht, i2.2⟩
      · rw [List.append_assoc, List.singleton_append, ← hgy, ← remE_leaf ht (by rw [hgy]; exact h6) (by rw [hgy]; exact h1)]
        exact i3
    have helem : i < topN N st → y.k = 1 → (k ≤ i + 1 ∧ stk N (i + 1) ((i + y.sz.toNat) :: st) ∧ (out ++ [evN y]) ++ remE l N (i + 1) ((i + y.sz.toNat) :: st) = evF l k N ∧ ((i + y.sz.toNat) :: st).length ≤ i + 1 - k ∧ org l (i + 1) ((i + y.sz.toNat) :: st)) := fun ht h1 => by
      have hz : i + y.sz.toNat < topN N st := by
        cases st with
        | nil =>
          show i + y.sz.toNat < N
          by_cases hik : i = k
          · subst hik
            rw [hx] at hy
            cases hy
            omega
          · have := (nest hg i k (by omega) hil (by rw [hgx]; omega)).2
            rw [hgx, hgy] at this
            omega
        | cons e r =>
          show i + y.sz.toNat < e + 1
          have ht' : i < e + 1 := ht
          obtain ⟨j, j1, j2⟩ := i5 e (by simp)
          obtain ⟨_, _, d3, _⟩ := good_bd hg j (by omega)
          have := (nest hg i j j1 hil (by omega)).2
          rw [hgy] at this
          omega
      refine ⟨by omega, ⟨by omega, ?_⟩, ?_, by simp only [List.length_cons]; omega, i5.push (by rw [hgy])⟩
      · cases st with
        | nil => exact hz
        | cons e r => exact ⟨hz, i2.2⟩
      · rw [List.append_assoc, List.singleton_append, ← hgy, ← remE_elem ht (by rw [hgy]; exact h1) (by rw [hgy]; exact hz)]
        exact i3
    have hst : st = [] ∨ ∃ e r, st = e :: r := by cases st with | nil => exact .inl rfl | cons e r => exact .inr ⟨e, r, rfl⟩
    rcases hst with hst | ⟨e, r, hst⟩
    · have hz : st.length = 0 := by rw [hst]; rfl
      have ht : i < topN N st := by rw [hst]; exact hin
      
      repeat' (first | with_reducible (first | refine And.intro ?_ ?_ | intro _ | refine AWp_seq ?_ | refine AWp_block ?_ | (refine hKv _ _ (AWp_nop ?_); clear hKv Kv) | (refine hKA ?_; clear hKA hKB KA KB) | (refine hKB ?_; clear hKA hKB KA KB) | refine AWp_skipN ?_ | refine AWp_exitO (by repeat (first | exact Out.hit | apply Out.thenA | apply Out.out rfl)) ?_) | (with_reducible (first | (refine hKv _ _ ?_; clear hKv Kv) | ((first | refine AWp_regro mu_21 ks_21 ro_21 ?_ | refine AWp_regvw mu_21 ks_21 vw_21 ?_ | refine AWp_drawX xd_21 mu_21 ks_21 vw_21 (by decide) ti_mixed (by kernel_rfl) ?_ | refine AWp_regE mu_21 ks_21 ?_ | refine AWp_drawXE xd_21 mu_21 ks_21 vw_21 (by decide) ti_mixed (by kernel_rfl) ?_); intro Kv hKv) | refine AWp_retR ?_); try simp (dsimp := false) only [go_sem, Nat.reduceAdd, Nat.reduceBEq, Nat.reduceEqDiff, Nat.reduceLT, Nat.reduceLeDiff, Nat.reduceMul, Int.reduceToNat, reduceCtorEq, ↓reduceIte, Tryd.ntmps21, Tryd.results21, ks_21, mu_21, xd_21, vw_21, ro_21, ti_ag3, ti_ag9, ti_ag57, ti_fl57_0, ti_fl57_1, ti_fl57_2, ti_fl57_3, ti_hb41, ti_pl65, ti_sb55, ti_sl29, ti_sl40, ti_sl55, ti_sz57, ti_zr57, ti_zr65, itD, itV, ndD, ndV, evD, evV, evC, List.length_reverse, natCells, hx, hy, hz]) | (refine AWp_condC rfl ?_; intro KA KB hKA hKB; try simp only [onB_true, onB_false, onB_dec, onB_ndec, onB_not, onB_and, onB_or]) | (refine AWp_condA rfl ?_ ?_) | with_reducible (first | refine onB_of ?_ ?_ | rfl) | omega)
      · refine closed_app fun ob hob => ?_
        simp only [List.mem_cons, List.not_mem_nil, or_false] at hob
        rcases hob with rfl | rfl
        · exact obBel_ev _ _ _ _ _
        · exact obBel_nat _ _ _ _ _
      · rename_i _ h6
        exact ⟨(v1, v2, i + 1, out, st), hfin ht 0 0 h6, by show N - (i + 1) < N - i; omega, rfl, rfl, by omega, rfl, by omega, by simp⟩
      · rename_i _ h6 h1
        exact ⟨(v1 + 1, v2 + 1, i + 1, out ++ [evN y], (i + y.sz.toNat) :: st), helem ht h1, by show N - (i + 1) < N - i; omega, by simp [natCells, evN, evC]; omega, rfl, by omega, rfl, by omega, by simp⟩
      · rename_i _ h6 h1
        exact ⟨(v1 + 1, v2, i + 1, out ++ [evN y], st), hleaf ht h6 h1, by show N - (i + 1) < N - i; omega, by simp [evN, evC], rfl, by omega, rfl, by omega, by simp⟩
    · have hz : 0 < (st.length : Int) := by rw [hst]; simp only [List.length_cons]; omega
      have htop := nat_top hst
      
      repeat' (first | with_reducible (first | refine And.intro ?_ ?_ | intro _ | refine AWp_seq ?_ | refine AWp_block ?_ | (refine hKv _ _ (AWp_nop ?_); clear hKv Kv) | (refine hKA ?_; clear hKA hKB KA KB) | (refine hKB ?_; clear hKA hKB KA KB) | refine AWp_skipN ?_ | refine AWp_exitO (by repeat (first | exact Out.hit | apply Out.thenA | apply Out.out rfl)) ?_) | (with_reducible (first | (refine hKv _ _ ?_; clear hKv Kv) | ((first | refine AWp_regro mu_21 ks_21 ro_21 ?_ | refine AWp_regvw mu_21 ks_21 vw_21 ?_ | refine AWp_drawX xd_21 mu_21 ks_21 vw_21 (by decide) ti_mixed (by kernel_rfl) ?_ | refine AWp_regE mu_21 ks_21 ?_ | refine AWp_drawXE xd_21 mu_21 ks_21 vw_21 (by decide) ti_mixed (by kernel_rfl) ?_); intro Kv hKv) | refine AWp_retR ?_); try simp (dsimp := false) only [go_sem, Nat.reduceAdd, Nat.reduceBEq, Nat.reduceEqDiff, Nat.reduceLT, Nat.reduceLeDiff, Nat.reduceMul, Int.reduceToNat, reduceCtorEq, ↓reduceIte, Tryd.ntmps21, Tryd.results21, ks_21, mu_21, xd_21, vw_21, ro_21, ti_ag3, ti_ag9, ti_ag57, ti_fl57_0, ti_fl57_1, ti_fl57_2, ti_fl57_3, ti_hb41, ti_pl65, ti_sb55, ti_sl29, ti_sl40, ti_sl55, ti_sz57, ti_zr57, ti_zr65, itD, itV, ndD, ndV, evD, evV, evC, List.length_reverse, natCells, hx, hy, hz, htop]) | (refine AWp_condC rfl ?_; intro KA KB hKA hKB; try simp only [onB_true, onB_false, onB_dec, onB_ndec, onB_not, onB_and, onB_or]) | (refine AWp_condA rfl ?_ ?_) | with_reducible (first | refine onB_of ?_ ?_ | rfl) | omega)
      · rename_i hei
        obtain ⟨p1, p2⟩ := remE_pop (l := l) (N := N) (i := i) (e := e) (r := r) (by omega) (by rw [← hst]; exact i2)
        refine ⟨(v1 + 1, v2 + 1, out ++ [evE], r), ⟨?_, ?_, ?_, ?_⟩, ?_, ?_, rfl, by omega, rfl, by omega⟩
        · rw [hst] at i2
          exact stk_mono i2.2 (by omega)
        · rw [hst, p2] at i3
          rw [List.append_assoc]
          exact i3
        · rw [hst] at i4
          simp only [List.length_cons] at i4
          show r.length ≤ i - k
          omega
        · intro e' he'
          exact i5 e' (by rw [hst]; simp [he'])
        · show r.length < st.length
          rw [hst]; simp
        · rw [nat_take hst]
          simp [evE, evC]
      · refine closed_app fun ob hob => ?_
        simp only [List.mem_cons, List.not_mem_nil, or_false] at hob
        rcases hob with rfl | rfl
        · exact obBel_ev _ _ _ _ _
        · exact obBel_nat _ _ _ _ _
      · rename_i hei h6
        have ht : i < topN N st := by rw [hst]; show i < e + 1; omega
        exact ⟨(v1, v2, i + 1, out, st), hfin ht 0 0 h6, by show N - (i + 1) < N - i; omega, rfl, rfl, by omega, rfl, by omega, by simp⟩
      · rename_i hei h6 h1
        have ht : i < topN N st := by rw [hst]; show i < e + 1; omega
        exact ⟨(v1 + 1, v2 + 1, i + 1, out ++ [evN y], (i + y.sz.toNat) :: st), helem ht h1, by show N - (i + 1) < N - i; omega, by simp [natCells, evN, evC]; omega, rfl, by omega, rfl, by omega, by simp⟩
      · rename_i hei h6 h1
        have ht : i < topN N st := by rw [hst]; show i < e + 1; omega
        exact ⟨(v1 + 1, v2, i + 1, out ++ [evN y], st), hleaf ht h6 h1, by show N - (i + 1) < N - i; omega, by simp [evN, evC], rfl, by omega, rfl, by omega, by simp⟩
  · rename_i hi
    have hii := stk_le i2
    have e : i = N := by omega
    subst e
    rw [stk_top i2 (Nat.le_refl _)] at i3
    have hol : out.length + st.length ≤ 400000 := by
      have := congrArg List.length i3
      rw [List.length_append, List.length_replicate] at this
      omega
    
    refine AWp_whileH (fun z : Nat × Nat => z.2 ≤ st.length) (fun z => [(7, .os H.length z.1), (79, .d (.i .i64 st.length)), (80, .d (.i .i64 z.2))])
      (fun z => [.row z.1 65 3 ((out ++ List.replicate z.2 evE).map evC), .row v2 3 1 (st.reverse.map natCells)]) (fun z => st.length - z.2) (v1, 0) (Nat.zero_le _) ?_ ?_ ?_ ?_
    · simp
    · simp (dsimp := false) only [go_sem, Nat.reduceAdd, Nat.reduceBEq, Nat.reduceEqDiff, Nat.reduceLT, Nat.reduceLeDiff, Nat.reduceMul, Int.reduceToNat, reduceCtorEq, ↓reduceIte, Tryd.ntmps21, Tryd.results21, ks_21, mu_21, xd_21, vw_21, ro_21, ti_ag3, ti_ag9, ti_ag57, ti_fl57_0, ti_fl57_1, ti_fl57_2, ti_fl57_3, ti_hb41, ti_pl65, ti_sb55, ti_sl29, ti_sl40, ti_sl55, ti_sz57, ti_zr57, ti_zr65, itD, itV, ndD, ndV, evD, evV, evC, List.length_reverse]
      simp
    · rintro ⟨v1, j⟩ _ ob hob
      simp only [List.mem_cons, List.not_mem_nil, or_false] at hob
      rcases hob with rfl | rfl
      · exact obBel_ev _ _ _ _ _
      · exact obBel_nat _ _ _ _ _
    rintro ⟨v1, j⟩ hj
    simp only [] at hj ⊢
    have hol2 : (out ++ List.replicate j evE).length ≤ 400000 := by simp; omega
    repeat' (first | with_reducible (first | refine And.intro ?_ ?_ | intro _ | refine AWp_seq ?_ | refine AWp_block ?_ | (refine hKv _ _ (AWp_nop ?_); clear hKv Kv) | (refine hKA ?_; clear hKA hKB KA KB) | (refine hKB ?_; clear hKA hKB KA KB) | refine AWp_skipN ?_ | refine AWp_exitO (by repeat (first | exact Out.hit | apply Out.thenA | apply Out.out rfl)) ?_) | (with_reducible (first | (refine hKv _ _ ?_; clear hKv Kv) | ((first | refine AWp_regro mu_21 ks_21 ro_21 ?_ | refine AWp_regvw mu_21 ks_21 vw_21 ?_ | refine AWp_drawX xd_21 mu_21 ks_21 vw_21 (by decide) ti_mixed (by kernel_rfl) ?_ | refine AWp_regE mu_21 ks_21 ?_ | refine AWp_drawXE xd_21 mu_21 ks_21 vw_21 (by decide) ti_mixed (by kernel_rfl) ?_); intro Kv hKv) | refine AWp_retR ?_); try simp (dsimp := false) only [go_sem, Nat.reduceAdd, Nat.reduceBEq, Nat.reduceEqDiff, Nat.reduceLT, Nat.reduceLeDiff, Nat.reduceMul, Int.reduceToNat, reduceCtorEq, ↓reduceIte, Tryd.ntmps21, Tryd.results21, ks_21, mu_21, xd_21, vw_21, ro_21, ti_ag3, ti_ag9, ti_ag57, ti_fl57_0, ti_fl57_1, ti_fl57_2, ti_fl57_3, ti_hb41, ti_pl65, ti_sb55, ti_sl29, ti_sl40, ti_sl55, ti_sz57, ti_zr57, ti_zr65, itD, itV, ndD, ndV, evD, evV, evC, List.length_reverse]) | (refine AWp_condC rfl ?_; intro KA KB hKA hKB; try simp only [onB_true, onB_false, onB_dec, onB_ndec, onB_not, onB_and, onB_or]) | (refine AWp_condA rfl ?_ ?_) | with_reducible (first | refine onB_of ?_ ?_ | rfl) | omega)
    · rw [List.length_replicate]; omega
    · rw [List.length_replicate]; omega
    · refine ⟨(v1 + 1, j + 1), by show j + 1 ≤ st.length; omega, by show st.length - (j + 1) < st.length - j; omega, ?_, rfl, by omega, by simp⟩
      rw [List.replicate_succ', ← List.append_assoc]
      simp [evE, evC]
    · have e : j = st.length := by omega
      subst e
      rw [i3]
      exact dropF hk (Fz_tu2 (.os _ _ 65 3 _ _ (by omega) (get_app0 _ _) (evs_data _)) (.same _)) (by simp [Bel_tu, Bel_d])
/- the live slots of pleacher/pleacherref.eventsAt -/
def ks_43 : Nat → List Nat
  | 0 => [0, 1]
  | 1 => [0, 1, 5]
  | 2 => [0, 1, 5, 12]
  | 3 => [0, 1, 5]
  | 4 => [0, 1, 5, 6]
  | 5 => [0, 1, 5, 6, 42]
  | 6 => [0, 1, 5, 6]
  | 7 => [0, 1, 5, 6, 51]
  | 8 => [0, 1, 5, 6]
  | 9 => [5, 62]
  | 10 => [5]
  | 11 => [4]
  | _ => []
def mu_43 : List Nat := [5]
def in_43 : List Nat := [0, 1]
def nd_43 : Nat → Nat
  | 3 => 18
  | _ => 0
theorem eventsAt_A (l : List Nd) (hN : l.length ≤ 100000) (hg : Good l l.length) : ∀ (m n : Nat), l.length - n ≤ m → n < l.length → ∀ (H : Heap) (K : V → Heap → Prop)
    (hk : K (.d (.sl 3 ((evF l n (n + (gd l n).sz.toNat + 1)).map evD))) H),
    ACalls Tryd.prog 43 [.d (.sl 6 (l.map ndD)), .d (.i .i64 n)] H K := by
  intro m
  induction m with
  | zero => intro n h1 h2; omega
  | succ m ih =>
  intro n h1 h2 H K hk
  obtain ⟨x, hx⟩ : ∃ x, l[n]? = some x := ⟨l[n], List.getElem?_eq_getElem h2⟩
  have hgx := gd_of_get hx
  obtain ⟨b1, b2, b3, b4, b5, b6⟩ := good_bd hg n h2
  rw [hgx] at b1 b2 b3 b4 b5 b6 hk
  
  refine ACalls_of Tryd.func43 rfl in_43 (Nat.le_of_ble_eq_true rfl) ?_
  intro F hF
  simp (dsimp := false) only [go_sem, Nat.reduceAdd, Nat.reduceBEq, Nat.reduceEqDiff, Nat.reduceLT, Nat.reduceLeDiff, Nat.reduceMul, Int.reduceToNat, reduceCtorEq, ↓reduceIte, Tryd.ntmps43, Tryd.results43, ks_43, mu_43, nd_43, ti_ag3, ti_ag9, ti_fl57_0, ti_fl57_1, ti_fl57_2, ti_fl57_3, ti_fl57_5, ti_hb43, ti_pl65, ti_sl29, ti_sl40, ti_zr65, itD, itV, ndD, ndV, evD, evV, evC, hx, in_43] at hF
  subst hF
  repeat' (first | with_reducible (first | refine And.intro ?_ ?_ | intro _ | refine AWp_seq ?_ | refine AWp_block ?_ | (refine hKv _ _ (AWp_nop ?_); clear hKv Kv) | (refine hKA ?_; clear hKA hKB KA KB) | (refine hKB ?_; clear hKA hKB KA KB) | refine AWp_skipN ?_ | refine AWp_exitO (by repeat (first | exact Out.hit | apply Out.thenA | apply Out.out rfl)) ?_) | (with_reducible (first | (refine hKv _ _ ?_; clear hKv Kv) | ((first | refine AWp_regC mu_43 ks_43 ?_ | refine AWp_draw nd_43 mu_43 ks_43 ti_mixed (by kernel_rfl) ?_ | refine AWp_regE mu_43 ks_43 ?_ | refine AWp_drawE nd_43 mu_43 ks_43 ti_mixed (by kernel_rfl) ?_); intro Kv hKv) | refine AWp_retR ?_); try simp (dsimp := false) only [go_sem, Nat.reduceAdd, Nat.reduceBEq, Nat.reduceEqDiff, Nat.reduceLT, Nat.reduceLeDiff, Nat.reduceMul, Int.reduceToNat, reduceCtorEq, ↓reduceIte, Tryd.ntmps43, Tryd.results43, ks_43, mu_43, nd_43, ti_ag3, ti_ag9, ti_fl57_0, ti_fl57_1, ti_fl57_2, ti_fl57_3, ti_fl57_5, ti_hb43, ti_pl65, ti_sl29, ti_sl40, ti_zr65, itD, itV, ndD, ndV, evD, evV, evC, hx]) | (refine AWp_condC rfl ?_; intro KA KB hKA hKB; try simp only [onB_true, onB_false, onB_dec, onB_ndec, onB_not, onB_and, onB_or]) | (refine AWp_condA rfl ?_ ?_) | with_reducible (first | refine onB_of ?_ ?_ | rfl) | omega)
  all_goals
    rename_i h6
    generalize hNe : n + x.sz.toNat + 1 = N at hk
    have hlenE := evF_len (l := l) (N - (n + 1)) (n + 1) N (Nat.le_refl _)
    generalize hE0 : (if x.k = 6 then [] else [evN x]) = E0
    have hE0l : E0.length ≤ 1 := by subst hE0; split <;> simp
    refine AWp_whileH (fun y : Nat × Nat × Nat × List Ev => n < y.2.1 ∧ y.2.1 ≤ y.2.2.1 ∧ y.2.2.1 ≤ N ∧ (y.2.2.1 < N → (gd l y.2.2.1).up = n) ∧ (∀ m, y.2.1 ≤ m → m < y.2.2.1 → (gd l m).up ≠ n) ∧ y.2.2.2 ++ evF l y.2.2.1 N = E0 ++ evF l (n + 1) N)
      (fun y => [(0, .d (.sl 6 (l.map ndD))), (1, .d (.i .i64 n)), (5, .os H.length y.1), (6, .d (.i .i64 y.2.1))])
      (fun y => [.row y.1 65 3 (y.2.2.2.map evC)]) (fun y => N - y.2.1) (if x.k = 6 then 0 else 1, n + 1, n + 1, E0)
      ⟨Nat.lt_succ_self _, Nat.le_refl _, by show n + 1 ≤ N; omega, fun hlt => first_up hg (by rw [hgx]; have : n + 1 < N := hlt; omega) (by have : n + 1 < N := hlt; omega), fun m q1 q2 => by have : n + 1 ≤ m := q1; have : m < n + 1 := q2; omega, rfl⟩ ?_ ?_ ?_ ?_
    · subst hE0
      simp [h6, evN, evC]
    · simp (dsimp := false) only [go_sem, Nat.reduceAdd, Nat.reduceBEq, Nat.reduceEqDiff, Nat.reduceLT, Nat.reduceLeDiff, Nat.reduceMul, Int.reduceToNat, reduceCtorEq, ↓reduceIte, Tryd.ntmps43, Tryd.results43, ks_43, mu_43, nd_43, ti_ag3, ti_ag9, ti_fl57_0, ti_fl57_1, ti_fl57_2, ti_fl57_3, ti_fl57_5, ti_hb43, ti_pl65, ti_sl29, ti_sl40, ti_zr65, itD, itV, ndD, ndV, evD, evV, evC, hx]
      simp [h6]
    · rintro ⟨v, i, a, out⟩ _ ob hob
      simp only [List.mem_cons, List.not_mem_nil, or_false] at hob
      rcases hob with rfl
      exact obBel_ev _ _ _ _ _
    rintro ⟨v, i, a, out⟩ ⟨i1, i2, i3, i4, i5, i6⟩
    simp only [] at i1 i2 i3 i4 i5 i6 ⊢
    have hol : out.length ≤ 400000 := by
      have := congrArg List.length i6
      rw [List.length_append, List.length_append] at this
      omega
    by_cases hiN : i < N
    · have hil : i < l.length := by omega
      obtain ⟨y, hy⟩ : ∃ y, l[i]? = some y := ⟨l[i], List.getElem?_eq_getElem hil⟩
      have hgy := gd_of_get hy
      obtain ⟨c1, c2, c3, c4, c5, c6⟩ := good_bd hg i hil
      rw [hgy] at c1 c2 c3 c4 c5 c6
      have hl1 := evF_len (l := l) (y.sz.toNat + 1) i (i + y.sz.toNat + 1) (by omega)
      have hrec : ∀ (H : Heap) (K : V → Heap → Prop), K (.d (.sl 3 ((evF l i (i + y.sz.toNat + 1)).map evD))) H → ACalls Tryd.prog 43 [.d (.sl 6 (l.map ndD)), .d (.i .i64 i)] H K := fun H K h => ih i (by omega) hil H K (by rw [hgy]; exact h)
      
      repeat' (first | with_reducible (first | refine And.intro ?_ ?_ | intro _ | refine AWp_seq ?_ | refine AWp_block ?_ | (refine hKv _ _ (AWp_nop ?_); clear hKv Kv) | (refine hKA ?_; clear hKA hKB KA KB) | (refine hKB ?_; clear hKA hKB KA KB) | refine AWp_skipN ?_ | refine AWp_exitO (by repeat (first | exact Out.hit | apply Out.thenA | apply Out.out rfl)) ?_) | ((first | with_reducible (first | (refine hKv _ _ ?_; clear hKv Kv) | ((first | refine AWp_regC mu_43 ks_43 ?_ | refine AWp_draw nd_43 mu_43 ks_43 ti_mixed (by kernel_rfl) ?_ | refine AWp_regE mu_43 ks_43 ?_ | refine AWp_drawE nd_43 mu_43 ks_43 ti_mixed (by kernel_rfl) ?_); intro Kv hKv) | refine AWp_retR ?_) | refine hrec _ _ ?_ | refine QCall_of (hrec _ _ (Two_intro _ _)) ?_); try simp (dsimp := false) only [go_sem, Nat.reduceAdd, Nat.reduceBEq, Nat.reduceEqDiff, Nat.reduceLT, Nat.reduceLeDiff, Nat.reduceMul, Int.reduceToNat, reduceCtorEq, ↓reduceIte, Tryd.ntmps43, Tryd.results43, ks_43, mu_43, nd_43, ti_ag3, ti_ag9, ti_fl57_0, ti_fl57_1, ti_fl57_2, ti_fl57_3, ti_fl57_5, ti_hb43, ti_pl65, ti_sl29, ti_sl40, ti_zr65, itD, itV, ndD, ndV, evD, evV, evC, hx, hy]) | (refine AWp_condC rfl ?_; intro KA KB hKA hKB; try simp only [onB_true, onB_false, onB_dec, onB_ndec, onB_not, onB_and, onB_or]) | (refine AWp_condA rfl ?_ ?_) | with_reducible (first | refine onB_of ?_ ?_ | rfl) | omega)
      · rename_i q1 hyn
        have hai : i = a := by
          rcases Nat.lt_or_ge i a with h | h
          · have := i5 i (Nat.le_refl _) h
            rw [hgy] at this
            exact absurd hyn this
          · omega
        subst hai
        have hnx := nest hg i n (by omega) hil (by rw [hgx]; omega)
        rw [hgx, hgy] at hnx
        have h6c : (gd l i).k ≠ 6 := fun h => by
          have := (okAt_kind (hg i hil)).2 h
          rw [hgy] at this
          omega
        have hsp := evF_child hg hil h6c (b := N) (by rw [hgy]; omega)
        rw [hgy] at hsp
        refine ⟨(v + 1, i + 1, i + y.sz.toNat + 1, out ++ evF l i (i + y.sz.toNat + 1)), ⟨by show n < i + 1; omega, by show i + 1 ≤ i + y.sz.toNat + 1; omega, by show i + y.sz.toNat + 1 ≤ N; omega, fun hlt => ?_, fun m q1 q2 => ?_, ?_⟩, by show N - (i + 1) < N - i; omega, ?_, rfl, by omega, by simp⟩
        · have hlt : i + y.sz.toNat + 1 < N := hlt
          have := next_up hg (n := n) (a := i) (by omega) (by rw [hgy]; exact hyn) (by rw [hgy]; omega) (by rw [hgx, hgy]; omega) (by rw [hgy]; omega)
          rw [hgy] at this
          exact this
        · have q1 : i + 1 ≤ m := q1
          have q2 : m < i + y.sz.toNat + 1 := q2
          have := (nest hg m i (by omega) (by omega) (by rw [hgy]; omega)).1
          omega
        · show (out ++ evF l i (i + y.sz.toNat + 1)) ++ evF l (i + y.sz.toNat + 1) N = E0 ++ evF l (n + 1) N
          rw [List.append_assoc, ← hsp]
          exact i6
        · simp [evC, evD]
      · rename_i q1 hyn
        have hia : i < a := by
          rcases Nat.lt_or_ge i a with h | h
          · exact h
          · have e : i = a := by omega
            subst e
            have := i4 hiN
            rw [hgy] at this
            exact absurd this hyn
        exact ⟨(v, i + 1, a, out), ⟨by show n < i + 1; omega, by show i + 1 ≤ a; omega, i3, i4, fun m q1 q2 => i5 m (by have : i + 1 ≤ m := q1; omega) q2, i6⟩, by show N - (i + 1) < N - i; omega, rfl, rfl, by omega, by simp⟩
    · 
      repeat' (first | with_reducible (first | refine And.intro ?_ ?_ | intro _ | refine AWp_seq ?_ | refine AWp_block ?_ | (refine hKv _ _ (AWp_nop ?_); clear hKv Kv) | (refine hKA ?_; clear hKA hKB KA KB) | (refine hKB ?_; clear hKA hKB KA KB) | refine AWp_skipN ?_ | refine AWp_exitO (by repeat (first | exact Out.hit | apply Out.thenA | apply Out.out rfl)) ?_) | (with_reducible (first | (refine hKv _ _ ?_; clear hKv Kv) | ((first | refine AWp_regC mu_43 ks_43 ?_ | refine AWp_draw nd_43 mu_43 ks_43 ti_mixed (by kernel_rfl) ?_ | refine AWp_regE mu_43 ks_43 ?_ | refine AWp_drawE nd_43 mu_43 ks_43 ti_mixed (by kernel_rfl) ?_); intro Kv hKv) | refine AWp_retR ?_); try simp (dsimp := false) only [go_sem, Nat.reduceAdd, Nat.reduceBEq, Nat.reduceEqDiff, Nat.reduceLT, Nat.reduceLeDiff, Nat.reduceMul, Int.reduceToNat, reduceCtorEq, ↓reduceIte, Tryd.ntmps43, Tryd.results43, ks_43, mu_43, nd_43, ti_ag3, ti_ag9, ti_fl57_0, ti_fl57_1, ti_fl57_2, ti_fl57_3, ti_fl57_5, ti_hb43, ti_pl65, ti_sl29, ti_sl40, ti_zr65, itD, itV, ndD, ndV, evD, evV, evC, hx]) | (refine AWp_condC rfl ?_; intro KA KB hKA hKB; try simp only [onB_true, onB_false, onB_dec, onB_ndec, onB_not, onB_and, onB_or]) | (refine AWp_condA rfl ?_ ?_) | with_reducible (first | refine onB_of ?_ ?_ | rfl) | omega)
      all_goals
        rename_i q1 hk1
        have e1 : i = N := by omega
        subst e1
        have e2 : a = i := by omega
        subst e2
        rw [evF_end (Nat.le_refl _), List.append_nil] at i6
        rw [evF, dif_pos (by omega), hgx] at hk
      all_goals first
        | (have hk2 : ¬ x.k = 1 := hk1
           have ho : out = (if x.k = 6 then evF l (n + 1) a else evN x :: evF l (n + 1) a) := by rw [i6, ← hE0]; split <;> simp
           rw [if_neg hk2, ← ho] at hk
           exact dropF hk (.os _ _ 65 3 _ _ (by omega) (get_app0 _ _) (evs_data _)) (Bel_d _ _ ▸ trivial))
        | (have hk2 : x.k = 1 := hk1
           have h6' : ¬ x.k = 6 := by omega
           rw [if_neg h6', if_pos hk2, Nat.min_eq_left (by omega), evF_end (l := l) (a := n + 1 + x.sz.toNat) (b := a) (by omega)] at hk
           have ho : evN x :: (evF l (n + 1) a ++ evE :: []) = out ++ [evE] := by rw [i6, ← hE0, if_neg h6']; simp
           rw [ho] at hk
           refine dropF hk (.os _ _ 65 3 _ ((out ++ [evE]).map evD) (by omega) (get_app0 _ _) ?_) (Bel_d _ _ ▸ trivial)
           rw [← evs_data]
           simp [evC, evE])

/- the live slots of pleacher/pleacherref.EventsAt -/
def ks_22 : Nat → List Nat
  | 0 => [0, 1]
  | 1 => [0, 1, 6]
  | 2 => [0, 1, 6, 11]
  | 3 => [4, 5]
  | 4 => [4, 5]
  | _ => []
def mu_22 : List Nat := []
def in_22 : List Nat := [0, 1]
theorem refEventsAt_A (l : List Nd) (n : Int) (hlen : l.length ≤ 9223372036854775807) (hS : Short l) (H : Heap) (K : V → Heap → Prop)
    (hk : K (.tu [.d (.sl 3 ((if atFault l n = 0 then evF l n.toNat (n.toNat + (gd l n).sz.toNat + 1) else []).map evD)), .d (.i .i64 (atFault l n))]) H) :
    ACalls Tryd.prog 22 [.d (.sl 6 (l.map ndD)), .d (.i .i64 n)] H K := by
  have hrec : atFault l n = 0 → ∀ (H : Heap) (K : V → Heap → Prop), K (.d (.sl 3 ((evF l n.toNat (n.toNat + (gd l n).sz.toNat + 1)).map evD))) H → ACalls Tryd.prog 43 [.d (.sl 6 (l.map ndD)), .d (.i .i64 n)] H K := fun hf H K h => by
    obtain ⟨hnf, hn0, hnl⟩ := atFault_ok hf
    obtain ⟨hN, hg⟩ := good_of hnf
    obtain ⟨k, rfl⟩ : ∃ k : Nat, n = k := ⟨n.toNat, by omega⟩
    exact eventsAt_A l hN hg _ k (Nat.le_refl _) (by omega) H K h
  refine ACalls_of Tryd.func22 rfl in_22 (Nat.le_of_ble_eq_true rfl) ?_
  intro F hF
  simp (dsimp := false) only [go_sem, Nat.reduceAdd, Nat.reduceBEq, Nat.reduceEqDiff, Nat.reduceLT, Nat.reduceLeDiff, Nat.reduceMul, Int.reduceToNat, reduceCtorEq, ↓reduceIte, Tryd.ntmps22, Tryd.results22, ks_22, mu_22, ti_hb42, ti_hb43, itD, itV, ndD, ndV, evD, evV, evC, in_22] at hF
  subst hF
  repeat' (first | with_reducible (first | refine And.intro ?_ ?_ | intro _ | refine AWp_seq ?_ | refine AWp_block ?_ | (refine hKv _ _ (AWp_nop ?_); clear hKv Kv) | (refine hKA ?_; clear hKA hKB KA KB) | (refine hKB ?_; clear hKA hKB KA KB) | refine AWp_skipN ?_ | refine AWp_exitO (by repeat (first | exact Out.hit | apply Out.thenA | apply Out.out rfl)) ?_) | ((first | with_reducible (first | (refine hKv _ _ ?_; clear hKv Kv) | ((first | refine AWp_regC mu_22 ks_22 ?_ | refine AWp_regE mu_22 ks_22 ?_); intro Kv hKv) | refine AWp_retR ?_) | refine nodeFault_A l n hlen hS _ _ ?_ | refine hrec (by assumption) _ _ ?_); try simp (dsimp := false) only [go_sem, Nat.reduceAdd, Nat.reduceBEq, Nat.reduceEqDiff, Nat.reduceLT, Nat.reduceLeDiff, Nat.reduceMul, Int.reduceToNat, reduceCtorEq, ↓reduceIte, Tryd.ntmps22, Tryd.results22, ks_22, mu_22, ti_hb42, ti_hb43, itD, itV, ndD, ndV, evD, evV, evC]) | (refine AWp_condC rfl ?_; intro KA KB hKA hKB; try simp only [onB_true, onB_false, onB_dec, onB_ndec, onB_not, onB_and, onB_or]) | (refine AWp_condA rfl ?_ ?_) | with_reducible (first | refine onB_of ?_ ?_ | rfl) | omega)
  · rename_i hf
    rw [if_pos hf, hf] at hk
    exact keepK hk (by simp [Bel_tu, Bel_d]) rfl
  · rename_i hf
    rw [if_neg hf] at hk
    exact keepFz hk (Fz_tu2 (.nil 3) (.same _)) (by simp [Bel_tu, Bel_d])
/- the live slots of pleacher/pleacherlaw.sameEvents -/
def ks_23 : Nat → List Nat
  | 0 => [0, 1]
  | 1 => [0, 1, 10]
  | 2 => [4]
  | 3 => [0, 1, 5]
  | 4 => [0, 1, 5, 14]
  | 5 => [0, 1, 5]
  | 6 => [0, 1, 5, 25]
  | 7 => [4]
  | 8 => [4]
  | _ => []
def mu_23 : List Nat := []
def in_23 : List Nat := [0, 1]
def nd_23 : Nat → Nat
  | 6 => 8
  | _ => 0
theorem sameEvents_A (l : List Ev) (hlen : l.length ≤ 9223372036854775807) (H : Heap) (K : V → Heap → Prop) (hk : K (.d (.b true)) H) :
    ACalls Tryd.prog 23 [.d (.sl 3 (l.map evD)), .d (.sl 3 (l.map evD))] H K := by
  refine ACalls_of Tryd.func23 rfl in_23 (Nat.le_of_ble_eq_true rfl) ?_
  intro F hF
  simp (dsimp := false) only [go_sem, Nat.reduceAdd, Nat.reduceBEq, Nat.reduceEqDiff, Nat.reduceLT, Nat.reduceLeDiff, Nat.reduceMul, Int.reduceToNat, reduceCtorEq, ↓reduceIte, Tryd.ntmps23, Tryd.results23, ks_23, mu_23, nd_23, ti_ag65, ti_fe65, ti_sb40, ti_sl40, ti_sz65, itD, itV, ndD, ndV, evD, evV, evC, in_23] at hF
  subst hF
  repeat' (first | with_reducible (first | refine And.intro ?_ ?_ | intro _ | refine AWp_seq ?_ | refine AWp_block ?_ | (refine hKv _ _ (AWp_nop ?_); clear hKv Kv) | (refine hKA ?_; clear hKA hKB KA KB) | (refine hKB ?_; clear hKA hKB KA KB) | refine AWp_skipN ?_ | refine AWp_exitO (by repeat (first | exact Out.hit | apply Out.thenA | apply Out.out rfl)) ?_) | (with_reducible (first | (refine hKv _ _ ?_; clear hKv Kv) | ((first | refine AWp_regC mu_23 ks_23 ?_ | refine AWp_draw nd_23 mu_23 ks_23 ti_mixed (by kernel_rfl) ?_ | refine AWp_regE mu_23 ks_23 ?_ | refine AWp_drawE nd_23 mu_23 ks_23 ti_mixed (by kernel_rfl) ?_); intro Kv hKv) | refine AWp_retR ?_); try simp (dsimp := false) only [go_sem, Nat.reduceAdd, Nat.reduceBEq, Nat.reduceEqDiff, Nat.reduceLT, Nat.reduceLeDiff, Nat.reduceMul, Int.reduceToNat, reduceCtorEq, ↓reduceIte, Tryd.ntmps23, Tryd.results23, ks_23, mu_23, nd_23, ti_ag65, ti_fe65, ti_sb40, ti_sl40, ti_sz65, itD, itV, ndD, ndV, evD, evV, evC]) | (refine AWp_condC rfl ?_; intro KA KB hKA hKB; try simp only [onB_true, onB_false, onB_dec, onB_ndec, onB_not, onB_and, onB_or]) | (refine AWp_condA rfl ?_ ?_) | with_reducible (first | refine onB_of ?_ ?_ | rfl) | omega)
  refine AWp_while0 (fun i : Nat => i ≤ l.length) (fun i => [(0, .d (.sl 3 (l.map evD))), (1, .d (.sl 3 (l.map evD))), (5, .d (.i .i64 i))]) (fun i => l.length - i) 0 (Nat.zero_le _) ?_ ?_
  · simp (dsimp := false) only [go_sem, Nat.reduceAdd, Nat.reduceBEq, Nat.reduceEqDiff, Nat.reduceLT, Nat.reduceLeDiff, Nat.reduceMul, Int.reduceToNat, reduceCtorEq, ↓reduceIte, Tryd.ntmps23, Tryd.results23, ks_23, mu_23, nd_23, ti_ag65, ti_fe65, ti_sb40, ti_sl40, ti_sz65, itD, itV, ndD, ndV, evD, evV, evC]
    first | done | simp
  rintro i hi
  repeat' (first | with_reducible (first | refine And.intro ?_ ?_ | intro _ | refine AWp_seq ?_ | refine AWp_block ?_ | (refine hKv _ _ (AWp_nop ?_); clear hKv Kv) | (refine hKA ?_; clear hKA hKB KA KB) | (refine hKB ?_; clear hKA hKB KA KB) | refine AWp_skipN ?_ | refine AWp_exitO (by repeat (first | exact Out.hit | apply Out.thenA | apply Out.out rfl)) ?_) | (with_reducible (first | (refine hKv _ _ ?_; clear hKv Kv) | ((first | refine AWp_regC mu_23 ks_23 ?_ | refine AWp_draw nd_23 mu_23 ks_23 ti_mixed (by kernel_rfl) ?_ | refine AWp_regE mu_23 ks_23 ?_ | refine AWp_drawE nd_23 mu_23 ks_23 ti_mixed (by kernel_rfl) ?_); intro Kv hKv) | refine AWp_retR ?_); try simp (dsimp := false) only [go_sem, Nat.reduceAdd, Nat.reduceBEq, Nat.reduceEqDiff, Nat.reduceLT, Nat.reduceLeDiff, Nat.reduceMul, Int.reduceToNat, reduceCtorEq, ↓reduceIte, Tryd.ntmps23, Tryd.results23, ks_23, mu_23, nd_23, ti_ag65, ti_fe65, ti_sb40, ti_sl40, ti_sz65, itD, itV, ndD, ndV, evD, evV, evC]) | (refine AWp_condC rfl ?_; intro KA KB hKA hKB; try simp only [onB_true, onB_false, onB_dec, onB_ndec, onB_not, onB_and, onB_or]) | (refine AWp_condA rfl ?_ ?_) | with_reducible (first | refine onB_of ?_ ?_ | rfl) | omega)
  all_goals first
    | exact ⟨i + 1, by omega, by omega, by omega⟩
    | exact keepD hk rfl
    | (exfalso; simp_all)
end Go.Proofs.YtmalccaijjcepaaDoor
