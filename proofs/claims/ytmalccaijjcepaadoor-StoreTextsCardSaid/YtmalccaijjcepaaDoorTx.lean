/- The text of a node: what the program and the reference make of it. No condition but that the tables of package unicode/utf8 are there. -/
import Derived.Test.YtmalccaijjcepaaDoorSe1
import Derived.Test.YtmalccaijjcepaaDoorBld
set_option linter.all false
set_option linter.unusedSimpArgs false
set_option linter.unusedVariables false
namespace Go.Proofs.YtmalccaijjcepaaDoor
open Go Go.Proofs.YtmalccaijjcepaaDoor.Ab
variable [Glo] [U8]
set_option maxHeartbeats 4000000
set_option maxRecDepth 20000
/-- The texts among m nodes from a on, one behind the other. -/
def txN (l : List Nd) (a : Nat) : Nat → List UInt8
  | 0 => []
  | m + 1 => txN l a m ++ (if (gd l (a + m : Nat)).k = 3 then (gd l (a + m : Nat)).vl else [])
def Brief (l : List Nd) : Prop := ∀ x, x ∈ l → x.nm.length ≤ 1048576 ∧ x.vl.length ≤ 1048576
theorem Brief.short {l : List Nd} (h : Brief l) : Short l := fun x hx => by have := h x hx; omega
theorem text_short {s : List UInt8} (h : textFault s = 0) : s.length ≤ 20000 := by
  unfold textFault at h
  split at h
  · assumption
  · cases h
theorem name_short {s : List UInt8} (h : nameFault s = 0) : s.length ≤ 20 := by
  unfold nameFault at h
  split at h
  · omega
  · cases h
theorem may_short {x : Nd} (h : nodeMay x = true) : x.nm.length ≤ 20 ∧ x.vl.length ≤ 20000 := by
  unfold nodeMay at h
  split at h
  · have h := of_decide_eq_true h
    exact ⟨name_short h.1, by rw [h.2]; decide⟩
  · split at h
    · have h := of_decide_eq_true h
      exact ⟨name_short h.1, text_short h.2.1⟩
    · split at h
      · have h := of_decide_eq_true h
        exact ⟨by rw [h.1]; decide, text_short h.2.1⟩
      · split at h
        · have h := of_decide_eq_true h
          exact ⟨by rw [h.1]; decide, by rw [h.2.1]; decide⟩
        · cases h
theorem brief_of {l : List Nd} (h : nodesFault l = 0) : Brief l := fun x hx => by
  obtain ⟨hN, hg⟩ := good_of h
  obtain ⟨i, hi, rfl⟩ := List.mem_iff_getElem.1 hx
  have h1 := hg i hi
  have hgd : gd l i = l[i] := gd_of_get (List.getElem?_eq_getElem hi)
  unfold okAt at h1
  simp only [hgd, Bool.and_eq_true] at h1
  have h2 : nodeMay l[i] = true := by
    first
      | exact h1.1
      | exact h1.1.1
      | exact h1.1.1.1
      | exact h1.1.1.1.1
  have := may_short h2
  omega
theorem txN_len {l : List Nd} (h : Brief l) (a : Nat) : ∀ m, (txN l a m).length ≤ m * 1048576
  | 0 => by simp [txN]
  | m + 1 => by
    have ih := txN_len h a m
    rw [txN, List.length_append]
    have : (if (gd l (a + m : Nat)).k = 3 then (gd l (a + m : Nat)).vl else []).length ≤ 1048576 := by
      split
      · unfold gd
        cases hx : l[((a + m : Nat) : Int).toNat]? with
        | none => simp
        | some x => exact (h x (List.mem_of_getElem? hx)).2
      · simp
    rw [Nat.add_mul, Nat.one_mul]
    omega
def textOf (l : List Nd) (n : Int) : List UInt8 :=
  if atFault l n = 0 then (if (gd l n).k = 1 ∨ (gd l n).k = 6 then txN l (n.toNat + 1) (gd l n).sz.toNat else (gd l n).vl) else []
theorem obBel_bld (m id id2 k : Nat) {u : Bool} (h1 : id < m) (h2 : id2 < m) : ObBel m (bldC u id 0 (.os id2 k)) := by
  intro row hr v hv
  simp at hr
  subst hr
  simp at hv
  rcases hv with rfl | rfl
  · cases u
    · exact .d _
    · exact .pt _ _ _ _ h1
  · exact .os _ _ h2

/- the live slots of pleacher/store.Text -/
def ks_24 : Nat → List Nat
  | 0 => [0, 1]
  | 1 => [0, 1, 6]
  | 2 => [0, 1, 6, 14]
  | 3 => [4, 5]
  | 4 => [0, 1, 29]
  | 5 => [4, 5]
  | 6 => [0, 1, 7]
  | 7 => [7, 46, 47, 48]
  | 8 => [7, 46, 47, 48, 49]
  | 9 => [7, 9, 46, 47, 48]
  | 10 => [7, 9, 46, 47, 48, 54]
  | 11 => [7, 46, 47, 48]
  | 12 => [7, 46, 47, 48]
  | 13 => [4, 5]
  | _ => []
def mu_24 : List Nat := []
def in_24 : List Nat := [0, 1]
def ro_24 : Nat → List Nat
  | 9 => [9]
  | _ => []
theorem storeText_A (l : List Nd) (n : Int) (hlen : l.length ≤ 9223372036854775807) (hS : Short l) (H : Heap) (K : V → Heap → Prop) (hk : K (.tu [.d (.s (textOf l n)), .d (.i .i64 (atFault l n))]) H) :
    ACalls Tryd.prog 24 [.d (.sl 6 (l.map ndD)), .d (.i .i64 n)] H K := by
  by_cases hf : atFault l n = 0
  · obtain ⟨hnf, hn0, hnl⟩ := atFault_ok hf
    have hB := brief_of hnf
    obtain ⟨hN, hg⟩ := good_of hnf
    obtain ⟨k, rfl⟩ : ∃ k : Nat, n = k := ⟨n.toNat, by omega⟩
    have hkl : k < l.length := by omega
    obtain ⟨x, hx⟩ : ∃ x, l[k]? = some x := ⟨l[k], List.getElem?_eq_getElem hkl⟩
    have hgx := gd_of_get hx
    obtain ⟨b1, b2, b3, b4, b5, b6⟩ := good_bd hg k hkl
    rw [hgx] at b1 b2 b3 b4 b5 b6
    rw [textOf, if_pos hf, hgx, hf] at hk
    simp only [Int.toNat_natCast] at hk
    obtain ⟨z, hz⟩ : ∃ z : Nat, x.sz = z := ⟨x.sz.toNat, by omega⟩
    rw [hz] at hk b3 b4
    simp only [Int.toNat_natCast] at hk
    
    refine ACalls_of Tryd.func24 rfl in_24 (Nat.le_of_ble_eq_true rfl) ?_
    intro F hF
    simp (dsimp := false) only [go_sem, Nat.reduceAdd, Nat.reduceBEq, Nat.reduceEqDiff, Nat.reduceLT, Nat.reduceLeDiff, Nat.reduceMul, Int.reduceToNat, reduceCtorEq, ↓reduceIte, Tryd.ntmps24, Tryd.results24, ks_24, mu_24, ro_24, ti_ag3, ti_ag9, ti_ag57, ti_fl57_0, ti_fl57_2, ti_fl57_3, ti_hb41, ti_hb44, ti_hb45, ti_sb29, ti_sl29, ti_sz57, ti_zr57, ti_zr70, itD, itV, ndD, ndV, hf, hx, hz, ← List.map_take, ← List.map_drop, in_24] at hF
    subst hF
    repeat' (first | with_reducible (first | refine And.intro ?_ ?_ | intro _ | refine AWp_seq ?_ | refine AWp_block ?_ | (refine hKv _ _ (AWp_nop ?_); clear hKv Kv) | (refine hKA ?_; clear hKA hKB KA KB) | (refine hKB ?_; clear hKA hKB KA KB) | refine AWp_skipN ?_ | refine AWp_exitO (by repeat (first | exact Out.hit | apply Out.thenA | apply Out.out rfl)) ?_) | ((first | with_reducible (first | (refine hKv _ _ ?_; clear hKv Kv) | ((first | refine AWp_regro mu_24 ks_24 ro_24 ?_ | refine AWp_regC mu_24 ks_24 ?_ | refine AWp_regE mu_24 ks_24 ?_); intro Kv hKv) | refine AWp_retR ?_) | refine at_A l k hlen hS _ _ ?_); try simp (dsimp := false) only [go_sem, Nat.reduceAdd, Nat.reduceBEq, Nat.reduceEqDiff, Nat.reduceLT, Nat.reduceLeDiff, Nat.reduceMul, Int.reduceToNat, reduceCtorEq, ↓reduceIte, Tryd.ntmps24, Tryd.results24, ks_24, mu_24, ro_24, ti_ag3, ti_ag9, ti_ag57, ti_fl57_0, ti_fl57_2, ti_fl57_3, ti_hb41, ti_hb44, ti_hb45, ti_sb29, ti_sl29, ti_sz57, ti_zr57, ti_zr70, itD, itV, ndD, ndV, hf, hx, hz, ← List.map_take, ← List.map_drop]) | (refine AWp_condC rfl ?_; intro KA KB hKA hKB; try simp only [onB_true, onB_false, onB_dec, onB_ndec, onB_not, onB_and, onB_or]) | (refine AWp_condA rfl ?_ ?_) | with_reducible (first | refine onB_of ?_ ?_ | rfl) | omega)
    rotate_left 2
    · rw [if_neg (by rintro (h | h) <;> contradiction)] at hk
      exact keepK hk (by simp [Bel_tu, Bel_d]) rfl
    all_goals
      have hor : x.k = 1 ∨ x.k = 6 := by first | exact Or.inl (by assumption) | exact Or.inr (by assumption)
      rw [if_pos hor] at hk
      have en : ((k : Int) + 1).toNat = k + 1 := by omega
      have em : ((k : Int) + 1 + (z : Int)).toNat = k + 1 + z := by omega
      rw [en, em]
      generalize hL : List.drop (k + 1) (List.take (k + 1 + z) l) = L
      have hLl : L.length = z := by rw [← hL]; simp; omega
      have hLg : ∀ j, j < z → L[j]? = l[k + 1 + j]? := fun j hj => by
        rw [← hL, List.getElem?_drop, List.getElem?_take, if_pos (by omega)]
      refine AWp_prm H.length 0 1 5 1 ((get_app0 _ _).trans rfl) rfl rfl (h := ?_)
      refine AWp_whileH (fun y : Nat × Bool × Nat => y.1 ≤ z) (fun y => [(7, .pt H.length 0 0 0), (46, .d (.sl 6 (L.map ndD))), (47, .d (.i .i64 L.length)), (48, .d (.i .i64 y.1))])
        (fun y => [bldC y.2.1 H.length 0 (.os (H.length + 1) y.2.2), bufC y.2.2 (txN l (k + 1) y.1)]) (fun y => z - y.1) (0, false, 0) (Nat.zero_le _) ?_ ?_ ?_ ?_
      · simp [bldC, bufC, selfV, txN]
      · simp (dsimp := false) only [go_sem, Nat.reduceAdd, Nat.reduceBEq, Nat.reduceEqDiff, Nat.reduceLT, Nat.reduceLeDiff, Nat.reduceMul, Int.reduceToNat, reduceCtorEq, ↓reduceIte, Tryd.ntmps24, Tryd.results24, ks_24, mu_24, ro_24, ti_ag3, ti_ag9, ti_ag57, ti_fl57_0, ti_fl57_2, ti_fl57_3, ti_hb41, ti_hb44, ti_hb45, ti_sb29, ti_sl29, ti_sz57, ti_zr57, ti_zr70, itD, itV, ndD, ndV, hf, hx, hz, ← List.map_take, ← List.map_drop]
        first | done | simp
      · rintro ⟨j, u, v⟩ _ ob hob
        simp only [List.mem_cons, List.not_mem_nil, or_false] at hob
        rcases hob with rfl | rfl
        · exact obBel_bld _ _ _ _ (by simp) (by simp)
        · exact obBel_bytes _ _ _
      rintro ⟨j, u, v⟩ hj
      simp only [] at hj ⊢
      have hbl := txN_len hB (k + 1) j
      have hbl2 : (txN l (k + 1) j).length ≤ 104857600000 := by
        have : j * 1048576 ≤ 100000 * 1048576 := Nat.mul_le_mul_right _ (by omega)
        omega
      by_cases hjz : j < z
      · obtain ⟨y, hy⟩ : ∃ y, l[k + 1 + j]? = some y := ⟨l[k + 1 + j]'(by omega), List.getElem?_eq_getElem (by omega)⟩
        have hLy : L[j]? = some y := (hLg j hjz).trans hy
        have hvy := (hB y (List.mem_of_getElem? hy)).2
        have hgy := gd_of_get hy
        
        repeat' (first | with_reducible (first | refine And.intro ?_ ?_ | intro _ | refine AWp_seq ?_ | refine AWp_block ?_ | (refine hKv _ _ (AWp_nop ?_); clear hKv Kv) | (refine hKA ?_; clear hKA hKB KA KB) | (refine hKB ?_; clear hKA hKB KA KB) | refine AWp_skipN ?_ | refine AWp_exitO (by repeat (first | exact Out.hit | apply Out.thenA | apply Out.out rfl)) ?_) | ((first | with_reducible (first | (refine hKv _ _ ?_; clear hKv Kv) | ((first | refine AWp_regro mu_24 ks_24 ro_24 ?_ | refine AWp_regC mu_24 ks_24 ?_ | refine AWp_regE mu_24 ks_24 ?_); intro Kv hKv) | refine AWp_retR ?_) | refine writeString_A H.length (H.length + 1) v u _ _ (by omega) (by omega) _ _ ((get_app0 _ _).trans rfl) ((get_appk _ _ 1).trans rfl) ?_); try simp (dsimp := false) only [go_sem, Nat.reduceAdd, Nat.reduceBEq, Nat.reduceEqDiff, Nat.reduceLT, Nat.reduceLeDiff, Nat.reduceMul, Int.reduceToNat, reduceCtorEq, ↓reduceIte, Tryd.ntmps24, Tryd.results24, ks_24, mu_24, ro_24, ti_ag3, ti_ag9, ti_ag57, ti_fl57_0, ti_fl57_2, ti_fl57_3, ti_hb41, ti_hb44, ti_hb45, ti_sb29, ti_sl29, ti_sz57, ti_zr57, ti_zr70, itD, itV, ndD, ndV, hLy]) | (refine AWp_condC rfl ?_; intro KA KB hKA hKB; try simp only [onB_true, onB_false, onB_dec, onB_ndec, onB_not, onB_and, onB_or]) | (refine AWp_condA rfl ?_ ?_) | with_reducible (first | refine onB_of ?_ ?_ | rfl) | omega)
        all_goals first
          | (refine closed_app fun ob hob => ?_
             simp only [List.mem_cons, List.not_mem_nil, or_false] at hob
             rcases hob with rfl | rfl
             · exact obBel_bld _ _ _ _ (by simp) (by simp)
             · exact obBel_bytes _ _ _)
          | (have h3 : y.k = 3 := by assumption
             exact ⟨(j + 1, true, v + 1), by show j + 1 ≤ z; omega, by show z - (j + 1) < z - j; omega, by simp only [txN]; rw [hgy, if_pos h3], by omega, by simp⟩)
          | (have h3 : ¬ y.k = 3 := by assumption
             exact ⟨(j + 1, u, v), by show j + 1 ≤ z; omega, by show z - (j + 1) < z - j; omega, by simp only [txN]; rw [hgy, if_neg h3, List.append_nil], by omega, by simp⟩)
      · 
        repeat' (first | with_reducible (first | refine And.intro ?_ ?_ | intro _ | refine AWp_seq ?_ | refine AWp_block ?_ | (refine hKv _ _ (AWp_nop ?_); clear hKv Kv) | (refine hKA ?_; clear hKA hKB KA KB) | (refine hKB ?_; clear hKA hKB KA KB) | refine AWp_skipN ?_ | refine AWp_exitO (by repeat (first | exact Out.hit | apply Out.thenA | apply Out.out rfl)) ?_) | ((first | with_reducible (first | (refine hKv _ _ ?_; clear hKv Kv) | ((first | refine AWp_regro mu_24 ks_24 ro_24 ?_ | refine AWp_regC mu_24 ks_24 ?_ | refine AWp_regE mu_24 ks_24 ?_); intro Kv hKv) | refine AWp_retR ?_) | refine bldString_A H.length (H.length + 1) v 0 _ _ (by omega) _ _ ((get_app0 _ _).trans rfl) ((get_appk _ _ 1).trans rfl) ?_); try simp (dsimp := false) only [go_sem, Nat.reduceAdd, Nat.reduceBEq, Nat.reduceEqDiff, Nat.reduceLT, Nat.reduceLeDiff, Nat.reduceMul, Int.reduceToNat, reduceCtorEq, ↓reduceIte, Tryd.ntmps24, Tryd.results24, ks_24, mu_24, ro_24, ti_ag3, ti_ag9, ti_ag57, ti_fl57_0, ti_fl57_2, ti_fl57_3, ti_hb41, ti_hb44, ti_hb45, ti_sb29, ti_sl29, ti_sz57, ti_zr57, ti_zr70, itD, itV, ndD, ndV]) | (refine AWp_condC rfl ?_; intro KA KB hKA hKB; try simp only [onB_true, onB_false, onB_dec, onB_ndec, onB_not, onB_and, onB_or]) | (refine AWp_condA rfl ?_ ?_) | with_reducible (first | refine onB_of ?_ ?_ | rfl) | omega)
        have e : j = z := by omega
        subst e
        exact dropK hk (by simp [Bel_tu, Bel_d]) rfl
  · rw [textOf, if_neg hf] at hk
    
    refine ACalls_of Tryd.func24 rfl in_24 (Nat.le_of_ble_eq_true rfl) ?_
    intro F hF
    simp (dsimp := false) only [go_sem, Nat.reduceAdd, Nat.reduceBEq, Nat.reduceEqDiff, Nat.reduceLT, Nat.reduceLeDiff, Nat.reduceMul, Int.reduceToNat, reduceCtorEq, ↓reduceIte, Tryd.ntmps24, Tryd.results24, ks_24, mu_24, ro_24, ti_ag3, ti_ag9, ti_ag57, ti_fl57_0, ti_fl57_2, ti_fl57_3, ti_hb41, ti_hb44, ti_hb45, ti_sb29, ti_sl29, ti_sz57, ti_zr57, ti_zr70, itD, itV, ndD, ndV, hf, in_24] at hF
    subst hF
    repeat' (first | with_reducible (first | refine And.intro ?_ ?_ | intro _ | refine AWp_seq ?_ | refine AWp_block ?_ | (refine hKv _ _ (AWp_nop ?_); clear hKv Kv) | (refine hKA ?_; clear hKA hKB KA KB) | (refine hKB ?_; clear hKA hKB KA KB) | refine AWp_skipN ?_ | refine AWp_exitO (by repeat (first | exact Out.hit | apply Out.thenA | apply Out.out rfl)) ?_) | ((first | with_reducible (first | (refine hKv _ _ ?_; clear hKv Kv) | ((first | refine AWp_regro mu_24 ks_24 ro_24 ?_ | refine AWp_regC mu_24 ks_24 ?_ | refine AWp_regE mu_24 ks_24 ?_); intro Kv hKv) | refine AWp_retR ?_) | refine at_A l n hlen hS _ _ ?_); try simp (dsimp := false) only [go_sem, Nat.reduceAdd, Nat.reduceBEq, Nat.reduceEqDiff, Nat.reduceLT, Nat.reduceLeDiff, Nat.reduceMul, Int.reduceToNat, reduceCtorEq, ↓reduceIte, Tryd.ntmps24, Tryd.results24, ks_24, mu_24, ro_24, ti_ag3, ti_ag9, ti_ag57, ti_fl57_0, ti_fl57_2, ti_fl57_3, ti_hb41, ti_hb44, ti_hb45, ti_sb29, ti_sl29, ti_sz57, ti_zr57, ti_zr70, itD, itV, ndD, ndV, hf]) | (refine AWp_condC rfl ?_; intro KA KB hKA hKB; try simp only [onB_true, onB_false, onB_dec, onB_ndec, onB_not, onB_and, onB_or]) | (refine AWp_condA rfl ?_ ?_) | with_reducible (first | refine onB_of ?_ ?_ | rfl) | omega)
    all_goals exact keepK hk (by simp [Bel_tu, Bel_d]) rfl

/- the live slots of pleacher/pleacherref.textAt -/
def ks_46 : Nat → List Nat
  | 0 => [0, 1]
  | 1 => [0, 1, 20]
  | 2 => [4]
  | 3 => [0, 1, 5]
  | 4 => [0, 1, 5, 6]
  | 5 => [0, 1, 5, 6, 36]
  | 6 => [0, 1, 5, 6]
  | 7 => [0, 1, 5, 6, 44]
  | 8 => [0, 1, 5, 6]
  | 9 => [4]
  | _ => []
def mu_46 : List Nat := []
def in_46 : List Nat := [0, 1]
theorem textAt_A (l : List Nd) (k : Nat) (hN : l.length ≤ 100000) (hB : Brief l) (hg : Good l l.length) (hkl : k < l.length) (H : Heap) (K : V → Heap → Prop)
    (hk : K (.d (.s (if (gd l k).k = 1 ∨ (gd l k).k = 6 then txN l (k + 1) (gd l k).sz.toNat else (gd l k).vl))) H) :
    ACalls Tryd.prog 46 [.d (.sl 6 (l.map ndD)), .d (.i .i64 k)] H K := by
  obtain ⟨x, hx⟩ : ∃ x, l[k]? = some x := ⟨l[k], List.getElem?_eq_getElem hkl⟩
  have hgx := gd_of_get hx
  obtain ⟨b1, b2, b3, b4, b5, b6⟩ := good_bd hg k hkl
  rw [hgx] at b1 b2 b3 b4 b5 b6 hk
  obtain ⟨z, hz⟩ : ∃ z : Nat, x.sz = z := ⟨x.sz.toNat, by omega⟩
  rw [hz] at hk b3 b4
  simp only [Int.toNat_natCast] at hk
  
  refine ACalls_of Tryd.func46 rfl in_46 (Nat.le_of_ble_eq_true rfl) ?_
  intro F hF
  simp (dsimp := false) only [go_sem, Nat.reduceAdd, Nat.reduceBEq, Nat.reduceEqDiff, Nat.reduceLT, Nat.reduceLeDiff, Nat.reduceMul, Int.reduceToNat, reduceCtorEq, ↓reduceIte, Tryd.ntmps46, Tryd.results46, ks_46, mu_46, ti_ag3, ti_ag9, ti_fl57_0, ti_fl57_2, ti_fl57_3, ti_sl29, itD, itV, ndD, ndV, hx, hz, in_46] at hF
  subst hF
  repeat' (first | with_reducible (first | refine And.intro ?_ ?_ | intro _ | refine AWp_seq ?_ | refine AWp_block ?_ | (refine hKv _ _ (AWp_nop ?_); clear hKv Kv) | (refine hKA ?_; clear hKA hKB KA KB) | (refine hKB ?_; clear hKA hKB KA KB) | refine AWp_skipN ?_ | refine AWp_exitO (by repeat (first | exact Out.hit | apply Out.thenA | apply Out.out rfl)) ?_) | (with_reducible (first | (refine hKv _ _ ?_; clear hKv Kv) | ((first | refine AWp_regC mu_46 ks_46 ?_ | refine AWp_regE mu_46 ks_46 ?_); intro Kv hKv) | refine AWp_retR ?_); try simp (dsimp := false) only [go_sem, Nat.reduceAdd, Nat.reduceBEq, Nat.reduceEqDiff, Nat.reduceLT, Nat.reduceLeDiff, Nat.reduceMul, Int.reduceToNat, reduceCtorEq, ↓reduceIte, Tryd.ntmps46, Tryd.results46, ks_46, mu_46, ti_ag3, ti_ag9, ti_fl57_0, ti_fl57_2, ti_fl57_3, ti_sl29, itD, itV, ndD, ndV, hx, hz]) | (refine AWp_condC rfl ?_; intro KA KB hKA hKB; try simp only [onB_true, onB_false, onB_dec, onB_ndec, onB_not, onB_and, onB_or]) | (refine AWp_condA rfl ?_ ?_) | with_reducible (first | refine onB_of ?_ ?_ | rfl) | omega)
  rotate_left 2
  · rw [if_neg (by rintro (h | h) <;> contradiction)] at hk
    exact keepD hk rfl
  all_goals
    have hor : x.k = 1 ∨ x.k = 6 := by first | exact Or.inl (by assumption) | exact Or.inr (by assumption)
    rw [if_pos hor] at hk
    refine AWp_while0 (fun j : Nat => j ≤ z) (fun j => [(0, .d (.sl 6 (l.map ndD))), (1, .d (.i .i64 k)), (5, .d (.s (txN l (k + 1) j))), (6, .d (.i .i64 ((k + 1 + j : Nat) : Int)))]) (fun j => z - j) 0 (Nat.zero_le _) ?_ ?_
    · simp (dsimp := false) only [go_sem, Nat.reduceAdd, Nat.reduceBEq, Nat.reduceEqDiff, Nat.reduceLT, Nat.reduceLeDiff, Nat.reduceMul, Int.reduceToNat, reduceCtorEq, ↓reduceIte, Tryd.ntmps46, Tryd.results46, ks_46, mu_46, ti_ag3, ti_ag9, ti_fl57_0, ti_fl57_2, ti_fl57_3, ti_sl29, itD, itV, ndD, ndV, hx, hz]
      first | done | simp [txN]
    rintro j hj
    have hbl := txN_len hB (k + 1) j
    have hbl2 : (txN l (k + 1) j).length ≤ 104857600000 := by
      have : j * 1048576 ≤ 100000 * 1048576 := Nat.mul_le_mul_right _ (by omega)
      omega
    by_cases hjz : j < z
    · obtain ⟨y, hy⟩ : ∃ y, l[k + 1 + j]? = some y := ⟨l[k + 1 + j]'(by omega), List.getElem?_eq_getElem (by omega)⟩
      have hvy := (hB y (List.mem_of_getElem? hy)).2
      have hgy := gd_of_get hy
      
      repeat' (first | with_reducible (first | refine And.intro ?_ ?_ | intro _ | refine AWp_seq ?_ | refine AWp_block ?_ | (refine hKv _ _ (AWp_nop ?_); clear hKv Kv) | (refine hKA ?_; clear hKA hKB KA KB) | (refine hKB ?_; clear hKA hKB KA KB) | refine AWp_skipN ?_ | refine AWp_exitO (by repeat (first | exact Out.hit | apply Out.thenA | apply Out.out rfl)) ?_) | (with_reducible (first | (refine hKv _ _ ?_; clear hKv Kv) | ((first | refine AWp_regC mu_46 ks_46 ?_ | refine AWp_regE mu_46 ks_46 ?_); intro Kv hKv) | refine AWp_retR ?_); try simp (dsimp := false) only [go_sem, Nat.reduceAdd, Nat.reduceBEq, Nat.reduceEqDiff, Nat.reduceLT, Nat.reduceLeDiff, Nat.reduceMul, Int.reduceToNat, reduceCtorEq, ↓reduceIte, Tryd.ntmps46, Tryd.results46, ks_46, mu_46, ti_ag3, ti_ag9, ti_fl57_0, ti_fl57_2, ti_fl57_3, ti_sl29, itD, itV, ndD, ndV, hx, hz, hy]) | (refine AWp_condC rfl ?_; intro KA KB hKA hKB; try simp only [onB_true, onB_false, onB_dec, onB_ndec, onB_not, onB_and, onB_or]) | (refine AWp_condA rfl ?_ ?_) | with_reducible (first | refine onB_of ?_ ?_ | rfl) | omega)
      all_goals first
        | (have h3 : y.k = 3 := by assumption
           exact ⟨j + 1, by omega, by omega, by simp only [txN]; rw [hgy, if_pos h3], by omega⟩)
        | (have h3 : ¬ y.k = 3 := by assumption
           exact ⟨j + 1, by omega, by omega, by simp only [txN]; rw [hgy, if_neg h3, List.append_nil], by omega⟩)
    · 
      repeat' (first | with_reducible (first | refine And.intro ?_ ?_ | intro _ | refine AWp_seq ?_ | refine AWp_block ?_ | (refine hKv _ _ (AWp_nop ?_); clear hKv Kv) | (refine hKA ?_; clear hKA hKB KA KB) | (refine hKB ?_; clear hKA hKB KA KB) | refine AWp_skipN ?_ | refine AWp_exitO (by repeat (first | exact Out.hit | apply Out.thenA | apply Out.out rfl)) ?_) | (with_reducible (first | (refine hKv _ _ ?_; clear hKv Kv) | ((first | refine AWp_regC mu_46 ks_46 ?_ | refine AWp_regE mu_46 ks_46 ?_); intro Kv hKv) | refine AWp_retR ?_); try simp (dsimp := false) only [go_sem, Nat.reduceAdd, Nat.reduceBEq, Nat.reduceEqDiff, Nat.reduceLT, Nat.reduceLeDiff, Nat.reduceMul, Int.reduceToNat, reduceCtorEq, ↓reduceIte, Tryd.ntmps46, Tryd.results46, ks_46, mu_46, ti_ag3, ti_ag9, ti_fl57_0, ti_fl57_2, ti_fl57_3, ti_sl29, itD, itV, ndD, ndV, hx, hz]) | (refine AWp_condC rfl ?_; intro KA KB hKA hKB; try simp only [onB_true, onB_false, onB_dec, onB_ndec, onB_not, onB_and, onB_or]) | (refine AWp_condA rfl ?_ ?_) | with_reducible (first | refine onB_of ?_ ?_ | rfl) | omega)
      have e : j = z := by omega
      subst e
      exact keepD hk rfl

/- the live slots of pleacher/pleacherref.TextOf -/
def ks_25 : Nat → List Nat
  | 0 => [0, 1]
  | 1 => [0, 1, 6]
  | 2 => [0, 1, 6, 11]
  | 3 => [4, 5]
  | 4 => [4, 5]
  | _ => []
def mu_25 : List Nat := []
def in_25 : List Nat := [0, 1]
theorem refTextOf_A (l : List Nd) (n : Int) (hlen : l.length ≤ 9223372036854775807) (hS : Short l) (H : Heap) (K : V → Heap → Prop) (hk : K (.tu [.d (.s (textOf l n)), .d (.i .i64 (atFault l n))]) H) :
    ACalls Tryd.prog 25 [.d (.sl 6 (l.map ndD)), .d (.i .i64 n)] H K := by
  by_cases hf : atFault l n = 0
  · obtain ⟨hnf, hn0, hnl⟩ := atFault_ok hf
    have hB := brief_of hnf
    obtain ⟨hN, hg⟩ := good_of hnf
    obtain ⟨k, rfl⟩ : ∃ k : Nat, n = k := ⟨n.toNat, by omega⟩
    rw [textOf, if_pos hf, hf] at hk
    simp only [Int.toNat_natCast] at hk
    
    refine ACalls_of Tryd.func25 rfl in_25 (Nat.le_of_ble_eq_true rfl) ?_
    intro F hF
    simp (dsimp := false) only [go_sem, Nat.reduceAdd, Nat.reduceBEq, Nat.reduceEqDiff, Nat.reduceLT, Nat.reduceLeDiff, Nat.reduceMul, Int.reduceToNat, reduceCtorEq, ↓reduceIte, Tryd.ntmps25, Tryd.results25, ks_25, mu_25, ti_hb42, ti_hb46, itD, itV, ndD, ndV, hf, in_25] at hF
    subst hF
    repeat' (first | with_reducible (first | refine And.intro ?_ ?_ | intro _ | refine AWp_seq ?_ | refine AWp_block ?_ | (refine hKv _ _ (AWp_nop ?_); clear hKv Kv) | (refine hKA ?_; clear hKA hKB KA KB) | (refine hKB ?_; clear hKA hKB KA KB) | refine AWp_skipN ?_ | refine AWp_exitO (by repeat (first | exact Out.hit | apply Out.thenA | apply Out.out rfl)) ?_) | ((first | with_reducible (first | (refine hKv _ _ ?_; clear hKv Kv) | ((first | refine AWp_regC mu_25 ks_25 ?_ | refine AWp_regE mu_25 ks_25 ?_); intro Kv hKv) | refine AWp_retR ?_) | refine nodeFault_A l k hlen hS _ _ ?_ | refine textAt_A l k hN hB hg (by omega) _ _ ?_); try simp (dsimp := false) only [go_sem, Nat.reduceAdd, Nat.reduceBEq, Nat.reduceEqDiff, Nat.reduceLT, Nat.reduceLeDiff, Nat.reduceMul, Int.reduceToNat, reduceCtorEq, ↓reduceIte, Tryd.ntmps25, Tryd.results25, ks_25, mu_25, ti_hb42, ti_hb46, itD, itV, ndD, ndV, hf]) | (refine AWp_condC rfl ?_; intro KA KB hKA hKB; try simp only [onB_true, onB_false, onB_dec, onB_ndec, onB_not, onB_and, onB_or]) | (refine AWp_condA rfl ?_ ?_) | with_reducible (first | refine onB_of ?_ ?_ | rfl) | omega)
    all_goals exact keepK hk (by simp [Bel_tu, Bel_d]) rfl
  · rw [textOf, if_neg hf] at hk
    
    refine ACalls_of Tryd.func25 rfl in_25 (Nat.le_of_ble_eq_true rfl) ?_
    intro F hF
    simp (dsimp := false) only [go_sem, Nat.reduceAdd, Nat.reduceBEq, Nat.reduceEqDiff, Nat.reduceLT, Nat.reduceLeDiff, Nat.reduceMul, Int.reduceToNat, reduceCtorEq, ↓reduceIte, Tryd.ntmps25, Tryd.results25, ks_25, mu_25, ti_hb42, ti_hb46, itD, itV, ndD, ndV, hf, in_25] at hF
    subst hF
    repeat' (first | with_reducible (first | refine And.intro ?_ ?_ | intro _ | refine AWp_seq ?_ | refine AWp_block ?_ | (refine hKv _ _ (AWp_nop ?_); clear hKv Kv) | (refine hKA ?_; clear hKA hKB KA KB) | (refine hKB ?_; clear hKA hKB KA KB) | refine AWp_skipN ?_ | refine AWp_exitO (by repeat (first | exact Out.hit | apply Out.thenA | apply Out.out rfl)) ?_) | ((first | with_reducible (first | (refine hKv _ _ ?_; clear hKv Kv) | ((first | refine AWp_regC mu_25 ks_25 ?_ | refine AWp_regE mu_25 ks_25 ?_); intro Kv hKv) | refine AWp_retR ?_) | refine nodeFault_A l n hlen hS _ _ ?_); try simp (dsimp := false) only [go_sem, Nat.reduceAdd, Nat.reduceBEq, Nat.reduceEqDiff, Nat.reduceLT, Nat.reduceLeDiff, Nat.reduceMul, Int.reduceToNat, reduceCtorEq, ↓reduceIte, Tryd.ntmps25, Tryd.results25, ks_25, mu_25, ti_hb42, ti_hb46, itD, itV, ndD, ndV, hf]) | (refine AWp_condC rfl ?_; intro KA KB hKA hKB; try simp only [onB_true, onB_false, onB_dec, onB_ndec, onB_not, onB_and, onB_or]) | (refine AWp_condA rfl ?_ ?_) | with_reducible (first | refine onB_of ?_ ?_ | rfl) | omega)
    all_goals exact keepK hk (by simp [Bel_tu, Bel_d]) rfl
end Go.Proofs.YtmalccaijjcepaaDoor
