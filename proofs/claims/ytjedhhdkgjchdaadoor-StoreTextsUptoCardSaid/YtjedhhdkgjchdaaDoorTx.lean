/- The text of a node: what the program and the reference make of it. No condition but that the tables of package unicode/utf8 are there. -/
import Derived.Test.YtjedhhdkgjchdaaDoorSe1
import Derived.Test.YtjedhhdkgjchdaaDoorBld
set_option linter.all false
set_option linter.unusedSimpArgs false
set_option linter.unusedVariables false
namespace Go.Proofs.YtjedhhdkgjchdaaDoor
open Go Go.Proofs.YtjedhhdkgjchdaaDoor.Ab
variable [Glo] [U8]
set_option maxHeartbeats 4000000
set_option maxRecDepth 20000
/-- The texts among m nodes from a on, one behind the other. -/
def txN (l : List Nd) (a : Nat) : Nat → List UInt8
  | 0 => []
  | m + 1 => txN l a m ++ (if (gd l (a + m : Nat)).k = 3 then (gd l (a + m : Nat)).vl else [])
def Brief (l : List Nd) : Prop := ∀ x, x ∈ l → x.nm.length ≤ 1048576 ∧ x.vl.length ≤ 1048576
theorem Brief.short {l : List Nd} (h : Brief l) : Short l := fun x hx => by have := h x hx; omega
theorem txN_len {l : List Nd} (h : Brief l) (a : Nat) : ∀ m, (txN l a m).length ≤ m * 1048576
  | 0 => by simp [txN]
  | m + 1 => by
    have ih := txN_len h a m
    rw [txN, List.length_append]
    have : (if (gd l (a + m : Nat)).k = 3 then (gd l (a + m : Nat)).vl else []).length ≤ 1048576 := by
      split
      · unfold gd
        cases hx : l[((a + m : Nat) : Int).toNat]? with
        | none => simp
        | some x => exact (h x (List.mem_of_getElem? hx)).2
      · simp
    rw [Nat.add_mul, Nat.one_mul]
    omega
def textOf (l : List Nd) (n : Int) : List UInt8 :=
  if atFault l n = 0 then (if (gd l n).k = 1 ∨ (gd l n).k = 6 then txN l (n.toNat + 1) (gd l n).sz.toNat else (gd l n).vl) else []
theorem obBel_bld (m id id2 k : Nat) {u : Bool} (h1 : id < m) (h2 : id2 < m) : ObBel m (bldC u id 0 (.os id2 k)) := by
  intro row hr v hv
  simp at hr
  subst hr
  simp at hv
  rcases hv with rfl | rfl
  · cases u
    · exact .d _
    · exact .pt _ _ _ _ h1
  · exact .os _ _ h2

/- the live slots of pleacher/store.Text -/
def ks_28 : Nat → List Nat
  | 0 => [0, 1]
  | 1 => [0, 1, 6]
  | 2 => [0, 1, 6, 14]
  | 3 => [4, 5]
  | 4 => [0, 1, 29]
  | 5 => [4, 5]
  | 6 => [0, 1, 7]
  | 7 => [7, 46, 47, 48]
  | 8 => [7, 46, 47, 48, 49]
  | 9 => [7, 9, 46, 47, 48]
  | 10 => [7, 9, 46, 47, 48, 54]
  | 11 => [7, 46, 47, 48]
  | 12 => [7, 46, 47, 48]
  | 13 => [4, 5]
  | _ => []
def mu_28 : List Nat := []
def in_28 : List Nat := [0, 1]
def ro_28 : Nat → List Nat
  | 9 => [9]
  | _ => []
theorem storeText_A (l : List Nd) (n : Int) (hlen : l.length ≤ 9223372036854775807) (hB : Brief l) (H : Heap) (K : V → Heap → Prop) (hk : K (.tu [.d (.s (textOf l n)), .d (.i .i64 (atFault l n))]) H) :
    ACalls Tryd.prog 28 [.d (.sl 6 (l.map ndD)), .d (.i .i64 n)] H K := by
  by_cases hf : atFault l n = 0
  · obtain ⟨hnf, hn0, hnl⟩ := atFault_ok hf
    obtain ⟨hN, hg⟩ := good_of hnf
    obtain ⟨k, rfl⟩ : ∃ k : Nat, n = k := ⟨n.toNat, by omega⟩
    have hkl : k < l.length := by omega
    obtain ⟨x, hx⟩ : ∃ x, l[k]? = some x := ⟨l[k], List.getElem?_eq_getElem hkl⟩
    have hgx := gd_of_get hx
    obtain ⟨b1, b2, b3, b4, b5, b6⟩ := good_bd hg k hkl
    rw [hgx] at b1 b2 b3 b4 b5 b6
    rw [textOf, if_pos hf, hgx, hf] at hk
    simp only [Int.toNat_natCast] at hk
    obtain ⟨z, hz⟩ : ∃ z : Nat, x.sz = z := ⟨x.sz.toNat, by omega⟩
    rw [hz] at hk b3 b4
    simp only [Int.toNat_natCast] at hk
    
    refine ACalls_of Tryd.func28 rfl in_28 (Nat.le_of_ble_eq_true rfl) ?_
    intro F hF
    simp (dsimp := false) only [go_sem, Nat.reduceAdd, Nat.reduceBEq, Nat.reduceEqDiff, Nat.reduceLT, Nat.reduceLeDiff, Nat.reduceMul, Int.reduceToNat, reduceCtorEq, ↓reduceIte, Tryd.ntmps28, Tryd.results28, ks_28, mu_28, ro_28, ti_ag3, ti_ag9, ti_ag61, ti_fl61_0, ti_fl61_2, ti_fl61_3, ti_hb46, ti_hb54, ti_hb55, ti_sb29, ti_sl29, ti_sz61, ti_zr61, ti_zr85, itD, itV, ndD, ndV, hf, hx, hz, ← List.map_take, ← List.map_drop, in_28] at hF
    subst hF
    repeat' (first
      | with_reducible refine And.intro ?_ ?_
      | with_reducible intro _
      | with_reducible refine AWp_seq ?_
      | with_reducible refine AWp_block ?_
      | (with_reducible refine hKv _ _ (AWp_nop ?_); clear hKv Kv)
      | (with_reducible refine hKv _ _ ?_; clear hKv Kv; simp (dsimp := false) only [go_sem, Nat.reduceAdd, Nat.reduceBEq, Nat.reduceEqDiff, Nat.reduceLT, Nat.reduceLeDiff, Nat.reduceMul, Int.reduceToNat, reduceCtorEq, ↓reduceIte, Tryd.ntmps28, Tryd.results28, ks_28, mu_28, ro_28, ti_ag3, ti_ag9, ti_ag61, ti_fl61_0, ti_fl61_2, ti_fl61_3, ti_hb46, ti_hb54, ti_hb55, ti_sb29, ti_sl29, ti_sz61, ti_zr61, ti_zr85, itD, itV, ndD, ndV, hf, hx, hz, ← List.map_take, ← List.map_drop])
      | (with_reducible refine hKA ?_; clear hKA hKB KA KB)
      | (with_reducible refine hKB ?_; clear hKA hKB KA KB)
      | (with_reducible refine AWp_regro mu_28 ks_28 ro_28 ?_; intro Kv hKv; simp (dsimp := false) only [go_sem, Nat.reduceAdd, Nat.reduceBEq, Nat.reduceEqDiff, Nat.reduceLT, Nat.reduceLeDiff, Nat.reduceMul, Int.reduceToNat, reduceCtorEq, ↓reduceIte, Tryd.ntmps28, Tryd.results28, ks_28, mu_28, ro_28, ti_ag3, ti_ag9, ti_ag61, ti_fl61_0, ti_fl61_2, ti_fl61_3, ti_hb46, ti_hb54, ti_hb55, ti_sb29, ti_sl29, ti_sz61, ti_zr61, ti_zr85, itD, itV, ndD, ndV, hf, hx, hz, ← List.map_take, ← List.map_drop])
      | (with_reducible refine AWp_regC mu_28 ks_28 ?_; intro Kv hKv; simp (dsimp := false) only [go_sem, Nat.reduceAdd, Nat.reduceBEq, Nat.reduceEqDiff, Nat.reduceLT, Nat.reduceLeDiff, Nat.reduceMul, Int.reduceToNat, reduceCtorEq, ↓reduceIte, Tryd.ntmps28, Tryd.results28, ks_28, mu_28, ro_28, ti_ag3, ti_ag9, ti_ag61, ti_fl61_0, ti_fl61_2, ti_fl61_3, ti_hb46, ti_hb54, ti_hb55, ti_sb29, ti_sl29, ti_sz61, ti_zr61, ti_zr85, itD, itV, ndD, ndV, hf, hx, hz, ← List.map_take, ← List.map_drop])
      | with_reducible refine AWp_skipN ?_
      | with_reducible refine AWp_exitO (by repeat (first | with_reducible exact Out.hit | with_reducible apply Out.thenA | with_reducible apply Out.out rfl)) ?_
      | (with_reducible refine AWp_retR ?_; simp (dsimp := false) only [go_sem, Nat.reduceAdd, Nat.reduceBEq, Nat.reduceEqDiff, Nat.reduceLT, Nat.reduceLeDiff, Nat.reduceMul, Int.reduceToNat, reduceCtorEq, ↓reduceIte, Tryd.ntmps28, Tryd.results28, ks_28, mu_28, ro_28, ti_ag3, ti_ag9, ti_ag61, ti_fl61_0, ti_fl61_2, ti_fl61_3, ti_hb46, ti_hb54, ti_hb55, ti_sb29, ti_sl29, ti_sz61, ti_zr61, ti_zr85, itD, itV, ndD, ndV, hf, hx, hz, ← List.map_take, ← List.map_drop])
      | (with_reducible refine AWp_regE mu_28 ks_28 ?_; intro Kv hKv; simp (dsimp := false) only [go_sem, Nat.reduceAdd, Nat.reduceBEq, Nat.reduceEqDiff, Nat.reduceLT, Nat.reduceLeDiff, Nat.reduceMul, Int.reduceToNat, reduceCtorEq, ↓reduceIte, Tryd.ntmps28, Tryd.results28, ks_28, mu_28, ro_28, ti_ag3, ti_ag9, ti_ag61, ti_fl61_0, ti_fl61_2, ti_fl61_3, ti_hb46, ti_hb54, ti_hb55, ti_sb29, ti_sl29, ti_sz61, ti_zr61, ti_zr85, itD, itV, ndD, ndV, hf, hx, hz, ← List.map_take, ← List.map_drop])
      | (refine AWp_condC rfl ?_; intro KA KB hKA hKB; try simp only [onB_true, onB_false, onB_dec, onB_ndec, onB_not, onB_and, onB_or])
      | (refine AWp_condA rfl ?_ ?_)
      | (refine at_A l k hlen hB.short _ _ ?_; try simp (dsimp := false) only [go_sem, Nat.reduceAdd, Nat.reduceBEq, Nat.reduceEqDiff, Nat.reduceLT, Nat.reduceLeDiff, Nat.reduceMul, Int.reduceToNat, reduceCtorEq, ↓reduceIte, Tryd.ntmps28, Tryd.results28, ks_28, mu_28, ro_28, ti_ag3, ti_ag9, ti_ag61, ti_fl61_0, ti_fl61_2, ti_fl61_3, ti_hb46, ti_hb54, ti_hb55, ti_sb29, ti_sl29, ti_sz61, ti_zr61, ti_zr85, itD, itV, ndD, ndV, hf, hx, hz, ← List.map_take, ← List.map_drop])
      | with_reducible refine onB_of ?_ ?_
      | with_reducible rfl
      | omega)
    rotate_left 2
    · rw [if_neg (by rintro (h | h) <;> contradiction)] at hk
      exact keepK hk (by simp [Bel_tu, Bel_d]) rfl
    all_goals
      have hor : x.k = 1 ∨ x.k = 6 := by first | exact Or.inl (by assumption) | exact Or.inr (by assumption)
      rw [if_pos hor] at hk
      have en : ((k : Int) + 1).toNat = k + 1 := by omega
      have em : ((k : Int) + 1 + (z : Int)).toNat = k + 1 + z := by omega
      rw [en, em]
      generalize hL : List.drop (k + 1) (List.take (k + 1 + z) l) = L
      have hLl : L.length = z := by rw [← hL]; simp; omega
      have hLg : ∀ j, j < z → L[j]? = l[k + 1 + j]? := fun j hj => by
        rw [← hL, List.getElem?_drop, List.getElem?_take, if_pos (by omega)]
      refine AWp_prm H.length 0 1 5 1 ((get_app0 _ _).trans rfl) rfl rfl ?_
      refine AWp_whileH (fun y : Nat × Bool × Nat => y.1 ≤ z) (fun y => [(7, .pt H.length 0 0 0), (46, .d (.sl 6 (L.map ndD))), (47, .d (.i .i64 L.length)), (48, .d (.i .i64 y.1))])
        (fun y => [bldC y.2.1 H.length 0 (.os (H.length + 1) y.2.2), bufC y.2.2 (txN l (k + 1) y.1)]) (fun y => z - y.1) (0, false, 0) (Nat.zero_le _) ?_ ?_ ?_ ?_
      · simp [bldC, bufC, selfV, txN]
      · simp (dsimp := false) only [go_sem, Nat.reduceAdd, Nat.reduceBEq, Nat.reduceEqDiff, Nat.reduceLT, Nat.reduceLeDiff, Nat.reduceMul, Int.reduceToNat, reduceCtorEq, ↓reduceIte, Tryd.ntmps28, Tryd.results28, ks_28, mu_28, ro_28, ti_ag3, ti_ag9, ti_ag61, ti_fl61_0, ti_fl61_2, ti_fl61_3, ti_hb46, ti_hb54, ti_hb55, ti_sb29, ti_sl29, ti_sz61, ti_zr61, ti_zr85, itD, itV, ndD, ndV, hf, hx, hz, ← List.map_take, ← List.map_drop]
        first | done | simp
      · rintro ⟨j, u, v⟩ _ ob hob
        simp only [List.mem_cons, List.not_mem_nil, or_false] at hob
        rcases hob with rfl | rfl
        · exact obBel_bld _ _ _ _ (by simp) (by simp)
        · exact obBel_bytes _ _ _
      rintro ⟨j, u, v⟩ hj
      simp only [] at hj ⊢
      have hbl := txN_len hB (k + 1) j
      have hbl2 : (txN l (k + 1) j).length ≤ 104857600000 := by
        have : j * 1048576 ≤ 100000 * 1048576 := Nat.mul_le_mul_right _ (by omega)
        omega
      by_cases hjz : j < z
      · obtain ⟨y, hy⟩ : ∃ y, l[k + 1 + j]? = some y := ⟨l[k + 1 + j]'(by omega), List.getElem?_eq_getElem (by omega)⟩
        have hLy : L[j]? = some y := (hLg j hjz).trans hy
        have hvy := (hB y (List.mem_of_getElem? hy)).2
        have hgy := gd_of_get hy
        
        repeat' (first
          | with_reducible refine And.intro ?_ ?_
          | with_reducible intro _
          | with_reducible refine AWp_seq ?_
          | with_reducible refine AWp_block ?_
          | (with_reducible refine hKv _ _ (AWp_nop ?_); clear hKv Kv)
          | (with_reducible refine hKv _ _ ?_; clear hKv Kv; simp (dsimp := false) only [go_sem, Nat.reduceAdd, Nat.reduceBEq, Nat.reduceEqDiff, Nat.reduceLT, Nat.reduceLeDiff, Nat.reduceMul, Int.reduceToNat, reduceCtorEq, ↓reduceIte, Tryd.ntmps28, Tryd.results28, ks_28, mu_28, ro_28, ti_ag3, ti_ag9, ti_ag61, ti_fl61_0, ti_fl61_2, ti_fl61_3, ti_hb46, ti_hb54, ti_hb55, ti_sb29, ti_sl29, ti_sz61, ti_zr61, ti_zr85, itD, itV, ndD, ndV, hLy])
          | (with_reducible refine hKA ?_; clear hKA hKB KA KB)
          | (with_reducible refine hKB ?_; clear hKA hKB KA KB)
          | (with_reducible refine AWp_regro mu_28 ks_28 ro_28 ?_; intro Kv hKv; simp (dsimp := false) only [go_sem, Nat.reduceAdd, Nat.reduceBEq, Nat.reduceEqDiff, Nat.reduceLT, Nat.reduceLeDiff, Nat.reduceMul, Int.reduceToNat, reduceCtorEq, ↓reduceIte, Tryd.ntmps28, Tryd.results28, ks_28, mu_28, ro_28, ti_ag3, ti_ag9, ti_ag61, ti_fl61_0, ti_fl61_2, ti_fl61_3, ti_hb46, ti_hb54, ti_hb55, ti_sb29, ti_sl29, ti_sz61, ti_zr61, ti_zr85, itD, itV, ndD, ndV, hLy])
          | (with_reducible refine AWp_regC mu_28 ks_28 ?_; intro Kv hKv; simp (dsimp := false) only [go_sem, Nat.reduceAdd, Nat.reduceBEq, Nat.reduceEqDiff, Nat.reduceLT, Nat.reduceLeDiff, Nat.reduceMul, Int.reduceToNat, reduceCtorEq, ↓reduceIte, Tryd.ntmps28, Tryd.results28, ks_28, mu_28, ro_28, ti_ag3, ti_ag9, ti_ag61, ti_fl61_0, ti_fl61_2, ti_fl61_3, ti_hb46, ti_hb54, ti_hb55, ti_sb29, ti_sl29, ti_sz61, ti_zr61, ti_zr85, itD, itV, ndD, ndV, hLy])
          | with_reducible refine AWp_skipN ?_
          | with_reducible refine AWp_exitO (by repeat (first | with_reducible exact Out.hit | with_reducible apply Out.thenA | with_reducible apply Out.out rfl)) ?_
          | (with_reducible refine AWp_retR ?_; simp (dsimp := false) only [go_sem, Nat.reduceAdd, Nat.reduceBEq, Nat.reduceEqDiff, Nat.reduceLT, Nat.reduceLeDiff, Nat.reduceMul, Int.reduceToNat, reduceCtorEq, ↓reduceIte, Tryd.ntmps28, Tryd.results28, ks_28, mu_28, ro_28, ti_ag3, ti_ag9, ti_ag61, ti_fl61_0, ti_fl61_2, ti_fl61_3, ti_hb46, ti_hb54, ti_hb55, ti_sb29, ti_sl29, ti_sz61, ti_zr61, ti_zr85, itD, itV, ndD, ndV, hLy])
          | (with_reducible refine AWp_regE mu_28 ks_28 ?_; intro Kv hKv; simp (dsimp := false) only [go_sem, Nat.reduceAdd, Nat.reduceBEq, Nat.reduceEqDiff, Nat.reduceLT, Nat.reduceLeDiff, Nat.reduceMul, Int.reduceToNat, reduceCtorEq, ↓reduceIte, Tryd.ntmps28, Tryd.results28, ks_28, mu_28, ro_28, ti_ag3, ti_ag9, ti_ag61, ti_fl61_0, ti_fl61_2, ti_fl61_3, ti_hb46, ti_hb54, ti_hb55, ti_sb29, ti_sl29, ti_sz61, ti_zr61, ti_zr85, itD, itV, ndD, ndV, hLy])
          | (refine AWp_condC rfl ?_; intro KA KB hKA hKB; try simp only [onB_true, onB_false, onB_dec, onB_ndec, onB_not, onB_and, onB_or])
          | (refine AWp_condA rfl ?_ ?_)
          | (refine writeString_A H.length (H.length + 1) v u _ _ (by omega) (by omega) _ _ ((get_app0 _ _).trans rfl) ((get_appk _ _ 1).trans rfl) ?_; try simp (dsimp := false) only [go_sem, Nat.reduceAdd, Nat.reduceBEq, Nat.reduceEqDiff, Nat.reduceLT, Nat.reduceLeDiff, Nat.reduceMul, Int.reduceToNat, reduceCtorEq, ↓reduceIte, Tryd.ntmps28, Tryd.results28, ks_28, mu_28, ro_28, ti_ag3, ti_ag9, ti_ag61, ti_fl61_0, ti_fl61_2, ti_fl61_3, ti_hb46, ti_hb54, ti_hb55, ti_sb29, ti_sl29, ti_sz61, ti_zr61, ti_zr85, itD, itV, ndD, ndV, hLy])
          | with_reducible refine onB_of ?_ ?_
          | with_reducible rfl
          | omega)
        all_goals first
          | (refine closed_app fun ob hob => ?_
             simp only [List.mem_cons, List.not_mem_nil, or_false] at hob
             rcases hob with rfl | rfl
             · exact obBel_bld _ _ _ _ (by simp) (by simp)
             · exact obBel_bytes _ _ _)
          | (have h3 : y.k = 3 := by assumption
             exact ⟨(j + 1, true, v + 1), by show j + 1 ≤ z; omega, by show z - (j + 1) < z - j; omega, by simp only [txN]; rw [hgy, if_pos h3], by omega, by simp⟩)
          | (have h3 : ¬ y.k = 3 := by assumption
             exact ⟨(j + 1, u, v), by show j + 1 ≤ z; omega, by show z - (j + 1) < z - j; omega, by simp only [txN]; rw [hgy, if_neg h3, List.append_nil], by omega, by simp⟩)
      · 
        repeat' (first
          | with_reducible refine And.intro ?_ ?_
          | with_reducible intro _
          | with_reducible refine AWp_seq ?_
          | with_reducible refine AWp_block ?_
          | (with_reducible refine hKv _ _ (AWp_nop ?_); clear hKv Kv)
          | (with_reducible refine hKv _ _ ?_; clear hKv Kv; simp (dsimp := false) only [go_sem, Nat.reduceAdd, Nat.reduceBEq, Nat.reduceEqDiff, Nat.reduceLT, Nat.reduceLeDiff, Nat.reduceMul, Int.reduceToNat, reduceCtorEq, ↓reduceIte, Tryd.ntmps28, Tryd.results28, ks_28, mu_28, ro_28, ti_ag3, ti_ag9, ti_ag61, ti_fl61_0, ti_fl61_2, ti_fl61_3, ti_hb46, ti_hb54, ti_hb55, ti_sb29, ti_sl29, ti_sz61, ti_zr61, ti_zr85, itD, itV, ndD, ndV])
          | (with_reducible refine hKA ?_; clear hKA hKB KA KB)
          | (with_reducible refine hKB ?_; clear hKA hKB KA KB)
          | (with_reducible refine AWp_regro mu_28 ks_28 ro_28 ?_; intro Kv hKv; simp (dsimp := false) only [go_sem, Nat.reduceAdd, Nat.reduceBEq, Nat.reduceEqDiff, Nat.reduceLT, Nat.reduceLeDiff, Nat.reduceMul, Int.reduceToNat, reduceCtorEq, ↓reduceIte, Tryd.ntmps28, Tryd.results28, ks_28, mu_28, ro_28, ti_ag3, ti_ag9, ti_ag61, ti_fl61_0, ti_fl61_2, ti_fl61_3, ti_hb46, ti_hb54, ti_hb55, ti_sb29, ti_sl29, ti_sz61, ti_zr61, ti_zr85, itD, itV, ndD, ndV])
          | (with_reducible refine AWp_regC mu_28 ks_28 ?_; intro Kv hKv; simp (dsimp := false) only [go_sem, Nat.reduceAdd, Nat.reduceBEq, Nat.reduceEqDiff, Nat.reduceLT, Nat.reduceLeDiff, Nat.reduceMul, Int.reduceToNat, reduceCtorEq, ↓reduceIte, Tryd.ntmps28, Tryd.results28, ks_28, mu_28, ro_28, ti_ag3, ti_ag9, ti_ag61, ti_fl61_0, ti_fl61_2, ti_fl61_3, ti_hb46, ti_hb54, ti_hb55, ti_sb29, ti_sl29, ti_sz61, ti_zr61, ti_zr85, itD, itV, ndD, ndV])
          | with_reducible refine AWp_skipN ?_
          | with_reducible refine AWp_exitO (by repeat (first | with_reducible exact Out.hit | with_reducible apply Out.thenA | with_reducible apply Out.out rfl)) ?_
          | (with_reducible refine AWp_retR ?_; simp (dsimp := false) only [go_sem, Nat.reduceAdd, Nat.reduceBEq, Nat.reduceEqDiff, Nat.reduceLT, Nat.reduceLeDiff, Nat.reduceMul, Int.reduceToNat, reduceCtorEq, ↓reduceIte, Tryd.ntmps28, Tryd.results28, ks_28, mu_28, ro_28, ti_ag3, ti_ag9, ti_ag61, ti_fl61_0, ti_fl61_2, ti_fl61_3, ti_hb46, ti_hb54, ti_hb55, ti_sb29, ti_sl29, ti_sz61, ti_zr61, ti_zr85, itD, itV, ndD, ndV])
          | (with_reducible refine AWp_regE mu_28 ks_28 ?_; intro Kv hKv; simp (dsimp := false) only [go_sem, Nat.reduceAdd, Nat.reduceBEq, Nat.reduceEqDiff, Nat.reduceLT, Nat.reduceLeDiff, Nat.reduceMul, Int.reduceToNat, reduceCtorEq, ↓reduceIte, Tryd.ntmps28, Tryd.results28, ks_28, mu_28, ro_28, ti_ag3, ti_ag9, ti_ag61, ti_fl61_0, ti_fl61_2, ti_fl61_3, ti_hb46, ti_hb54, ti_hb55, ti_sb29, ti_sl29, ti_sz61, ti_zr61, ti_zr85, itD, itV, ndD, ndV])
          | (refine AWp_condC rfl ?_; intro KA KB hKA hKB; try simp only [onB_true, onB_false, onB_dec, onB_ndec, onB_not, onB_and, onB_or])
          | (refine AWp_condA rfl ?_ ?_)
          | (refine bldString_A H.length (H.length + 1) v 0 _ _ (by omega) _ _ ((get_app0 _ _).trans rfl) ((get_appk _ _ 1).trans rfl) ?_; try simp (dsimp := false) only [go_sem, Nat.reduceAdd, Nat.reduceBEq, Nat.reduceEqDiff, Nat.reduceLT, Nat.reduceLeDiff, Nat.reduceMul, Int.reduceToNat, reduceCtorEq, ↓reduceIte, Tryd.ntmps28, Tryd.results28, ks_28, mu_28, ro_28, ti_ag3, ti_ag9, ti_ag61, ti_fl61_0, ti_fl61_2, ti_fl61_3, ti_hb46, ti_hb54, ti_hb55, ti_sb29, ti_sl29, ti_sz61, ti_zr61, ti_zr85, itD, itV, ndD, ndV])
          | with_reducible refine onB_of ?_ ?_
          | with_reducible rfl
          | omega)
        have e : j = z := by omega
        subst e
        exact dropK hk (by simp [Bel_tu, Bel_d]) rfl
  · rw [textOf, if_neg hf] at hk
    
    refine ACalls_of Tryd.func28 rfl in_28 (Nat.le_of_ble_eq_true rfl) ?_
    intro F hF
    simp (dsimp := false) only [go_sem, Nat.reduceAdd, Nat.reduceBEq, Nat.reduceEqDiff, Nat.reduceLT, Nat.reduceLeDiff, Nat.reduceMul, Int.reduceToNat, reduceCtorEq, ↓reduceIte, Tryd.ntmps28, Tryd.results28, ks_28, mu_28, ro_28, ti_ag3, ti_ag9, ti_ag61, ti_fl61_0, ti_fl61_2, ti_fl61_3, ti_hb46, ti_hb54, ti_hb55, ti_sb29, ti_sl29, ti_sz61, ti_zr61, ti_zr85, itD, itV, ndD, ndV, hf, in_28] at hF
    subst hF
    repeat' (first
      | with_reducible refine And.intro ?_ ?_
      | with_reducible intro _
      | with_reducible refine AWp_seq ?_
      | with_reducible refine AWp_block ?_
      | (with_reducible refine hKv _ _ (AWp_nop ?_); clear hKv Kv)
      | (with_reducible refine hKv _ _ ?_; clear hKv Kv; simp (dsimp := false) only [go_sem, Nat.reduceAdd, Nat.reduceBEq, Nat.reduceEqDiff, Nat.reduceLT, Nat.reduceLeDiff, Nat.reduceMul, Int.reduceToNat, reduceCtorEq, ↓reduceIte, Tryd.ntmps28, Tryd.results28, ks_28, mu_28, ro_28, ti_ag3, ti_ag9, ti_ag61, ti_fl61_0, ti_fl61_2, ti_fl61_3, ti_hb46, ti_hb54, ti_hb55, ti_sb29, ti_sl29, ti_sz61, ti_zr61, ti_zr85, itD, itV, ndD, ndV, hf])
      | (with_reducible refine hKA ?_; clear hKA hKB KA KB)
      | (with_reducible refine hKB ?_; clear hKA hKB KA KB)
      | (with_reducible refine AWp_regro mu_28 ks_28 ro_28 ?_; intro Kv hKv; simp (dsimp := false) only [go_sem, Nat.reduceAdd, Nat.reduceBEq, Nat.reduceEqDiff, Nat.reduceLT, Nat.reduceLeDiff, Nat.reduceMul, Int.reduceToNat, reduceCtorEq, ↓reduceIte, Tryd.ntmps28, Tryd.results28, ks_28, mu_28, ro_28, ti_ag3, ti_ag9, ti_ag61, ti_fl61_0, ti_fl61_2, ti_fl61_3, ti_hb46, ti_hb54, ti_hb55, ti_sb29, ti_sl29, ti_sz61, ti_zr61, ti_zr85, itD, itV, ndD, ndV, hf])
      | (with_reducible refine AWp_regC mu_28 ks_28 ?_; intro Kv hKv; simp (dsimp := false) only [go_sem, Nat.reduceAdd, Nat.reduceBEq, Nat.reduceEqDiff, Nat.reduceLT, Nat.reduceLeDiff, Nat.reduceMul, Int.reduceToNat, reduceCtorEq, ↓reduceIte, Tryd.ntmps28, Tryd.results28, ks_28, mu_28, ro_28, ti_ag3, ti_ag9, ti_ag61, ti_fl61_0, ti_fl61_2, ti_fl61_3, ti_hb46, ti_hb54, ti_hb55, ti_sb29, ti_sl29, ti_sz61, ti_zr61, ti_zr85, itD, itV, ndD, ndV, hf])
      | with_reducible refine AWp_skipN ?_
      | with_reducible refine AWp_exitO (by repeat (first | with_reducible exact Out.hit | with_reducible apply Out.thenA | with_reducible apply Out.out rfl)) ?_
      | (with_reducible refine AWp_retR ?_; simp (dsimp := false) only [go_sem, Nat.reduceAdd, Nat.reduceBEq, Nat.reduceEqDiff, Nat.reduceLT, Nat.reduceLeDiff, Nat.reduceMul, Int.reduceToNat, reduceCtorEq, ↓reduceIte, Tryd.ntmps28, Tryd.results28, ks_28, mu_28, ro_28, ti_ag3, ti_ag9, ti_ag61, ti_fl61_0, ti_fl61_2, ti_fl61_3, ti_hb46, ti_hb54, ti_hb55, ti_sb29, ti_sl29, ti_sz61, ti_zr61, ti_zr85, itD, itV, ndD, ndV, hf])
      | (with_reducible refine AWp_regE mu_28 ks_28 ?_; intro Kv hKv; simp (dsimp := false) only [go_sem, Nat.reduceAdd, Nat.reduceBEq, Nat.reduceEqDiff, Nat.reduceLT, Nat.reduceLeDiff, Nat.reduceMul, Int.reduceToNat, reduceCtorEq, ↓reduceIte, Tryd.ntmps28, Tryd.results28, ks_28, mu_28, ro_28, ti_ag3, ti_ag9, ti_ag61, ti_fl61_0, ti_fl61_2, ti_fl61_3, ti_hb46, ti_hb54, ti_hb55, ti_sb29, ti_sl29, ti_sz61, ti_zr61, ti_zr85, itD, itV, ndD, ndV, hf])
      | (refine AWp_condC rfl ?_; intro KA KB hKA hKB; try simp only [onB_true, onB_false, onB_dec, onB_ndec, onB_not, onB_and, onB_or])
      | (refine AWp_condA rfl ?_ ?_)
      | (refine at_A l n hlen hB.short _ _ ?_; try simp (dsimp := false) only [go_sem, Nat.reduceAdd, Nat.reduceBEq, Nat.reduceEqDiff, Nat.reduceLT, Nat.reduceLeDiff, Nat.reduceMul, Int.reduceToNat, reduceCtorEq, ↓reduceIte, Tryd.ntmps28, Tryd.results28, ks_28, mu_28, ro_28, ti_ag3, ti_ag9, ti_ag61, ti_fl61_0, ti_fl61_2, ti_fl61_3, ti_hb46, ti_hb54, ti_hb55, ti_sb29, ti_sl29, ti_sz61, ti_zr61, ti_zr85, itD, itV, ndD, ndV, hf])
      | with_reducible refine onB_of ?_ ?_
      | with_reducible rfl
      | omega)
    all_goals exact keepK hk (by simp [Bel_tu, Bel_d]) rfl

/- the live slots of pleacher/pleacherref.textAt -/
def ks_56 : Nat → List Nat
  | 0 => [0, 1]
  | 1 => [0, 1, 20]
  | 2 => [4]
  | 3 => [0, 1, 5]
  | 4 => [0, 1, 5, 6]
  | 5 => [0, 1, 5, 6, 36]
  | 6 => [0, 1, 5, 6]
  | 7 => [0, 1, 5, 6, 44]
  | 8 => [0, 1, 5, 6]
  | 9 => [4]
  | _ => []
def mu_56 : List Nat := []
def in_56 : List Nat := [0, 1]
theorem textAt_A (l : List Nd) (k : Nat) (hN : l.length ≤ 100000) (hB : Brief l) (hg : Good l l.length) (hkl : k < l.length) (H : Heap) (K : V → Heap → Prop)
    (hk : K (.d (.s (if (gd l k).k = 1 ∨ (gd l k).k = 6 then txN l (k + 1) (gd l k).sz.toNat else (gd l k).vl))) H) :
    ACalls Tryd.prog 56 [.d (.sl 6 (l.map ndD)), .d (.i .i64 k)] H K := by
  obtain ⟨x, hx⟩ : ∃ x, l[k]? = some x := ⟨l[k], List.getElem?_eq_getElem hkl⟩
  have hgx := gd_of_get hx
  obtain ⟨b1, b2, b3, b4, b5, b6⟩ := good_bd hg k hkl
  rw [hgx] at b1 b2 b3 b4 b5 b6 hk
  obtain ⟨z, hz⟩ : ∃ z : Nat, x.sz = z := ⟨x.sz.toNat, by omega⟩
  rw [hz] at hk b3 b4
  simp only [Int.toNat_natCast] at hk
  
  refine ACalls_of Tryd.func56 rfl in_56 (Nat.le_of_ble_eq_true rfl) ?_
  intro F hF
  simp (dsimp := false) only [go_sem, Nat.reduceAdd, Nat.reduceBEq, Nat.reduceEqDiff, Nat.reduceLT, Nat.reduceLeDiff, Nat.reduceMul, Int.reduceToNat, reduceCtorEq, ↓reduceIte, Tryd.ntmps56, Tryd.results56, ks_56, mu_56, ti_ag3, ti_ag9, ti_fl61_0, ti_fl61_2, ti_fl61_3, ti_sl29, itD, itV, ndD, ndV, hx, hz, in_56] at hF
  subst hF
  repeat' (first
    | with_reducible refine And.intro ?_ ?_
    | with_reducible intro _
    | with_reducible refine AWp_seq ?_
    | with_reducible refine AWp_block ?_
    | (with_reducible refine hKv _ _ (AWp_nop ?_); clear hKv Kv)
    | (with_reducible refine hKv _ _ ?_; clear hKv Kv; simp (dsimp := false) only [go_sem, Nat.reduceAdd, Nat.reduceBEq, Nat.reduceEqDiff, Nat.reduceLT, Nat.reduceLeDiff, Nat.reduceMul, Int.reduceToNat, reduceCtorEq, ↓reduceIte, Tryd.ntmps56, Tryd.results56, ks_56, mu_56, ti_ag3, ti_ag9, ti_fl61_0, ti_fl61_2, ti_fl61_3, ti_sl29, itD, itV, ndD, ndV, hx, hz])
    | (with_reducible refine hKA ?_; clear hKA hKB KA KB)
    | (with_reducible refine hKB ?_; clear hKA hKB KA KB)
    | (with_reducible refine AWp_regC mu_56 ks_56 ?_; intro Kv hKv; simp (dsimp := false) only [go_sem, Nat.reduceAdd, Nat.reduceBEq, Nat.reduceEqDiff, Nat.reduceLT, Nat.reduceLeDiff, Nat.reduceMul, Int.reduceToNat, reduceCtorEq, ↓reduceIte, Tryd.ntmps56, Tryd.results56, ks_56, mu_56, ti_ag3, ti_ag9, ti_fl61_0, ti_fl61_2, ti_fl61_3, ti_sl29, itD, itV, ndD, ndV, hx, hz])
    | with_reducible refine AWp_skipN ?_
    | with_reducible refine AWp_exitO (by repeat (first | with_reducible exact Out.hit | with_reducible apply Out.thenA | with_reducible apply Out.out rfl)) ?_
    | (with_reducible refine AWp_retR ?_; simp (dsimp := false) only [go_sem, Nat.reduceAdd, Nat.reduceBEq, Nat.reduceEqDiff, Nat.reduceLT, Nat.reduceLeDiff, Nat.reduceMul, Int.reduceToNat, reduceCtorEq, ↓reduceIte, Tryd.ntmps56, Tryd.results56, ks_56, mu_56, ti_ag3, ti_ag9, ti_fl61_0, ti_fl61_2, ti_fl61_3, ti_sl29, itD, itV, ndD, ndV, hx, hz])
    | (with_reducible refine AWp_regE mu_56 ks_56 ?_; intro Kv hKv; simp (dsimp := false) only [go_sem, Nat.reduceAdd, Nat.reduceBEq, Nat.reduceEqDiff, Nat.reduceLT, Nat.reduceLeDiff, Nat.reduceMul, Int.reduceToNat, reduceCtorEq, ↓reduceIte, Tryd.ntmps56, Tryd.results56, ks_56, mu_56, ti_ag3, ti_ag9, ti_fl61_0, ti_fl61_2, ti_fl61_3, ti_sl29, itD, itV, ndD, ndV, hx, hz])
    | (refine AWp_condC rfl ?_; intro KA KB hKA hKB; try simp only [onB_true, onB_false, onB_dec, onB_ndec, onB_not, onB_and, onB_or])
    | (refine AWp_condA rfl ?_ ?_)
    | with_reducible refine onB_of ?_ ?_
    | with_reducible rfl
    | omega)
  rotate_left 2
  · rw [if_neg (by rintro (h | h) <;> contradiction)] at hk
    exact keepD hk rfl
  all_goals
    have hor : x.k = 1 ∨ x.k = 6 := by first | exact Or.inl (by assumption) | exact Or.inr (by assumption)
    rw [if_pos hor] at hk
    refine AWp_while0 (fun j : Nat => j ≤ z) (fun j => [(0, .d (.sl 6 (l.map ndD))), (1, .d (.i .i64 k)), (5, .d (.s (txN l (k + 1) j))), (6, .d (.i .i64 ((k + 1 + j : Nat) : Int)))]) (fun j => z - j) 0 (Nat.zero_le _) ?_ ?_
    · simp (dsimp := false) only [go_sem, Nat.reduceAdd, Nat.reduceBEq, Nat.reduceEqDiff, Nat.reduceLT, Nat.reduceLeDiff, Nat.reduceMul, Int.reduceToNat, reduceCtorEq, ↓reduceIte, Tryd.ntmps56, Tryd.results56, ks_56, mu_56, ti_ag3, ti_ag9, ti_fl61_0, ti_fl61_2, ti_fl61_3, ti_sl29, itD, itV, ndD, ndV, hx, hz]
      first | done | simp [txN]
    rintro j hj
    have hbl := txN_len hB (k + 1) j
    have hbl2 : (txN l (k + 1) j).length ≤ 104857600000 := by
      have : j * 1048576 ≤ 100000 * 1048576 := Nat.mul_le_mul_right _ (by omega)
      omega
    by_cases hjz : j < z
    · obtain ⟨y, hy⟩ : ∃ y, l[k + 1 + j]? = some y := ⟨l[k + 1 + j]'(by omega), List.getElem?_eq_getElem (by omega)⟩
      have hvy := (hB y (List.mem_of_getElem? hy)).2
      have hgy := gd_of_get hy
      
      repeat' (first
        | with_reducible refine And.intro ?_ ?_
        | with_reducible intro _
        | with_reducible refine AWp_seq ?_
        | with_reducible refine AWp_block ?_
        | (with_reducible refine hKv _ _ (AWp_nop ?_); clear hKv Kv)
        | (with_reducible refine hKv _ _ ?_; clear hKv Kv; simp (dsimp := false) only [go_sem, Nat.reduceAdd, Nat.reduceBEq, Nat.reduceEqDiff, Nat.reduceLT, Nat.reduceLeDiff, Nat.reduceMul, Int.reduceToNat, reduceCtorEq, ↓reduceIte, Tryd.ntmps56, Tryd.results56, ks_56, mu_56, ti_ag3, ti_ag9, ti_fl61_0, ti_fl61_2, ti_fl61_3, ti_sl29, itD, itV, ndD, ndV, hx, hz, hy])
        | (with_reducible refine hKA ?_; clear hKA hKB KA KB)
        | (with_reducible refine hKB ?_; clear hKA hKB KA KB)
        | (with_reducible refine AWp_regC mu_56 ks_56 ?_; intro Kv hKv; simp (dsimp := false) only [go_sem, Nat.reduceAdd, Nat.reduceBEq, Nat.reduceEqDiff, Nat.reduceLT, Nat.reduceLeDiff, Nat.reduceMul, Int.reduceToNat, reduceCtorEq, ↓reduceIte, Tryd.ntmps56, Tryd.results56, ks_56, mu_56, ti_ag3, ti_ag9, ti_fl61_0, ti_fl61_2, ti_fl61_3, ti_sl29, itD, itV, ndD, ndV, hx, hz, hy])
        | with_reducible refine AWp_skipN ?_
        | with_reducible refine AWp_exitO (by repeat (first | with_reducible exact Out.hit | with_reducible apply Out.thenA | with_reducible apply Out.out rfl)) ?_
        | (with_reducible refine AWp_retR ?_; simp (dsimp := false) only [go_sem, Nat.reduceAdd, Nat.reduceBEq, Nat.reduceEqDiff, Nat.reduceLT, Nat.reduceLeDiff, Nat.reduceMul, Int.reduceToNat, reduceCtorEq, ↓reduceIte, Tryd.ntmps56, Tryd.results56, ks_56, mu_56, ti_ag3, ti_ag9, ti_fl61_0, ti_fl61_2, ti_fl61_3, ti_sl29, itD, itV, ndD, ndV, hx, hz, hy])
        | (with_reducible refine AWp_regE mu_56 ks_56 ?_; intro Kv hKv; simp (dsimp := false) only [go_sem, Nat.reduceAdd, Nat.reduceBEq, Nat.reduceEqDiff, Nat.reduceLT, Nat.reduceLeDiff, Nat.reduceMul, Int.reduceToNat, reduceCtorEq, ↓reduceIte, Tryd.ntmps56, Tryd.results56, ks_56, mu_56, ti_ag3, ti_ag9, ti_fl61_0, ti_fl61_2, ti_fl61_3, ti_sl29, itD, itV, ndD, ndV, hx, hz, hy])
        | (refine AWp_condC rfl ?_; intro KA KB hKA hKB; try simp only [onB_true, onB_false, onB_dec, onB_ndec, onB_not, onB_and, onB_or])
        | (refine AWp_condA rfl ?_ ?_)
        | with_reducible refine onB_of ?_ ?_
        | with_reducible rfl
        | omega)
      all_goals first
        | (have h3 : y.k = 3 := by assumption
           exact ⟨j + 1, by omega, by omega, by simp only [txN]; rw [hgy, if_pos h3], by omega⟩)
        | (have h3 : ¬ y.k = 3 := by assumption
           exact ⟨j + 1, by omega, by omega, by simp only [txN]; rw [hgy, if_neg h3, List.append_nil], by omega⟩)
    · 
      repeat' (first
        | with_reducible refine And.intro ?_ ?_
        | with_reducible intro _
        | with_reducible refine AWp_seq ?_
        | with_reducible refine AWp_block ?_
        | (with_reducible refine hKv _ _ (AWp_nop ?_); clear hKv Kv)
        | (with_reducible refine hKv _ _ ?_; clear hKv Kv; simp (dsimp := false) only [go_sem, Nat.reduceAdd, Nat.reduceBEq, Nat.reduceEqDiff, Nat.reduceLT, Nat.reduceLeDiff, Nat.reduceMul, Int.reduceToNat, reduceCtorEq, ↓reduceIte, Tryd.ntmps56, Tryd.results56, ks_56, mu_56, ti_ag3, ti_ag9, ti_fl61_0, ti_fl61_2, ti_fl61_3, ti_sl29, itD, itV, ndD, ndV, hx, hz])
        | (with_reducible refine hKA ?_; clear hKA hKB KA KB)
        | (with_reducible refine hKB ?_; clear hKA hKB KA KB)
        | (with_reducible refine AWp_regC mu_56 ks_56 ?_; intro Kv hKv; simp (dsimp := false) only [go_sem, Nat.reduceAdd, Nat.reduceBEq, Nat.reduceEqDiff, Nat.reduceLT, Nat.reduceLeDiff, Nat.reduceMul, Int.reduceToNat, reduceCtorEq, ↓reduceIte, Tryd.ntmps56, Tryd.results56, ks_56, mu_56, ti_ag3, ti_ag9, ti_fl61_0, ti_fl61_2, ti_fl61_3, ti_sl29, itD, itV, ndD, ndV, hx, hz])
        | with_reducible refine AWp_skipN ?_
        | with_reducible refine AWp_exitO (by repeat (first | with_reducible exact Out.hit | with_reducible apply Out.thenA | with_reducible apply Out.out rfl)) ?_
        | (with_reducible refine AWp_retR ?_; simp (dsimp := false) only [go_sem, Nat.reduceAdd, Nat.reduceBEq, Nat.reduceEqDiff, Nat.reduceLT, Nat.reduceLeDiff, Nat.reduceMul, Int.reduceToNat, reduceCtorEq, ↓reduceIte, Tryd.ntmps56, Tryd.results56, ks_56, mu_56, ti_ag3, ti_ag9, ti_fl61_0, ti_fl61_2, ti_fl61_3, ti_sl29, itD, itV, ndD, ndV, hx, hz])
        | (with_reducible refine AWp_regE mu_56 ks_56 ?_; intro Kv hKv; simp (dsimp := false) only [go_sem, Nat.reduceAdd, Nat.reduceBEq, Nat.reduceEqDiff, Nat.reduceLT, Nat.reduceLeDiff, Nat.reduceMul, Int.reduceToNat, reduceCtorEq, ↓reduceIte, Tryd.ntmps56, Tryd.results56, ks_56, mu_56, ti_ag3, ti_ag9, ti_fl61_0, ti_fl61_2, ti_fl61_3, ti_sl29, itD, itV, ndD, ndV, hx, hz])
        | (refine AWp_condC rfl ?_; intro KA KB hKA hKB; try simp only [onB_true, onB_false, onB_dec, onB_ndec, onB_not, onB_and, onB_or])
        | (refine AWp_condA rfl ?_ ?_)
        | with_reducible refine onB_of ?_ ?_
        | with_reducible rfl
        | omega)
      have e : j = z := by omega
      subst e
      exact keepD hk rfl

/- the live slots of pleacher/pleacherref.TextOf -/
def ks_29 : Nat → List Nat
  | 0 => [0, 1]
  | 1 => [0, 1, 6]
  | 2 => [0, 1, 6, 11]
  | 3 => [4, 5]
  | 4 => [4, 5]
  | _ => []
def mu_29 : List Nat := []
def in_29 : List Nat := [0, 1]
theorem refTextOf_A (l : List Nd) (n : Int) (hlen : l.length ≤ 9223372036854775807) (hB : Brief l) (H : Heap) (K : V → Heap → Prop) (hk : K (.tu [.d (.s (textOf l n)), .d (.i .i64 (atFault l n))]) H) :
    ACalls Tryd.prog 29 [.d (.sl 6 (l.map ndD)), .d (.i .i64 n)] H K := by
  by_cases hf : atFault l n = 0
  · obtain ⟨hnf, hn0, hnl⟩ := atFault_ok hf
    obtain ⟨hN, hg⟩ := good_of hnf
    obtain ⟨k, rfl⟩ : ∃ k : Nat, n = k := ⟨n.toNat, by omega⟩
    rw [textOf, if_pos hf, hf] at hk
    simp only [Int.toNat_natCast] at hk
    
    refine ACalls_of Tryd.func29 rfl in_29 (Nat.le_of_ble_eq_true rfl) ?_
    intro F hF
    simp (dsimp := false) only [go_sem, Nat.reduceAdd, Nat.reduceBEq, Nat.reduceEqDiff, Nat.reduceLT, Nat.reduceLeDiff, Nat.reduceMul, Int.reduceToNat, reduceCtorEq, ↓reduceIte, Tryd.ntmps29, Tryd.results29, ks_29, mu_29, ti_hb47, ti_hb56, itD, itV, ndD, ndV, hf, in_29] at hF
    subst hF
    repeat' (first
      | with_reducible refine And.intro ?_ ?_
      | with_reducible intro _
      | with_reducible refine AWp_seq ?_
      | with_reducible refine AWp_block ?_
      | (with_reducible refine hKv _ _ (AWp_nop ?_); clear hKv Kv)
      | (with_reducible refine hKv _ _ ?_; clear hKv Kv; simp (dsimp := false) only [go_sem, Nat.reduceAdd, Nat.reduceBEq, Nat.reduceEqDiff, Nat.reduceLT, Nat.reduceLeDiff, Nat.reduceMul, Int.reduceToNat, reduceCtorEq, ↓reduceIte, Tryd.ntmps29, Tryd.results29, ks_29, mu_29, ti_hb47, ti_hb56, itD, itV, ndD, ndV, hf])
      | (with_reducible refine hKA ?_; clear hKA hKB KA KB)
      | (with_reducible refine hKB ?_; clear hKA hKB KA KB)
      | (with_reducible refine AWp_regC mu_29 ks_29 ?_; intro Kv hKv; simp (dsimp := false) only [go_sem, Nat.reduceAdd, Nat.reduceBEq, Nat.reduceEqDiff, Nat.reduceLT, Nat.reduceLeDiff, Nat.reduceMul, Int.reduceToNat, reduceCtorEq, ↓reduceIte, Tryd.ntmps29, Tryd.results29, ks_29, mu_29, ti_hb47, ti_hb56, itD, itV, ndD, ndV, hf])
      | with_reducible refine AWp_skipN ?_
      | with_reducible refine AWp_exitO (by repeat (first | with_reducible exact Out.hit | with_reducible apply Out.thenA | with_reducible apply Out.out rfl)) ?_
      | (with_reducible refine AWp_retR ?_; simp (dsimp := false) only [go_sem, Nat.reduceAdd, Nat.reduceBEq, Nat.reduceEqDiff, Nat.reduceLT, Nat.reduceLeDiff, Nat.reduceMul, Int.reduceToNat, reduceCtorEq, ↓reduceIte, Tryd.ntmps29, Tryd.results29, ks_29, mu_29, ti_hb47, ti_hb56, itD, itV, ndD, ndV, hf])
      | (with_reducible refine AWp_regE mu_29 ks_29 ?_; intro Kv hKv; simp (dsimp := false) only [go_sem, Nat.reduceAdd, Nat.reduceBEq, Nat.reduceEqDiff, Nat.reduceLT, Nat.reduceLeDiff, Nat.reduceMul, Int.reduceToNat, reduceCtorEq, ↓reduceIte, Tryd.ntmps29, Tryd.results29, ks_29, mu_29, ti_hb47, ti_hb56, itD, itV, ndD, ndV, hf])
      | (refine AWp_condC rfl ?_; intro KA KB hKA hKB; try simp only [onB_true, onB_false, onB_dec, onB_ndec, onB_not, onB_and, onB_or])
      | (refine AWp_condA rfl ?_ ?_)
      | (refine nodeFault_A l k hlen hB.short _ _ ?_; try simp (dsimp := false) only [go_sem, Nat.reduceAdd, Nat.reduceBEq, Nat.reduceEqDiff, Nat.reduceLT, Nat.reduceLeDiff, Nat.reduceMul, Int.reduceToNat, reduceCtorEq, ↓reduceIte, Tryd.ntmps29, Tryd.results29, ks_29, mu_29, ti_hb47, ti_hb56, itD, itV, ndD, ndV, hf])
      | (refine textAt_A l k hN hB hg (by omega) _ _ ?_; try simp (dsimp := false) only [go_sem, Nat.reduceAdd, Nat.reduceBEq, Nat.reduceEqDiff, Nat.reduceLT, Nat.reduceLeDiff, Nat.reduceMul, Int.reduceToNat, reduceCtorEq, ↓reduceIte, Tryd.ntmps29, Tryd.results29, ks_29, mu_29, ti_hb47, ti_hb56, itD, itV, ndD, ndV, hf])
      | with_reducible refine onB_of ?_ ?_
      | with_reducible rfl
      | omega)
    all_goals exact keepK hk (by simp [Bel_tu, Bel_d]) rfl
  · rw [textOf, if_neg hf] at hk
    
    refine ACalls_of Tryd.func29 rfl in_29 (Nat.le_of_ble_eq_true rfl) ?_
    intro F hF
    simp (dsimp := false) only [go_sem, Nat.reduceAdd, Nat.reduceBEq, Nat.reduceEqDiff, Nat.reduceLT, Nat.reduceLeDiff, Nat.reduceMul, Int.reduceToNat, reduceCtorEq, ↓reduceIte, Tryd.ntmps29, Tryd.results29, ks_29, mu_29, ti_hb47, ti_hb56, itD, itV, ndD, ndV, hf, in_29] at hF
    subst hF
    repeat' (first
      | with_reducible refine And.intro ?_ ?_
      | with_reducible intro _
      | with_reducible refine AWp_seq ?_
      | with_reducible refine AWp_block ?_
      | (with_reducible refine hKv _ _ (AWp_nop ?_); clear hKv Kv)
      | (with_reducible refine hKv _ _ ?_; clear hKv Kv; simp (dsimp := false) only [go_sem, Nat.reduceAdd, Nat.reduceBEq, Nat.reduceEqDiff, Nat.reduceLT, Nat.reduceLeDiff, Nat.reduceMul, Int.reduceToNat, reduceCtorEq, ↓reduceIte, Tryd.ntmps29, Tryd.results29, ks_29, mu_29, ti_hb47, ti_hb56, itD, itV, ndD, ndV, hf])
      | (with_reducible refine hKA ?_; clear hKA hKB KA KB)
      | (with_reducible refine hKB ?_; clear hKA hKB KA KB)
      | (with_reducible refine AWp_regC mu_29 ks_29 ?_; intro Kv hKv; simp (dsimp := false) only [go_sem, Nat.reduceAdd, Nat.reduceBEq, Nat.reduceEqDiff, Nat.reduceLT, Nat.reduceLeDiff, Nat.reduceMul, Int.reduceToNat, reduceCtorEq, ↓reduceIte, Tryd.ntmps29, Tryd.results29, ks_29, mu_29, ti_hb47, ti_hb56, itD, itV, ndD, ndV, hf])
      | with_reducible refine AWp_skipN ?_
      | with_reducible refine AWp_exitO (by repeat (first | with_reducible exact Out.hit | with_reducible apply Out.thenA | with_reducible apply Out.out rfl)) ?_
      | (with_reducible refine AWp_retR ?_; simp (dsimp := false) only [go_sem, Nat.reduceAdd, Nat.reduceBEq, Nat.reduceEqDiff, Nat.reduceLT, Nat.reduceLeDiff, Nat.reduceMul, Int.reduceToNat, reduceCtorEq, ↓reduceIte, Tryd.ntmps29, Tryd.results29, ks_29, mu_29, ti_hb47, ti_hb56, itD, itV, ndD, ndV, hf])
      | (with_reducible refine AWp_regE mu_29 ks_29 ?_; intro Kv hKv; simp (dsimp := false) only [go_sem, Nat.reduceAdd, Nat.reduceBEq, Nat.reduceEqDiff, Nat.reduceLT, Nat.reduceLeDiff, Nat.reduceMul, Int.reduceToNat, reduceCtorEq, ↓reduceIte, Tryd.ntmps29, Tryd.results29, ks_29, mu_29, ti_hb47, ti_hb56, itD, itV, ndD, ndV, hf])
      | (refine AWp_condC rfl ?_; intro KA KB hKA hKB; try simp only [onB_true, onB_false, onB_dec, onB_ndec, onB_not, onB_and, onB_or])
      | (refine AWp_condA rfl ?_ ?_)
      | (refine nodeFault_A l n hlen hB.short _ _ ?_; try simp (dsimp := false) only [go_sem, Nat.reduceAdd, Nat.reduceBEq, Nat.reduceEqDiff, Nat.reduceLT, Nat.reduceLeDiff, Nat.reduceMul, Int.reduceToNat, reduceCtorEq, ↓reduceIte, Tryd.ntmps29, Tryd.results29, ks_29, mu_29, ti_hb47, ti_hb56, itD, itV, ndD, ndV, hf])
      | with_reducible refine onB_of ?_ ?_
      | with_reducible rfl
      | omega)
    all_goals exact keepK hk (by simp [Bel_tu, Bel_d]) rfl
end Go.Proofs.YtjedhhdkgjchdaaDoor
