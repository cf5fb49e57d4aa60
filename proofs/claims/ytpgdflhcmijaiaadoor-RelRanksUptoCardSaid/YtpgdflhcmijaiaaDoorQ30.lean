/- Items as one text that tells them: what the program makes. No condition. -/
import Derived.Test.YtpgdflhcmijaiaaDoorQ29
import Derived.Test.YtpgdflhcmijaiaaDoorQ21
set_option linter.all false
set_option linter.unusedSimpArgs false
set_option linter.unusedVariables false
namespace Go.Proofs.YtpgdflhcmijaiaaDoor
open Go Go.Proofs.YtpgdflhcmijaiaaDoor.Ab
variable [Glo]
set_option maxHeartbeats 4000000
set_option maxRecDepth 20000
def leB (n : Int) (i : Nat) : UInt8 := UInt8.ofNat ((n.fdiv (2 ^ (8 * i))) % 256).toNat
theorem leB_val (n : Int) (i : Nat) : ((leB n i).toNat : Int) = (n.fdiv (2 ^ (8 * i))) % 256 := by
  have h1 := Int.emod_nonneg (n.fdiv (2 ^ (8 * i))) (b := 256) (by decide)
  have h2 := Int.emod_lt_of_pos (n.fdiv (2 ^ (8 * i))) (b := 256) (by decide)
  unfold leB
  generalize (n.fdiv (2 ^ (8 * i))) % 256 = x at h1 h2 ⊢
  rw [UInt8.toNat_ofNat']
  omega
def le8 (n : Int) : List UInt8 := (List.range 8).map (leB n)
theorem le8_len (n : Int) : (le8 n).length = 8 := by simp [le8]
theorem le8_get (n : Int) {i : Nat} (h : i < 8) : (le8 n)[i]? = some (leB n i) := by
  rw [le8, List.getElem?_map, List.getElem?_range h]
  rfl
theorem le8_inj {n m : Int} (hn : -9223372036854775808 ≤ n ∧ n ≤ 9223372036854775807) (hm : -9223372036854775808 ≤ m ∧ m ≤ 9223372036854775807) (h : le8 n = le8 m) : n = m := by
  have d : ∀ i, i < 8 → (n.fdiv (2 ^ (8 * i))) % 256 = (m.fdiv (2 ^ (8 * i))) % 256 := fun i hi => by
    have := congrArg (fun l => l[i]?) h
    simp only [le8_get _ hi, Option.some.injEq] at this
    rw [← leB_val, ← leB_val, this]
  have step : ∀ i, (n.fdiv (2 ^ (8 * (i + 1)))) = (m.fdiv (2 ^ (8 * (i + 1)))) → (n.fdiv (2 ^ (8 * i))) % 256 = (m.fdiv (2 ^ (8 * i))) % 256 → (n.fdiv (2 ^ (8 * i))) = (m.fdiv (2 ^ (8 * i))) := fun i h1 h2 => by
    have e : (2 : Int) ^ (8 * (i + 1)) = 2 ^ (8 * i) * 256 := by rw [show 8 * (i + 1) = 8 * i + 8 by omega, Int.pow_add]; rfl
    have p : (0 : Int) < 2 ^ (8 * i) := Int.pow_pos (by decide)
    rw [e] at h1
    rw [Int.fdiv_eq_ediv_of_nonneg _ (by omega), Int.fdiv_eq_ediv_of_nonneg _ (by omega)] at h1 h2 ⊢
    rw [← Int.ediv_ediv_of_nonneg (by omega), ← Int.ediv_ediv_of_nonneg (by omega)] at h1
    omega
  have top : n.fdiv (2 ^ (8 * 7)) = m.fdiv (2 ^ (8 * 7)) := by
    have := d 7 (by decide)
    have e : (2 : Int) ^ (8 * 7) = 72057594037927936 := by decide
    rw [e] at this ⊢
    rw [Int.fdiv_eq_ediv_of_nonneg _ (by decide), Int.fdiv_eq_ediv_of_nonneg _ (by decide)] at this ⊢
    omega
  have t6 := step 6 top (d 6 (by decide))
  have t5 := step 5 t6 (d 5 (by decide))
  have t4 := step 4 t5 (d 4 (by decide))
  have t3 := step 3 t4 (d 3 (by decide))
  have t2 := step 2 t3 (d 2 (by decide))
  have t1 := step 1 t2 (d 1 (by decide))
  have t0 := step 0 t1 (d 0 (by decide))
  simpa using t0
def key1 (x : It) : List UInt8 := leB x.k 0 :: (le8 x.n ++ (le8 x.s.length ++ x.s))
def keyL (l : List It) : List UInt8 := (l.map key1).flatten
theorem keyL_app (l : List It) (x : It) : keyL (l ++ [x]) = keyL l ++ key1 x := by simp [keyL]
theorem key1_len (x : It) : (key1 x).length = 17 + x.s.length := by simp [key1, le8_len]; omega
theorem wrap_u8 (n : Int) : IntKind.u8.wrap n = n % 256 := by
  simp [IntKind.wrap, IntKind.bits, IntKind.signed]
theorem wrap_le (n : Int) (i : Nat) (h : i < 8) : IntKind.u8.wrap (n.fdiv (2 ^ (min ((8 : Int) * (i : Int)).toNat 64))) = ((leB n i).toNat : Int) := by
  rw [wrap_u8, leB_val]
  have : min ((8 : Int) * (i : Int)).toNat 64 = 8 * i := by omega
  rw [this]
theorem wrap_le0 (n : Int) : IntKind.u8.wrap n = ((leB n 0).toNat : Int) := by
  rw [wrap_u8, leB_val]; simp
theorem obBel_bld (m id id2 k : Nat) {u : Bool} (h1 : id < m) (h2 : id2 < m) : ObBel m (bldC u id 0 (.os id2 k)) := by
  intro row hr v hv
  simp at hr
  subst hr
  simp at hv
  rcases hv with rfl | rfl
  · cases u
    · exact .d _
    · exact .pt _ _ _ _ h1
  · exact .os _ _ h2
theorem bufC_app1 (k : Nat) (bs : List UInt8) (c : UInt8) : (Ob.row k 5 1 (bs.map byteC ++ [[V.d (.i .u8 c.toNat)]])) = bufC k (bs ++ [c]) := by
  simp [bufC, byteC]
def ks_69 : Nat → List Nat
  | 0 => [0, 1]
  | 1 => [0, 1]
  | 2 => []
  | 3 => [4]
  | _ => []
def mu_69 : List Nat := []
def in_69 : List Nat := [0, 1]
theorem writeByte_A (id id2 k : Nat) (u : Bool) (bs : List UInt8) (n : Int) (c : UInt8) (hn : n = c.toNat) (hne : id ≠ id2) (hlen : bs.length + 1 ≤ 140737488355328) (H : Heap) (K : V → Heap → Prop) (hr : H[id]? = some (bldC u id 0 (.os id2 k))) (hr2 : H[id2]? = some (bufC k bs))
    (hk : K (.d (.c .nilIface)) ((H.set id2 (bufC (k + 1) (bs ++ [c]))).set id (bldC true id 0 (.os id2 (k + 1))))) :
    ACalls Tryd.prog 69 [.pt id 0 0 0, .d (.i .u8 n)] H K := by
  subst hn
  have hid := (List.getElem?_eq_some_iff.1 hr).1
  have hid2 := (List.getElem?_eq_some_iff.1 hr2).1
  have e1 : (H.set id (.row 0 92 2 [[.pt id 0 0 0, .os id2 k]]))[id]? = some (.row 0 92 2 [[.pt id 0 0 0, .os id2 k]]) := get_self hr _
  have e2 : (H.set id (.row 0 92 2 [[.pt id 0 0 0, .os id2 k]]))[id2]? = some (.row k 5 1 (bs.map byteC)) := (get_ne hne _).trans hr2
  have e3 : ∀ x, ((H.set id (.row 0 92 2 [[.pt id 0 0 0, .os id2 k]])).set id2 x)[id]? = some (.row 0 92 2 [[.pt id 0 0 0, .os id2 k]]) := fun x => (get_ne (fun e => hne e.symm) _).trans e1
  have e4 : ∀ x, ((H.set id (.row 0 92 2 [[.pt id 0 0 0, .os id2 k]])).set id2 x)[id2]? = some x := fun x => get_self e2 _
  refine ACalls_of Tryd.func69 rfl in_69 (Nat.le_of_ble_eq_true rfl) ?_
  intro F hF
  simp (dsimp := false) only [go_sem, Nat.reduceAdd, Nat.reduceBEq, Nat.reduceEqDiff, Nat.reduceLT, Nat.reduceLeDiff, Nat.reduceMul, Int.reduceToNat, reduceCtorEq, ↓reduceIte, Tryd.ntmps69, Tryd.results69, ks_69, mu_69, ti_ag90, ti_fl92_1, ti_hb92, ti_sl90, ti_sz90, in_69] at hF
  subst hF
  repeat' (first | with_reducible (first | refine And.intro ?_ ?_ | intro _ | refine AWp_seq ?_ | refine AWp_block ?_ | (refine hKv _ _ (AWp_nop ?_); clear hKv Kv) | (refine hKA ?_; clear hKA hKB KA KB) | (refine hKB ?_; clear hKA hKB KA KB) | refine AWp_skipN ?_ | refine AWp_exitO (by repeat (first | exact Out.hit | apply Out.thenA | apply Out.out rfl)) ?_) | ((first | with_reducible (first | (refine hKv _ _ ?_; clear hKv Kv) | ((first | refine AWp_regC mu_69 ks_69 ?_ | refine AWp_regE mu_69 ks_69 ?_); intro Kv hKv) | refine AWp_retR ?_) | refine copyCheck_A id 0 _ u _ _ hr ?_); try simp (dsimp := false) only [go_sem, Nat.reduceAdd, Nat.reduceBEq, Nat.reduceEqDiff, Nat.reduceLT, Nat.reduceLeDiff, Nat.reduceMul, Int.reduceToNat, reduceCtorEq, ↓reduceIte, Tryd.ntmps69, Tryd.results69, ks_69, mu_69, ti_ag90, ti_fl92_1, ti_hb92, ti_sl90, ti_sz90, bldC, selfV, e1, e2, e3, e4, hid, hid2, List.length_set]) | (refine AWp_condC rfl ?_; intro KA KB hKA hKB; try simp only [onB_true, onB_false, onB_dec, onB_ndec, onB_not, onB_and, onB_or]) | (refine AWp_condA rfl ?_ ?_) | with_reducible (first | refine onB_of ?_ ?_ | rfl) | omega)
  rw [bufC_app1]
  rw [List.set_comm _ _ hne, List.set_set]
  refine keepS hk (by simp) (closed_set (closed_set (closed_self H) (obBel_bytes _ _ _)) ?_) (by simp [Bel_d])
  intro row hrow v hv
  simp at hrow
  subst hrow
  simp at hv
  rcases hv with rfl | rfl
  · exact .pt _ _ _ _ (by simpa using hid)
  · exact .os _ _ (by simpa using hid2)
theorem keyL_len (l : List It) (hS : ∀ x, x ∈ l → x.s.length ≤ 1048576) : (keyL l).length ≤ l.length * 1048593 := by
  induction l with
  | nil => simp [keyL]
  | cons x l ih =>
    have h1 := hS x (by simp)
    have h2 := ih fun y hy => hS y (by simp [hy])
    simp only [keyL, List.map_cons, List.flatten_cons, List.length_append, key1_len, List.length_cons] at h2 ⊢
    rw [Nat.add_mul]
    omega
def ks_36 : Nat → List Nat
  | 0 => [0]
  | 1 => [0, 3]
  | 2 => [3, 9, 10, 11]
  | 3 => [3, 9, 10, 11, 12]
  | 4 => [3, 5, 9, 10, 11]
  | 5 => [3, 5, 9, 10, 11]
  | 6 => [3, 5, 9, 10, 11, 19]
  | 7 => [3, 5, 9, 10, 11, 19, 20]
  | 8 => [3, 5, 6, 9, 10, 11, 19]
  | 9 => [3, 5, 9, 10, 11, 19]
  | 10 => [3, 5, 9, 10, 11, 19]
  | 11 => [3, 5, 7, 9, 10, 11]
  | 12 => [3, 5, 7, 9, 10, 11, 33]
  | 13 => [3, 5, 7, 9, 10, 11, 33, 34]
  | 14 => [3, 5, 7, 8, 9, 10, 11, 33]
  | 15 => [3, 5, 7, 9, 10, 11, 33]
  | 16 => [3, 5, 7, 9, 10, 11, 33]
  | 17 => [3, 9, 10, 11]
  | 18 => [3, 9, 10, 11]
  | 19 => [2]
  | _ => []
def mu_36 : List Nat := []
def in_36 : List Nat := [0]
def ro_36 : Nat → List Nat
  | 4 => [5]
  | _ => []
theorem key_A (l : List It) (hl : l.length ≤ 1048576) (hS : ∀ x, x ∈ l → x.s.length ≤ 1048576) (H : Heap) (K : V → Heap → Prop) (hk : K (.d (.s (keyL l))) H) :
    ACalls Tryd.prog 36 [.d (.sl 3 (l.map itD))] H K := by
  refine ACalls_of Tryd.func36 rfl in_36 (Nat.le_of_ble_eq_true rfl) ?_
  intro F hF
  simp (dsimp := false) only [go_sem, Nat.reduceAdd, Nat.reduceBEq, Nat.reduceEqDiff, Nat.reduceLT, Nat.reduceLeDiff, Nat.reduceMul, Int.reduceToNat, reduceCtorEq, ↓reduceIte, Tryd.ntmps36, Tryd.results36, ks_36, mu_36, ro_36, ti_ag3, ti_ag9, ti_ag49, ti_fl49_0, ti_fl49_1, ti_fl49_2, ti_hb69, ti_hb70, ti_hb71, ti_in5, ti_sb44, ti_sl44, ti_st9, ti_sz49, ti_us3, ti_zr49, ti_zr92, itD, itV, in_36] at hF
  subst hF
  repeat' (first | with_reducible (first | refine And.intro ?_ ?_ | intro _ | refine AWp_seq ?_ | refine AWp_block ?_ | (refine hKv _ _ (AWp_nop ?_); clear hKv Kv) | (refine hKA ?_; clear hKA hKB KA KB) | (refine hKB ?_; clear hKA hKB KA KB) | refine AWp_skipN ?_ | refine AWp_exitO (by repeat (first | exact Out.hit | apply Out.thenA | apply Out.out rfl)) ?_) | (with_reducible (first | (refine hKv _ _ ?_; clear hKv Kv) | ((first | refine AWp_regro mu_36 ks_36 ro_36 ?_ | refine AWp_regC mu_36 ks_36 ?_ | refine AWp_regE mu_36 ks_36 ?_); intro Kv hKv) | refine AWp_retR ?_); try simp (dsimp := false) only [go_sem, Nat.reduceAdd, Nat.reduceBEq, Nat.reduceEqDiff, Nat.reduceLT, Nat.reduceLeDiff, Nat.reduceMul, Int.reduceToNat, reduceCtorEq, ↓reduceIte, Tryd.ntmps36, Tryd.results36, ks_36, mu_36, ro_36, ti_ag3, ti_ag9, ti_ag49, ti_fl49_0, ti_fl49_1, ti_fl49_2, ti_hb69, ti_hb70, ti_hb71, ti_in5, ti_sb44, ti_sl44, ti_st9, ti_sz49, ti_us3, ti_zr49, ti_zr92, itD, itV]) | (refine AWp_condC rfl ?_; intro KA KB hKA hKB; try simp only [onB_true, onB_false, onB_dec, onB_ndec, onB_not, onB_and, onB_or]) | (refine AWp_condA rfl ?_ ?_) | with_reducible (first | refine onB_of ?_ ?_ | rfl) | omega)
  refine AWp_prm H.length 0 1 5 1 ((get_app0 _ _).trans rfl) rfl rfl (h := ?_)
  refine AWp_whileH (fun y : Nat × Bool × Nat => y.1 ≤ l.length) (fun y => [(3, .pt H.length 0 0 0), (9, .d (.sl 3 (l.map itD))), (10, .d (.i .i64 l.length)), (11, .d (.i .i64 y.1))])
    (fun y => [bldC y.2.1 H.length 0 (.os (H.length + 1) y.2.2), bufC y.2.2 (keyL (l.take y.1))]) (fun y => l.length - y.1) (0, false, 0) (Nat.zero_le _) ?_ ?_ ?_ ?_
  · simp [bldC, bufC, selfV, keyL]
  · simp (dsimp := false) only [go_sem, Nat.reduceAdd, Nat.reduceBEq, Nat.reduceEqDiff, Nat.reduceLT, Nat.reduceLeDiff, Nat.reduceMul, Int.reduceToNat, reduceCtorEq, ↓reduceIte, Tryd.ntmps36, Tryd.results36, ks_36, mu_36, ro_36, ti_ag3, ti_ag9, ti_ag49, ti_fl49_0, ti_fl49_1, ti_fl49_2, ti_hb69, ti_hb70, ti_hb71, ti_in5, ti_sb44, ti_sl44, ti_st9, ti_sz49, ti_us3, ti_zr49, ti_zr92, itD, itV]
    first | done | simp
  · rintro ⟨j, u, v⟩ _ ob hob
    simp only [List.mem_cons, List.not_mem_nil, or_false] at hob
    rcases hob with rfl | rfl
    · exact obBel_bld _ _ _ _ (by simp) (by simp)
    · exact obBel_bytes _ _ _
  rintro ⟨j, u, v⟩ hj
  simp only [] at hj ⊢
  have hbl := keyL_len (l.take j) fun x hx => hS x (List.mem_of_mem_take hx)
  have hbl2 : (keyL (l.take j)).length ≤ 1099530502144 := by
    have h1 : (l.take j).length ≤ 1048576 := by simp; omega
    have := Nat.mul_le_mul_right 1048593 h1
    omega
  by_cases hjl : j < l.length
  · obtain ⟨x, hx⟩ : ∃ x, l[j]? = some x := ⟨l[j], List.getElem?_eq_getElem hjl⟩
    have hxs := hS x (List.mem_of_getElem? hx)
    have hT : keyL (l.take (j + 1)) = keyL (l.take j) ++ key1 x := by rw [take_of_get hx, keyL_app]
    generalize hB : keyL (l.take j) = B at hbl2 hT ⊢
    clear hbl hB
    repeat' (first | with_reducible (first | refine And.intro ?_ ?_ | intro _ | refine AWp_seq ?_ | refine AWp_block ?_ | (refine hKv _ _ (AWp_nop ?_); clear hKv Kv) | (refine hKA ?_; clear hKA hKB KA KB) | (refine hKB ?_; clear hKA hKB KA KB) | refine AWp_skipN ?_ | refine AWp_exitO (by repeat (first | exact Out.hit | apply Out.thenA | apply Out.out rfl)) ?_) | ((first | with_reducible (first | (refine hKv _ _ ?_; clear hKv Kv) | ((first | refine AWp_regro mu_36 ks_36 ro_36 ?_ | refine AWp_regC mu_36 ks_36 ?_ | refine AWp_regE mu_36 ks_36 ?_); intro Kv hKv) | refine AWp_retR ?_) | refine writeByte_A H.length (H.length + 1) v u _ _ (leB x.k 0) (wrap_le0 _) (by omega) (by omega) _ _ ((get_app0 _ _).trans rfl) ((get_appk _ _ 1).trans rfl) ?_); try simp (dsimp := false) only [go_sem, Nat.reduceAdd, Nat.reduceBEq, Nat.reduceEqDiff, Nat.reduceLT, Nat.reduceLeDiff, Nat.reduceMul, Int.reduceToNat, reduceCtorEq, ↓reduceIte, Tryd.ntmps36, Tryd.results36, ks_36, mu_36, ro_36, ti_ag3, ti_ag9, ti_ag49, ti_fl49_0, ti_fl49_1, ti_fl49_2, ti_hb69, ti_hb70, ti_hb71, ti_in5, ti_sb44, ti_sl44, ti_st9, ti_sz49, ti_us3, ti_zr49, ti_zr92, itD, itV, hx]) | (refine AWp_condC rfl ?_; intro KA KB hKA hKB; try simp only [onB_true, onB_false, onB_dec, onB_ndec, onB_not, onB_and, onB_or]) | (refine AWp_condA rfl ?_ ?_) | with_reducible (first | refine onB_of ?_ ?_ | rfl) | omega)
    · refine closed_app fun ob hob => ?_
      simp only [List.mem_cons, List.not_mem_nil, or_false] at hob
      rcases hob with rfl | rfl
      · exact obBel_bld _ _ _ _ (by simp) (by simp)
      · exact obBel_bytes _ _ _
    refine AWp_whileH (fun y : Nat × Nat => y.1 ≤ 8) (fun y => [(3, .pt H.length 0 0 0), (9, .d (.sl 3 (l.map itD))), (10, .d (.i .i64 l.length)), (11, .d (.i .i64 j)), (5, .rp (itD x)), (19, .d (.i .i64 y.1))])
      (fun y => [bldC true H.length 0 (.os (H.length + 1) y.2), bufC y.2 (B ++ leB x.k 0 :: (le8 x.n).take y.1)]) (fun y => 8 - y.1) (0, v + 1) (Nat.zero_le _) ?_ ?_ ?_ ?_
    · simp [bldC, bufC, selfV]
    · simp (dsimp := false) only [go_sem, Nat.reduceAdd, Nat.reduceBEq, Nat.reduceEqDiff, Nat.reduceLT, Nat.reduceLeDiff, Nat.reduceMul, Int.reduceToNat, reduceCtorEq, ↓reduceIte, Tryd.ntmps36, Tryd.results36, ks_36, mu_36, ro_36, ti_ag3, ti_ag9, ti_ag49, ti_fl49_0, ti_fl49_1, ti_fl49_2, ti_hb69, ti_hb70, ti_hb71, ti_in5, ti_sb44, ti_sl44, ti_st9, ti_sz49, ti_us3, ti_zr49, ti_zr92, itD, itV, hx]
      first | done | simp
    · rintro ⟨i, v⟩ _ ob hob
      simp only [List.mem_cons, List.not_mem_nil, or_false] at hob
      rcases hob with rfl | rfl
      · exact obBel_bld _ _ _ _ (by simp) (by simp)
      · exact obBel_bytes _ _ _
    rintro ⟨i, w⟩ hi
    simp only [] at hi ⊢
    by_cases hi8 : i < 8
    · have hb1 : (B ++ leB x.k 0 :: (le8 x.n).take i).length ≤ 1099530502160 := by simp; omega
      have hT1 : B ++ leB x.k 0 :: (le8 x.n).take (i + 1) = (B ++ leB x.k 0 :: (le8 x.n).take i) ++ [leB x.n i] := by rw [take_of_get (le8_get x.n hi8)]; simp
      generalize B ++ leB x.k 0 :: (le8 x.n).take i = C at hb1 hT1 ⊢
      repeat' (first | with_reducible (first | refine And.intro ?_ ?_ | intro _ | refine AWp_seq ?_ | refine AWp_block ?_ | (refine hKv _ _ (AWp_nop ?_); clear hKv Kv) | (refine hKA ?_; clear hKA hKB KA KB) | (refine hKB ?_; clear hKA hKB KA KB) | refine AWp_skipN ?_ | refine AWp_exitO (by repeat (first | exact Out.hit | apply Out.thenA | apply Out.out rfl)) ?_) | ((first | with_reducible (first | (refine hKv _ _ ?_; clear hKv Kv) | ((first | refine AWp_regro mu_36 ks_36 ro_36 ?_ | refine AWp_regC mu_36 ks_36 ?_ | refine AWp_regE mu_36 ks_36 ?_); intro Kv hKv) | refine AWp_retR ?_) | refine writeByte_A H.length (H.length + 1) w true _ _ (leB x.n i) (wrap_le _ _ hi8) (by omega) (by omega) _ _ ((get_app0 _ _).trans rfl) ((get_appk _ _ 1).trans rfl) ?_); try simp (dsimp := false) only [go_sem, Nat.reduceAdd, Nat.reduceBEq, Nat.reduceEqDiff, Nat.reduceLT, Nat.reduceLeDiff, Nat.reduceMul, Int.reduceToNat, reduceCtorEq, ↓reduceIte, Tryd.ntmps36, Tryd.results36, ks_36, mu_36, ro_36, ti_ag3, ti_ag9, ti_ag49, ti_fl49_0, ti_fl49_1, ti_fl49_2, ti_hb69, ti_hb70, ti_hb71, ti_in5, ti_sb44, ti_sl44, ti_st9, ti_sz49, ti_us3, ti_zr49, ti_zr92, itD, itV]) | (refine AWp_condC rfl ?_; intro KA KB hKA hKB; try simp only [onB_true, onB_false, onB_dec, onB_ndec, onB_not, onB_and, onB_or]) | (refine AWp_condA rfl ?_ ?_) | with_reducible (first | refine onB_of ?_ ?_ | rfl) | omega)
      exact ⟨(i + 1, w + 1), by show i + 1 ≤ 8; omega, by show 8 - (i + 1) < 8 - i; omega, by rw [hT1], by omega, by simp⟩
    · have e : i = 8 := by omega
      subst e
      rw [List.take_of_length_le (by rw [le8_len]; omega)]
      have hb2 : (B ++ leB x.k 0 :: le8 x.n).length ≤ 1099530502160 := by simp [le8_len]; omega
      have hTT : B ++ key1 x = (B ++ leB x.k 0 :: le8 x.n) ++ (le8 x.s.length ++ x.s) := by simp [key1]
      rw [hTT] at hT
      generalize B ++ leB x.k 0 :: le8 x.n = C at hb2 hT ⊢
      clear hTT
      repeat' (first | with_reducible (first | refine And.intro ?_ ?_ | intro _ | refine AWp_seq ?_ | refine AWp_block ?_ | (refine hKv _ _ (AWp_nop ?_); clear hKv Kv) | (refine hKA ?_; clear hKA hKB KA KB) | (refine hKB ?_; clear hKA hKB KA KB) | refine AWp_skipN ?_ | refine AWp_exitO (by repeat (first | exact Out.hit | apply Out.thenA | apply Out.out rfl)) ?_) | (with_reducible (first | (refine hKv _ _ ?_; clear hKv Kv) | ((first | refine AWp_regro mu_36 ks_36 ro_36 ?_ | refine AWp_regC mu_36 ks_36 ?_ | refine AWp_regE mu_36 ks_36 ?_); intro Kv hKv) | refine AWp_retR ?_); try simp (dsimp := false) only [go_sem, Nat.reduceAdd, Nat.reduceBEq, Nat.reduceEqDiff, Nat.reduceLT, Nat.reduceLeDiff, Nat.reduceMul, Int.reduceToNat, reduceCtorEq, ↓reduceIte, Tryd.ntmps36, Tryd.results36, ks_36, mu_36, ro_36, ti_ag3, ti_ag9, ti_ag49, ti_fl49_0, ti_fl49_1, ti_fl49_2, ti_hb69, ti_hb70, ti_hb71, ti_in5, ti_sb44, ti_sl44, ti_st9, ti_sz49, ti_us3, ti_zr49, ti_zr92, itD, itV]) | (refine AWp_condC rfl ?_; intro KA KB hKA hKB; try simp only [onB_true, onB_false, onB_dec, onB_ndec, onB_not, onB_and, onB_or]) | (refine AWp_condA rfl ?_ ?_) | with_reducible (first | refine onB_of ?_ ?_ | rfl) | omega)
      refine AWp_whileH (fun y : Nat × Nat => y.1 ≤ 8) (fun y => [(3, .pt H.length 0 0 0), (9, .d (.sl 3 (l.map itD))), (10, .d (.i .i64 l.length)), (11, .d (.i .i64 j)), (5, .rp (itD x)), (7, .d (.i .i64 x.s.length)), (33, .d (.i .i64 y.1))])
        (fun y => [bldC true H.length 0 (.os (H.length + 1) y.2), bufC y.2 (C ++ (le8 x.s.length).take y.1)]) (fun y => 8 - y.1) (0, w) (Nat.zero_le _) ?_ ?_ ?_ ?_
      · simp
      · simp (dsimp := false) only [go_sem, Nat.reduceAdd, Nat.reduceBEq, Nat.reduceEqDiff, Nat.reduceLT, Nat.reduceLeDiff, Nat.reduceMul, Int.reduceToNat, reduceCtorEq, ↓reduceIte, Tryd.ntmps36, Tryd.results36, ks_36, mu_36, ro_36, ti_ag3, ti_ag9, ti_ag49, ti_fl49_0, ti_fl49_1, ti_fl49_2, ti_hb69, ti_hb70, ti_hb71, ti_in5, ti_sb44, ti_sl44, ti_st9, ti_sz49, ti_us3, ti_zr49, ti_zr92, itD, itV]
        first | done | simp
      · rintro ⟨i, v⟩ _ ob hob
        simp only [List.mem_cons, List.not_mem_nil, or_false] at hob
        rcases hob with rfl | rfl
        · exact obBel_bld _ _ _ _ (by simp) (by simp)
        · exact obBel_bytes _ _ _
      rintro ⟨i, w⟩ hi
      simp only [] at hi ⊢
      by_cases hi8 : i < 8
      · have hb1 : (C ++ (le8 x.s.length).take i).length ≤ 1099530502170 := by simp; omega
        have hT1 : C ++ (le8 x.s.length).take (i + 1) = (C ++ (le8 x.s.length).take i) ++ [leB x.s.length i] := by rw [take_of_get (le8_get x.s.length hi8)]; simp
        generalize C ++ (le8 x.s.length).take i = E at hb1 hT1 ⊢
        repeat' (first | with_reducible (first | refine And.intro ?_ ?_ | intro _ | refine AWp_seq ?_ | refine AWp_block ?_ | (refine hKv _ _ (AWp_nop ?_); clear hKv Kv) | (refine hKA ?_; clear hKA hKB KA KB) | (refine hKB ?_; clear hKA hKB KA KB) | refine AWp_skipN ?_ | refine AWp_exitO (by repeat (first | exact Out.hit | apply Out.thenA | apply Out.out rfl)) ?_) | ((first | with_reducible (first | (refine hKv _ _ ?_; clear hKv Kv) | ((first | refine AWp_regro mu_36 ks_36 ro_36 ?_ | refine AWp_regC mu_36 ks_36 ?_ | refine AWp_regE mu_36 ks_36 ?_); intro Kv hKv) | refine AWp_retR ?_) | refine writeByte_A H.length (H.length + 1) w true _ _ (leB x.s.length i) (wrap_le _ _ hi8) (by omega) (by omega) _ _ ((get_app0 _ _).trans rfl) ((get_appk _ _ 1).trans rfl) ?_); try simp (dsimp := false) only [go_sem, Nat.reduceAdd, Nat.reduceBEq, Nat.reduceEqDiff, Nat.reduceLT, Nat.reduceLeDiff, Nat.reduceMul, Int.reduceToNat, reduceCtorEq, ↓reduceIte, Tryd.ntmps36, Tryd.results36, ks_36, mu_36, ro_36, ti_ag3, ti_ag9, ti_ag49, ti_fl49_0, ti_fl49_1, ti_fl49_2, ti_hb69, ti_hb70, ti_hb71, ti_in5, ti_sb44, ti_sl44, ti_st9, ti_sz49, ti_us3, ti_zr49, ti_zr92, itD, itV]) | (refine AWp_condC rfl ?_; intro KA KB hKA hKB; try simp only [onB_true, onB_false, onB_dec, onB_ndec, onB_not, onB_and, onB_or]) | (refine AWp_condA rfl ?_ ?_) | with_reducible (first | refine onB_of ?_ ?_ | rfl) | omega)
        exact ⟨(i + 1, w + 1), by show i + 1 ≤ 8; omega, by show 8 - (i + 1) < 8 - i; omega, by rw [hT1], by omega, by simp⟩
      · have e : i = 8 := by omega
        subst e
        rw [List.take_of_length_le (by rw [le8_len]; omega)]
        have hb3 : (C ++ le8 x.s.length).length ≤ 1099530502170 := by simp [le8_len]; omega
        repeat' (first | with_reducible (first | refine And.intro ?_ ?_ | intro _ | refine AWp_seq ?_ | refine AWp_block ?_ | (refine hKv _ _ (AWp_nop ?_); clear hKv Kv) | (refine hKA ?_; clear hKA hKB KA KB) | (refine hKB ?_; clear hKA hKB KA KB) | refine AWp_skipN ?_ | refine AWp_exitO (by repeat (first | exact Out.hit | apply Out.thenA | apply Out.out rfl)) ?_) | ((first | with_reducible (first | (refine hKv _ _ ?_; clear hKv Kv) | ((first | refine AWp_regro mu_36 ks_36 ro_36 ?_ | refine AWp_regC mu_36 ks_36 ?_ | refine AWp_regE mu_36 ks_36 ?_); intro Kv hKv) | refine AWp_retR ?_) | refine writeString_A H.length (H.length + 1) w true _ _ (by omega) (by omega) _ _ ((get_app0 _ _).trans rfl) ((get_appk _ _ 1).trans rfl) ?_); try simp (dsimp := false) only [go_sem, Nat.reduceAdd, Nat.reduceBEq, Nat.reduceEqDiff, Nat.reduceLT, Nat.reduceLeDiff, Nat.reduceMul, Int.reduceToNat, reduceCtorEq, ↓reduceIte, Tryd.ntmps36, Tryd.results36, ks_36, mu_36, ro_36, ti_ag3, ti_ag9, ti_ag49, ti_fl49_0, ti_fl49_1, ti_fl49_2, ti_hb69, ti_hb70, ti_hb71, ti_in5, ti_sb44, ti_sl44, ti_st9, ti_sz49, ti_us3, ti_zr49, ti_zr92, itD, itV]) | (refine AWp_condC rfl ?_; intro KA KB hKA hKB; try simp only [onB_true, onB_false, onB_dec, onB_ndec, onB_not, onB_and, onB_or]) | (refine AWp_condA rfl ?_ ?_) | with_reducible (first | refine onB_of ?_ ?_ | rfl) | omega)
        all_goals first
          | exact ⟨(j + 1, true, w + 1), by show j + 1 ≤ l.length; omega, by show l.length - (j + 1) < l.length - j; omega, by rw [hT], by omega, by simp⟩
  ·
    repeat' (first | with_reducible (first | refine And.intro ?_ ?_ | intro _ | refine AWp_seq ?_ | refine AWp_block ?_ | (refine hKv _ _ (AWp_nop ?_); clear hKv Kv) | (refine hKA ?_; clear hKA hKB KA KB) | (refine hKB ?_; clear hKA hKB KA KB) | refine AWp_skipN ?_ | refine AWp_exitO (by repeat (first | exact Out.hit | apply Out.thenA | apply Out.out rfl)) ?_) | ((first | with_reducible (first | (refine hKv _ _ ?_; clear hKv Kv) | ((first | refine AWp_regro mu_36 ks_36 ro_36 ?_ | refine AWp_regC mu_36 ks_36 ?_ | refine AWp_regE mu_36 ks_36 ?_); intro Kv hKv) | refine AWp_retR ?_) | refine bldString_A H.length (H.length + 1) v 0 _ _ (by omega) _ _ ((get_app0 _ _).trans rfl) ((get_appk _ _ 1).trans rfl) ?_); try simp (dsimp := false) only [go_sem, Nat.reduceAdd, Nat.reduceBEq, Nat.reduceEqDiff, Nat.reduceLT, Nat.reduceLeDiff, Nat.reduceMul, Int.reduceToNat, reduceCtorEq, ↓reduceIte, Tryd.ntmps36, Tryd.results36, ks_36, mu_36, ro_36, ti_ag3, ti_ag9, ti_ag49, ti_fl49_0, ti_fl49_1, ti_fl49_2, ti_hb69, ti_hb70, ti_hb71, ti_in5, ti_sb44, ti_sl44, ti_st9, ti_sz49, ti_us3, ti_zr49, ti_zr92, itD, itV]) | (refine AWp_condC rfl ?_; intro KA KB hKA hKB; try simp only [onB_true, onB_false, onB_dec, onB_ndec, onB_not, onB_and, onB_or]) | (refine AWp_condA rfl ?_ ?_) | with_reducible (first | refine onB_of ?_ ?_ | rfl) | omega)
    have e : j = l.length := by omega
    subst e
    rw [List.take_length]
    exact dropK hk (by simp [Bel_d]) rfl
end Go.Proofs.YtpgdflhcmijaiaaDoor
