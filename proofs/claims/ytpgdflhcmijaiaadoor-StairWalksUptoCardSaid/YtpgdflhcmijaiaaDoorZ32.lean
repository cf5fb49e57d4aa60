/- Steps from nodes: stair.Walk up. No condition but that the tables of package unicode/utf8 are there. -/
import Derived.Test.YtpgdflhcmijaiaaDoorZ31
import Derived.Test.YtpgdflhcmijaiaaDoorZ30
set_option linter.all false
set_option linter.unusedSimpArgs false
set_option linter.unusedVariables false
namespace Go.Proofs.YtpgdflhcmijaiaaDoor
open Go Go.Proofs.YtpgdflhcmijaiaaDoor.Ab
variable [Glo] [U8]
set_option maxHeartbeats 4000000
set_option maxRecDepth 20000
theorem walkAx6_A (l : List Nd) (hlen : l.length ≤ 1048576) (hS : Short l) (hnf : nodesFault l = 0) (t : Ts) (ht : 1 ≤ t.k ∧ t.k ≤ 5) (zs : List Int) (hzl : zs.length ≤ 1048576) (hz : zs.any (badB l) = false) (H : Heap) (K : V → Heap → Prop) (hk : K (.tu [.d (.sl 1 ((walked l (sortU zs) 6 t).map natR)), .d (.i .i64 0)]) H) : ACalls Tryd.prog 13 [.d (.sl 6 (l.map ndD)), .d (.sl 1 (zs.map zR)), .d (.i .i64 6), tsV t] H K := by
  obtain ⟨hN, hg⟩ := good_of hnf
  have hz0 := good_zs hz
  have hpos : ∀ z, z ∈ zs → 0 ≤ z := fun z h => (hz0 z h).1
  have hnf' : (nodesFault l = 0) = True := eq_true hnf
  have a3 : (t.k < 1) = False := eq_false (by omega)
  have a4 : (5 < t.k) = False := eq_false (by omega)
  have hs : ∀ K, K (.tu []) (H ++ [.row 0 3 1 [], .row 1 3 1 ((zs.mergeSort fun x y => decide (x ≤ y)).map icell)]) → ACalls Tryd.prog 44 [.os (H.length + 1) 1] (H ++ [.row 0 3 1 [], .row 1 3 1 (zs.map icell)]) K := fun K hk =>
    sortI_A 3 zs (by omega) _ _ _ K ((get_appk _ _ 1).trans rfl) (by rw [set_appk]; exact hk)
  have hc : ∀ K, K (.os (H.length + 1) 2) (H ++ [.row 0 3 1 [], .row 2 3 1 ((sortU zs).map natC)]) → ACalls Tryd.prog 45 [.os (H.length + 1) 1] (H ++ [.row 0 3 1 [], .row 1 3 1 ((zs.mergeSort fun x y => decide (x ≤ y)).map icell)]) K := fun K hk =>
    compactI_A 3 _ (by rw [List.length_mergeSort]; omega) _ _ _ K ((get_appk _ _ 1).trans rfl) (by rw [set_appk, sortU_eq hpos, ← nat_cells]; exact hk)
  have hCr := sortU_rise hpos
  have hC : ∀ c, c ∈ sortU zs → c < l.length := fun c hc => by
    have := hz0 _ ((sortU_mem hpos c).1 hc)
    omega
  have hCl : (sortU zs).length ≤ 100000 := Nat.le_trans (nodup_len (hCr.imp fun h => Nat.ne_of_lt h) hC) hN
  generalize sortU zs = C at hk hc hCr hC hCl
  have hdd := natC_data C
  have hWk : Wk (H ++ [.row 0 3 1 [], .dead, .row 0 73 5 [[.d (.sl 6 (l.map ndD)), .d (.i .i64 6), .d (.i .i64 t.k), .d (.s t.nm), .os (H.length + 3) 0]], .row 0 3 1 []]) (H.length + 2) (H.length + 3) l 6 t [] := ⟨by omega, (get_appk _ _ 2).trans rfl, (get_appk _ _ 3).trans rfl⟩
  have hwst : ∀ L, wst (H ++ [.row 0 3 1 [], .dead, .row 0 73 5 [[.d (.sl 6 (l.map ndD)), .d (.i .i64 6), .d (.i .i64 t.k), .d (.s t.nm), .os (H.length + 3) 0]], .row 0 3 1 []]) (H.length + 2) (H.length + 3) l 6 t L = H ++ [.row 0 3 1 [], .dead, .row 0 73 5 [[.d (.sl 6 (l.map ndD)), .d (.i .i64 6), .d (.i .i64 t.k), .d (.s t.nm), .os (H.length + 3) L.length]], .row L.length 3 1 (L.map natC)] := fun L => by
    rw [wst, set_appk, set_appk]; rfl
  have hclW : ∀ L : List Nat, Closed H (H ++ [.row 0 3 1 [], .dead, .row 0 73 5 [[.d (.sl 6 (l.map ndD)), .d (.i .i64 6), .d (.i .i64 t.k), .d (.s t.nm), .os (H.length + 3) L.length]], .row L.length 3 1 (L.map natC)]) := fun L => closed_app fun ob hob => by
    simp only [List.mem_cons, List.not_mem_nil, or_false] at hob
    rcases hob with rfl | rfl | rfl | rfl
    · exact outO_bel _ []
    · exact trivial
    · exact wkO_bel l 6 t (by simp)
    · exact outO_bel _ L
  have hf : ∀ K, K (.tu []) (H ++ [.row 0 3 1 [], .dead, .row 0 73 5 [[.d (.sl 6 (l.map ndD)), .d (.i .i64 6), .d (.i .i64 t.k), .d (.s t.nm), .os (H.length + 3) (walked l C 6 t).length]], .row (walked l C 6 t).length 3 1 ((walked l C 6 t).map natC)]) → ACalls Tryd.prog 49 [.pt (H.length + 2) 0 0 0, .d (.sl 1 (C.map natR)), .d (.b false)] (H ++ [.row 0 3 1 [], .dead, .row 0 73 5 [[.d (.sl 6 (l.map ndD)), .d (.i .i64 6), .d (.i .i64 t.k), .d (.s t.nm), .os (H.length + 3) 0]], .row 0 3 1 []]) K := fun K hk => up_A l hg hN 6 false (.inl ⟨rfl, rfl⟩) t _ _ C hC hCl _ K hWk (by rw [hwst]; exact hk)
  refine ACalls_of Tryd.func13 rfl in_13 (Nat.le_of_ble_eq_true rfl) ?_
  intro F hF
  simp (dsimp := false) only [go_sem, Nat.reduceAdd, Nat.reduceBEq, Nat.reduceEqDiff, Nat.reduceLT, Nat.reduceLeDiff, Nat.reduceMul, Int.reduceToNat, reduceCtorEq, ↓reduceIte, Tryd.ntmps13, Tryd.results13, ks_13, mu_13, gv_13, ti_ag3, ti_ag34, ti_ag35, ti_ag37, ti_fl37_0, ti_fl73_3, ti_hb40, ti_hb41, ti_hb42, ti_hb43, ti_hb44, ti_hb45, ti_hb46, ti_hb47, ti_hb48, ti_hb49, ti_hb50, ti_hb51, ti_hb52, ti_hb53, ti_pl73, ti_sb35, ti_sb76, ti_sl35, ti_sl76, ti_sz37, ti_zr73, ndD, ndV, tsV, hnf', hnf, a3, a4, hz, hdd, not_true_eq_false, not_false_eq_true, Bool.and_true, Bool.true_and, Bool.false_and, Bool.and_false, Bool.false_or, Bool.or_false, Bool.true_beq, Bool.false_beq, Int.reduceEq, Int.reduceLT, Int.reduceLE, in_13] at hF
  subst hF
  repeat' (first | (refine AWp_prm (H.length + 2) 0 4 3 1 ((get_appk _ _ 2).trans rfl) rfl rfl (h := ?_)) | with_reducible (first | refine And.intro ?_ ?_ | intro _ | refine AWp_seq ?_ | refine AWp_block ?_ | (refine hKv _ _ (AWp_nop ?_); clear hKv Kv) | (refine hKA ?_; clear hKA hKB KA KB) | (refine hKB ?_; clear hKA hKB KA KB) | refine AWp_skipN ?_ | refine AWp_exitO (by repeat (first | exact Out.hit | apply Out.thenA | apply Out.out rfl)) ?_) | ((first | with_reducible (first | (refine hKv _ _ ?_; clear hKv Kv) | ((first | refine AWp_regG gv_13 mu_13 ks_13 (by decide) ?_ | refine AWp_regC mu_13 ks_13 ?_ | refine AWp_regE mu_13 ks_13 ?_); intro Kv hKv) | refine AWp_retR ?_) | refine storeCheck_A l (by omega) hS _ _ ?_ | refine hasBad_A l zs (by omega) _ _ ?_ | refine cloneI_A zs (by omega) _ _ ?_ | refine hs _ ?_ | refine hc _ ?_ | refine hf _ ?_); try simp (dsimp := false) only [go_sem, Nat.reduceAdd, Nat.reduceBEq, Nat.reduceEqDiff, Nat.reduceLT, Nat.reduceLeDiff, Nat.reduceMul, Int.reduceToNat, reduceCtorEq, ↓reduceIte, Tryd.ntmps13, Tryd.results13, ks_13, mu_13, gv_13, ti_ag3, ti_ag34, ti_ag35, ti_ag37, ti_fl37_0, ti_fl73_3, ti_hb40, ti_hb41, ti_hb42, ti_hb43, ti_hb44, ti_hb45, ti_hb46, ti_hb47, ti_hb48, ti_hb49, ti_hb50, ti_hb51, ti_hb52, ti_hb53, ti_pl73, ti_sb35, ti_sb76, ti_sl35, ti_sl76, ti_sz37, ti_zr73, ndD, ndV, tsV, hnf', hnf, a3, a4, hz, hdd, not_true_eq_false, not_false_eq_true, Bool.and_true, Bool.true_and, Bool.false_and, Bool.and_false, Bool.false_or, Bool.or_false, Bool.true_beq, Bool.false_beq, Int.reduceEq, Int.reduceLT, Int.reduceLE]) | (refine AWp_condC rfl ?_; intro KA KB hKA hKB; try simp only [onB_true, onB_false, onB_dec, onB_ndec, onB_not, onB_and, onB_or]) | (refine AWp_condA rfl ?_ ?_) | with_reducible (first | refine onB_of ?_ ?_ | rfl) | omega)
  all_goals first
    | omega
    | exact dropF hk (Fz_tu2 (.os _ _ _ _ _ _ (by omega) ((get_appk _ _ 3).trans rfl) (natC_data _)) (.same _)) (by simp [Bel_tu, Bel_d])
theorem walkAx7_A (l : List Nd) (hlen : l.length ≤ 1048576) (hS : Short l) (hnf : nodesFault l = 0) (t : Ts) (ht : 1 ≤ t.k ∧ t.k ≤ 5) (zs : List Int) (hzl : zs.length ≤ 1048576) (hz : zs.any (badB l) = false) (H : Heap) (K : V → Heap → Prop) (hk : K (.tu [.d (.sl 1 ((walked l (sortU zs) 7 t).map natR)), .d (.i .i64 0)]) H) : ACalls Tryd.prog 13 [.d (.sl 6 (l.map ndD)), .d (.sl 1 (zs.map zR)), .d (.i .i64 7), tsV t] H K := by
  obtain ⟨hN, hg⟩ := good_of hnf
  have hz0 := good_zs hz
  have hpos : ∀ z, z ∈ zs → 0 ≤ z := fun z h => (hz0 z h).1
  have hnf' : (nodesFault l = 0) = True := eq_true hnf
  have a3 : (t.k < 1) = False := eq_false (by omega)
  have a4 : (5 < t.k) = False := eq_false (by omega)
  have hs : ∀ K, K (.tu []) (H ++ [.row 0 3 1 [], .row 1 3 1 ((zs.mergeSort fun x y => decide (x ≤ y)).map icell)]) → ACalls Tryd.prog 44 [.os (H.length + 1) 1] (H ++ [.row 0 3 1 [], .row 1 3 1 (zs.map icell)]) K := fun K hk =>
    sortI_A 3 zs (by omega) _ _ _ K ((get_appk _ _ 1).trans rfl) (by rw [set_appk]; exact hk)
  have hc : ∀ K, K (.os (H.length + 1) 2) (H ++ [.row 0 3 1 [], .row 2 3 1 ((sortU zs).map natC)]) → ACalls Tryd.prog 45 [.os (H.length + 1) 1] (H ++ [.row 0 3 1 [], .row 1 3 1 ((zs.mergeSort fun x y => decide (x ≤ y)).map icell)]) K := fun K hk =>
    compactI_A 3 _ (by rw [List.length_mergeSort]; omega) _ _ _ K ((get_appk _ _ 1).trans rfl) (by rw [set_appk, sortU_eq hpos, ← nat_cells]; exact hk)
  have hCr := sortU_rise hpos
  have hC : ∀ c, c ∈ sortU zs → c < l.length := fun c hc => by
    have := hz0 _ ((sortU_mem hpos c).1 hc)
    omega
  have hCl : (sortU zs).length ≤ 100000 := Nat.le_trans (nodup_len (hCr.imp fun h => Nat.ne_of_lt h) hC) hN
  generalize sortU zs = C at hk hc hCr hC hCl
  have hdd := natC_data C
  have hWk : Wk (H ++ [.row 0 3 1 [], .dead, .row 0 73 5 [[.d (.sl 6 (l.map ndD)), .d (.i .i64 7), .d (.i .i64 t.k), .d (.s t.nm), .os (H.length + 3) 0]], .row 0 3 1 []]) (H.length + 2) (H.length + 3) l 7 t [] := ⟨by omega, (get_appk _ _ 2).trans rfl, (get_appk _ _ 3).trans rfl⟩
  have hwst : ∀ L, wst (H ++ [.row 0 3 1 [], .dead, .row 0 73 5 [[.d (.sl 6 (l.map ndD)), .d (.i .i64 7), .d (.i .i64 t.k), .d (.s t.nm), .os (H.length + 3) 0]], .row 0 3 1 []]) (H.length + 2) (H.length + 3) l 7 t L = H ++ [.row 0 3 1 [], .dead, .row 0 73 5 [[.d (.sl 6 (l.map ndD)), .d (.i .i64 7), .d (.i .i64 t.k), .d (.s t.nm), .os (H.length + 3) L.length]], .row L.length 3 1 (L.map natC)] := fun L => by
    rw [wst, set_appk, set_appk]; rfl
  have hclW : ∀ L : List Nat, Closed H (H ++ [.row 0 3 1 [], .dead, .row 0 73 5 [[.d (.sl 6 (l.map ndD)), .d (.i .i64 7), .d (.i .i64 t.k), .d (.s t.nm), .os (H.length + 3) L.length]], .row L.length 3 1 (L.map natC)]) := fun L => closed_app fun ob hob => by
    simp only [List.mem_cons, List.not_mem_nil, or_false] at hob
    rcases hob with rfl | rfl | rfl | rfl
    · exact outO_bel _ []
    · exact trivial
    · exact wkO_bel l 7 t (by simp)
    · exact outO_bel _ L
  have hf : ∀ K, K (.tu []) (H ++ [.row 0 3 1 [], .dead, .row 0 73 5 [[.d (.sl 6 (l.map ndD)), .d (.i .i64 7), .d (.i .i64 t.k), .d (.s t.nm), .os (H.length + 3) (walked l C 7 t).length]], .row (walked l C 7 t).length 3 1 ((walked l C 7 t).map natC)]) → ACalls Tryd.prog 49 [.pt (H.length + 2) 0 0 0, .d (.sl 1 (C.map natR)), .d (.b true)] (H ++ [.row 0 3 1 [], .dead, .row 0 73 5 [[.d (.sl 6 (l.map ndD)), .d (.i .i64 7), .d (.i .i64 t.k), .d (.s t.nm), .os (H.length + 3) 0]], .row 0 3 1 []]) K := fun K hk => up_A l hg hN 7 true (.inr ⟨rfl, rfl⟩) t _ _ C hC hCl _ K hWk (by rw [hwst]; exact hk)
  refine ACalls_of Tryd.func13 rfl in_13 (Nat.le_of_ble_eq_true rfl) ?_
  intro F hF
  simp (dsimp := false) only [go_sem, Nat.reduceAdd, Nat.reduceBEq, Nat.reduceEqDiff, Nat.reduceLT, Nat.reduceLeDiff, Nat.reduceMul, Int.reduceToNat, reduceCtorEq, ↓reduceIte, Tryd.ntmps13, Tryd.results13, ks_13, mu_13, gv_13, ti_ag3, ti_ag34, ti_ag35, ti_ag37, ti_fl37_0, ti_fl73_3, ti_hb40, ti_hb41, ti_hb42, ti_hb43, ti_hb44, ti_hb45, ti_hb46, ti_hb47, ti_hb48, ti_hb49, ti_hb50, ti_hb51, ti_hb52, ti_hb53, ti_pl73, ti_sb35, ti_sb76, ti_sl35, ti_sl76, ti_sz37, ti_zr73, ndD, ndV, tsV, hnf', hnf, a3, a4, hz, hdd, not_true_eq_false, not_false_eq_true, Bool.and_true, Bool.true_and, Bool.false_and, Bool.and_false, Bool.false_or, Bool.or_false, Bool.true_beq, Bool.false_beq, Int.reduceEq, Int.reduceLT, Int.reduceLE, in_13] at hF
  subst hF
  repeat' (first | (refine AWp_prm (H.length + 2) 0 4 3 1 ((get_appk _ _ 2).trans rfl) rfl rfl (h := ?_)) | with_reducible (first | refine And.intro ?_ ?_ | intro _ | refine AWp_seq ?_ | refine AWp_block ?_ | (refine hKv _ _ (AWp_nop ?_); clear hKv Kv) | (refine hKA ?_; clear hKA hKB KA KB) | (refine hKB ?_; clear hKA hKB KA KB) | refine AWp_skipN ?_ | refine AWp_exitO (by repeat (first | exact Out.hit | apply Out.thenA | apply Out.out rfl)) ?_) | ((first | with_reducible (first | (refine hKv _ _ ?_; clear hKv Kv) | ((first | refine AWp_regG gv_13 mu_13 ks_13 (by decide) ?_ | refine AWp_regC mu_13 ks_13 ?_ | refine AWp_regE mu_13 ks_13 ?_); intro Kv hKv) | refine AWp_retR ?_) | refine storeCheck_A l (by omega) hS _ _ ?_ | refine hasBad_A l zs (by omega) _ _ ?_ | refine cloneI_A zs (by omega) _ _ ?_ | refine hs _ ?_ | refine hc _ ?_ | refine hf _ ?_); try simp (dsimp := false) only [go_sem, Nat.reduceAdd, Nat.reduceBEq, Nat.reduceEqDiff, Nat.reduceLT, Nat.reduceLeDiff, Nat.reduceMul, Int.reduceToNat, reduceCtorEq, ↓reduceIte, Tryd.ntmps13, Tryd.results13, ks_13, mu_13, gv_13, ti_ag3, ti_ag34, ti_ag35, ti_ag37, ti_fl37_0, ti_fl73_3, ti_hb40, ti_hb41, ti_hb42, ti_hb43, ti_hb44, ti_hb45, ti_hb46, ti_hb47, ti_hb48, ti_hb49, ti_hb50, ti_hb51, ti_hb52, ti_hb53, ti_pl73, ti_sb35, ti_sb76, ti_sl35, ti_sl76, ti_sz37, ti_zr73, ndD, ndV, tsV, hnf', hnf, a3, a4, hz, hdd, not_true_eq_false, not_false_eq_true, Bool.and_true, Bool.true_and, Bool.false_and, Bool.and_false, Bool.false_or, Bool.or_false, Bool.true_beq, Bool.false_beq, Int.reduceEq, Int.reduceLT, Int.reduceLE]) | (refine AWp_condC rfl ?_; intro KA KB hKA hKB; try simp only [onB_true, onB_false, onB_dec, onB_ndec, onB_not, onB_and, onB_or]) | (refine AWp_condA rfl ?_ ?_) | with_reducible (first | refine onB_of ?_ ?_ | rfl) | omega)
  all_goals first
    | omega
    | exact dropF hk (Fz_tu2 (.os _ _ _ _ _ _ (by omega) ((get_appk _ _ 3).trans rfl) (natC_data _)) (.same _)) (by simp [Bel_tu, Bel_d])
end Go.Proofs.YtpgdflhcmijaiaaDoor
namespace Go.Proofs.YtpgdflhcmijaiaaDoor
open Go Go.Proofs.YtpgdflhcmijaiaaDoor.Ab
variable [Glo]
set_option maxHeartbeats 4000000
set_option maxRecDepth 20000
def chP (l : List Nd) (P : Nat) (cB : Nat → Bool) (i j : Nat) : Prop := j < i ∧ (gd l j).up = P ∧ cB j = true
theorem chP_next {l : List Nd} (hg : Good l l.length) {P i : Nat} {cB : Nat → Bool} (hi : i < l.length) (hu : (gd l i).up = P) (j : Nat) : chP l P cB (en l i + 1) j ↔ chP l P cB i j ∨ (j = i ∧ cB i = true) := by
  have h1 := en_ge l i
  unfold chP
  constructor
  · rintro ⟨a, b, c⟩
    rcases Nat.lt_trichotomy j i with h | h | h
    · exact .inl ⟨h, b, c⟩
    · subst h; exact .inr ⟨rfl, c⟩
    · exact absurd b (no_child hg hi hu h (by omega))
  · rintro (⟨a, b, c⟩ | ⟨rfl, c⟩)
    · exact ⟨by omega, b, c⟩
    · exact ⟨by omega, hu, c⟩
theorem chP_0 {l : List Nd} (hg : Good l l.length) {P : Nat} {cB : Nat → Bool} (hP : P < l.length) (j : Nat) : ¬ chP l P cB (P + 1) j := fun ⟨a, b, _⟩ => by
  have := (child_in hg (i := j) (by omega) b).1
  omega
theorem chP_end {l : List Nd} (hg : Good l l.length) {P : Nat} {cB : Nat → Bool} {j : Nat} (hj : j < l.length) : chP l P cB (en l P + 1) j ↔ (gd l j).up = P ∧ cB j = true := by
  unfold chP
  exact ⟨fun h => h.2, fun h => ⟨by have := (child_in hg hj h.1).2; omega, h⟩⟩
theorem sortU_nat {AL : List Nat} : (Lib.compact ((AL.map fun i : Nat => (i : Int)).mergeSort fun x y => decide (x ≤ y))).map icell = (sortU (AL.map fun i : Nat => (i : Int))).map natC := by
  rw [sortU_eq (nat_pos AL), nat_cells]
def ks_53 : Nat → List Nat
  | 0 => [0, 1, 4]
  | 1 => [0, 4, 12, 13, 14]
  | 2 => [0, 4, 12, 13, 14, 15]
  | 3 => [0, 4, 6, 12, 13, 14]
  | 4 => [0, 4, 6, 7, 12, 13, 14]
  | 5 => [0, 4, 6, 7, 12, 13, 14, 29]
  | 6 => [0, 4, 6, 7, 12, 13, 14, 42]
  | 7 => [0, 4, 6, 7, 9, 12, 13, 14]
  | 8 => [0, 4, 6, 7, 9, 12, 13, 14, 56]
  | 9 => [0, 4, 6, 7, 9, 12, 13, 14]
  | 10 => [0, 4, 6, 7, 9, 12, 13, 14, 92]
  | 11 => [0, 4, 6, 7, 9, 12, 13, 14]
  | 12 => [0, 4, 6, 7, 12, 13, 14, 29, 97]
  | 13 => [0, 4, 6, 7, 12, 13, 14, 29, 97]
  | 14 => [0, 4, 6, 8, 12, 13, 14]
  | 15 => [0, 4, 6, 8, 12, 13, 14, 113]
  | 16 => [0, 4, 6, 8, 12, 13, 14]
  | 17 => [0, 4, 6, 8, 12, 13, 14, 139]
  | 18 => [0, 4, 6, 8, 12, 13, 14]
  | 19 => [0, 4, 6, 7, 12, 13, 14, 144]
  | 20 => [0, 4, 7, 12, 13, 14, 147]
  | 21 => [0, 4, 12, 13, 14]
  | 22 => [0, 4, 12, 13, 14]
  | 23 => [0, 4]
  | 24 => [0, 156, 157, 158]
  | 25 => [0, 156, 157, 158, 159]
  | 26 => [0, 11, 156, 157, 158]
  | 27 => [0, 156, 157, 158]
  | 28 => [0, 156, 157, 158]
  | _ => []
def mu_53 : List Nat := [4]
def in_53 : List Nat := [0, 1]
def gv_53 : Nat → List Bool
  | 24 => [false, true]
  | _ => []
def nd_53 : Nat → Nat
  | 17 => 14
  | _ => 0
end Go.Proofs.YtpgdflhcmijaiaaDoor
