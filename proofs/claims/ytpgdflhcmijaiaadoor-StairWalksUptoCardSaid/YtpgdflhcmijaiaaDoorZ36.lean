/- Steps from nodes: stair.Walk to what is near. No condition but that the tables of package unicode/utf8 are there. -/
import Derived.Test.YtpgdflhcmijaiaaDoorZ31
import Derived.Test.YtpgdflhcmijaiaaDoorZ33
import Derived.Test.YtpgdflhcmijaiaaDoorZ34
import Derived.Test.YtpgdflhcmijaiaaDoorZ35
set_option linter.all false
set_option linter.unusedSimpArgs false
set_option linter.unusedVariables false
namespace Go.Proofs.YtpgdflhcmijaiaaDoor
open Go Go.Proofs.YtpgdflhcmijaiaaDoor.Ab
variable [Glo] [U8]
set_option maxHeartbeats 4000000
set_option maxRecDepth 20000
theorem walkAx1_A (l : List Nd) (hlen : l.length ≤ 1048576) (hS : Short l) (hnf : nodesFault l = 0) (t : Ts) (ht : 1 ≤ t.k ∧ t.k ≤ 5) (zs : List Int) (hzl : zs.length ≤ 1048576) (hz : zs.any (badB l) = false) (H : Heap) (K : V → Heap → Prop) (hk : K (.tu [.d (.sl 1 ((walked l (sortU zs) 1 t).map natR)), .d (.i .i64 0)]) H) : ACalls Tryd.prog 13 [.d (.sl 6 (l.map ndD)), .d (.sl 1 (zs.map zR)), .d (.i .i64 1), tsV t] H K := by
  obtain ⟨hN, hg⟩ := good_of hnf
  have hz0 := good_zs hz
  have hpos : ∀ z, z ∈ zs → 0 ≤ z := fun z h => (hz0 z h).1
  have hnf' : (nodesFault l = 0) = True := eq_true hnf
  have a3 : (t.k < 1) = False := eq_false (by omega)
  have a4 : (5 < t.k) = False := eq_false (by omega)
  have hs : ∀ K, K (.tu []) (H ++ [.row 0 3 1 [], .row 1 3 1 ((zs.mergeSort fun x y => decide (x ≤ y)).map icell)]) → ACalls Tryd.prog 44 [.os (H.length + 1) 1] (H ++ [.row 0 3 1 [], .row 1 3 1 (zs.map icell)]) K := fun K hk =>
    sortI_A 3 zs (by omega) _ _ _ K ((get_appk _ _ 1).trans rfl) (by rw [set_appk]; exact hk)
  have hc : ∀ K, K (.os (H.length + 1) 2) (H ++ [.row 0 3 1 [], .row 2 3 1 ((sortU zs).map natC)]) → ACalls Tryd.prog 45 [.os (H.length + 1) 1] (H ++ [.row 0 3 1 [], .row 1 3 1 ((zs.mergeSort fun x y => decide (x ≤ y)).map icell)]) K := fun K hk =>
    compactI_A 3 _ (by rw [List.length_mergeSort]; omega) _ _ _ K ((get_appk _ _ 1).trans rfl) (by rw [set_appk, sortU_eq hpos, ← nat_cells]; exact hk)
  have hCr := sortU_rise hpos
  have hC : ∀ c, c ∈ sortU zs → c < l.length := fun c hc => by
    have := hz0 _ ((sortU_mem hpos c).1 hc)
    omega
  have hCl : (sortU zs).length ≤ 100000 := Nat.le_trans (nodup_len (hCr.imp fun h => Nat.ne_of_lt h) hC) hN
  generalize sortU zs = C at hk hc hCr hC hCl
  have hdd := natC_data C
  have hWk : Wk (H ++ [.row 0 3 1 [], .dead, .row 0 73 5 [[.d (.sl 6 (l.map ndD)), .d (.i .i64 1), .d (.i .i64 t.k), .d (.s t.nm), .os (H.length + 3) 0]], .row 0 3 1 []]) (H.length + 2) (H.length + 3) l 1 t [] := ⟨by omega, (get_appk _ _ 2).trans rfl, (get_appk _ _ 3).trans rfl⟩
  have hwst : ∀ L, wst (H ++ [.row 0 3 1 [], .dead, .row 0 73 5 [[.d (.sl 6 (l.map ndD)), .d (.i .i64 1), .d (.i .i64 t.k), .d (.s t.nm), .os (H.length + 3) 0]], .row 0 3 1 []]) (H.length + 2) (H.length + 3) l 1 t L = H ++ [.row 0 3 1 [], .dead, .row 0 73 5 [[.d (.sl 6 (l.map ndD)), .d (.i .i64 1), .d (.i .i64 t.k), .d (.s t.nm), .os (H.length + 3) L.length]], .row L.length 3 1 (L.map natC)] := fun L => by
    rw [wst, set_appk, set_appk]; rfl
  have hclW : ∀ L : List Nat, Closed H (H ++ [.row 0 3 1 [], .dead, .row 0 73 5 [[.d (.sl 6 (l.map ndD)), .d (.i .i64 1), .d (.i .i64 t.k), .d (.s t.nm), .os (H.length + 3) L.length]], .row L.length 3 1 (L.map natC)]) := fun L => closed_app fun ob hob => by
    simp only [List.mem_cons, List.not_mem_nil, or_false] at hob
    rcases hob with rfl | rfl | rfl | rfl
    · exact outO_bel _ []
    · exact trivial
    · exact wkO_bel l 1 t (by simp)
    · exact outO_bel _ L
  have hf : ∀ K, K (.tu []) (H ++ [.row 0 3 1 [], .dead, .row 0 73 5 [[.d (.sl 6 (l.map ndD)), .d (.i .i64 1), .d (.i .i64 t.k), .d (.s t.nm), .os (H.length + 3) (walked l C 1 t).length]], .row (walked l C 1 t).length 3 1 ((walked l C 1 t).map natC)]) → ACalls Tryd.prog 53 [.pt (H.length + 2) 0 0 0, .d (.sl 1 (C.map natR))] (H ++ [.row 0 3 1 [], .dead, .row 0 73 5 [[.d (.sl 6 (l.map ndD)), .d (.i .i64 1), .d (.i .i64 t.k), .d (.s t.nm), .os (H.length + 3) 0]], .row 0 3 1 []]) K := fun K hk => near1_A l hg hN t _ _ C hC hCl _ K hWk (by rw [hwst]; exact hk)
  refine ACalls_of Tryd.func13 rfl in_13 (Nat.le_of_ble_eq_true rfl) ?_
  intro F hF
  simp (dsimp := false) only [go_sem, Nat.reduceAdd, Nat.reduceBEq, Nat.reduceEqDiff, Nat.reduceLT, Nat.reduceLeDiff, Nat.reduceMul, Int.reduceToNat, reduceCtorEq, ↓reduceIte, Tryd.ntmps13, Tryd.results13, ks_13, mu_13, gv_13, ti_ag3, ti_ag34, ti_ag35, ti_ag37, ti_fl37_0, ti_fl73_3, ti_hb40, ti_hb41, ti_hb42, ti_hb43, ti_hb44, ti_hb45, ti_hb46, ti_hb47, ti_hb48, ti_hb49, ti_hb50, ti_hb51, ti_hb52, ti_hb53, ti_pl73, ti_sb35, ti_sb76, ti_sl35, ti_sl76, ti_sz37, ti_zr73, ndD, ndV, tsV, hnf', hnf, a3, a4, hz, hdd, not_true_eq_false, not_false_eq_true, Bool.and_true, Bool.true_and, Bool.false_and, Bool.and_false, Bool.false_or, Bool.or_false, Bool.true_beq, Bool.false_beq, Int.reduceEq, Int.reduceLT, Int.reduceLE, in_13] at hF
  subst hF
  repeat' (first | (refine AWp_prm (H.length + 2) 0 4 3 1 ((get_appk _ _ 2).trans rfl) rfl rfl (h := ?_)) | with_reducible (first | refine And.intro ?_ ?_ | intro _ | refine AWp_seq ?_ | refine AWp_block ?_ | (refine hKv _ _ (AWp_nop ?_); clear hKv Kv) | (refine hKA ?_; clear hKA hKB KA KB) | (refine hKB ?_; clear hKA hKB KA KB) | refine AWp_skipN ?_ | refine AWp_exitO (by repeat (first | exact Out.hit | apply Out.thenA | apply Out.out rfl)) ?_) | ((first | with_reducible (first | (refine hKv _ _ ?_; clear hKv Kv) | ((first | refine AWp_regG gv_13 mu_13 ks_13 (by decide) ?_ | refine AWp_regC mu_13 ks_13 ?_ | refine AWp_regE mu_13 ks_13 ?_); intro Kv hKv) | refine AWp_retR ?_) | refine storeCheck_A l (by omega) hS _ _ ?_ | refine hasBad_A l zs (by omega) _ _ ?_ | refine cloneI_A zs (by omega) _ _ ?_ | refine hs _ ?_ | refine hc _ ?_ | refine hf _ ?_); try simp (dsimp := false) only [go_sem, Nat.reduceAdd, Nat.reduceBEq, Nat.reduceEqDiff, Nat.reduceLT, Nat.reduceLeDiff, Nat.reduceMul, Int.reduceToNat, reduceCtorEq, ↓reduceIte, Tryd.ntmps13, Tryd.results13, ks_13, mu_13, gv_13, ti_ag3, ti_ag34, ti_ag35, ti_ag37, ti_fl37_0, ti_fl73_3, ti_hb40, ti_hb41, ti_hb42, ti_hb43, ti_hb44, ti_hb45, ti_hb46, ti_hb47, ti_hb48, ti_hb49, ti_hb50, ti_hb51, ti_hb52, ti_hb53, ti_pl73, ti_sb35, ti_sb76, ti_sl35, ti_sl76, ti_sz37, ti_zr73, ndD, ndV, tsV, hnf', hnf, a3, a4, hz, hdd, not_true_eq_false, not_false_eq_true, Bool.and_true, Bool.true_and, Bool.false_and, Bool.and_false, Bool.false_or, Bool.or_false, Bool.true_beq, Bool.false_beq, Int.reduceEq, Int.reduceLT, Int.reduceLE]) | (refine AWp_condC rfl ?_; intro KA KB hKA hKB; try simp only [onB_true, onB_false, onB_dec, onB_ndec, onB_not, onB_and, onB_or]) | (refine AWp_condA rfl ?_ ?_) | with_reducible (first | refine onB_of ?_ ?_ | rfl) | omega)
  all_goals first
    | omega
    | exact dropF hk (Fz_tu2 (.os _ _ _ _ _ _ (by omega) ((get_appk _ _ 3).trans rfl) (natC_data _)) (.same _)) (by simp [Bel_tu, Bel_d])
theorem walkAx12_A (l : List Nd) (hlen : l.length ≤ 1048576) (hS : Short l) (hnf : nodesFault l = 0) (t : Ts) (ht : 1 ≤ t.k ∧ t.k ≤ 5) (zs : List Int) (hzl : zs.length ≤ 1048576) (hz : zs.any (badB l) = false) (H : Heap) (K : V → Heap → Prop) (hk : K (.tu [.d (.sl 1 ((walked l (sortU zs) 12 t).map natR)), .d (.i .i64 0)]) H) : ACalls Tryd.prog 13 [.d (.sl 6 (l.map ndD)), .d (.sl 1 (zs.map zR)), .d (.i .i64 12), tsV t] H K := by
  obtain ⟨hN, hg⟩ := good_of hnf
  have hz0 := good_zs hz
  have hpos : ∀ z, z ∈ zs → 0 ≤ z := fun z h => (hz0 z h).1
  have hnf' : (nodesFault l = 0) = True := eq_true hnf
  have a3 : (t.k < 1) = False := eq_false (by omega)
  have a4 : (5 < t.k) = False := eq_false (by omega)
  have hs : ∀ K, K (.tu []) (H ++ [.row 0 3 1 [], .row 1 3 1 ((zs.mergeSort fun x y => decide (x ≤ y)).map icell)]) → ACalls Tryd.prog 44 [.os (H.length + 1) 1] (H ++ [.row 0 3 1 [], .row 1 3 1 (zs.map icell)]) K := fun K hk =>
    sortI_A 3 zs (by omega) _ _ _ K ((get_appk _ _ 1).trans rfl) (by rw [set_appk]; exact hk)
  have hc : ∀ K, K (.os (H.length + 1) 2) (H ++ [.row 0 3 1 [], .row 2 3 1 ((sortU zs).map natC)]) → ACalls Tryd.prog 45 [.os (H.length + 1) 1] (H ++ [.row 0 3 1 [], .row 1 3 1 ((zs.mergeSort fun x y => decide (x ≤ y)).map icell)]) K := fun K hk =>
    compactI_A 3 _ (by rw [List.length_mergeSort]; omega) _ _ _ K ((get_appk _ _ 1).trans rfl) (by rw [set_appk, sortU_eq hpos, ← nat_cells]; exact hk)
  have hCr := sortU_rise hpos
  have hC : ∀ c, c ∈ sortU zs → c < l.length := fun c hc => by
    have := hz0 _ ((sortU_mem hpos c).1 hc)
    omega
  have hCl : (sortU zs).length ≤ 100000 := Nat.le_trans (nodup_len (hCr.imp fun h => Nat.ne_of_lt h) hC) hN
  generalize sortU zs = C at hk hc hCr hC hCl
  have hdd := natC_data C
  have hWk : Wk (H ++ [.row 0 3 1 [], .dead, .row 0 73 5 [[.d (.sl 6 (l.map ndD)), .d (.i .i64 12), .d (.i .i64 t.k), .d (.s t.nm), .os (H.length + 3) 0]], .row 0 3 1 []]) (H.length + 2) (H.length + 3) l 12 t [] := ⟨by omega, (get_appk _ _ 2).trans rfl, (get_appk _ _ 3).trans rfl⟩
  have hwst : ∀ L, wst (H ++ [.row 0 3 1 [], .dead, .row 0 73 5 [[.d (.sl 6 (l.map ndD)), .d (.i .i64 12), .d (.i .i64 t.k), .d (.s t.nm), .os (H.length + 3) 0]], .row 0 3 1 []]) (H.length + 2) (H.length + 3) l 12 t L = H ++ [.row 0 3 1 [], .dead, .row 0 73 5 [[.d (.sl 6 (l.map ndD)), .d (.i .i64 12), .d (.i .i64 t.k), .d (.s t.nm), .os (H.length + 3) L.length]], .row L.length 3 1 (L.map natC)] := fun L => by
    rw [wst, set_appk, set_appk]; rfl
  have hclW : ∀ L : List Nat, Closed H (H ++ [.row 0 3 1 [], .dead, .row 0 73 5 [[.d (.sl 6 (l.map ndD)), .d (.i .i64 12), .d (.i .i64 t.k), .d (.s t.nm), .os (H.length + 3) L.length]], .row L.length 3 1 (L.map natC)]) := fun L => closed_app fun ob hob => by
    simp only [List.mem_cons, List.not_mem_nil, or_false] at hob
    rcases hob with rfl | rfl | rfl | rfl
    · exact outO_bel _ []
    · exact trivial
    · exact wkO_bel l 12 t (by simp)
    · exact outO_bel _ L
  have hf : ∀ K, K (.tu []) (H ++ [.row 0 3 1 [], .dead, .row 0 73 5 [[.d (.sl 6 (l.map ndD)), .d (.i .i64 12), .d (.i .i64 t.k), .d (.s t.nm), .os (H.length + 3) (walked l C 12 t).length]], .row (walked l C 12 t).length 3 1 ((walked l C 12 t).map natC)]) → ACalls Tryd.prog 53 [.pt (H.length + 2) 0 0 0, .d (.sl 1 (C.map natR))] (H ++ [.row 0 3 1 [], .dead, .row 0 73 5 [[.d (.sl 6 (l.map ndD)), .d (.i .i64 12), .d (.i .i64 t.k), .d (.s t.nm), .os (H.length + 3) 0]], .row 0 3 1 []]) K := fun K hk => near12_A l hg hN t _ _ C hC hCl _ K hWk (by rw [hwst]; exact hk)
  refine ACalls_of Tryd.func13 rfl in_13 (Nat.le_of_ble_eq_true rfl) ?_
  intro F hF
  simp (dsimp := false) only [go_sem, Nat.reduceAdd, Nat.reduceBEq, Nat.reduceEqDiff, Nat.reduceLT, Nat.reduceLeDiff, Nat.reduceMul, Int.reduceToNat, reduceCtorEq, ↓reduceIte, Tryd.ntmps13, Tryd.results13, ks_13, mu_13, gv_13, ti_ag3, ti_ag34, ti_ag35, ti_ag37, ti_fl37_0, ti_fl73_3, ti_hb40, ti_hb41, ti_hb42, ti_hb43, ti_hb44, ti_hb45, ti_hb46, ti_hb47, ti_hb48, ti_hb49, ti_hb50, ti_hb51, ti_hb52, ti_hb53, ti_pl73, ti_sb35, ti_sb76, ti_sl35, ti_sl76, ti_sz37, ti_zr73, ndD, ndV, tsV, hnf', hnf, a3, a4, hz, hdd, not_true_eq_false, not_false_eq_true, Bool.and_true, Bool.true_and, Bool.false_and, Bool.and_false, Bool.false_or, Bool.or_false, Bool.true_beq, Bool.false_beq, Int.reduceEq, Int.reduceLT, Int.reduceLE, in_13] at hF
  subst hF
  repeat' (first | (refine AWp_prm (H.length + 2) 0 4 3 1 ((get_appk _ _ 2).trans rfl) rfl rfl (h := ?_)) | with_reducible (first | refine And.intro ?_ ?_ | intro _ | refine AWp_seq ?_ | refine AWp_block ?_ | (refine hKv _ _ (AWp_nop ?_); clear hKv Kv) | (refine hKA ?_; clear hKA hKB KA KB) | (refine hKB ?_; clear hKA hKB KA KB) | refine AWp_skipN ?_ | refine AWp_exitO (by repeat (first | exact Out.hit | apply Out.thenA | apply Out.out rfl)) ?_) | ((first | with_reducible (first | (refine hKv _ _ ?_; clear hKv Kv) | ((first | refine AWp_regG gv_13 mu_13 ks_13 (by decide) ?_ | refine AWp_regC mu_13 ks_13 ?_ | refine AWp_regE mu_13 ks_13 ?_); intro Kv hKv) | refine AWp_retR ?_) | refine storeCheck_A l (by omega) hS _ _ ?_ | refine hasBad_A l zs (by omega) _ _ ?_ | refine cloneI_A zs (by omega) _ _ ?_ | refine hs _ ?_ | refine hc _ ?_ | refine hf _ ?_); try simp (dsimp := false) only [go_sem, Nat.reduceAdd, Nat.reduceBEq, Nat.reduceEqDiff, Nat.reduceLT, Nat.reduceLeDiff, Nat.reduceMul, Int.reduceToNat, reduceCtorEq, ↓reduceIte, Tryd.ntmps13, Tryd.results13, ks_13, mu_13, gv_13, ti_ag3, ti_ag34, ti_ag35, ti_ag37, ti_fl37_0, ti_fl73_3, ti_hb40, ti_hb41, ti_hb42, ti_hb43, ti_hb44, ti_hb45, ti_hb46, ti_hb47, ti_hb48, ti_hb49, ti_hb50, ti_hb51, ti_hb52, ti_hb53, ti_pl73, ti_sb35, ti_sb76, ti_sl35, ti_sl76, ti_sz37, ti_zr73, ndD, ndV, tsV, hnf', hnf, a3, a4, hz, hdd, not_true_eq_false, not_false_eq_true, Bool.and_true, Bool.true_and, Bool.false_and, Bool.and_false, Bool.false_or, Bool.or_false, Bool.true_beq, Bool.false_beq, Int.reduceEq, Int.reduceLT, Int.reduceLE]) | (refine AWp_condC rfl ?_; intro KA KB hKA hKB; try simp only [onB_true, onB_false, onB_dec, onB_ndec, onB_not, onB_and, onB_or]) | (refine AWp_condA rfl ?_ ?_) | with_reducible (first | refine onB_of ?_ ?_ | rfl) | omega)
  all_goals first
    | omega
    | exact dropF hk (Fz_tu2 (.os _ _ _ _ _ _ (by omega) ((get_appk _ _ 3).trans rfl) (natC_data _)) (.same _)) (by simp [Bel_tu, Bel_d])
theorem walkAx5_A (l : List Nd) (hlen : l.length ≤ 1048576) (hS : Short l) (hnf : nodesFault l = 0) (t : Ts) (ht : 1 ≤ t.k ∧ t.k ≤ 5) (zs : List Int) (hzl : zs.length ≤ 1048576) (hz : zs.any (badB l) = false) (H : Heap) (K : V → Heap → Prop) (hk : K (.tu [.d (.sl 1 ((walked l (sortU zs) 5 t).map natR)), .d (.i .i64 0)]) H) : ACalls Tryd.prog 13 [.d (.sl 6 (l.map ndD)), .d (.sl 1 (zs.map zR)), .d (.i .i64 5), tsV t] H K := by
  obtain ⟨hN, hg⟩ := good_of hnf
  have hz0 := good_zs hz
  have hpos : ∀ z, z ∈ zs → 0 ≤ z := fun z h => (hz0 z h).1
  have hnf' : (nodesFault l = 0) = True := eq_true hnf
  have a3 : (t.k < 1) = False := eq_false (by omega)
  have a4 : (5 < t.k) = False := eq_false (by omega)
  have hs : ∀ K, K (.tu []) (H ++ [.row 0 3 1 [], .row 1 3 1 ((zs.mergeSort fun x y => decide (x ≤ y)).map icell)]) → ACalls Tryd.prog 44 [.os (H.length + 1) 1] (H ++ [.row 0 3 1 [], .row 1 3 1 (zs.map icell)]) K := fun K hk =>
    sortI_A 3 zs (by omega) _ _ _ K ((get_appk _ _ 1).trans rfl) (by rw [set_appk]; exact hk)
  have hc : ∀ K, K (.os (H.length + 1) 2) (H ++ [.row 0 3 1 [], .row 2 3 1 ((sortU zs).map natC)]) → ACalls Tryd.prog 45 [.os (H.length + 1) 1] (H ++ [.row 0 3 1 [], .row 1 3 1 ((zs.mergeSort fun x y => decide (x ≤ y)).map icell)]) K := fun K hk =>
    compactI_A 3 _ (by rw [List.length_mergeSort]; omega) _ _ _ K ((get_appk _ _ 1).trans rfl) (by rw [set_appk, sortU_eq hpos, ← nat_cells]; exact hk)
  have hCr := sortU_rise hpos
  have hC : ∀ c, c ∈ sortU zs → c < l.length := fun c hc => by
    have := hz0 _ ((sortU_mem hpos c).1 hc)
    omega
  have hCl : (sortU zs).length ≤ 100000 := Nat.le_trans (nodup_len (hCr.imp fun h => Nat.ne_of_lt h) hC) hN
  generalize sortU zs = C at hk hc hCr hC hCl
  have hdd := natC_data C
  have hWk : Wk (H ++ [.row 0 3 1 [], .dead, .row 0 73 5 [[.d (.sl 6 (l.map ndD)), .d (.i .i64 5), .d (.i .i64 t.k), .d (.s t.nm), .os (H.length + 3) 0]], .row 0 3 1 []]) (H.length + 2) (H.length + 3) l 5 t [] := ⟨by omega, (get_appk _ _ 2).trans rfl, (get_appk _ _ 3).trans rfl⟩
  have hwst : ∀ L, wst (H ++ [.row 0 3 1 [], .dead, .row 0 73 5 [[.d (.sl 6 (l.map ndD)), .d (.i .i64 5), .d (.i .i64 t.k), .d (.s t.nm), .os (H.length + 3) 0]], .row 0 3 1 []]) (H.length + 2) (H.length + 3) l 5 t L = H ++ [.row 0 3 1 [], .dead, .row 0 73 5 [[.d (.sl 6 (l.map ndD)), .d (.i .i64 5), .d (.i .i64 t.k), .d (.s t.nm), .os (H.length + 3) L.length]], .row L.length 3 1 (L.map natC)] := fun L => by
    rw [wst, set_appk, set_appk]; rfl
  have hclW : ∀ L : List Nat, Closed H (H ++ [.row 0 3 1 [], .dead, .row 0 73 5 [[.d (.sl 6 (l.map ndD)), .d (.i .i64 5), .d (.i .i64 t.k), .d (.s t.nm), .os (H.length + 3) L.length]], .row L.length 3 1 (L.map natC)]) := fun L => closed_app fun ob hob => by
    simp only [List.mem_cons, List.not_mem_nil, or_false] at hob
    rcases hob with rfl | rfl | rfl | rfl
    · exact outO_bel _ []
    · exact trivial
    · exact wkO_bel l 5 t (by simp)
    · exact outO_bel _ L
  have hf : ∀ K, K (.tu []) (H ++ [.row 0 3 1 [], .dead, .row 0 73 5 [[.d (.sl 6 (l.map ndD)), .d (.i .i64 5), .d (.i .i64 t.k), .d (.s t.nm), .os (H.length + 3) (walked l C 5 t).length]], .row (walked l C 5 t).length 3 1 ((walked l C 5 t).map natC)]) → ACalls Tryd.prog 53 [.pt (H.length + 2) 0 0 0, .d (.sl 1 (C.map natR))] (H ++ [.row 0 3 1 [], .dead, .row 0 73 5 [[.d (.sl 6 (l.map ndD)), .d (.i .i64 5), .d (.i .i64 t.k), .d (.s t.nm), .os (H.length + 3) 0]], .row 0 3 1 []]) K := fun K hk => near5_A l hg hN t _ _ C hC hCl _ K hWk (by rw [hwst]; exact hk)
  refine ACalls_of Tryd.func13 rfl in_13 (Nat.le_of_ble_eq_true rfl) ?_
  intro F hF
  simp (dsimp := false) only [go_sem, Nat.reduceAdd, Nat.reduceBEq, Nat.reduceEqDiff, Nat.reduceLT, Nat.reduceLeDiff, Nat.reduceMul, Int.reduceToNat, reduceCtorEq, ↓reduceIte, Tryd.ntmps13, Tryd.results13, ks_13, mu_13, gv_13, ti_ag3, ti_ag34, ti_ag35, ti_ag37, ti_fl37_0, ti_fl73_3, ti_hb40, ti_hb41, ti_hb42, ti_hb43, ti_hb44, ti_hb45, ti_hb46, ti_hb47, ti_hb48, ti_hb49, ti_hb50, ti_hb51, ti_hb52, ti_hb53, ti_pl73, ti_sb35, ti_sb76, ti_sl35, ti_sl76, ti_sz37, ti_zr73, ndD, ndV, tsV, hnf', hnf, a3, a4, hz, hdd, not_true_eq_false, not_false_eq_true, Bool.and_true, Bool.true_and, Bool.false_and, Bool.and_false, Bool.false_or, Bool.or_false, Bool.true_beq, Bool.false_beq, Int.reduceEq, Int.reduceLT, Int.reduceLE, in_13] at hF
  subst hF
  repeat' (first | (refine AWp_prm (H.length + 2) 0 4 3 1 ((get_appk _ _ 2).trans rfl) rfl rfl (h := ?_)) | with_reducible (first | refine And.intro ?_ ?_ | intro _ | refine AWp_seq ?_ | refine AWp_block ?_ | (refine hKv _ _ (AWp_nop ?_); clear hKv Kv) | (refine hKA ?_; clear hKA hKB KA KB) | (refine hKB ?_; clear hKA hKB KA KB) | refine AWp_skipN ?_ | refine AWp_exitO (by repeat (first | exact Out.hit | apply Out.thenA | apply Out.out rfl)) ?_) | ((first | with_reducible (first | (refine hKv _ _ ?_; clear hKv Kv) | ((first | refine AWp_regG gv_13 mu_13 ks_13 (by decide) ?_ | refine AWp_regC mu_13 ks_13 ?_ | refine AWp_regE mu_13 ks_13 ?_); intro Kv hKv) | refine AWp_retR ?_) | refine storeCheck_A l (by omega) hS _ _ ?_ | refine hasBad_A l zs (by omega) _ _ ?_ | refine cloneI_A zs (by omega) _ _ ?_ | refine hs _ ?_ | refine hc _ ?_ | refine hf _ ?_); try simp (dsimp := false) only [go_sem, Nat.reduceAdd, Nat.reduceBEq, Nat.reduceEqDiff, Nat.reduceLT, Nat.reduceLeDiff, Nat.reduceMul, Int.reduceToNat, reduceCtorEq, ↓reduceIte, Tryd.ntmps13, Tryd.results13, ks_13, mu_13, gv_13, ti_ag3, ti_ag34, ti_ag35, ti_ag37, ti_fl37_0, ti_fl73_3, ti_hb40, ti_hb41, ti_hb42, ti_hb43, ti_hb44, ti_hb45, ti_hb46, ti_hb47, ti_hb48, ti_hb49, ti_hb50, ti_hb51, ti_hb52, ti_hb53, ti_pl73, ti_sb35, ti_sb76, ti_sl35, ti_sl76, ti_sz37, ti_zr73, ndD, ndV, tsV, hnf', hnf, a3, a4, hz, hdd, not_true_eq_false, not_false_eq_true, Bool.and_true, Bool.true_and, Bool.false_and, Bool.and_false, Bool.false_or, Bool.or_false, Bool.true_beq, Bool.false_beq, Int.reduceEq, Int.reduceLT, Int.reduceLE]) | (refine AWp_condC rfl ?_; intro KA KB hKA hKB; try simp only [onB_true, onB_false, onB_dec, onB_ndec, onB_not, onB_and, onB_or]) | (refine AWp_condA rfl ?_ ?_) | with_reducible (first | refine onB_of ?_ ?_ | rfl) | omega)
  all_goals first
    | omega
    | exact dropF hk (Fz_tu2 (.os _ _ _ _ _ _ (by omega) ((get_appk _ _ 3).trans rfl) (natC_data _)) (.same _)) (by simp [Bel_tu, Bel_d])
end Go.Proofs.YtpgdflhcmijaiaaDoor
