/- Steps from nodes: stair.Walk behind and ahead. No condition but that the tables of package unicode/utf8 are there. -/
import Derived.Test.YtpgdflhcmijaiaaDoorZ31
import Derived.Test.YtpgdflhcmijaiaaDoorZ42
import Derived.Test.YtpgdflhcmijaiaaDoorZ32
import Derived.Test.YtpgdflhcmijaiaaDoorZ36
import Derived.Test.YtpgdflhcmijaiaaDoorZ39
set_option linter.all false
set_option linter.unusedSimpArgs false
set_option linter.unusedVariables false
namespace Go.Proofs.YtpgdflhcmijaiaaDoor
open Go Go.Proofs.YtpgdflhcmijaiaaDoor.Ab
variable [Glo] [U8]
set_option maxHeartbeats 4000000
set_option maxRecDepth 20000
theorem rise_last {g : List Nat} (hr : g.Pairwise (· < ·)) {a : Nat} (ha : g[g.length - 1]? = some a) : ∀ c, c ∈ g → c ≤ a := fun c hc => by
  obtain ⟨i, hi⟩ := List.getElem?_of_mem hc
  have hil := (List.getElem?_eq_some_iff.1 hi).1
  by_cases e : i = g.length - 1
  · subst e; rw [ha] at hi; cases hi; exact Nat.le_refl _
  · exact Nat.le_of_lt (Rise.lt hr hi ha (by omega))
theorem walkAx8_A (l : List Nd) (hlen : l.length ≤ 1048576) (hS : Short l) (hnf : nodesFault l = 0) (t : Ts) (ht : 1 ≤ t.k ∧ t.k ≤ 5) (zs : List Int) (hzl : zs.length ≤ 1048576) (hz : zs.any (badB l) = false) (H : Heap) (K : V → Heap → Prop) (hk : K (.tu [.d (.sl 1 ((walked l (sortU zs) 8 t).map natR)), .d (.i .i64 0)]) H) : ACalls Tryd.prog 13 [.d (.sl 6 (l.map ndD)), .d (.sl 1 (zs.map zR)), .d (.i .i64 8), tsV t] H K := by
  obtain ⟨hN, hg⟩ := good_of hnf
  have hz0 := good_zs hz
  have hpos : ∀ z, z ∈ zs → 0 ≤ z := fun z h => (hz0 z h).1
  have hnf' : (nodesFault l = 0) = True := eq_true hnf
  have a3 : (t.k < 1) = False := eq_false (by omega)
  have a4 : (5 < t.k) = False := eq_false (by omega)
  have hs : ∀ K, K (.tu []) (H ++ [.row 0 3 1 [], .row 1 3 1 ((zs.mergeSort fun x y => decide (x ≤ y)).map icell)]) → ACalls Tryd.prog 44 [.os (H.length + 1) 1] (H ++ [.row 0 3 1 [], .row 1 3 1 (zs.map icell)]) K := fun K hk =>
    sortI_A 3 zs (by omega) _ _ _ K ((get_appk _ _ 1).trans rfl) (by rw [set_appk]; exact hk)
  have hc : ∀ K, K (.os (H.length + 1) 2) (H ++ [.row 0 3 1 [], .row 2 3 1 ((sortU zs).map natC)]) → ACalls Tryd.prog 45 [.os (H.length + 1) 1] (H ++ [.row 0 3 1 [], .row 1 3 1 ((zs.mergeSort fun x y => decide (x ≤ y)).map icell)]) K := fun K hk =>
    compactI_A 3 _ (by rw [List.length_mergeSort]; omega) _ _ _ K ((get_appk _ _ 1).trans rfl) (by rw [set_appk, sortU_eq hpos, ← nat_cells]; exact hk)
  have hCr := sortU_rise hpos
  have hC : ∀ c, c ∈ sortU zs → c < l.length := fun c hc => by
    have := hz0 _ ((sortU_mem hpos c).1 hc)
    omega
  have hCl : (sortU zs).length ≤ 100000 := Nat.le_trans (nodup_len (hCr.imp fun h => Nat.ne_of_lt h) hC) hN
  generalize sortU zs = C at hk hc hCr hC hCl
  have hdd := natC_data C
  have hWk : Wk (H ++ [.row 0 3 1 [], .dead, .row 0 73 5 [[.d (.sl 6 (l.map ndD)), .d (.i .i64 8), .d (.i .i64 t.k), .d (.s t.nm), .os (H.length + 3) 0]], .row 0 3 1 []]) (H.length + 2) (H.length + 3) l 8 t [] := ⟨by omega, (get_appk _ _ 2).trans rfl, (get_appk _ _ 3).trans rfl⟩
  have hwst : ∀ L, wst (H ++ [.row 0 3 1 [], .dead, .row 0 73 5 [[.d (.sl 6 (l.map ndD)), .d (.i .i64 8), .d (.i .i64 t.k), .d (.s t.nm), .os (H.length + 3) 0]], .row 0 3 1 []]) (H.length + 2) (H.length + 3) l 8 t L = H ++ [.row 0 3 1 [], .dead, .row 0 73 5 [[.d (.sl 6 (l.map ndD)), .d (.i .i64 8), .d (.i .i64 t.k), .d (.s t.nm), .os (H.length + 3) L.length]], .row L.length 3 1 (L.map natC)] := fun L => by
    rw [wst, set_appk, set_appk]; rfl
  have hclW : ∀ L : List Nat, Closed H (H ++ [.row 0 3 1 [], .dead, .row 0 73 5 [[.d (.sl 6 (l.map ndD)), .d (.i .i64 8), .d (.i .i64 t.k), .d (.s t.nm), .os (H.length + 3) L.length]], .row L.length 3 1 (L.map natC)]) := fun L => closed_app fun ob hob => by
    simp only [List.mem_cons, List.not_mem_nil, or_false] at hob
    rcases hob with rfl | rfl | rfl | rfl
    · exact outO_bel _ []
    · exact trivial
    · exact wkO_bel l 8 t (by simp)
    · exact outO_bel _ L
  refine ACalls_of Tryd.func13 rfl in_13 (Nat.le_of_ble_eq_true rfl) ?_
  intro F hF
  simp (dsimp := false) only [go_sem, Nat.reduceAdd, Nat.reduceBEq, Nat.reduceEqDiff, Nat.reduceLT, Nat.reduceLeDiff, Nat.reduceMul, Int.reduceToNat, reduceCtorEq, ↓reduceIte, Tryd.ntmps13, Tryd.results13, ks_13, mu_13, gv_13, ti_ag3, ti_ag34, ti_ag35, ti_ag37, ti_fl37_0, ti_fl73_3, ti_hb40, ti_hb41, ti_hb42, ti_hb43, ti_hb44, ti_hb45, ti_hb46, ti_hb47, ti_hb48, ti_hb49, ti_hb50, ti_hb51, ti_hb52, ti_hb53, ti_pl73, ti_sb35, ti_sb76, ti_sl35, ti_sl76, ti_sz37, ti_zr73, ndD, ndV, tsV, hnf', hnf, a3, a4, hz, hdd, not_true_eq_false, not_false_eq_true, Bool.and_true, Bool.true_and, Bool.false_and, Bool.and_false, Bool.false_or, Bool.or_false, Bool.true_beq, Bool.false_beq, Int.reduceEq, Int.reduceLT, Int.reduceLE, in_13] at hF
  subst hF
  repeat' (first | (refine AWp_prm (H.length + 2) 0 4 3 1 ((get_appk _ _ 2).trans rfl) rfl rfl (h := ?_)) | with_reducible (first | refine And.intro ?_ ?_ | intro _ | refine AWp_seq ?_ | refine AWp_block ?_ | (refine hKv _ _ (AWp_nop ?_); clear hKv Kv) | (refine hKA ?_; clear hKA hKB KA KB) | (refine hKB ?_; clear hKA hKB KA KB) | refine AWp_skipN ?_ | refine AWp_exitO (by repeat (first | exact Out.hit | apply Out.thenA | apply Out.out rfl)) ?_) | ((first | with_reducible (first | (refine hKv _ _ ?_; clear hKv Kv) | ((first | refine AWp_regG gv_13 mu_13 ks_13 (by decide) ?_ | refine AWp_regC mu_13 ks_13 ?_ | refine AWp_regE mu_13 ks_13 ?_); intro Kv hKv) | refine AWp_retR ?_) | refine storeCheck_A l (by omega) hS _ _ ?_ | refine hasBad_A l zs (by omega) _ _ ?_ | refine cloneI_A zs (by omega) _ _ ?_ | refine hs _ ?_ | refine hc _ ?_); try simp (dsimp := false) only [go_sem, Nat.reduceAdd, Nat.reduceBEq, Nat.reduceEqDiff, Nat.reduceLT, Nat.reduceLeDiff, Nat.reduceMul, Int.reduceToNat, reduceCtorEq, ↓reduceIte, Tryd.ntmps13, Tryd.results13, ks_13, mu_13, gv_13, ti_ag3, ti_ag34, ti_ag35, ti_ag37, ti_fl37_0, ti_fl73_3, ti_hb40, ti_hb41, ti_hb42, ti_hb43, ti_hb44, ti_hb45, ti_hb46, ti_hb47, ti_hb48, ti_hb49, ti_hb50, ti_hb51, ti_hb52, ti_hb53, ti_pl73, ti_sb35, ti_sb76, ti_sl35, ti_sl76, ti_sz37, ti_zr73, ndD, ndV, tsV, hnf', hnf, a3, a4, hz, hdd, not_true_eq_false, not_false_eq_true, Bool.and_true, Bool.true_and, Bool.false_and, Bool.and_false, Bool.false_or, Bool.or_false, Bool.true_beq, Bool.false_beq, Int.reduceEq, Int.reduceLT, Int.reduceLE]) | (refine AWp_condC rfl ?_; intro KA KB hKA hKB; try simp only [onB_true, onB_false, onB_dec, onB_ndec, onB_not, onB_and, onB_or]) | (refine AWp_condA rfl ?_ ?_) | with_reducible (first | refine onB_of ?_ ?_ | rfl) | omega)
  refine trees_A l hg hN 8 t (H.length + 2) (H.length + 3) [] C hCr hC hCl _ _ hWk fun G hG => ?_
  have hGl := Nat.le_trans (grp_len hG) hCl
  simp (dsimp := false) only [go_sem, Nat.reduceAdd, Nat.reduceBEq, Nat.reduceEqDiff, Nat.reduceLT, Nat.reduceLeDiff, Nat.reduceMul, Int.reduceToNat, reduceCtorEq, ↓reduceIte, Tryd.ntmps13, Tryd.results13, ks_13, mu_13, gv_13, ti_ag3, ti_ag34, ti_ag35, ti_ag37, ti_fl37_0, ti_fl73_3, ti_hb40, ti_hb41, ti_hb42, ti_hb43, ti_hb44, ti_hb45, ti_hb46, ti_hb47, ti_hb48, ti_hb49, ti_hb50, ti_hb51, ti_hb52, ti_hb53, ti_pl73, ti_sb35, ti_sb76, ti_sl35, ti_sl76, ti_sz37, ti_zr73, ndD, ndV, tsV, hG, not_true_eq_false, not_false_eq_true, Bool.and_true, Bool.true_and, Bool.false_and, Bool.and_false, Bool.false_or, Bool.or_false, Bool.true_beq, Bool.false_beq, Int.reduceEq, Int.reduceLT, Int.reduceLE]
  repeat' (first | with_reducible (first | refine And.intro ?_ ?_ | intro _ | refine AWp_seq ?_ | refine AWp_block ?_ | (refine hKv _ _ (AWp_nop ?_); clear hKv Kv) | (refine hKA ?_; clear hKA hKB KA KB) | (refine hKB ?_; clear hKA hKB KA KB) | refine AWp_skipN ?_ | refine AWp_exitO (by repeat (first | exact Out.hit | apply Out.thenA | apply Out.out rfl)) ?_) | (with_reducible (first | (refine hKv _ _ ?_; clear hKv Kv) | ((first | refine AWp_regG gv_13 mu_13 ks_13 (by decide) ?_ | refine AWp_regC mu_13 ks_13 ?_ | refine AWp_regE mu_13 ks_13 ?_); intro Kv hKv) | refine AWp_retR ?_); try simp (dsimp := false) only [go_sem, Nat.reduceAdd, Nat.reduceBEq, Nat.reduceEqDiff, Nat.reduceLT, Nat.reduceLeDiff, Nat.reduceMul, Int.reduceToNat, reduceCtorEq, ↓reduceIte, Tryd.ntmps13, Tryd.results13, ks_13, mu_13, gv_13, ti_ag3, ti_ag34, ti_ag35, ti_ag37, ti_fl37_0, ti_fl73_3, ti_hb40, ti_hb41, ti_hb42, ti_hb43, ti_hb44, ti_hb45, ti_hb46, ti_hb47, ti_hb48, ti_hb49, ti_hb50, ti_hb51, ti_hb52, ti_hb53, ti_pl73, ti_sb35, ti_sb76, ti_sl35, ti_sl76, ti_sz37, ti_zr73, ndD, ndV, tsV, hG, not_true_eq_false, not_false_eq_true, Bool.and_true, Bool.true_and, Bool.false_and, Bool.and_false, Bool.false_or, Bool.or_false, Bool.true_beq, Bool.false_beq, Int.reduceEq, Int.reduceLT, Int.reduceLE]) | (refine AWp_condC rfl ?_; intro KA KB hKA hKB; try simp only [onB_true, onB_false, onB_dec, onB_ndec, onB_not, onB_and, onB_or]) | (refine AWp_condA rfl ?_ ?_) | with_reducible (first | refine onB_of ?_ ?_ | rfl) | omega)
  refine AWp_whileP (fun k : Nat => k ≤ G.length) (fun k => [(2, .d (.i .i64 8)), (11, .pt (H.length + 2) 0 0 0), (90, .d (.sl 1 (G.map grD))), (91, .d (.i .i64 G.length)), (92, .d (.i .i64 k))]) (fun k => H ++ [.row 0 3 1 [], .dead, .row 0 73 5 [[.d (.sl 6 (l.map ndD)), .d (.i .i64 8), .d (.i .i64 t.k), .d (.s t.nm), .os (H.length + 3) (colF (refQ l C 8 t) (mG l G k)).length]], .row (colF (refQ l C 8 t) (mG l G k)).length 3 1 ((colF (refQ l C 8 t) (mG l G k)).map natC)]) (fun k => G.length - k) 0 (Nat.zero_le _) ?_ ?_ ?_ ?_ ?_
  · first | rfl | (simp [mG, colF]; done)
  · simp (dsimp := false) only [go_sem, Nat.reduceAdd, Nat.reduceBEq, Nat.reduceEqDiff, Nat.reduceLT, Nat.reduceLeDiff, Nat.reduceMul, Int.reduceToNat, reduceCtorEq, ↓reduceIte, Tryd.ntmps13, Tryd.results13, ks_13, mu_13, gv_13, ti_ag3, ti_ag34, ti_ag35, ti_ag37, ti_fl37_0, ti_fl73_3, ti_hb40, ti_hb41, ti_hb42, ti_hb43, ti_hb44, ti_hb45, ti_hb46, ti_hb47, ti_hb48, ti_hb49, ti_hb50, ti_hb51, ti_hb52, ti_hb53, ti_pl73, ti_sb35, ti_sb76, ti_sl35, ti_sl76, ti_sz37, ti_zr73, ndD, ndV, tsV, hG, not_true_eq_false, not_false_eq_true, Bool.and_true, Bool.true_and, Bool.false_and, Bool.and_false, Bool.false_or, Bool.or_false, Bool.true_beq, Bool.false_beq, Int.reduceEq, Int.reduceLT, Int.reduceLE]
    first | done | (simp; done) | (simp; omega)
  · intro k _
    simp
  · intro k _
    exact hclW _
  rintro k hk2
  by_cases hkC : k < G.length
  · obtain ⟨g, hgk⟩ : ∃ g, G[k]? = some g := ⟨G[k], List.getElem?_eq_getElem hkC⟩
    have hgm := List.mem_of_getElem? hgk
    have hgne := hG.ne g hgm
    have hg0 : g.length ≠ 0 := fun e => hgne (List.eq_nil_of_length_eq_zero e)
    obtain ⟨a, ha⟩ : ∃ a, g[0]? = some a := ⟨_, List.getElem?_eq_getElem (by omega)⟩
    have hag := List.mem_of_getElem? ha
    have hsub : g.Sublist C := by rw [← hG.fl]; exact List.sublist_flatten_of_mem hgm
    have hgl : g.length ≤ 100000 := Nat.le_trans hsub.length_le hCl
    have hga : ∀ c, c ∈ g → c ≤ g.getLastD 0 ∨ True := fun _ _ => .inr trivial
    obtain ⟨gp1, gp2⟩ := gap hg hC hG hgk hag
    have hms := mG_s hG hgk hag
    have k1 : ((k : Int) < (G.length : Int)) = True := eq_true (by omega)
    have k0 : ((0 : Int) ≤ (k : Int)) = True := eq_true (by omega)
    have ec : (k : Int) + 1 = ((k + 1 : Nat) : Int) := by omega
    have ht : ∀ K, K (.tu []) (H ++ [.row 0 3 1 [], .dead, .row 0 73 5 [[.d (.sl 6 (l.map ndD)), .d (.i .i64 8), .d (.i .i64 t.k), .d (.s t.nm), .os (H.length + 3) (colF (refQ l C 8 t) (mG l G (k + 1))).length]], .row (colF (refQ l C 8 t) (mG l G (k + 1))).length 3 1 ((colF (refQ l C 8 t) (mG l G (k + 1))).map natC)]) → ACalls Tryd.prog 51 [.pt (H.length + 2) 0 0 0, .d (.sl 1 (g.map natR))] (H ++ [.row 0 3 1 [], .dead, .row 0 73 5 [[.d (.sl 6 (l.map ndD)), .d (.i .i64 8), .d (.i .i64 t.k), .d (.s t.nm), .os (H.length + 3) (colF (refQ l C 8 t) (mG l G k)).length]], .row (colF (refQ l C 8 t) (mG l G k)).length 3 1 ((colF (refQ l C 8 t) (mG l G k)).map natC)]) K := fun K hk => by
      rw [← hwst]
      exact following_A l hg hN t _ _ C hC g hgl a ha (fun c hc => hG.mem hgm hc) (fun c hc => hG.same g hgm c hc a hag) (fun c hc e => hG.all hgk hag hc e) (mG l G k) gp1 gp2 _ K (hWk.next _) (by rw [hWk.wst2, ← hms, hwst]; exact hk)
    repeat' (first | with_reducible (first | refine And.intro ?_ ?_ | intro _ | refine AWp_seq ?_ | refine AWp_block ?_ | (refine hKv _ _ (AWp_nop ?_); clear hKv Kv) | (refine hKA ?_; clear hKA hKB KA KB) | (refine hKB ?_; clear hKA hKB KA KB) | refine AWp_skipN ?_ | refine AWp_exitO (by repeat (first | exact Out.hit | apply Out.thenA | apply Out.out rfl)) ?_) | ((first | with_reducible (first | (refine hKv _ _ ?_; clear hKv Kv) | ((first | refine AWp_regG gv_13 mu_13 ks_13 (by decide) ?_ | refine AWp_regC mu_13 ks_13 ?_ | refine AWp_regE mu_13 ks_13 ?_); intro Kv hKv) | refine AWp_retR ?_) | refine ht _ ?_); try simp (dsimp := false) only [go_sem, Nat.reduceAdd, Nat.reduceBEq, Nat.reduceEqDiff, Nat.reduceLT, Nat.reduceLeDiff, Nat.reduceMul, Int.reduceToNat, reduceCtorEq, ↓reduceIte, Tryd.ntmps13, Tryd.results13, ks_13, mu_13, gv_13, ti_ag3, ti_ag34, ti_ag35, ti_ag37, ti_fl37_0, ti_fl73_3, ti_hb40, ti_hb41, ti_hb42, ti_hb43, ti_hb44, ti_hb45, ti_hb46, ti_hb47, ti_hb48, ti_hb49, ti_hb50, ti_hb51, ti_hb52, ti_hb53, ti_pl73, ti_sb35, ti_sb76, ti_sl35, ti_sl76, ti_sz37, ti_zr73, ndD, ndV, tsV, grD, hgk, k0, k1, ec, not_true_eq_false, not_false_eq_true, Bool.and_true, Bool.true_and, Bool.false_and, Bool.and_false, Bool.false_or, Bool.or_false, Bool.true_beq, Bool.false_beq, Int.reduceEq, Int.reduceLT, Int.reduceLE]) | (refine AWp_condC rfl ?_; intro KA KB hKA hKB; try simp only [onB_true, onB_false, onB_dec, onB_ndec, onB_not, onB_and, onB_or]) | (refine AWp_condA rfl ?_ ?_) | with_reducible (first | refine onB_of ?_ ?_ | rfl) | omega)
    all_goals first
      | omega
      | exact hclW _
      | exact ⟨k + 1, by omega, by omega, rfl, by (repeat' (refine And.intro ?_ ?_)) <;> first | rfl | omega | (simp; done) | (simp; omega)⟩
  obtain rfl : k = G.length := by omega
  have k1 : ((G.length : Int) < (G.length : Int)) = False := eq_false (by omega)
  obtain ⟨ge1, ge2⟩ := gap_end hg hC hG
  have e : colF (refQ l C 8 t) (mG l G G.length) = walked l C 8 t := (colF_skip ge1 fun j j1 j2 => refQ8_gap (ge2 j j1 j2)).symm
  rw [e]
  repeat' (first | with_reducible (first | refine And.intro ?_ ?_ | intro _ | refine AWp_seq ?_ | refine AWp_block ?_ | (refine hKv _ _ (AWp_nop ?_); clear hKv Kv) | (refine hKA ?_; clear hKA hKB KA KB) | (refine hKB ?_; clear hKA hKB KA KB) | refine AWp_skipN ?_ | refine AWp_exitO (by repeat (first | exact Out.hit | apply Out.thenA | apply Out.out rfl)) ?_) | (with_reducible (first | (refine hKv _ _ ?_; clear hKv Kv) | ((first | refine AWp_regG gv_13 mu_13 ks_13 (by decide) ?_ | refine AWp_regC mu_13 ks_13 ?_ | refine AWp_regE mu_13 ks_13 ?_); intro Kv hKv) | refine AWp_retR ?_); try simp (dsimp := false) only [go_sem, Nat.reduceAdd, Nat.reduceBEq, Nat.reduceEqDiff, Nat.reduceLT, Nat.reduceLeDiff, Nat.reduceMul, Int.reduceToNat, reduceCtorEq, ↓reduceIte, Tryd.ntmps13, Tryd.results13, ks_13, mu_13, gv_13, ti_ag3, ti_ag34, ti_ag35, ti_ag37, ti_fl37_0, ti_fl73_3, ti_hb40, ti_hb41, ti_hb42, ti_hb43, ti_hb44, ti_hb45, ti_hb46, ti_hb47, ti_hb48, ti_hb49, ti_hb50, ti_hb51, ti_hb52, ti_hb53, ti_pl73, ti_sb35, ti_sb76, ti_sl35, ti_sl76, ti_sz37, ti_zr73, ndD, ndV, tsV, natR, k1, not_true_eq_false, not_false_eq_true, Bool.and_true, Bool.true_and, Bool.false_and, Bool.and_false, Bool.false_or, Bool.or_false, Bool.true_beq, Bool.false_beq, Int.reduceEq, Int.reduceLT, Int.reduceLE]) | (refine AWp_condC rfl ?_; intro KA KB hKA hKB; try simp only [onB_true, onB_false, onB_dec, onB_ndec, onB_not, onB_and, onB_or]) | (refine AWp_condA rfl ?_ ?_) | with_reducible (first | refine onB_of ?_ ?_ | rfl) | omega)
  all_goals first
    | omega
    | exact dropF hk (Fz_tu2 (.os _ _ _ _ _ _ (by omega) ((get_appk _ _ 3).trans rfl) (natC_data _)) (.same _)) (by simp [Bel_tu, Bel_d])
theorem walkAx9_A (l : List Nd) (hlen : l.length ≤ 1048576) (hS : Short l) (hnf : nodesFault l = 0) (t : Ts) (ht : 1 ≤ t.k ∧ t.k ≤ 5) (zs : List Int) (hzl : zs.length ≤ 1048576) (hz : zs.any (badB l) = false) (H : Heap) (K : V → Heap → Prop) (hk : K (.tu [.d (.sl 1 ((walked l (sortU zs) 9 t).map natR)), .d (.i .i64 0)]) H) : ACalls Tryd.prog 13 [.d (.sl 6 (l.map ndD)), .d (.sl 1 (zs.map zR)), .d (.i .i64 9), tsV t] H K := by
  obtain ⟨hN, hg⟩ := good_of hnf
  have hz0 := good_zs hz
  have hpos : ∀ z, z ∈ zs → 0 ≤ z := fun z h => (hz0 z h).1
  have hnf' : (nodesFault l = 0) = True := eq_true hnf
  have a3 : (t.k < 1) = False := eq_false (by omega)
  have a4 : (5 < t.k) = False := eq_false (by omega)
  have hs : ∀ K, K (.tu []) (H ++ [.row 0 3 1 [], .row 1 3 1 ((zs.mergeSort fun x y => decide (x ≤ y)).map icell)]) → ACalls Tryd.prog 44 [.os (H.length + 1) 1] (H ++ [.row 0 3 1 [], .row 1 3 1 (zs.map icell)]) K := fun K hk =>
    sortI_A 3 zs (by omega) _ _ _ K ((get_appk _ _ 1).trans rfl) (by rw [set_appk]; exact hk)
  have hc : ∀ K, K (.os (H.length + 1) 2) (H ++ [.row 0 3 1 [], .row 2 3 1 ((sortU zs).map natC)]) → ACalls Tryd.prog 45 [.os (H.length + 1) 1] (H ++ [.row 0 3 1 [], .row 1 3 1 ((zs.mergeSort fun x y => decide (x ≤ y)).map icell)]) K := fun K hk =>
    compactI_A 3 _ (by rw [List.length_mergeSort]; omega) _ _ _ K ((get_appk _ _ 1).trans rfl) (by rw [set_appk, sortU_eq hpos, ← nat_cells]; exact hk)
  have hCr := sortU_rise hpos
  have hC : ∀ c, c ∈ sortU zs → c < l.length := fun c hc => by
    have := hz0 _ ((sortU_mem hpos c).1 hc)
    omega
  have hCl : (sortU zs).length ≤ 100000 := Nat.le_trans (nodup_len (hCr.imp fun h => Nat.ne_of_lt h) hC) hN
  generalize sortU zs = C at hk hc hCr hC hCl
  have hdd := natC_data C
  have hWk : Wk (H ++ [.row 0 3 1 [], .dead, .row 0 73 5 [[.d (.sl 6 (l.map ndD)), .d (.i .i64 9), .d (.i .i64 t.k), .d (.s t.nm), .os (H.length + 3) 0]], .row 0 3 1 []]) (H.length + 2) (H.length + 3) l 9 t [] := ⟨by omega, (get_appk _ _ 2).trans rfl, (get_appk _ _ 3).trans rfl⟩
  have hwst : ∀ L, wst (H ++ [.row 0 3 1 [], .dead, .row 0 73 5 [[.d (.sl 6 (l.map ndD)), .d (.i .i64 9), .d (.i .i64 t.k), .d (.s t.nm), .os (H.length + 3) 0]], .row 0 3 1 []]) (H.length + 2) (H.length + 3) l 9 t L = H ++ [.row 0 3 1 [], .dead, .row 0 73 5 [[.d (.sl 6 (l.map ndD)), .d (.i .i64 9), .d (.i .i64 t.k), .d (.s t.nm), .os (H.length + 3) L.length]], .row L.length 3 1 (L.map natC)] := fun L => by
    rw [wst, set_appk, set_appk]; rfl
  have hclW : ∀ L : List Nat, Closed H (H ++ [.row 0 3 1 [], .dead, .row 0 73 5 [[.d (.sl 6 (l.map ndD)), .d (.i .i64 9), .d (.i .i64 t.k), .d (.s t.nm), .os (H.length + 3) L.length]], .row L.length 3 1 (L.map natC)]) := fun L => closed_app fun ob hob => by
    simp only [List.mem_cons, List.not_mem_nil, or_false] at hob
    rcases hob with rfl | rfl | rfl | rfl
    · exact outO_bel _ []
    · exact trivial
    · exact wkO_bel l 9 t (by simp)
    · exact outO_bel _ L
  refine ACalls_of Tryd.func13 rfl in_13 (Nat.le_of_ble_eq_true rfl) ?_
  intro F hF
  simp (dsimp := false) only [go_sem, Nat.reduceAdd, Nat.reduceBEq, Nat.reduceEqDiff, Nat.reduceLT, Nat.reduceLeDiff, Nat.reduceMul, Int.reduceToNat, reduceCtorEq, ↓reduceIte, Tryd.ntmps13, Tryd.results13, ks_13, mu_13, gv_13, ti_ag3, ti_ag34, ti_ag35, ti_ag37, ti_fl37_0, ti_fl73_3, ti_hb40, ti_hb41, ti_hb42, ti_hb43, ti_hb44, ti_hb45, ti_hb46, ti_hb47, ti_hb48, ti_hb49, ti_hb50, ti_hb51, ti_hb52, ti_hb53, ti_pl73, ti_sb35, ti_sb76, ti_sl35, ti_sl76, ti_sz37, ti_zr73, ndD, ndV, tsV, hnf', hnf, a3, a4, hz, hdd, not_true_eq_false, not_false_eq_true, Bool.and_true, Bool.true_and, Bool.false_and, Bool.and_false, Bool.false_or, Bool.or_false, Bool.true_beq, Bool.false_beq, Int.reduceEq, Int.reduceLT, Int.reduceLE, in_13] at hF
  subst hF
  repeat' (first | (refine AWp_prm (H.length + 2) 0 4 3 1 ((get_appk _ _ 2).trans rfl) rfl rfl (h := ?_)) | with_reducible (first | refine And.intro ?_ ?_ | intro _ | refine AWp_seq ?_ | refine AWp_block ?_ | (refine hKv _ _ (AWp_nop ?_); clear hKv Kv) | (refine hKA ?_; clear hKA hKB KA KB) | (refine hKB ?_; clear hKA hKB KA KB) | refine AWp_skipN ?_ | refine AWp_exitO (by repeat (first | exact Out.hit | apply Out.thenA | apply Out.out rfl)) ?_) | ((first | with_reducible (first | (refine hKv _ _ ?_; clear hKv Kv) | ((first | refine AWp_regG gv_13 mu_13 ks_13 (by decide) ?_ | refine AWp_regC mu_13 ks_13 ?_ | refine AWp_regE mu_13 ks_13 ?_); intro Kv hKv) | refine AWp_retR ?_) | refine storeCheck_A l (by omega) hS _ _ ?_ | refine hasBad_A l zs (by omega) _ _ ?_ | refine cloneI_A zs (by omega) _ _ ?_ | refine hs _ ?_ | refine hc _ ?_); try simp (dsimp := false) only [go_sem, Nat.reduceAdd, Nat.reduceBEq, Nat.reduceEqDiff, Nat.reduceLT, Nat.reduceLeDiff, Nat.reduceMul, Int.reduceToNat, reduceCtorEq, ↓reduceIte, Tryd.ntmps13, Tryd.results13, ks_13, mu_13, gv_13, ti_ag3, ti_ag34, ti_ag35, ti_ag37, ti_fl37_0, ti_fl73_3, ti_hb40, ti_hb41, ti_hb42, ti_hb43, ti_hb44, ti_hb45, ti_hb46, ti_hb47, ti_hb48, ti_hb49, ti_hb50, ti_hb51, ti_hb52, ti_hb53, ti_pl73, ti_sb35, ti_sb76, ti_sl35, ti_sl76, ti_sz37, ti_zr73, ndD, ndV, tsV, hnf', hnf, a3, a4, hz, hdd, not_true_eq_false, not_false_eq_true, Bool.and_true, Bool.true_and, Bool.false_and, Bool.and_false, Bool.false_or, Bool.or_false, Bool.true_beq, Bool.false_beq, Int.reduceEq, Int.reduceLT, Int.reduceLE]) | (refine AWp_condC rfl ?_; intro KA KB hKA hKB; try simp only [onB_true, onB_false, onB_dec, onB_ndec, onB_not, onB_and, onB_or]) | (refine AWp_condA rfl ?_ ?_) | with_reducible (first | refine onB_of ?_ ?_ | rfl) | omega)
  refine trees_A l hg hN 9 t (H.length + 2) (H.length + 3) [] C hCr hC hCl _ _ hWk fun G hG => ?_
  have hGl := Nat.le_trans (grp_len hG) hCl
  simp (dsimp := false) only [go_sem, Nat.reduceAdd, Nat.reduceBEq, Nat.reduceEqDiff, Nat.reduceLT, Nat.reduceLeDiff, Nat.reduceMul, Int.reduceToNat, reduceCtorEq, ↓reduceIte, Tryd.ntmps13, Tryd.results13, ks_13, mu_13, gv_13, ti_ag3, ti_ag34, ti_ag35, ti_ag37, ti_fl37_0, ti_fl73_3, ti_hb40, ti_hb41, ti_hb42, ti_hb43, ti_hb44, ti_hb45, ti_hb46, ti_hb47, ti_hb48, ti_hb49, ti_hb50, ti_hb51, ti_hb52, ti_hb53, ti_pl73, ti_sb35, ti_sb76, ti_sl35, ti_sl76, ti_sz37, ti_zr73, ndD, ndV, tsV, hG, not_true_eq_false, not_false_eq_true, Bool.and_true, Bool.true_and, Bool.false_and, Bool.and_false, Bool.false_or, Bool.or_false, Bool.true_beq, Bool.false_beq, Int.reduceEq, Int.reduceLT, Int.reduceLE]
  repeat' (first | with_reducible (first | refine And.intro ?_ ?_ | intro _ | refine AWp_seq ?_ | refine AWp_block ?_ | (refine hKv _ _ (AWp_nop ?_); clear hKv Kv) | (refine hKA ?_; clear hKA hKB KA KB) | (refine hKB ?_; clear hKA hKB KA KB) | refine AWp_skipN ?_ | refine AWp_exitO (by repeat (first | exact Out.hit | apply Out.thenA | apply Out.out rfl)) ?_) | (with_reducible (first | (refine hKv _ _ ?_; clear hKv Kv) | ((first | refine AWp_regG gv_13 mu_13 ks_13 (by decide) ?_ | refine AWp_regC mu_13 ks_13 ?_ | refine AWp_regE mu_13 ks_13 ?_); intro Kv hKv) | refine AWp_retR ?_); try simp (dsimp := false) only [go_sem, Nat.reduceAdd, Nat.reduceBEq, Nat.reduceEqDiff, Nat.reduceLT, Nat.reduceLeDiff, Nat.reduceMul, Int.reduceToNat, reduceCtorEq, ↓reduceIte, Tryd.ntmps13, Tryd.results13, ks_13, mu_13, gv_13, ti_ag3, ti_ag34, ti_ag35, ti_ag37, ti_fl37_0, ti_fl73_3, ti_hb40, ti_hb41, ti_hb42, ti_hb43, ti_hb44, ti_hb45, ti_hb46, ti_hb47, ti_hb48, ti_hb49, ti_hb50, ti_hb51, ti_hb52, ti_hb53, ti_pl73, ti_sb35, ti_sb76, ti_sl35, ti_sl76, ti_sz37, ti_zr73, ndD, ndV, tsV, hG, not_true_eq_false, not_false_eq_true, Bool.and_true, Bool.true_and, Bool.false_and, Bool.and_false, Bool.false_or, Bool.or_false, Bool.true_beq, Bool.false_beq, Int.reduceEq, Int.reduceLT, Int.reduceLE]) | (refine AWp_condC rfl ?_; intro KA KB hKA hKB; try simp only [onB_true, onB_false, onB_dec, onB_ndec, onB_not, onB_and, onB_or]) | (refine AWp_condA rfl ?_ ?_) | with_reducible (first | refine onB_of ?_ ?_ | rfl) | omega)
  refine AWp_whileP (fun k : Nat => k ≤ G.length) (fun k => [(2, .d (.i .i64 9)), (11, .pt (H.length + 2) 0 0 0), (90, .d (.sl 1 (G.map grD))), (91, .d (.i .i64 G.length)), (92, .d (.i .i64 k))]) (fun k => H ++ [.row 0 3 1 [], .dead, .row 0 73 5 [[.d (.sl 6 (l.map ndD)), .d (.i .i64 9), .d (.i .i64 t.k), .d (.s t.nm), .os (H.length + 3) (colF (refQ l C 9 t) (mG l G k)).length]], .row (colF (refQ l C 9 t) (mG l G k)).length 3 1 ((colF (refQ l C 9 t) (mG l G k)).map natC)]) (fun k => G.length - k) 0 (Nat.zero_le _) ?_ ?_ ?_ ?_ ?_
  · first | rfl | (simp [mG, colF]; done)
  · simp (dsimp := false) only [go_sem, Nat.reduceAdd, Nat.reduceBEq, Nat.reduceEqDiff, Nat.reduceLT, Nat.reduceLeDiff, Nat.reduceMul, Int.reduceToNat, reduceCtorEq, ↓reduceIte, Tryd.ntmps13, Tryd.results13, ks_13, mu_13, gv_13, ti_ag3, ti_ag34, ti_ag35, ti_ag37, ti_fl37_0, ti_fl73_3, ti_hb40, ti_hb41, ti_hb42, ti_hb43, ti_hb44, ti_hb45, ti_hb46, ti_hb47, ti_hb48, ti_hb49, ti_hb50, ti_hb51, ti_hb52, ti_hb53, ti_pl73, ti_sb35, ti_sb76, ti_sl35, ti_sl76, ti_sz37, ti_zr73, ndD, ndV, tsV, hG, not_true_eq_false, not_false_eq_true, Bool.and_true, Bool.true_and, Bool.false_and, Bool.and_false, Bool.false_or, Bool.or_false, Bool.true_beq, Bool.false_beq, Int.reduceEq, Int.reduceLT, Int.reduceLE]
    first | done | (simp; done) | (simp; omega)
  · intro k _
    simp
  · intro k _
    exact hclW _
  rintro k hk2
  by_cases hkC : k < G.length
  · obtain ⟨g, hgk⟩ : ∃ g, G[k]? = some g := ⟨G[k], List.getElem?_eq_getElem hkC⟩
    have hgm := List.mem_of_getElem? hgk
    have hgne := hG.ne g hgm
    have hg0 : g.length ≠ 0 := fun e => hgne (List.eq_nil_of_length_eq_zero e)
    obtain ⟨a, ha⟩ : ∃ a, g[g.length - 1]? = some a := ⟨_, List.getElem?_eq_getElem (by omega)⟩
    have hag := List.mem_of_getElem? ha
    have hsub : g.Sublist C := by rw [← hG.fl]; exact List.sublist_flatten_of_mem hgm
    have hgl : g.length ≤ 100000 := Nat.le_trans hsub.length_le hCl
    have hga : ∀ c, c ∈ g → c ≤ g.getLastD 0 ∨ True := fun _ _ => .inr trivial
    obtain ⟨gp1, gp2⟩ := gap hg hC hG hgk hag
    have hms := mG_s hG hgk hag
    have hga : ∀ c, c ∈ g → c ≤ a := rise_last (List.Pairwise.sublist hsub hCr) ha
    have k1 : ((k : Int) < (G.length : Int)) = True := eq_true (by omega)
    have k0 : ((0 : Int) ≤ (k : Int)) = True := eq_true (by omega)
    have ec : (k : Int) + 1 = ((k + 1 : Nat) : Int) := by omega
    have ht : ∀ K, K (.tu []) (H ++ [.row 0 3 1 [], .dead, .row 0 73 5 [[.d (.sl 6 (l.map ndD)), .d (.i .i64 9), .d (.i .i64 t.k), .d (.s t.nm), .os (H.length + 3) (colF (refQ l C 9 t) (mG l G (k + 1))).length]], .row (colF (refQ l C 9 t) (mG l G (k + 1))).length 3 1 ((colF (refQ l C 9 t) (mG l G (k + 1))).map natC)]) → ACalls Tryd.prog 52 [.pt (H.length + 2) 0 0 0, .d (.sl 1 (g.map natR))] (H ++ [.row 0 3 1 [], .dead, .row 0 73 5 [[.d (.sl 6 (l.map ndD)), .d (.i .i64 9), .d (.i .i64 t.k), .d (.s t.nm), .os (H.length + 3) (colF (refQ l C 9 t) (mG l G k)).length]], .row (colF (refQ l C 9 t) (mG l G k)).length 3 1 ((colF (refQ l C 9 t) (mG l G k)).map natC)]) K := fun K hk => by
      rw [← hwst]
      exact preceding_A l hg hN t _ _ C hC g hgl a ha hga (fun c hc => hG.mem hgm hc) (fun c hc => hG.same g hgm c hc a hag) (fun c hc e => hG.all hgk hag hc e) (mG l G k) gp1 gp2 _ K (hWk.next _) (by rw [hWk.wst2, ← hms, hwst]; exact hk)
    repeat' (first | with_reducible (first | refine And.intro ?_ ?_ | intro _ | refine AWp_seq ?_ | refine AWp_block ?_ | (refine hKv _ _ (AWp_nop ?_); clear hKv Kv) | (refine hKA ?_; clear hKA hKB KA KB) | (refine hKB ?_; clear hKA hKB KA KB) | refine AWp_skipN ?_ | refine AWp_exitO (by repeat (first | exact Out.hit | apply Out.thenA | apply Out.out rfl)) ?_) | ((first | with_reducible (first | (refine hKv _ _ ?_; clear hKv Kv) | ((first | refine AWp_regG gv_13 mu_13 ks_13 (by decide) ?_ | refine AWp_regC mu_13 ks_13 ?_ | refine AWp_regE mu_13 ks_13 ?_); intro Kv hKv) | refine AWp_retR ?_) | refine ht _ ?_); try simp (dsimp := false) only [go_sem, Nat.reduceAdd, Nat.reduceBEq, Nat.reduceEqDiff, Nat.reduceLT, Nat.reduceLeDiff, Nat.reduceMul, Int.reduceToNat, reduceCtorEq, ↓reduceIte, Tryd.ntmps13, Tryd.results13, ks_13, mu_13, gv_13, ti_ag3, ti_ag34, ti_ag35, ti_ag37, ti_fl37_0, ti_fl73_3, ti_hb40, ti_hb41, ti_hb42, ti_hb43, ti_hb44, ti_hb45, ti_hb46, ti_hb47, ti_hb48, ti_hb49, ti_hb50, ti_hb51, ti_hb52, ti_hb53, ti_pl73, ti_sb35, ti_sb76, ti_sl35, ti_sl76, ti_sz37, ti_zr73, ndD, ndV, tsV, grD, hgk, k0, k1, ec, not_true_eq_false, not_false_eq_true, Bool.and_true, Bool.true_and, Bool.false_and, Bool.and_false, Bool.false_or, Bool.or_false, Bool.true_beq, Bool.false_beq, Int.reduceEq, Int.reduceLT, Int.reduceLE]) | (refine AWp_condC rfl ?_; intro KA KB hKA hKB; try simp only [onB_true, onB_false, onB_dec, onB_ndec, onB_not, onB_and, onB_or]) | (refine AWp_condA rfl ?_ ?_) | with_reducible (first | refine onB_of ?_ ?_ | rfl) | omega)
    all_goals first
      | omega
      | exact hclW _
      | exact ⟨k + 1, by omega, by omega, rfl, by (repeat' (refine And.intro ?_ ?_)) <;> first | rfl | omega | (simp; done) | (simp; omega)⟩
  obtain rfl : k = G.length := by omega
  have k1 : ((G.length : Int) < (G.length : Int)) = False := eq_false (by omega)
  obtain ⟨ge1, ge2⟩ := gap_end hg hC hG
  have e : colF (refQ l C 9 t) (mG l G G.length) = walked l C 9 t := (colF_skip ge1 fun j j1 j2 => refQ9_gap (ge2 j j1 j2)).symm
  rw [e]
  repeat' (first | with_reducible (first | refine And.intro ?_ ?_ | intro _ | refine AWp_seq ?_ | refine AWp_block ?_ | (refine hKv _ _ (AWp_nop ?_); clear hKv Kv) | (refine hKA ?_; clear hKA hKB KA KB) | (refine hKB ?_; clear hKA hKB KA KB) | refine AWp_skipN ?_ | refine AWp_exitO (by repeat (first | exact Out.hit | apply Out.thenA | apply Out.out rfl)) ?_) | (with_reducible (first | (refine hKv _ _ ?_; clear hKv Kv) | ((first | refine AWp_regG gv_13 mu_13 ks_13 (by decide) ?_ | refine AWp_regC mu_13 ks_13 ?_ | refine AWp_regE mu_13 ks_13 ?_); intro Kv hKv) | refine AWp_retR ?_); try simp (dsimp := false) only [go_sem, Nat.reduceAdd, Nat.reduceBEq, Nat.reduceEqDiff, Nat.reduceLT, Nat.reduceLeDiff, Nat.reduceMul, Int.reduceToNat, reduceCtorEq, ↓reduceIte, Tryd.ntmps13, Tryd.results13, ks_13, mu_13, gv_13, ti_ag3, ti_ag34, ti_ag35, ti_ag37, ti_fl37_0, ti_fl73_3, ti_hb40, ti_hb41, ti_hb42, ti_hb43, ti_hb44, ti_hb45, ti_hb46, ti_hb47, ti_hb48, ti_hb49, ti_hb50, ti_hb51, ti_hb52, ti_hb53, ti_pl73, ti_sb35, ti_sb76, ti_sl35, ti_sl76, ti_sz37, ti_zr73, ndD, ndV, tsV, natR, k1, not_true_eq_false, not_false_eq_true, Bool.and_true, Bool.true_and, Bool.false_and, Bool.and_false, Bool.false_or, Bool.or_false, Bool.true_beq, Bool.false_beq, Int.reduceEq, Int.reduceLT, Int.reduceLE]) | (refine AWp_condC rfl ?_; intro KA KB hKA hKB; try simp only [onB_true, onB_false, onB_dec, onB_ndec, onB_not, onB_and, onB_or]) | (refine AWp_condA rfl ?_ ?_) | with_reducible (first | refine onB_of ?_ ?_ | rfl) | omega)
  all_goals first
    | omega
    | exact dropF hk (Fz_tu2 (.os _ _ _ _ _ _ (by omega) ((get_appk _ _ 3).trans rfl) (natC_data _)) (.same _)) (by simp [Bel_tu, Bel_d])
end Go.Proofs.YtpgdflhcmijaiaaDoor
namespace Go.Proofs.YtpgdflhcmijaiaaDoor
open Go Go.Proofs.YtpgdflhcmijaiaaDoor.Ab
variable [Glo] [U8]
set_option maxHeartbeats 4000000
set_option maxRecDepth 20000
theorem stairWalk_A (l : List Nd) (hlen : l.length ≤ 1048576) (hS : Short l) (t : Ts) (axis : Int) (zs : List Int) (hzl : zs.length ≤ 1048576) (H : Heap) (K : V → Heap → Prop) (hk : K (.tu [.d (.sl 1 ((walkR l zs axis t).map natR)), .d (.i .i64 (walkF l zs axis t))]) H) : ACalls Tryd.prog 13 [.d (.sl 6 (l.map ndD)), .d (.sl 1 (zs.map zR)), .d (.i .i64 axis), tsV t] H K := by
  by_cases h0 : walkF l zs axis t = 0
  · rw [walkR, if_pos h0, h0] at hk
    unfold walkF at h0
    by_cases hnf : nodesFault l = 0
    · rw [if_pos hnf] at h0
      by_cases ha : (1 ≤ axis ∧ axis ≤ 12) ∧ (1 ≤ t.k ∧ t.k ≤ 5)
      · rw [if_pos ha] at h0
        have hz : zs.any (badB l) = false := by
          cases h : zs.any (badB l)
          · rfl
          · rw [if_pos h] at h0; cases h0
        rw [walked_sortU fun z h => (good_zs hz z h).1] at hk
        have hax : axis = 1 ∨ axis = 2 ∨ axis = 3 ∨ axis = 4 ∨ axis = 5 ∨ axis = 6 ∨ axis = 7 ∨ axis = 8 ∨ axis = 9 ∨ axis = 10 ∨ axis = 11 ∨ axis = 12 := by omega
        rcases hax with rfl | rfl | rfl | rfl | rfl | rfl | rfl | rfl | rfl | rfl | rfl | rfl
        · exact walkAx1_A l hlen hS hnf t ha.2 zs hzl hz H K hk
        · exact walkAx2_A l hlen hS hnf t ha.2 zs hzl hz H K hk
        · exact walkAx3_A l hlen hS hnf t ha.2 zs hzl hz H K hk
        · exact walkAx4_A l hlen hS hnf t ha.2 zs hzl hz H K hk
        · exact walkAx5_A l hlen hS hnf t ha.2 zs hzl hz H K hk
        · exact walkAx6_A l hlen hS hnf t ha.2 zs hzl hz H K hk
        · exact walkAx7_A l hlen hS hnf t ha.2 zs hzl hz H K hk
        · exact walkAx8_A l hlen hS hnf t ha.2 zs hzl hz H K hk
        · exact walkAx9_A l hlen hS hnf t ha.2 zs hzl hz H K hk
        · exact walkAx10_A l hlen hS hnf t ha.2 zs hzl hz H K hk
        · exact walkAx11_A l hlen hS hnf t ha.2 zs hzl hz H K hk
        · exact walkAx12_A l hlen hS hnf t ha.2 zs hzl hz H K hk
      · rw [if_neg ha] at h0; cases h0
    · rw [if_neg hnf] at h0; exact absurd h0 hnf
  · have e : walkR l zs axis t = [] := by rw [walkR, if_neg h0]
    rw [e] at hk
    exact walkBad_A l hlen hS t axis zs hzl h0 H K hk
end Go.Proofs.YtpgdflhcmijaiaaDoor
