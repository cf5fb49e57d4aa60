/- Steps from nodes: down, with the nodes themselves. No condition. -/
import Derived.Test.YtpgdflhcmijaiaaDoorZ28
set_option linter.all false
set_option linter.unusedSimpArgs false
set_option linter.unusedVariables false
namespace Go.Proofs.YtpgdflhcmijaiaaDoor
open Go Go.Proofs.YtpgdflhcmijaiaaDoor.Ab
variable [Glo]
set_option maxHeartbeats 4000000
set_option maxRecDepth 20000
theorem mapD_bel2 {m ver e : Nat} {sh : List Kd} {ks : List (List D)} {vs : List V} (h : ∀ v, v ∈ vs → ∃ x, v = .d x) : ObBel m (.row ver e 0 [[.mp sh ks vs]]) := by
  intro row hr v hv
  simp at hr
  subst hr
  simp at hv
  subst hv
  exact .mp _ _ _ fun v hv => by
    obtain ⟨x, rfl⟩ := h v hv
    exact .d _
structure InM (ks : List (List D)) (vs : List V) (S : Nat → Prop) : Prop where
  len : ks.length = vs.length
  get : ∀ j : Nat, mget ks vs [.i .i64 j] (.d (.b false)) = .d (.b true) ↔ S j
  val : ∀ j : Nat, mget ks vs [.i .i64 j] (.d (.b false)) = .d (.b true) ∨ mget ks vs [.i .i64 j] (.d (.b false)) = .d (.b false)
  all : ∀ v, v ∈ vs → ∃ x, v = .d x
theorem InM.empty : InM [] [] fun _ => False := ⟨rfl, fun j => by simp [mget, mix], fun j => .inr (by simp [mget, mix]), fun v hv => by cases hv⟩
theorem InM.put {ks : List (List D)} {vs : List V} {S : Nat → Prop} (h : InM ks vs S) (n : Nat) : InM (mputK ks [.i .i64 n]) (mputV ks vs [.i .i64 n] (.d (.b true))) fun j => S j ∨ j = n := by
  refine ⟨mput_len h.len, fun j => ?_, fun j => ?_, mput_all h.all ⟨_, rfl⟩⟩
  · by_cases e : j = n
    · subst e
      rw [mget_put h.len]
      simp
    · rw [mget_put_ne h.len (fun h' => e (Int.ofNat.inj (by simpa using h'))), h.get]
      simp [e]
  · by_cases e : j = n
    · subst e
      rw [mget_put h.len]
      exact .inl rfl
    · rw [mget_put_ne h.len (fun h' => e (Int.ofNat.inj (by simpa using h')))]
      exact h.val j
open Classical in
theorem InM.look {ks : List (List D)} {vs : List V} {S : Nat → Prop} (h : InM ks vs S) (j : Nat) [Decidable (S j)] : mget ks vs [.i .i64 j] (.d (.b false)) = .d (.b (decide (S j))) := by
  by_cases e : S j
  · rw [(h.get j).2 e, decide_eq_true e]
  · rw [decide_eq_false e]
    exact (h.val j).resolve_left fun h' => e ((h.get j).1 h')
theorem InM.congr {ks : List (List D)} {vs : List V} {S S' : Nat → Prop} (h : InM ks vs S) (e : ∀ j, S j ↔ S' j) : InM ks vs S' := ⟨h.len, fun j => (h.get j).trans (e j), h.val, h.all⟩
theorem take_mem {C : List Nat} {k n : Nat} (h : C[k]? = some n) (j : Nat) : j ∈ C.take (k + 1) ↔ j ∈ C.take k ∨ j = n := by
  rw [take_of_get h, List.mem_append, List.mem_singleton]
def ks_47 : Nat → List Nat
  | 0 => [0, 1, 4]
  | 1 => [0, 1, 4, 12, 13, 14]
  | 2 => [0, 1, 4, 12, 13, 14, 15]
  | 3 => [0, 1, 4, 6, 12, 13, 14]
  | 4 => [0, 1, 4, 12, 13, 14]
  | 5 => [0, 1, 4, 12, 13, 14]
  | 6 => [0, 1, 4, 7]
  | 7 => [0, 4, 7, 21, 22, 23]
  | 8 => [0, 4, 7, 21, 22, 23, 24]
  | 9 => [0, 4, 7, 9, 21, 22, 23]
  | 10 => [0, 4, 7, 9, 10, 21, 22, 23]
  | 11 => [0, 4, 7, 9, 10, 21, 22, 23, 42]
  | 12 => [0, 4, 7, 9, 10, 21, 22, 23]
  | 13 => [0, 4, 7, 9, 10, 21, 22, 23]
  | 14 => [0, 4, 7, 21, 22, 23]
  | 15 => [0, 4, 7, 21, 22, 23]
  | _ => []
def mu_47 : List Nat := []
def in_47 : List Nat := [0, 1]
theorem downSelf_A (l : List Nd) (hg : Good l l.length) (hN : l.length ≤ 100000) (t : Ts) (idw ido : Nat) (C : List Nat) (hr : Rise C) (hC : ∀ c, c ∈ C → c < l.length) (hCl : C.length ≤ 100000) (H : Heap) (K : V → Heap → Prop) (hW : Wk H idw ido l 3 t []) (hk : K (.tu []) (wst H idw ido l 3 t (walked l C 3 t))) : ACalls Tryd.prog 47 [.pt idw 0 0 0, .d (.sl 1 (C.map natR))] H K := by
  have hwl := hW.hw
  refine ACalls_of Tryd.func47 rfl in_47 (Nat.le_of_ble_eq_true rfl) ?_
  intro F hF
  simp (dsimp := false) only [go_sem, Nat.reduceAdd, Nat.reduceBEq, Nat.reduceEqDiff, Nat.reduceLT, Nat.reduceLeDiff, Nat.reduceMul, Int.reduceToNat, reduceCtorEq, ↓reduceIte, Tryd.ntmps47, Tryd.results47, ks_47, mu_47, ti_ag3, ti_ag34, ti_fl73_0, ti_fl101_3, ti_hb48, ti_ky3, ti_mp107, ti_sb35, ti_sl34, ti_sl35, ti_zv4, ndD, ndV, tsV, hwl, in_47] at hF
  subst hF
  repeat' (first | with_reducible (first | refine And.intro ?_ ?_ | intro _ | refine AWp_seq ?_ | refine AWp_block ?_ | (refine hKv _ _ (AWp_nop ?_); clear hKv Kv) | (refine hKA ?_; clear hKA hKB KA KB) | (refine hKB ?_; clear hKA hKB KA KB) | refine AWp_skipN ?_ | refine AWp_exitO (by repeat (first | exact Out.hit | apply Out.thenA | apply Out.out rfl)) ?_) | (with_reducible (first | (refine hKv _ _ ?_; clear hKv Kv) | ((first | refine AWp_regC mu_47 ks_47 ?_ | refine AWp_regE mu_47 ks_47 ?_); intro Kv hKv) | refine AWp_retR ?_); try simp (dsimp := false) only [go_sem, Nat.reduceAdd, Nat.reduceBEq, Nat.reduceEqDiff, Nat.reduceLT, Nat.reduceLeDiff, Nat.reduceMul, Int.reduceToNat, reduceCtorEq, ↓reduceIte, Tryd.ntmps47, Tryd.results47, ks_47, mu_47, ti_ag3, ti_ag34, ti_fl73_0, ti_fl101_3, ti_hb48, ti_ky3, ti_mp107, ti_sb35, ti_sl34, ti_sl35, ti_zv4, ndD, ndV, tsV, hwl]) | (refine AWp_condC rfl ?_; intro KA KB hKA hKB; try simp only [onB_true, onB_false, onB_dec, onB_ndec, onB_not, onB_and, onB_or]) | (refine AWp_condA rfl ?_ ?_) | with_reducible (first | refine onB_of ?_ ?_ | rfl) | omega)
  refine AWp_whileP (fun y : Nat × List (List D) × List V => y.1 ≤ C.length ∧ InM y.2.1 y.2.2 fun j => j ∈ C.take y.1) (fun y => [(0, .pt idw 0 0 0), (1, .d (.sl 1 (C.map natR))), (4, .mo H.length 0), (12, .d (.sl 1 (C.map natR))), (13, .d (.i .i64 C.length)), (14, .d (.i .i64 y.1))]) (fun y => H ++ [.row 0 107 0 [[.mp [.i .i64] y.2.1 y.2.2]]]) (fun y => C.length - y.1) (0, [], []) ⟨Nat.zero_le _, InM.empty.congr fun j => by simp⟩ ?_ ?_ ?_ ?_ ?_
  · first | rfl
  · simp (dsimp := false) only [go_sem, Nat.reduceAdd, Nat.reduceBEq, Nat.reduceEqDiff, Nat.reduceLT, Nat.reduceLeDiff, Nat.reduceMul, Int.reduceToNat, reduceCtorEq, ↓reduceIte, Tryd.ntmps47, Tryd.results47, ks_47, mu_47, ti_ag3, ti_ag34, ti_fl73_0, ti_fl101_3, ti_hb48, ti_ky3, ti_mp107, ti_sb35, ti_sl34, ti_sl35, ti_zv4, ndD, ndV, tsV, hwl]
    first | done | exact hwl | (simp [hwl]; done) | (simp [hwl]; omega)
  · intro k _
    simp
  · rintro ⟨k, ks, vs⟩ ⟨_, h⟩
    exact closed_app fun ob hob => by rw [List.mem_singleton.1 hob]; exact mapD_bel2 h.all
  rintro ⟨k, ks, vs⟩ ⟨hk1, hM⟩
  simp only [] at hk1 hM ⊢
  by_cases hkC : k < C.length
  · obtain ⟨n, hn⟩ : ∃ n, C[k]? = some n := ⟨C[k], List.getElem?_eq_getElem hkC⟩
    have k1 : ((k : Int) < (C.length : Int)) = True := eq_true (by omega)
    have k0 : ((0 : Int) ≤ (k : Int)) = True := eq_true (by omega)
    have ec : (k : Int) + 1 = ((k + 1 : Nat) : Int) := by omega
    repeat' (first | with_reducible (first | refine And.intro ?_ ?_ | intro _ | refine AWp_seq ?_ | refine AWp_block ?_ | (refine hKv _ _ (AWp_nop ?_); clear hKv Kv) | (refine hKA ?_; clear hKA hKB KA KB) | (refine hKB ?_; clear hKA hKB KA KB) | refine AWp_skipN ?_ | refine AWp_exitO (by repeat (first | exact Out.hit | apply Out.thenA | apply Out.out rfl)) ?_) | (with_reducible (first | (refine hKv _ _ ?_; clear hKv Kv) | ((first | refine AWp_regC mu_47 ks_47 ?_ | refine AWp_regE mu_47 ks_47 ?_); intro Kv hKv) | refine AWp_retR ?_); try simp (dsimp := false) only [go_sem, Nat.reduceAdd, Nat.reduceBEq, Nat.reduceEqDiff, Nat.reduceLT, Nat.reduceLeDiff, Nat.reduceMul, Int.reduceToNat, reduceCtorEq, ↓reduceIte, Tryd.ntmps47, Tryd.results47, ks_47, mu_47, ti_ag3, ti_ag34, ti_fl73_0, ti_fl101_3, ti_hb48, ti_ky3, ti_mp107, ti_sb35, ti_sl34, ti_sl35, ti_zv4, ndD, ndV, tsV, natR, hwl, hn, k0, k1, ec]) | (refine AWp_condC rfl ?_; intro KA KB hKA hKB; try simp only [onB_true, onB_false, onB_dec, onB_ndec, onB_not, onB_and, onB_or]) | (refine AWp_condA rfl ?_ ?_) | with_reducible (first | refine onB_of ?_ ?_ | rfl) | omega)
    all_goals first
      | omega
      | exact closed_app fun ob hob => by rw [List.mem_singleton.1 hob]; exact mapD_bel2 (hM.put n).all
      | exact ⟨(k + 1, mputK ks [.i .i64 n], mputV ks vs [.i .i64 n] (.d (.b true))), ⟨by show k + 1 ≤ C.length; omega, (hM.put n).congr fun j => (take_mem hn j).symm⟩, by show C.length - (k + 1) < C.length - k; omega, rfl, by (repeat' (refine And.intro ?_ ?_)) <;> first | rfl | omega | (simp; done) | (simp; omega)⟩
  obtain rfl : k = C.length := by omega
  have hM : InM ks vs fun j => j ∈ C := hM.congr fun j => by rw [List.take_length]
  have k1 : ((C.length : Int) < (C.length : Int)) = False := eq_false (by omega)
  repeat' (first | with_reducible (first | refine And.intro ?_ ?_ | intro _ | refine AWp_seq ?_ | refine AWp_block ?_ | (refine hKv _ _ (AWp_nop ?_); clear hKv Kv) | (refine hKA ?_; clear hKA hKB KA KB) | (refine hKB ?_; clear hKA hKB KA KB) | refine AWp_skipN ?_ | refine AWp_exitO (by repeat (first | exact Out.hit | apply Out.thenA | apply Out.out rfl)) ?_) | (with_reducible (first | (refine hKv _ _ ?_; clear hKv Kv) | ((first | refine AWp_regC mu_47 ks_47 ?_ | refine AWp_regE mu_47 ks_47 ?_); intro Kv hKv) | refine AWp_retR ?_); try simp (dsimp := false) only [go_sem, Nat.reduceAdd, Nat.reduceBEq, Nat.reduceEqDiff, Nat.reduceLT, Nat.reduceLeDiff, Nat.reduceMul, Int.reduceToNat, reduceCtorEq, ↓reduceIte, Tryd.ntmps47, Tryd.results47, ks_47, mu_47, ti_ag3, ti_ag34, ti_fl73_0, ti_fl101_3, ti_hb48, ti_ky3, ti_mp107, ti_sb35, ti_sl34, ti_sl35, ti_zv4, ndD, ndV, tsV, natR, hwl, k1]) | (refine AWp_condC rfl ?_; intro KA KB hKA hKB; try simp only [onB_true, onB_false, onB_dec, onB_ndec, onB_not, onB_and, onB_or]) | (refine AWp_condA rfl ?_ ?_) | with_reducible (first | refine onB_of ?_ ?_ | rfl) | omega)
  generalize hMO : (.row 0 107 0 [[.mp [.i .i64] ks vs]] : Ob) = MO
  have hmb : ∀ m, ObBel m MO := fun m => by rw [← hMO]; exact mapD_bel2 hM.all
  have hcl : ∀ L, Closed H (wst H idw ido l 3 t L ++ [MO]) := fun L => by
    rw [← hW.wst_app]
    have h1 := hW.ho
    exact closed_set (closed_set (closed_app fun ob hob => by rw [List.mem_singleton.1 hob]; exact hmb _) (outO_bel _ _)) (wkO_bel _ _ _ (by simp; omega))
  have hwA := fun L => (hW.next L).app [MO]
  have hlA : ∀ L, (wst H idw ido l 3 t L ++ [MO]).length = H.length + 1 := fun L => by rw [List.length_append, hW.len]; rfl
  have hgA : ∀ L, (wst H idw ido l 3 t L ++ [MO])[H.length]? = some (Ob.row 0 107 0 [[.mp [.i .i64] ks vs]]) := fun L => by
    rw [List.getElem?_append_right (by rw [hW.len]; exact Nat.le_refl _), hW.len, Nat.sub_self, ← hMO]; rfl
  refine AWp_whileP (fun k : Nat => k ≤ C.length) (fun k => [(0, .pt idw 0 0 0), (4, .mo H.length 0), (7, .d (.i .i64 ((dnM l C k : Int) - 1))), (21, .d (.sl 1 (C.map natR))), (22, .d (.i .i64 C.length)), (23, .d (.i .i64 k))]) (fun k => wst H idw ido l 3 t (colF (refQ l C 3 t) (dnM l C k)) ++ [MO]) (fun k => C.length - k) 0 (Nat.zero_le _) ?_ ?_ ?_ ?_ ?_
  · show H ++ [MO] = wst H idw ido l 3 t [] ++ [MO]
    rw [hW.self]
  · simp (dsimp := false) only [go_sem, Nat.reduceAdd, Nat.reduceBEq, Nat.reduceEqDiff, Nat.reduceLT, Nat.reduceLeDiff, Nat.reduceMul, Int.reduceToNat, reduceCtorEq, ↓reduceIte, Tryd.ntmps47, Tryd.results47, ks_47, mu_47, ti_ag3, ti_ag34, ti_fl73_0, ti_fl101_3, ti_hb48, ti_ky3, ti_mp107, ti_sb35, ti_sl34, ti_sl35, ti_zv4, ndD, ndV, tsV, natR, hwl, k1]
    first | done | exact hwl | (simp [hwl, dnM]; done) | (simp [wst, hwl, dnM]; done) | (simp [wst, hwl, dnM]; omega)
  · intro k _
    rw [hlA]; exact Nat.le_succ _
  · intro k _
    exact hcl _
  rintro k hk2
  have hdl := dnM_le hg hC k hk2
  by_cases hkC : k < C.length
  · obtain ⟨n, hn⟩ : ∃ n, C[k]? = some n := ⟨C[k], List.getElem?_eq_getElem hkC⟩
    have hmem := List.mem_of_getElem? hn
    have hnl := hC n hmem
    obtain ⟨x, hx⟩ : ∃ x, l[n]? = some x := ⟨l[n], List.getElem?_eq_getElem hnl⟩
    have b := good_bd hg n hnl
    have hen := en_int hg hnl
    have henl := en_lt hg hnl
    have hng := en_ge l n
    rw [gd_of_get hx] at b hen
    have hds := dnM_s (l := l) hn
    have k1 : ((k : Int) < (C.length : Int)) = True := eq_true (by omega)
    have k0 : ((0 : Int) ≤ (k : Int)) = True := eq_true (by omega)
    have hm1 : max (n : Int) ((dnM l C k : Int) - 1 + 1) = ((max n (dnM l C k) : Nat) : Int) := by omega
    repeat' (first | with_reducible (first | refine And.intro ?_ ?_ | intro _ | refine AWp_seq ?_ | refine AWp_block ?_ | (refine hKv _ _ (AWp_nop ?_); clear hKv Kv) | (refine hKA ?_; clear hKA hKB KA KB) | (refine hKB ?_; clear hKA hKB KA KB) | refine AWp_skipN ?_ | refine AWp_exitO (by repeat (first | exact Out.hit | apply Out.thenA | apply Out.out rfl)) ?_) | (with_reducible (first | (refine hKv _ _ ?_; clear hKv Kv) | ((first | refine AWp_regC mu_47 ks_47 ?_ | refine AWp_regE mu_47 ks_47 ?_); intro Kv hKv) | refine AWp_retR ?_); try simp (dsimp := false) only [go_sem, Nat.reduceAdd, Nat.reduceBEq, Nat.reduceEqDiff, Nat.reduceLT, Nat.reduceLeDiff, Nat.reduceMul, Int.reduceToNat, reduceCtorEq, ↓reduceIte, Tryd.ntmps47, Tryd.results47, ks_47, mu_47, ti_ag3, ti_ag34, ti_fl73_0, ti_fl101_3, ti_hb48, ti_ky3, ti_mp107, ti_sb35, ti_sl34, ti_sl35, ti_zv4, ndD, ndV, tsV, natR, hwl, hn, k0, k1, hm1, hlA]) | (refine AWp_condC rfl ?_; intro KA KB hKA hKB; try simp only [onB_true, onB_false, onB_dec, onB_ndec, onB_not, onB_and, onB_or]) | (refine AWp_condA rfl ?_ ?_) | with_reducible (first | refine onB_of ?_ ?_ | rfl) | omega)
    refine AWp_whileP (fun i : Nat => max n (dnM l C k) ≤ i ∧ i ≤ dnM l C (k + 1)) (fun i => [(0, .pt idw 0 0 0), (4, .mo H.length 0), (7, .d (.i .i64 ((dnM l C k : Int) - 1))), (9, .d (.i .i64 n)), (10, .d (.i .i64 i)), (21, .d (.sl 1 (C.map natR))), (22, .d (.i .i64 C.length)), (23, .d (.i .i64 k))]) (fun i => wst H idw ido l 3 t (colF (refQ l C 3 t) i) ++ [MO]) (fun i => l.length + 1 - i) (max n (dnM l C k)) ⟨Nat.le_refl _, by omega⟩ ?_ ?_ ?_ ?_ ?_
    · rw [colF_skip (m := dnM l C k) (by omega) (ds_skip hr hn t)]
    · simp (dsimp := false) only [go_sem, Nat.reduceAdd, Nat.reduceBEq, Nat.reduceEqDiff, Nat.reduceLT, Nat.reduceLeDiff, Nat.reduceMul, Int.reduceToNat, reduceCtorEq, ↓reduceIte, Tryd.ntmps47, Tryd.results47, ks_47, mu_47, ti_ag3, ti_ag34, ti_fl73_0, ti_fl101_3, ti_hb48, ti_ky3, ti_mp107, ti_sb35, ti_sl34, ti_sl35, ti_zv4, ndD, ndV, tsV, natR, hwl, hn, k0, k1, hm1, hlA]
      first | done | (rw [hlA]; omega) | (simp [wst, hwl]; done) | (simp [wst]; omega)
    · intro i _
      rw [hlA]; exact Nat.le_succ _
    · intro i _
      exact hcl _
    rintro i ⟨i1, i2⟩
    have hwi := (hwA (colF (refQ l C 3 t) i)).w
    have hgi := hgA (colF (refQ l C 3 t) i)
    rw [wkO] at hwi
    have n0 : ((0 : Int) ≤ (n : Int)) = True := eq_true (by omega)
    have n1 : ((n : Int) < (l.length : Int)) = True := eq_true (by omega)
    by_cases hie : i ≤ en l n
    · have hil : i < l.length := by omega
      obtain ⟨y, hy⟩ : ∃ y, l[i]? = some y := ⟨l[i], List.getElem?_eq_getElem hil⟩
      have hie' : ((i : Int) ≤ (n : Int) + x.sz) = True := eq_true (by omega)
      have hq := ds_hit (j := i) hmem t (by omega) hie
      rw [gd_of_get hy] at hq
      have hlk := hM.look i
      have hcl2 := colF_len (refQ l C 3 t) i
      have ht : ∀ K, K (.tu []) (wst H idw ido l 3 t (colF (refQ l C 3 t) (i + 1)) ++ [MO]) → ACalls Tryd.prog 48 [.pt idw 0 0 0, .d (.i .i64 i), .d (.b (decide (i ∈ C)))] (wst H idw ido l 3 t (colF (refQ l C 3 t) i) ++ [MO]) K := fun K hk => take_A l hN 3 t idw ido _ (by omega) i _ y hy _ K (hwA _) (by rw [(hW.next _).wst_app, hW.wst2, tk_col hq]; exact hk)
      have ec : (i : Int) + 1 = ((i + 1 : Nat) : Int) := by omega
      repeat' (first | with_reducible (first | refine And.intro ?_ ?_ | intro _ | refine AWp_seq ?_ | refine AWp_block ?_ | (refine hKv _ _ (AWp_nop ?_); clear hKv Kv) | (refine hKA ?_; clear hKA hKB KA KB) | (refine hKB ?_; clear hKA hKB KA KB) | refine AWp_skipN ?_ | refine AWp_exitO (by repeat (first | exact Out.hit | apply Out.thenA | apply Out.out rfl)) ?_) | ((first | with_reducible (first | (refine hKv _ _ ?_; clear hKv Kv) | ((first | refine AWp_regC mu_47 ks_47 ?_ | refine AWp_regE mu_47 ks_47 ?_); intro Kv hKv) | refine AWp_retR ?_) | refine ht _ ?_); try simp (dsimp := false) only [go_sem, Nat.reduceAdd, Nat.reduceBEq, Nat.reduceEqDiff, Nat.reduceLT, Nat.reduceLeDiff, Nat.reduceMul, Int.reduceToNat, reduceCtorEq, ↓reduceIte, Tryd.ntmps47, Tryd.results47, ks_47, mu_47, ti_ag3, ti_ag34, ti_fl73_0, ti_fl101_3, ti_hb48, ti_ky3, ti_mp107, ti_sb35, ti_sl34, ti_sl35, ti_zv4, ndD, ndV, tsV, natR, hwi, hgi, hlA, hwl, hx, n0, n1, hie', hlk, ec]) | (refine AWp_condC rfl ?_; intro KA KB hKA hKB; try simp only [onB_true, onB_false, onB_dec, onB_ndec, onB_not, onB_and, onB_or]) | (refine AWp_condA rfl ?_ ?_) | with_reducible (first | refine onB_of ?_ ?_ | rfl) | omega)
      all_goals first
        | omega
        | exact ⟨i + 1, ⟨by omega, by omega⟩, by omega, rfl, by (repeat' (refine And.intro ?_ ?_)) <;> first | rfl | omega | (rw [hlA]; omega) | (simp; done) | (simp; omega)⟩
    · have hie' : ((i : Int) ≤ (n : Int) + x.sz) = False := eq_false (by omega)
      obtain rfl : i = dnM l C (k + 1) := by omega
      have hm2 : max ((dnM l C k : Int) - 1) ((n : Int) + x.sz) = (dnM l C (k + 1) : Int) - 1 := by omega
      have ec : (k : Int) + 1 = ((k + 1 : Nat) : Int) := by omega
      repeat' (first | with_reducible (first | refine And.intro ?_ ?_ | intro _ | refine AWp_seq ?_ | refine AWp_block ?_ | (refine hKv _ _ (AWp_nop ?_); clear hKv Kv) | (refine hKA ?_; clear hKA hKB KA KB) | (refine hKB ?_; clear hKA hKB KA KB) | refine AWp_skipN ?_ | refine AWp_exitO (by repeat (first | exact Out.hit | apply Out.thenA | apply Out.out rfl)) ?_) | (with_reducible (first | (refine hKv _ _ ?_; clear hKv Kv) | ((first | refine AWp_regC mu_47 ks_47 ?_ | refine AWp_regE mu_47 ks_47 ?_); intro Kv hKv) | refine AWp_retR ?_); try simp (dsimp := false) only [go_sem, Nat.reduceAdd, Nat.reduceBEq, Nat.reduceEqDiff, Nat.reduceLT, Nat.reduceLeDiff, Nat.reduceMul, Int.reduceToNat, reduceCtorEq, ↓reduceIte, Tryd.ntmps47, Tryd.results47, ks_47, mu_47, ti_ag3, ti_ag34, ti_fl73_0, ti_fl101_3, ti_hb48, ti_ky3, ti_mp107, ti_sb35, ti_sl34, ti_sl35, ti_zv4, ndD, ndV, tsV, natR, hwi, hgi, hlA, hwl, hx, n0, n1, hie', hm2]) | (refine AWp_condC rfl ?_; intro KA KB hKA hKB; try simp only [onB_true, onB_false, onB_dec, onB_ndec, onB_not, onB_and, onB_or]) | (refine AWp_condA rfl ?_ ?_) | with_reducible (first | refine onB_of ?_ ?_ | rfl) | omega)
      all_goals first
        | omega
        | exact ⟨k + 1, by omega, by omega, rfl, by (repeat' (refine And.intro ?_ ?_)) <;> first | rfl | omega | (rw [hlA]; omega) | (simp; done) | (simp; omega)⟩
  · obtain rfl : k = C.length := by omega
    have k1 : ((C.length : Int) < (C.length : Int)) = False := eq_false (by omega)
    have e : colF (refQ l C 3 t) (dnM l C C.length) = walked l C 3 t := (colF_skip hdl fun j j1 _ => ds_end t j j1).symm
    rw [e]
    repeat' (first | with_reducible (first | refine And.intro ?_ ?_ | intro _ | refine AWp_seq ?_ | refine AWp_block ?_ | (refine hKv _ _ (AWp_nop ?_); clear hKv Kv) | (refine hKA ?_; clear hKA hKB KA KB) | (refine hKB ?_; clear hKA hKB KA KB) | refine AWp_skipN ?_ | refine AWp_exitO (by repeat (first | exact Out.hit | apply Out.thenA | apply Out.out rfl)) ?_) | (with_reducible (first | (refine hKv _ _ ?_; clear hKv Kv) | ((first | refine AWp_regC mu_47 ks_47 ?_ | refine AWp_regE mu_47 ks_47 ?_); intro Kv hKv) | refine AWp_retR ?_); try simp (dsimp := false) only [go_sem, Nat.reduceAdd, Nat.reduceBEq, Nat.reduceEqDiff, Nat.reduceLT, Nat.reduceLeDiff, Nat.reduceMul, Int.reduceToNat, reduceCtorEq, ↓reduceIte, Tryd.ntmps47, Tryd.results47, ks_47, mu_47, ti_ag3, ti_ag34, ti_fl73_0, ti_fl101_3, ti_hb48, ti_ky3, ti_mp107, ti_sb35, ti_sl34, ti_sl35, ti_zv4, ndD, ndV, tsV, natR, k1]) | (refine AWp_condC rfl ?_; intro KA KB hKA hKB; try simp only [onB_true, onB_false, onB_dec, onB_ndec, onB_not, onB_and, onB_or]) | (refine AWp_condA rfl ?_ ?_) | with_reducible (first | refine onB_of ?_ ?_ | rfl) | omega)
    all_goals try first | (refine AWp_skip ?_; simp (dsimp := false) only [go_sem, Nat.reduceAdd, Nat.reduceBEq, Nat.reduceEqDiff, Nat.reduceLT, Nat.reduceLeDiff, Nat.reduceMul, Int.reduceToNat, reduceCtorEq, ↓reduceIte, Tryd.ntmps47, Tryd.results47, ks_47, mu_47, ti_ag3, ti_ag34, ti_fl73_0, ti_fl101_3, ti_hb48, ti_ky3, ti_mp107, ti_sb35, ti_sl34, ti_sl35, ti_zv4, ndD, ndV, tsV, natR, k1]) | (refine AWp_exit ?_; simp (dsimp := false) only [go_sem, Nat.reduceAdd, Nat.reduceBEq, Nat.reduceEqDiff, Nat.reduceLT, Nat.reduceLeDiff, Nat.reduceMul, Int.reduceToNat, reduceCtorEq, ↓reduceIte, Tryd.ntmps47, Tryd.results47, ks_47, mu_47, ti_ag3, ti_ag34, ti_fl73_0, ti_fl101_3, ti_hb48, ti_ky3, ti_mp107, ti_sb35, ti_sl34, ti_sl35, ti_zv4, ndD, ndV, tsV, natR, k1])
    all_goals first
      | omega
      | exact dropS hk (by rw [hW.len]; exact Nat.le_refl _) (hW.closed _) (by simp [Bel_tu])
end Go.Proofs.YtpgdflhcmijaiaaDoor
