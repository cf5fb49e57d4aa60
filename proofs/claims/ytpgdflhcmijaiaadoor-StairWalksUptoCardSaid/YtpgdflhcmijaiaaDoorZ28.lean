/- A map's entries put: in plain words. No condition. -/
import Derived.Test.YtpgdflhcmijaiaaDoorZ18
import Derived.Test.YtpgdflhcmijaiaaDoorZ27
set_option linter.all false
set_option linter.unusedSimpArgs false
set_option linter.unusedVariables false
namespace Go.Proofs.YtpgdflhcmijaiaaDoor
open Go Go.Proofs.YtpgdflhcmijaiaaDoor.Ab
variable [Glo]
theorem mix_app_hit {k : List D} : ∀ {ks : List (List D)}, mix ks k = none → mix (ks ++ [k]) k = some ks.length
  | [], _ => by simp [mix_hit]
  | x :: ks, h => by
    have hx : x ≠ k := mix_none.1 h x (by simp)
    rw [List.cons_append, mix_skip _ hx, mix_app_hit (mix_none.2 fun y hy => mix_none.1 h y (by simp [hy]))]
    rfl
theorem mix_app_ne {k k' : List D} (e : k' ≠ k) : ∀ {ks : List (List D)}, mix (ks ++ [k]) k' = mix ks k'
  | [] => by rw [List.nil_append, mix_skip _ (fun h => e h.symm)]; rfl
  | x :: ks => by
    by_cases hx : x = k'
    · subst hx
      rw [List.cons_append, mix_hit, mix_hit]
    · rw [List.cons_append, mix_skip _ hx, mix_skip _ hx, mix_app_ne e]
theorem mget_put {ks : List (List D)} {vs : List V} {k : List D} {z v : V} (hl : ks.length = vs.length) : mget (mputK ks k) (mputV ks vs k v) k z = v := by
  cases hm : mix ks k with
  | some i =>
    have hi := mix_lt hm
    simp only [mputK, mputV, hm]
    simp only [mget, hm]
    rw [List.getElem?_set_self (by omega)]; rfl
  | none =>
    simp only [mputK, mputV, hm]
    rw [mget, mix_app_hit hm, hl]
    simp
theorem mget_put_ne {ks : List (List D)} {vs : List V} {k : List D} {z v : V} (hl : ks.length = vs.length) {k' : List D} (e : k' ≠ k) : mget (mputK ks k) (mputV ks vs k v) k' z = mget ks vs k' z := by
  cases hm : mix ks k with
  | some i =>
    have hi := mix_lt hm
    simp only [mputK, mputV, hm]
    simp only [mget]
    cases hm' : mix ks k' with
    | none => rfl
    | some j =>
      have hj := mix_lt hm'
      have : i ≠ j := fun h => e (by
        subst h
        have := hi.1.symm.trans hj.1
        exact (Option.some.inj this).symm)
      simp only [List.getElem?_set_ne this]
  | none =>
    simp only [mputK, mputV, hm]
    rw [mget, mix_app_ne e, mget]
    cases hm' : mix ks k' with
    | none => rfl
    | some j =>
      have hj := mix_lt hm'
      simp only []
      rw [List.getElem?_append_left (by omega)]
theorem mput_len {ks : List (List D)} {vs : List V} {k : List D} {v : V} (hl : ks.length = vs.length) : (mputK ks k).length = (mputV ks vs k v).length := by
  cases hm : mix ks k <;> simp [mputK, mputV, hm, hl]
theorem mput_all {ks : List (List D)} {vs : List V} {k : List D} {v : V} {Q : V → Prop} (h : ∀ x, x ∈ vs → Q x) (hv : Q v) : ∀ x, x ∈ mputV ks vs k v → Q x := fun x hx => by
  unfold mputV at hx
  split at hx
  · rcases List.mem_or_eq_of_mem_set hx with h' | h'
    · exact h x h'
    · rw [h']; exact hv
  · rcases List.mem_append.1 hx with h' | h'
    · exact h x h'
    · rw [List.mem_singleton.1 h']; exact hv
end Go.Proofs.YtpgdflhcmijaiaaDoor
namespace Go.Proofs.YtpgdflhcmijaiaaDoor
open Go Go.Proofs.YtpgdflhcmijaiaaDoor.Ab
variable [Glo]
set_option maxHeartbeats 4000000
set_option maxRecDepth 20000
def natR (i : Nat) : List D := [.i .i64 (i : Int)]
def ks_46 : Nat → List Nat
  | 0 => [0, 1, 4]
  | 1 => [0, 4, 8, 9, 10]
  | 2 => [0, 4, 8, 9, 10, 11]
  | 3 => [0, 4, 6, 8, 9, 10]
  | 4 => [0, 4, 6, 7, 8, 9, 10]
  | 5 => [0, 4, 6, 7, 8, 9, 10, 29]
  | 6 => [0, 4, 6, 7, 8, 9, 10]
  | 7 => [0, 4, 6, 7, 8, 9, 10]
  | 8 => [0, 4, 8, 9, 10]
  | 9 => [0, 4, 8, 9, 10]
  | _ => []
def mu_46 : List Nat := []
def in_46 : List Nat := [0, 1]
theorem down_A (l : List Nd) (hg : Good l l.length) (hN : l.length ≤ 100000) (t : Ts) (idw ido : Nat) (C : List Nat) (hr : Rise C) (hC : ∀ c, c ∈ C → c < l.length) (hCl : C.length ≤ 100000) (H : Heap) (K : V → Heap → Prop) (hW : Wk H idw ido l 2 t []) (hk : K (.tu []) (wst H idw ido l 2 t (walked l C 2 t))) : ACalls Tryd.prog 46 [.pt idw 0 0 0, .d (.sl 1 (C.map natR))] H K := by
  have hwl := hW.hw
  refine ACalls_of Tryd.func46 rfl in_46 (Nat.le_of_ble_eq_true rfl) ?_
  intro F hF
  simp (dsimp := false) only [go_sem, Nat.reduceAdd, Nat.reduceBEq, Nat.reduceEqDiff, Nat.reduceLT, Nat.reduceLeDiff, Nat.reduceMul, Int.reduceToNat, reduceCtorEq, ↓reduceIte, Tryd.ntmps46, Tryd.results46, ks_46, mu_46, ti_ag3, ti_ag34, ti_fl73_0, ti_fl101_3, ti_hb48, ti_sb35, ti_sl34, ti_sl35, ndD, ndV, tsV, hwl, in_46] at hF
  subst hF
  repeat' (first | with_reducible (first | refine And.intro ?_ ?_ | intro _ | refine AWp_seq ?_ | refine AWp_block ?_ | (refine hKv _ _ (AWp_nop ?_); clear hKv Kv) | (refine hKA ?_; clear hKA hKB KA KB) | (refine hKB ?_; clear hKA hKB KA KB) | refine AWp_skipN ?_ | refine AWp_exitO (by repeat (first | exact Out.hit | apply Out.thenA | apply Out.out rfl)) ?_) | (with_reducible (first | (refine hKv _ _ ?_; clear hKv Kv) | ((first | refine AWp_regC mu_46 ks_46 ?_ | refine AWp_regE mu_46 ks_46 ?_); intro Kv hKv) | refine AWp_retR ?_); try simp (dsimp := false) only [go_sem, Nat.reduceAdd, Nat.reduceBEq, Nat.reduceEqDiff, Nat.reduceLT, Nat.reduceLeDiff, Nat.reduceMul, Int.reduceToNat, reduceCtorEq, ↓reduceIte, Tryd.ntmps46, Tryd.results46, ks_46, mu_46, ti_ag3, ti_ag34, ti_fl73_0, ti_fl101_3, ti_hb48, ti_sb35, ti_sl34, ti_sl35, ndD, ndV, tsV, hwl]) | (refine AWp_condC rfl ?_; intro KA KB hKA hKB; try simp only [onB_true, onB_false, onB_dec, onB_ndec, onB_not, onB_and, onB_or]) | (refine AWp_condA rfl ?_ ?_) | with_reducible (first | refine onB_of ?_ ?_ | rfl) | omega)
  refine AWp_whileP (fun k : Nat => k ≤ C.length) (fun k => [(0, .pt idw 0 0 0), (4, .d (.i .i64 ((dnM l C k : Int) - 1))), (8, .d (.sl 1 (C.map natR))), (9, .d (.i .i64 C.length)), (10, .d (.i .i64 k))]) (fun k => wst H idw ido l 2 t (colF (refQ l C 2 t) (dnM l C k))) (fun k => C.length - k) 0 (Nat.zero_le _) ?_ ?_ ?_ ?_ ?_
  · exact hW.self.symm
  · simp (dsimp := false) only [go_sem, Nat.reduceAdd, Nat.reduceBEq, Nat.reduceEqDiff, Nat.reduceLT, Nat.reduceLeDiff, Nat.reduceMul, Int.reduceToNat, reduceCtorEq, ↓reduceIte, Tryd.ntmps46, Tryd.results46, ks_46, mu_46, ti_ag3, ti_ag34, ti_fl73_0, ti_fl101_3, ti_hb48, ti_sb35, ti_sl34, ti_sl35, ndD, ndV, tsV, hwl]
    first | done | exact hwl | (simp [hwl, dnM]; done) | (simp [wst, hwl, dnM]; done)
  · intro k _
    rw [hW.len]; exact Nat.le_refl _
  · intro k _
    exact hW.closed _
  rintro k hk2
  have hdl := dnM_le hg hC k hk2
  by_cases hkC : k < C.length
  · obtain ⟨n, hn⟩ : ∃ n, C[k]? = some n := ⟨C[k], List.getElem?_eq_getElem hkC⟩
    have hmem := List.mem_of_getElem? hn
    have hnl := hC n hmem
    obtain ⟨x, hx⟩ : ∃ x, l[n]? = some x := ⟨l[n], List.getElem?_eq_getElem hnl⟩
    have b := good_bd hg n hnl
    have hen := en_int hg hnl
    have henl := en_lt hg hnl
    have hng := en_ge l n
    rw [gd_of_get hx] at b hen
    have hds := dnM_s (l := l) hn
    have k1 : ((k : Int) < (C.length : Int)) = True := eq_true (by omega)
    have k0 : ((0 : Int) ≤ (k : Int)) = True := eq_true (by omega)
    have hm1 : max (n : Int) ((dnM l C k : Int) - 1) + 1 = ((max (n + 1) (dnM l C k) : Nat) : Int) := by omega
    have hW1 := hW.next (colF (refQ l C 2 t) (dnM l C k))
    have hw1 := hW1.w
    rw [wkO] at hw1
    have hl1 := hW.len (colF (refQ l C 2 t) (dnM l C k))
    repeat' (first | with_reducible (first | refine And.intro ?_ ?_ | intro _ | refine AWp_seq ?_ | refine AWp_block ?_ | (refine hKv _ _ (AWp_nop ?_); clear hKv Kv) | (refine hKA ?_; clear hKA hKB KA KB) | (refine hKB ?_; clear hKA hKB KA KB) | refine AWp_skipN ?_ | refine AWp_exitO (by repeat (first | exact Out.hit | apply Out.thenA | apply Out.out rfl)) ?_) | (with_reducible (first | (refine hKv _ _ ?_; clear hKv Kv) | ((first | refine AWp_regC mu_46 ks_46 ?_ | refine AWp_regE mu_46 ks_46 ?_); intro Kv hKv) | refine AWp_retR ?_); try simp (dsimp := false) only [go_sem, Nat.reduceAdd, Nat.reduceBEq, Nat.reduceEqDiff, Nat.reduceLT, Nat.reduceLeDiff, Nat.reduceMul, Int.reduceToNat, reduceCtorEq, ↓reduceIte, Tryd.ntmps46, Tryd.results46, ks_46, mu_46, ti_ag3, ti_ag34, ti_fl73_0, ti_fl101_3, ti_hb48, ti_sb35, ti_sl34, ti_sl35, ndD, ndV, tsV, natR, hwl, hn, k0, k1, hm1, hl1]) | (refine AWp_condC rfl ?_; intro KA KB hKA hKB; try simp only [onB_true, onB_false, onB_dec, onB_ndec, onB_not, onB_and, onB_or]) | (refine AWp_condA rfl ?_ ?_) | with_reducible (first | refine onB_of ?_ ?_ | rfl) | omega)
    refine AWp_whileP (fun i : Nat => max (n + 1) (dnM l C k) ≤ i ∧ i ≤ dnM l C (k + 1)) (fun i => [(0, .pt idw 0 0 0), (4, .d (.i .i64 ((dnM l C k : Int) - 1))), (6, .d (.i .i64 n)), (7, .d (.i .i64 i)), (8, .d (.sl 1 (C.map natR))), (9, .d (.i .i64 C.length)), (10, .d (.i .i64 k))]) (fun i => wst H idw ido l 2 t (colF (refQ l C 2 t) i)) (fun i => l.length + 1 - i) (max (n + 1) (dnM l C k)) ⟨Nat.le_refl _, by omega⟩ ?_ ?_ ?_ ?_ ?_
    · rw [colF_skip (m := dnM l C k) (by omega) (down_skip hr hn t)]
    · simp (dsimp := false) only [go_sem, Nat.reduceAdd, Nat.reduceBEq, Nat.reduceEqDiff, Nat.reduceLT, Nat.reduceLeDiff, Nat.reduceMul, Int.reduceToNat, reduceCtorEq, ↓reduceIte, Tryd.ntmps46, Tryd.results46, ks_46, mu_46, ti_ag3, ti_ag34, ti_fl73_0, ti_fl101_3, ti_hb48, ti_sb35, ti_sl34, ti_sl35, ndD, ndV, tsV, natR, hwl, hn, k0, k1, hm1, hl1]
      first | done | (rw [hW.len]; exact hwl) | (simp [wst, hwl]; done)
    · intro i _
      rw [hW.len]; exact Nat.le_refl _
    · intro i _
      exact hW.closed _
    rintro i ⟨i1, i2⟩
    have hwi := (hW.next (colF (refQ l C 2 t) i)).w
    have hli := hW.len (colF (refQ l C 2 t) i)
    rw [wkO] at hwi
    have n0 : ((0 : Int) ≤ (n : Int)) = True := eq_true (by omega)
    have n1 : ((n : Int) < (l.length : Int)) = True := eq_true (by omega)
    by_cases hie : i ≤ en l n
    · have hil : i < l.length := by omega
      obtain ⟨y, hy⟩ : ∃ y, l[i]? = some y := ⟨l[i], List.getElem?_eq_getElem hil⟩
      have hie' : ((i : Int) ≤ (n : Int) + x.sz) = True := eq_true (by omega)
      have hq := down_hit (j := i) hmem t (by omega) hie
      rw [gd_of_get hy] at hq
      have hcl := colF_len (refQ l C 2 t) i
      have ht : ∀ K, K (.tu []) (wst H idw ido l 2 t (colF (refQ l C 2 t) (i + 1))) → ACalls Tryd.prog 48 [.pt idw 0 0 0, .d (.i .i64 i), .d (.b false)] (wst H idw ido l 2 t (colF (refQ l C 2 t) i)) K := fun K hk => take_A l hN 2 t idw ido _ (by omega) i false y hy _ K (hW.next _) (by rw [hW.wst2, tk_col hq]; exact hk)
      have ec : (i : Int) + 1 = ((i + 1 : Nat) : Int) := by omega
      repeat' (first | with_reducible (first | refine And.intro ?_ ?_ | intro _ | refine AWp_seq ?_ | refine AWp_block ?_ | (refine hKv _ _ (AWp_nop ?_); clear hKv Kv) | (refine hKA ?_; clear hKA hKB KA KB) | (refine hKB ?_; clear hKA hKB KA KB) | refine AWp_skipN ?_ | refine AWp_exitO (by repeat (first | exact Out.hit | apply Out.thenA | apply Out.out rfl)) ?_) | ((first | with_reducible (first | (refine hKv _ _ ?_; clear hKv Kv) | ((first | refine AWp_regC mu_46 ks_46 ?_ | refine AWp_regE mu_46 ks_46 ?_); intro Kv hKv) | refine AWp_retR ?_) | refine ht _ ?_); try simp (dsimp := false) only [go_sem, Nat.reduceAdd, Nat.reduceBEq, Nat.reduceEqDiff, Nat.reduceLT, Nat.reduceLeDiff, Nat.reduceMul, Int.reduceToNat, reduceCtorEq, ↓reduceIte, Tryd.ntmps46, Tryd.results46, ks_46, mu_46, ti_ag3, ti_ag34, ti_fl73_0, ti_fl101_3, ti_hb48, ti_sb35, ti_sl34, ti_sl35, ndD, ndV, tsV, natR, hwi, hli, hwl, hx, n0, n1, hie', ec]) | (refine AWp_condC rfl ?_; intro KA KB hKA hKB; try simp only [onB_true, onB_false, onB_dec, onB_ndec, onB_not, onB_and, onB_or]) | (refine AWp_condA rfl ?_ ?_) | with_reducible (first | refine onB_of ?_ ?_ | rfl) | omega)
      all_goals first
        | omega
        | exact ⟨i + 1, ⟨by omega, by omega⟩, by omega, rfl, by (repeat' (refine And.intro ?_ ?_)) <;> first | rfl | omega | (rw [hW.len]; exact hwl) | (simp; done) | (simp; omega)⟩
    · have hie' : ((i : Int) ≤ (n : Int) + x.sz) = False := eq_false (by omega)
      obtain rfl : i = dnM l C (k + 1) := by omega
      have hm2 : max ((dnM l C k : Int) - 1) ((n : Int) + x.sz) = (dnM l C (k + 1) : Int) - 1 := by omega
      have ec : (k : Int) + 1 = ((k + 1 : Nat) : Int) := by omega
      repeat' (first | with_reducible (first | refine And.intro ?_ ?_ | intro _ | refine AWp_seq ?_ | refine AWp_block ?_ | (refine hKv _ _ (AWp_nop ?_); clear hKv Kv) | (refine hKA ?_; clear hKA hKB KA KB) | (refine hKB ?_; clear hKA hKB KA KB) | refine AWp_skipN ?_ | refine AWp_exitO (by repeat (first | exact Out.hit | apply Out.thenA | apply Out.out rfl)) ?_) | (with_reducible (first | (refine hKv _ _ ?_; clear hKv Kv) | ((first | refine AWp_regC mu_46 ks_46 ?_ | refine AWp_regE mu_46 ks_46 ?_); intro Kv hKv) | refine AWp_retR ?_); try simp (dsimp := false) only [go_sem, Nat.reduceAdd, Nat.reduceBEq, Nat.reduceEqDiff, Nat.reduceLT, Nat.reduceLeDiff, Nat.reduceMul, Int.reduceToNat, reduceCtorEq, ↓reduceIte, Tryd.ntmps46, Tryd.results46, ks_46, mu_46, ti_ag3, ti_ag34, ti_fl73_0, ti_fl101_3, ti_hb48, ti_sb35, ti_sl34, ti_sl35, ndD, ndV, tsV, natR, hwi, hli, hwl, hx, n0, n1, hie', hm2]) | (refine AWp_condC rfl ?_; intro KA KB hKA hKB; try simp only [onB_true, onB_false, onB_dec, onB_ndec, onB_not, onB_and, onB_or]) | (refine AWp_condA rfl ?_ ?_) | with_reducible (first | refine onB_of ?_ ?_ | rfl) | omega)
      all_goals first
        | omega
        | exact ⟨k + 1, by omega, by omega, rfl, by (repeat' (refine And.intro ?_ ?_)) <;> first | rfl | omega | (rw [hW.len]; exact hwl) | (simp; done) | (simp; omega)⟩
  · obtain rfl : k = C.length := by omega
    have k1 : ((C.length : Int) < (C.length : Int)) = False := eq_false (by omega)
    have e : colF (refQ l C 2 t) (dnM l C C.length) = walked l C 2 t := (colF_skip hdl fun j j1 _ => down_end t j j1).symm
    rw [e]
    repeat' (first | with_reducible (first | refine And.intro ?_ ?_ | intro _ | refine AWp_seq ?_ | refine AWp_block ?_ | (refine hKv _ _ (AWp_nop ?_); clear hKv Kv) | (refine hKA ?_; clear hKA hKB KA KB) | (refine hKB ?_; clear hKA hKB KA KB) | refine AWp_skipN ?_ | refine AWp_exitO (by repeat (first | exact Out.hit | apply Out.thenA | apply Out.out rfl)) ?_) | (with_reducible (first | (refine hKv _ _ ?_; clear hKv Kv) | ((first | refine AWp_regC mu_46 ks_46 ?_ | refine AWp_regE mu_46 ks_46 ?_); intro Kv hKv) | refine AWp_retR ?_); try simp (dsimp := false) only [go_sem, Nat.reduceAdd, Nat.reduceBEq, Nat.reduceEqDiff, Nat.reduceLT, Nat.reduceLeDiff, Nat.reduceMul, Int.reduceToNat, reduceCtorEq, ↓reduceIte, Tryd.ntmps46, Tryd.results46, ks_46, mu_46, ti_ag3, ti_ag34, ti_fl73_0, ti_fl101_3, ti_hb48, ti_sb35, ti_sl34, ti_sl35, ndD, ndV, tsV, natR, k1]) | (refine AWp_condC rfl ?_; intro KA KB hKA hKB; try simp only [onB_true, onB_false, onB_dec, onB_ndec, onB_not, onB_and, onB_or]) | (refine AWp_condA rfl ?_ ?_) | with_reducible (first | refine onB_of ?_ ?_ | rfl) | omega)
    all_goals try first | (refine AWp_skip ?_; simp (dsimp := false) only [go_sem, Nat.reduceAdd, Nat.reduceBEq, Nat.reduceEqDiff, Nat.reduceLT, Nat.reduceLeDiff, Nat.reduceMul, Int.reduceToNat, reduceCtorEq, ↓reduceIte, Tryd.ntmps46, Tryd.results46, ks_46, mu_46, ti_ag3, ti_ag34, ti_fl73_0, ti_fl101_3, ti_hb48, ti_sb35, ti_sl34, ti_sl35, ndD, ndV, tsV, natR, k1]) | (refine AWp_exit ?_; simp (dsimp := false) only [go_sem, Nat.reduceAdd, Nat.reduceBEq, Nat.reduceEqDiff, Nat.reduceLT, Nat.reduceLeDiff, Nat.reduceMul, Int.reduceToNat, reduceCtorEq, ↓reduceIte, Tryd.ntmps46, Tryd.results46, ks_46, mu_46, ti_ag3, ti_ag34, ti_fl73_0, ti_fl101_3, ti_hb48, ti_sb35, ti_sl34, ti_sl35, ndD, ndV, tsV, natR, k1])
    all_goals first
      | omega
      | exact keepS hk (by rw [hW.len]; exact Nat.le_refl _) (hW.closed _) (by simp [Bel_tu])
end Go.Proofs.YtpgdflhcmijaiaaDoor
