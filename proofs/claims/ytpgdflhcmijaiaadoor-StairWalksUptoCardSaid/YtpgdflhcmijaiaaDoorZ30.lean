/- Steps from nodes: ancestors. No condition. -/
import Derived.Test.YtpgdflhcmijaiaaDoorZ29
import Derived.Test.YtpgdflhcmijaiaaDoorZ24
set_option linter.all false
set_option linter.unusedSimpArgs false
set_option linter.unusedVariables false
namespace Go.Proofs.YtpgdflhcmijaiaaDoor
open Go Go.Proofs.YtpgdflhcmijaiaaDoor.Ab
variable [Glo]
set_option maxHeartbeats 4000000
set_option maxRecDepth 20000
def chI (l : List Nd) (m : Int) (j : Nat) : Prop := 0 ≤ m ∧ ((j : Int) = m ∨ wtB l m.toNat j = true)
theorem ch_nat (l : List Nd) (u j : Nat) : chI l (u : Int) j ↔ j = u ∨ wtB l u j = true := by
  simp only [chI, Int.toNat_natCast]
  exact ⟨fun ⟨_, h⟩ => h.imp (fun h => by omega) fun h => h, fun h => ⟨by omega, h.imp (fun h => by omega) fun h => h⟩⟩
theorem ch_neg {l : List Nd} {m : Int} (h : m < 0) (j : Nat) : ¬ chI l m j := fun h' => by have := h'.1; omega
theorem ch_up {l : List Nd} (hg : Good l l.length) {n : Nat} (hn : n < l.length) (j : Nat) : chI l (gd l n).up j ↔ wtB l n j = true := by
  have b := good_bd hg n hn
  simp only [wtB, Bool.and_eq_true, decide_eq_true_eq]
  constructor
  · rintro ⟨h0, h | h⟩
    · have h1 := up_in hg hn h0
      have : j = (gd l n).up.toNat := by omega
      subst this
      exact ⟨by omega, h1⟩
    · have h1 := up_in hg hn h0
      simp only [wtB, Bool.and_eq_true, decide_eq_true_eq] at h
      have := lam hg (i := (gd l n).up.toNat) (j := j) (by omega) h.1 h.2
      exact ⟨by omega, by omega⟩
  · rintro ⟨h2, h3⟩
    have := in_up hg hn h2 h3
    refine ⟨by omega, ?_⟩
    by_cases e : (j : Int) = (gd l n).up
    · exact .inl e
    · right
      simp only [wtB, Bool.and_eq_true, decide_eq_true_eq]
      exact ⟨by omega, by omega⟩
theorem wt_trans {l : List Nd} (hg : Good l l.length) {a b c : Nat} (ha : a < l.length) (hb : b < l.length) (h : wtB l a b = true) (k : wtB l b c = true) : wtB l a c = true := by
  simp only [wtB, Bool.and_eq_true, decide_eq_true_eq] at h k ⊢
  have := lam hg (i := b) (j := c) hb k.1 k.2
  exact ⟨by omega, by omega⟩
theorem onAx_up {l : List Nd} {c j : Nat} {axis : Int} {self : Bool} (hax : (axis = 6 ∧ self = false) ∨ (axis = 7 ∧ self = true)) : onAx l c axis j = true ↔ (self = true ∧ j = c) ∨ wtB l c j = true := by
  rcases hax with ⟨rfl, rfl⟩ | ⟨rfl, rfl⟩
  · show wtB l c j = true ↔ _
    simp
  · show (decide (j = c) || wtB l c j) = true ↔ _
    simp
theorem wtB_lt {l : List Nd} {c j : Nat} (h : wtB l c j = true) : j < c := by
  simp only [wtB, Bool.and_eq_true, decide_eq_true_eq] at h
  exact h.1
theorem nat_cells (AL : List Nat) : AL.map natC = (AL.map fun i : Nat => (i : Int)).map icell := by
  rw [List.map_map]; rfl
theorem natC_data : ∀ AL : List Nat, dsRows (AL.map natC) = some (AL.map natR)
  | [] => rfl
  | x :: AL => by
    have := natC_data AL
    simp only [List.map_cons, dsRows, this]
    rfl
theorem nodup_len {L : List Nat} {N : Nat} (h : L.Nodup) (hL : ∀ j, j ∈ L → j < N) : L.length ≤ N := by
  have p : ((List.range N).filter (fun j => decide (j ∈ L))).Perm L := (List.perm_ext_iff_of_nodup (List.nodup_range.filter _) h).2 fun x => by
    rw [List.mem_filter, List.mem_range, decide_eq_true_eq]
    exact ⟨fun h => h.2, fun h => ⟨hL x h, h⟩⟩
  rw [← p.length_eq]
  exact colF_len _ _
theorem nat_pos (AL : List Nat) : ∀ z, z ∈ AL.map (fun i : Nat => (i : Int)) → 0 ≤ z := fun z hz => by
  obtain ⟨i, _, rfl⟩ := List.mem_map.1 hz
  omega
theorem nat_mem (AL : List Nat) (j : Nat) : (j : Int) ∈ AL.map (fun i : Nat => (i : Int)) ↔ j ∈ AL := by
  rw [List.mem_map]
  exact ⟨fun ⟨i, h1, h2⟩ => by
    have : i = j := by omega
    exact this ▸ h1, fun h => ⟨j, h, rfl⟩⟩
theorem sort_nat {AL : List Nat} (hn : AL.Nodup) : ((AL.map fun i : Nat => (i : Int)).mergeSort fun x y => decide (x ≤ y)).map icell = (sortU (AL.map fun i : Nat => (i : Int))).map natC := by
  rw [sort_eq (nat_pos AL) (List.Pairwise.map _ (fun a b h e => h (by omega)) hn), nat_cells]
def ks_49 : Nat → List Nat
  | 0 => [0, 1, 2, 6]
  | 1 => [0, 1, 2, 6, 7]
  | 2 => [0, 2, 6, 7, 13, 14, 15]
  | 3 => [0, 2, 6, 7, 13, 14, 15, 16]
  | 4 => [0, 2, 6, 7, 9, 13, 14, 15]
  | 5 => [0, 2, 6, 7, 9, 13, 14, 15, 20]
  | 6 => [0, 2, 6, 7, 9, 13, 14, 15]
  | 7 => [0, 2, 6, 7, 9, 13, 14, 15, 36]
  | 8 => [0, 2, 6, 7, 9, 13, 14, 15]
  | 9 => [0, 2, 6, 7, 9, 13, 14, 15]
  | 10 => [0, 2, 6, 7, 9, 13, 14, 15]
  | 11 => [0, 2, 6, 7, 13, 14, 15]
  | 12 => [0, 7]
  | 13 => [0, 54, 55, 56]
  | 14 => [0, 54, 55, 56, 57]
  | 15 => [0, 11, 54, 55, 56]
  | 16 => [0, 54, 55, 56]
  | 17 => [0, 54, 55, 56]
  | _ => []
def mu_49 : List Nat := [7]
def in_49 : List Nat := [0, 1, 2]
def gv_49 : Nat → List Bool
  | 13 => [true]
  | _ => []
theorem up_A (l : List Nd) (hg : Good l l.length) (hN : l.length ≤ 100000) (axis : Int) (self : Bool) (hax : (axis = 6 ∧ self = false) ∨ (axis = 7 ∧ self = true)) (t : Ts) (idw ido : Nat) (C : List Nat) (hC : ∀ c, c ∈ C → c < l.length) (hCL : C.length ≤ 100000) (H : Heap) (K : V → Heap → Prop) (hW : Wk H idw ido l axis t []) (hk : K (.tu []) (wst H idw ido l axis t (walked l C axis t))) : ACalls Tryd.prog 49 [.pt idw 0 0 0, .d (.sl 1 (C.map natR)), .d (.b self)] H K := by
  have hwl := hW.hw
  have hcl0 : ∀ ks vs (AL : List Nat), (∀ v, v ∈ vs → ∃ x, v = V.d x) → Closed H (H ++ [.row 0 107 0 [[.mp [.i .i64] ks vs]], .row AL.length 3 1 (AL.map natC)]) := fun ks vs AL h => closed_app fun ob hob => by
    simp only [List.mem_cons, List.not_mem_nil, or_false] at hob
    rcases hob with rfl | rfl
    · exact mapD_bel2 h
    · exact outO_bel _ AL
  refine ACalls_of Tryd.func49 rfl in_49 (Nat.le_of_ble_eq_true rfl) ?_
  intro F hF
  simp (dsimp := false) only [go_sem, Nat.reduceAdd, Nat.reduceBEq, Nat.reduceEqDiff, Nat.reduceLT, Nat.reduceLeDiff, Nat.reduceMul, Int.reduceToNat, reduceCtorEq, ↓reduceIte, Tryd.ntmps49, Tryd.results49, ks_49, mu_49, gv_49, ti_ag3, ti_ag34, ti_fl73_0, ti_fl101_5, ti_hb44, ti_hb48, ti_ky3, ti_mp107, ti_sb35, ti_sl34, ti_sl35, ti_zv4, ndD, ndV, tsV, hwl, in_49] at hF
  subst hF
  repeat' (first | with_reducible (first | refine And.intro ?_ ?_ | intro _ | refine AWp_seq ?_ | refine AWp_block ?_ | (refine hKv _ _ (AWp_nop ?_); clear hKv Kv) | (refine hKA ?_; clear hKA hKB KA KB) | (refine hKB ?_; clear hKA hKB KA KB) | refine AWp_skipN ?_ | refine AWp_exitO (by repeat (first | exact Out.hit | apply Out.thenA | apply Out.out rfl)) ?_) | (with_reducible (first | (refine hKv _ _ ?_; clear hKv Kv) | ((first | refine AWp_regG gv_49 mu_49 ks_49 (by decide) ?_ | refine AWp_regC mu_49 ks_49 ?_ | refine AWp_regE mu_49 ks_49 ?_); intro Kv hKv) | refine AWp_retR ?_); try simp (dsimp := false) only [go_sem, Nat.reduceAdd, Nat.reduceBEq, Nat.reduceEqDiff, Nat.reduceLT, Nat.reduceLeDiff, Nat.reduceMul, Int.reduceToNat, reduceCtorEq, ↓reduceIte, Tryd.ntmps49, Tryd.results49, ks_49, mu_49, gv_49, ti_ag3, ti_ag34, ti_fl73_0, ti_fl101_5, ti_hb44, ti_hb48, ti_ky3, ti_mp107, ti_sb35, ti_sl34, ti_sl35, ti_zv4, ndD, ndV, tsV, hwl]) | (refine AWp_condC rfl ?_; intro KA KB hKA hKB; try simp only [onB_true, onB_false, onB_dec, onB_ndec, onB_not, onB_and, onB_or]) | (refine AWp_condA rfl ?_ ?_) | with_reducible (first | refine onB_of ?_ ?_ | rfl) | omega)
  refine AWp_whileP (fun y : Nat × List Nat × List (List D) × List V => y.1 ≤ C.length ∧ y.2.1.Nodup ∧ (∀ j, j ∈ y.2.1 ↔ ∃ c, c ∈ C.take y.1 ∧ onAx l c axis j = true) ∧ InM y.2.2.1 y.2.2.2 fun j => j ∈ y.2.1)
    (fun y => [(0, .pt idw 0 0 0), (2, .d (.b self)), (6, .mo H.length 0), (7, .os (H.length + 1) y.2.1.length), (13, .d (.sl 1 (C.map natR))), (14, .d (.i .i64 C.length)), (15, .d (.i .i64 y.1))])
    (fun y => H ++ [.row 0 107 0 [[.mp [.i .i64] y.2.2.1 y.2.2.2]], .row y.2.1.length 3 1 (y.2.1.map natC)]) (fun y => C.length - y.1) (0, [], [], []) ⟨Nat.zero_le _, List.nodup_nil, fun j => by simp, InM.empty.congr fun j => by simp⟩ ?_ ?_ ?_ ?_ ?_
  · first | rfl
  · simp (dsimp := false) only [go_sem, Nat.reduceAdd, Nat.reduceBEq, Nat.reduceEqDiff, Nat.reduceLT, Nat.reduceLeDiff, Nat.reduceMul, Int.reduceToNat, reduceCtorEq, ↓reduceIte, Tryd.ntmps49, Tryd.results49, ks_49, mu_49, gv_49, ti_ag3, ti_ag34, ti_fl73_0, ti_fl101_5, ti_hb44, ti_hb48, ti_ky3, ti_mp107, ti_sb35, ti_sl34, ti_sl35, ti_zv4, ndD, ndV, tsV, hwl]
    first | done | exact hwl | (simp [hwl]; done) | (simp [hwl]; omega)
  · intro k _
    simp
  · rintro ⟨k, AL, ks, vs⟩ ⟨_, _, _, h⟩
    exact hcl0 _ _ _ h.all
  rintro ⟨k, AL, ks, vs⟩ ⟨hk1, hnd, hmem, hM⟩
  simp only [] at hk1 hnd hmem hM ⊢
  have hAl : ∀ j, j ∈ AL → j < l.length := fun j hj => by
    obtain ⟨c, hc, ho⟩ := (hmem j).1 hj
    have hcl := hC c (List.mem_of_mem_take hc)
    rcases (onAx_up hax).1 ho with ⟨_, rfl⟩ | h
    · exact hcl
    · have := wtB_lt h; omega
  by_cases hkC : k < C.length
  · obtain ⟨n, hn⟩ : ∃ n, C[k]? = some n := ⟨C[k], List.getElem?_eq_getElem hkC⟩
    have hnl := hC n (List.mem_of_getElem? hn)
    obtain ⟨x, hx⟩ : ∃ x, l[n]? = some x := ⟨l[n], List.getElem?_eq_getElem hnl⟩
    have bn := good_bd hg n hnl
    have hchn := fun j => ch_up hg hnl j
    rw [gd_of_get hx] at bn hchn
    have k1 : ((k : Int) < (C.length : Int)) = True := eq_true (by omega)
    have k0 : ((0 : Int) ≤ (k : Int)) = True := eq_true (by omega)
    have n0 : ((0 : Int) ≤ (n : Int)) = True := eq_true (by omega)
    have n1 : ((n : Int) < (l.length : Int)) = True := eq_true (by omega)
    have hS : ∀ j, (∃ c, c ∈ C.take (k + 1) ∧ onAx l c axis j = true) ↔ j ∈ AL ∨ onAx l n axis j = true := fun j => by
      rw [hmem]
      constructor
      · rintro ⟨c, hc, ho⟩
        rcases (take_mem hn c).1 hc with h | rfl
        · exact .inl ⟨c, h, ho⟩
        · exact .inr ho
      · rintro (⟨c, hc, ho⟩ | ho)
        · exact ⟨c, (take_mem hn c).2 (.inl hc), ho⟩
        · exact ⟨n, (take_mem hn n).2 (.inr rfl), ho⟩
    have hup : ∀ a j, a ∈ AL → wtB l a j = true → j ∈ AL := fun a j ha h => by
      obtain ⟨c, hc, ho⟩ := (hmem a).1 ha
      refine (hmem j).2 ⟨c, hc, (onAx_up hax).2 (.inr ?_)⟩
      rcases (onAx_up hax).1 ho with ⟨_, rfl⟩ | h'
      · exact h
      · exact wt_trans hg (hC c (List.mem_of_mem_take hc)) (hAl a ha) h' h
    have hw1 := (hW.app [.row 0 107 0 [[.mp [.i .i64] ks vs]], .row AL.length 3 1 (AL.map natC)]).w
    rw [wkO] at hw1
    -- where it begins
    have inner : ∀ m0 : Int, -1 ≤ m0 → m0 < l.length → (∀ j, onAx l n axis j = true ↔ chI l m0 j) → ∀ (Q : Exit → Ab.Frame → Heap → Prop) , True := fun _ _ _ _ _ => trivial
    obtain ⟨m0, hm0, hm1, hm2, hmd⟩ : ∃ m0 : Int, -1 ≤ m0 ∧ m0 < l.length ∧ (∀ j, onAx l n axis j = true ↔ chI l m0 j) ∧ m0 = if self = true then (n : Int) else x.up := by
      rcases hax with ⟨rfl, rfl⟩ | ⟨rfl, rfl⟩
      · exact ⟨x.up, bn.1, by omega, fun j => (onAx_up (.inl ⟨rfl, rfl⟩)).trans (by simp [hchn]), by simp⟩
      · exact ⟨n, by omega, by omega, fun j => (onAx_up (.inr ⟨rfl, rfl⟩)).trans (by rw [ch_nat]; simp), by simp⟩
    have hself : (self = true ∧ m0 = n) ∨ (self = false ∧ x.up = m0) := by
      cases self
      · exact .inr ⟨rfl, by simpa using hmd.symm⟩
      · exact .inl ⟨rfl, by simpa using hmd⟩
    clear hmd inner
    rcases hself with ⟨hs, hm3⟩ | ⟨hs, hm3⟩
    all_goals
      repeat' (first | with_reducible (first | refine And.intro ?_ ?_ | intro _ | refine AWp_seq ?_ | refine AWp_block ?_ | (refine hKv _ _ (AWp_nop ?_); clear hKv Kv) | (refine hKA ?_; clear hKA hKB KA KB) | (refine hKB ?_; clear hKA hKB KA KB) | refine AWp_skipN ?_ | refine AWp_exitO (by repeat (first | exact Out.hit | apply Out.thenA | apply Out.out rfl)) ?_) | (with_reducible (first | (refine hKv _ _ ?_; clear hKv Kv) | ((first | refine AWp_regG gv_49 mu_49 ks_49 (by decide) ?_ | refine AWp_regC mu_49 ks_49 ?_ | refine AWp_regE mu_49 ks_49 ?_); intro Kv hKv) | refine AWp_retR ?_); try simp (dsimp := false) only [go_sem, Nat.reduceAdd, Nat.reduceBEq, Nat.reduceEqDiff, Nat.reduceLT, Nat.reduceLeDiff, Nat.reduceMul, Int.reduceToNat, reduceCtorEq, ↓reduceIte, Tryd.ntmps49, Tryd.results49, ks_49, mu_49, gv_49, ti_ag3, ti_ag34, ti_fl73_0, ti_fl101_5, ti_hb44, ti_hb48, ti_ky3, ti_mp107, ti_sb35, ti_sl34, ti_sl35, ti_zv4, ndD, ndV, tsV, natR, hwl, hn, hw1, hx, hs, hm3, k0, k1, n0, n1, not_true_eq_false, not_false_eq_true, Bool.and_true, Bool.true_and, Bool.false_and, Bool.and_false, Bool.false_or, Bool.or_false, Bool.true_beq, Bool.false_beq, Int.reduceEq, Int.reduceLT, Int.reduceLE]) | (refine AWp_condC rfl ?_; intro KA KB hKA hKB; try simp only [onB_true, onB_false, onB_dec, onB_ndec, onB_not, onB_and, onB_or]) | (refine AWp_condA rfl ?_ ?_) | with_reducible (first | refine onB_of ?_ ?_ | rfl) | omega)
      try rw [← hm3]
      refine AWp_whileP (fun y : Int × List Nat × List (List D) × List V => -1 ≤ y.1 ∧ y.1 < l.length ∧ y.2.1.Nodup ∧ (∃ NW, y.2.1 = AL ++ NW ∧ ∀ a, a ∈ NW → y.1 < a) ∧ (∀ j, (j ∈ y.2.1 ∨ chI l y.1 j) ↔ (j ∈ AL ∨ onAx l n axis j = true)) ∧ InM y.2.2.1 y.2.2.2 fun j => j ∈ y.2.1)
        (fun y => [(0, .pt idw 0 0 0), (2, .d (.b self)), (6, .mo H.length 0), (7, .os (H.length + 1) y.2.1.length), (9, .d (.i .i64 y.1)), (13, .d (.sl 1 (C.map natR))), (14, .d (.i .i64 C.length)), (15, .d (.i .i64 k))])
        (fun y => H ++ [.row 0 107 0 [[.mp [.i .i64] y.2.2.1 y.2.2.2]], .row y.2.1.length 3 1 (y.2.1.map natC)]) (fun y => (y.1 + 1).toNat) (m0, AL, ks, vs) ⟨hm0, hm1, hnd, ⟨[], by simp, by simp⟩, (fun j => by rw [hm2]), hM⟩ ?_ ?_ ?_ ?_ ?_
      · first | rfl | (simp; done)
      · simp (dsimp := false) only [go_sem, Nat.reduceAdd, Nat.reduceBEq, Nat.reduceEqDiff, Nat.reduceLT, Nat.reduceLeDiff, Nat.reduceMul, Int.reduceToNat, reduceCtorEq, ↓reduceIte, Tryd.ntmps49, Tryd.results49, ks_49, mu_49, gv_49, ti_ag3, ti_ag34, ti_fl73_0, ti_fl101_5, ti_hb44, ti_hb48, ti_ky3, ti_mp107, ti_sb35, ti_sl34, ti_sl35, ti_zv4, ndD, ndV, tsV, natR, hwl, hn, hw1, hx, hs, hm3, k0, k1, n0, n1, not_true_eq_false, not_false_eq_true, Bool.and_true, Bool.true_and, Bool.false_and, Bool.and_false, Bool.false_or, Bool.or_false, Bool.true_beq, Bool.false_beq, Int.reduceEq, Int.reduceLT, Int.reduceLE]
        first | done | (simp [hwl, hs]; done) | (simp [hwl, hs]; omega)
      · intro y _
        simp
      · rintro ⟨m, AN, ks, vs⟩ ⟨_, _, _, _, _, h⟩
        exact hcl0 _ _ _ h.all
      rintro ⟨m, AN, ks2, vs2⟩ ⟨i1, i2, i3, ⟨NW, i0, i4⟩, i5, i6⟩
      simp only [] at i0 i1 i2 i3 i4 i5 i6 ⊢
      have stop : (∀ j, chI l m j → j ∈ AN) → ∀ j, j ∈ AN ↔ ∃ c, c ∈ C.take (k + 1) ∧ onAx l c axis j = true := fun h j => by
        rw [hS, ← i5]
        exact ⟨.inl, fun h' => h'.elim (fun h => h) (h j)⟩
      have ek : (k : Int) + 1 = ((k + 1 : Nat) : Int) := by omega
      by_cases hm : 0 ≤ m
      · obtain ⟨u, rfl⟩ : ∃ u : Nat, m = u := ⟨m.toNat, by omega⟩
        have hul : u < l.length := by omega
        obtain ⟨z, hz⟩ : ∃ z, l[u]? = some z := ⟨l[u], List.getElem?_eq_getElem hul⟩
        have bu := good_bd hg u hul
        have hchu := fun j => ch_up hg hul j
        rw [gd_of_get hz] at bu hchu
        have u0 : ((0 : Int) ≤ (u : Int)) = True := eq_true (by omega)
        have u1 : ((u : Int) < (l.length : Int)) = True := eq_true (by omega)
        have hlk := i6.look u
        by_cases hin : u ∈ AN
        · rw [decide_eq_true hin] at hlk
          have hfin := stop fun j hj => by
            have huA : u ∈ AL := (List.mem_append.1 (i0 ▸ hin)).resolve_right fun h => by have := i4 u h; omega
            rcases (ch_nat l u j).1 hj with rfl | h
            · exact hin
            · rw [i0]; exact List.mem_append_left _ (hup u j huA h)
          repeat' (first | with_reducible (first | refine And.intro ?_ ?_ | intro _ | refine AWp_seq ?_ | refine AWp_block ?_ | (refine hKv _ _ (AWp_nop ?_); clear hKv Kv) | (refine hKA ?_; clear hKA hKB KA KB) | (refine hKB ?_; clear hKA hKB KA KB) | refine AWp_skipN ?_ | refine AWp_exitO (by repeat (first | exact Out.hit | apply Out.thenA | apply Out.out rfl)) ?_) | (with_reducible (first | (refine hKv _ _ ?_; clear hKv Kv) | ((first | refine AWp_regG gv_49 mu_49 ks_49 (by decide) ?_ | refine AWp_regC mu_49 ks_49 ?_ | refine AWp_regE mu_49 ks_49 ?_); intro Kv hKv) | refine AWp_retR ?_); try simp (dsimp := false) only [go_sem, Nat.reduceAdd, Nat.reduceBEq, Nat.reduceEqDiff, Nat.reduceLT, Nat.reduceLeDiff, Nat.reduceMul, Int.reduceToNat, reduceCtorEq, ↓reduceIte, Tryd.ntmps49, Tryd.results49, ks_49, mu_49, gv_49, ti_ag3, ti_ag34, ti_fl73_0, ti_fl101_5, ti_hb44, ti_hb48, ti_ky3, ti_mp107, ti_sb35, ti_sl34, ti_sl35, ti_zv4, ndD, ndV, tsV, natR, hwl, hlk, u0, ek, not_true_eq_false, not_false_eq_true, Bool.and_true, Bool.true_and, Bool.false_and, Bool.and_false, Bool.false_or, Bool.or_false, Bool.true_beq, Bool.false_beq, Int.reduceEq, Int.reduceLT, Int.reduceLE]) | (refine AWp_condC rfl ?_; intro KA KB hKA hKB; try simp only [onB_true, onB_false, onB_dec, onB_ndec, onB_not, onB_and, onB_or]) | (refine AWp_condA rfl ?_ ?_) | with_reducible (first | refine onB_of ?_ ?_ | rfl) | omega)
          all_goals first
            | omega
            | exact hcl0 _ _ _ i6.all
            | exact ⟨(k + 1, AN, ks2, vs2), ⟨by show k + 1 ≤ C.length; omega, i3, hfin, i6⟩, by show C.length - (k + 1) < C.length - k; omega, rfl, by (repeat' (refine And.intro ?_ ?_)) <;> first | rfl | omega | (simp; done) | (simp; omega)⟩
        · rw [decide_eq_false hin] at hlk
          have hwu := (hW.app [.row 0 107 0 [[.mp [.i .i64] (mputK ks2 [.i .i64 u]) (mputV ks2 vs2 [.i .i64 u] (.d (.b true)))]], .row (AN.length + 1) 3 1 (AN.map natC ++ [[.d (.i .i64 u)]])]).w
          rw [wkO] at hwu
          have hAW : AN.length ≤ l.length := nodup_len i3 fun j hj => by
            rcases (i5 j).1 (.inl hj) with h | h
            · exact hAl j h
            · rcases (onAx_up hax).1 h with ⟨_, rfl⟩ | h
              · exact hnl
              · have := wtB_lt h; omega
          have j1 : (AN ++ [u]).Nodup := List.nodup_append.2 ⟨i3, by simp, fun a ha b hb => by rw [List.mem_singleton.1 hb]; exact fun e => hin (e ▸ ha)⟩
          have j2 : ∃ NW, AN ++ [u] = AL ++ NW ∧ ∀ a, a ∈ NW → z.up < a := ⟨NW ++ [u], by rw [i0, List.append_assoc], fun a ha => by
            rcases List.mem_append.1 ha with h | h
            · have := i4 a h; omega
            · rw [List.mem_singleton.1 h]; omega⟩
          have j3 : ∀ j, (j ∈ AN ++ [u] ∨ chI l z.up j) ↔ (j ∈ AL ∨ onAx l n axis j = true) := fun j => by
            rw [← i5, ch_nat, hchu, List.mem_append, List.mem_singleton, or_assoc]
          have j4 : InM (mputK ks2 [.i .i64 u]) (mputV ks2 vs2 [.i .i64 u] (.d (.b true))) fun j => j ∈ AN ++ [u] := (i6.put u).congr fun j => by rw [List.mem_append, List.mem_singleton]
          have hoa := outO_app AN u
          rw [outO] at hoa
          repeat' (first | with_reducible (first | refine And.intro ?_ ?_ | intro _ | refine AWp_seq ?_ | refine AWp_block ?_ | (refine hKv _ _ (AWp_nop ?_); clear hKv Kv) | (refine hKA ?_; clear hKA hKB KA KB) | (refine hKB ?_; clear hKA hKB KA KB) | refine AWp_skipN ?_ | refine AWp_exitO (by repeat (first | exact Out.hit | apply Out.thenA | apply Out.out rfl)) ?_) | (with_reducible (first | (refine hKv _ _ ?_; clear hKv Kv) | ((first | refine AWp_regG gv_49 mu_49 ks_49 (by decide) ?_ | refine AWp_regC mu_49 ks_49 ?_ | refine AWp_regE mu_49 ks_49 ?_); intro Kv hKv) | refine AWp_retR ?_); try simp (dsimp := false) only [go_sem, Nat.reduceAdd, Nat.reduceBEq, Nat.reduceEqDiff, Nat.reduceLT, Nat.reduceLeDiff, Nat.reduceMul, Int.reduceToNat, reduceCtorEq, ↓reduceIte, Tryd.ntmps49, Tryd.results49, ks_49, mu_49, gv_49, ti_ag3, ti_ag34, ti_fl73_0, ti_fl101_5, ti_hb44, ti_hb48, ti_ky3, ti_mp107, ti_sb35, ti_sl34, ti_sl35, ti_zv4, ndD, ndV, tsV, natR, hwl, hlk, hwu, hz, u0, u1, not_true_eq_false, not_false_eq_true, Bool.and_true, Bool.true_and, Bool.false_and, Bool.and_false, Bool.false_or, Bool.or_false, Bool.true_beq, Bool.false_beq, Int.reduceEq, Int.reduceLT, Int.reduceLE]) | (refine AWp_condC rfl ?_; intro KA KB hKA hKB; try simp only [onB_true, onB_false, onB_dec, onB_ndec, onB_not, onB_and, onB_or]) | (refine AWp_condA rfl ?_ ?_) | with_reducible (first | refine onB_of ?_ ?_ | rfl) | omega)
          all_goals first
            | omega
            | exact hcl0 _ _ _ (i6.put u).all
            | exact ⟨(z.up, AN ++ [u], mputK ks2 [.i .i64 u], mputV ks2 vs2 [.i .i64 u] (.d (.b true))), ⟨by show -1 ≤ z.up; omega, by show z.up < _; omega, j1, j2, j3, j4⟩, by show (z.up + 1).toNat < ((u : Int) + 1).toNat; omega, by show _ = H ++ [_, Ob.row (AN ++ [u]).length _ 1 ((AN ++ [u]).map natC)]; rw [← hoa], by (repeat' (refine And.intro ?_ ?_)) <;> first | rfl | omega | (simp; done) | (simp; omega)⟩
      · have u0 : ((0 : Int) ≤ m) = False := eq_false hm
        have hfin := stop fun j hj => absurd hj (ch_neg (by omega) j)
        repeat' (first | with_reducible (first | refine And.intro ?_ ?_ | intro _ | refine AWp_seq ?_ | refine AWp_block ?_ | (refine hKv _ _ (AWp_nop ?_); clear hKv Kv) | (refine hKA ?_; clear hKA hKB KA KB) | (refine hKB ?_; clear hKA hKB KA KB) | refine AWp_skipN ?_ | refine AWp_exitO (by repeat (first | exact Out.hit | apply Out.thenA | apply Out.out rfl)) ?_) | (with_reducible (first | (refine hKv _ _ ?_; clear hKv Kv) | ((first | refine AWp_regG gv_49 mu_49 ks_49 (by decide) ?_ | refine AWp_regC mu_49 ks_49 ?_ | refine AWp_regE mu_49 ks_49 ?_); intro Kv hKv) | refine AWp_retR ?_); try simp (dsimp := false) only [go_sem, Nat.reduceAdd, Nat.reduceBEq, Nat.reduceEqDiff, Nat.reduceLT, Nat.reduceLeDiff, Nat.reduceMul, Int.reduceToNat, reduceCtorEq, ↓reduceIte, Tryd.ntmps49, Tryd.results49, ks_49, mu_49, gv_49, ti_ag3, ti_ag34, ti_fl73_0, ti_fl101_5, ti_hb44, ti_hb48, ti_ky3, ti_mp107, ti_sb35, ti_sl34, ti_sl35, ti_zv4, ndD, ndV, tsV, natR, hwl, u0, ek, not_true_eq_false, not_false_eq_true, Bool.and_true, Bool.true_and, Bool.false_and, Bool.and_false, Bool.false_or, Bool.or_false, Bool.true_beq, Bool.false_beq, Int.reduceEq, Int.reduceLT, Int.reduceLE]) | (refine AWp_condC rfl ?_; intro KA KB hKA hKB; try simp only [onB_true, onB_false, onB_dec, onB_ndec, onB_not, onB_and, onB_or]) | (refine AWp_condA rfl ?_ ?_) | with_reducible (first | refine onB_of ?_ ?_ | rfl) | omega)
        all_goals first
          | omega
          | exact hcl0 _ _ _ i6.all
          | exact ⟨(k + 1, AN, ks2, vs2), ⟨by show k + 1 ≤ C.length; omega, i3, hfin, i6⟩, by show C.length - (k + 1) < C.length - k; omega, rfl, by (repeat' (refine And.intro ?_ ?_)) <;> first | rfl | omega | (simp; done) | (simp; omega)⟩
  obtain rfl : k = C.length := by omega
  rw [List.take_length] at hmem
  have hAL := nodup_len hnd hAl
  have k1 : ((C.length : Int) < (C.length : Int)) = False := eq_false (by omega)
  have hs : ∀ K, K (.tu []) (H ++ [.row 0 107 0 [[.mp [.i .i64] ks vs]], .row AL.length 3 1 ((sortU (AL.map fun i : Nat => (i : Int))).map natC)]) → ACalls Tryd.prog 44 [.os (H.length + 1) AL.length] (H ++ [.row 0 107 0 [[.mp [.i .i64] ks vs]], .row AL.length 3 1 (AL.map natC)]) K := fun K hk =>
    sortI_A 3 (AL.map fun i : Nat => (i : Int)) (by rw [List.length_map]; omega) _ _ _ K ((get_appk _ _ 1).trans (by rw [nat_cells]; rfl)) (by rw [sort_nat hnd, set_appk]; exact hk)
  have hCr := sortU_rise (nat_pos AL)
  have hCm' := fun j => (sortU_mem (nat_pos AL) j).trans (nat_mem AL j)
  have hlen : (sortU (AL.map fun i : Nat => (i : Int))).length ≤ 100000 := by
    have := sortU_len (AL.map fun i : Nat => (i : Int))
    rw [List.length_map] at this
    omega
  generalize sortU (AL.map fun i : Nat => (i : Int)) = D at hs hCr hCm' hlen
  have hCl : ∀ c, c ∈ D → c < l.length := fun c hc => hAl c ((hCm' c).1 hc)
  have hCm : ∀ j, j < l.length → (j ∈ D ↔ ∃ c, c ∈ C ∧ onAx l c axis j = true) := fun j _ => (hCm' j).trans (hmem j)
  have hdd := natC_data D
  generalize hGG : (.row 0 107 0 [[.mp [.i .i64] ks vs]] : Ob) = GG at hs
  have hg0 : ∀ m, ObBel m GG := fun m => by rw [← hGG]; exact mapD_bel2 hM.all
  have hGb : ∀ ob, ob ∈ [GG, Ob.dead] → ∀ m, ObBel m ob := fun ob hob m => by
    simp only [List.mem_cons, List.not_mem_nil, or_false] at hob
    rcases hob with rfl | rfl
    · exact hg0 m
    · exact trivial
  repeat' (first | with_reducible (first | refine And.intro ?_ ?_ | intro _ | refine AWp_seq ?_ | refine AWp_block ?_ | (refine hKv _ _ (AWp_nop ?_); clear hKv Kv) | (refine hKA ?_; clear hKA hKB KA KB) | (refine hKB ?_; clear hKA hKB KA KB) | refine AWp_skipN ?_ | refine AWp_exitO (by repeat (first | exact Out.hit | apply Out.thenA | apply Out.out rfl)) ?_) | ((first | with_reducible (first | (refine hKv _ _ ?_; clear hKv Kv) | ((first | refine AWp_regG gv_49 mu_49 ks_49 (by decide) ?_ | refine AWp_regC mu_49 ks_49 ?_ | refine AWp_regE mu_49 ks_49 ?_); intro Kv hKv) | refine AWp_retR ?_) | refine hs _ ?_); try simp (dsimp := false) only [go_sem, Nat.reduceAdd, Nat.reduceBEq, Nat.reduceEqDiff, Nat.reduceLT, Nat.reduceLeDiff, Nat.reduceMul, Int.reduceToNat, reduceCtorEq, ↓reduceIte, Tryd.ntmps49, Tryd.results49, ks_49, mu_49, gv_49, ti_ag3, ti_ag34, ti_fl73_0, ti_fl101_5, ti_hb44, ti_hb48, ti_ky3, ti_mp107, ti_sb35, ti_sl34, ti_sl35, ti_zv4, ndD, ndV, tsV, natR, hwl, k1, hdd, not_true_eq_false, not_false_eq_true, Bool.and_true, Bool.true_and, Bool.false_and, Bool.and_false, Bool.false_or, Bool.or_false, Bool.true_beq, Bool.false_beq, Int.reduceEq, Int.reduceLT, Int.reduceLE]) | (refine AWp_condC rfl ?_; intro KA KB hKA hKB; try simp only [onB_true, onB_false, onB_dec, onB_ndec, onB_not, onB_and, onB_or]) | (refine AWp_condA rfl ?_ ?_) | with_reducible (first | refine onB_of ?_ ?_ | rfl) | omega)
  have hwA := fun L => (hW.next L).app [GG, Ob.dead]
  have hlA : ∀ L, (wst H idw ido l axis t L ++ [GG, Ob.dead]).length = H.length + [GG, Ob.dead].length := fun L => by rw [List.length_append, hW.len]
  have hclA : ∀ L, Closed H (wst H idw ido l axis t L ++ [GG, Ob.dead]) := fun L => by
    rw [← hW.wst_app]
    have h1 := hW.ho
    exact closed_set (closed_set (closed_app fun ob hob => hGb ob hob _) (outO_bel _ _)) (wkO_bel _ _ _ (by rw [List.length_set, List.length_append]; omega))
  refine AWp_whileP (fun k : Nat => k ≤ (D).length) (fun k => [(0, .pt idw 0 0 0), (54, .d (.sl 1 ((D).map natR))), (55, .d (.i .i64 (D).length)), (56, .d (.i .i64 k))]) (fun k => wst H idw ido l axis t (colF (setQ l (D) axis t) (past (D) k)) ++ [GG, Ob.dead]) (fun k => (D).length - k) 0 (Nat.zero_le _) ?_ ?_ ?_ ?_ ?_
  · show _ = wst H idw ido l axis t [] ++ [GG, Ob.dead]
    rw [hW.self]
    first | done | rfl | (simp; done)
  · simp (dsimp := false) only [go_sem, Nat.reduceAdd, Nat.reduceBEq, Nat.reduceEqDiff, Nat.reduceLT, Nat.reduceLeDiff, Nat.reduceMul, Int.reduceToNat, reduceCtorEq, ↓reduceIte, Tryd.ntmps49, Tryd.results49, ks_49, mu_49, gv_49, ti_ag3, ti_ag34, ti_fl73_0, ti_fl101_5, ti_hb44, ti_hb48, ti_ky3, ti_mp107, ti_sb35, ti_sl34, ti_sl35, ti_zv4, ndD, ndV, tsV, natR, hwl, k1, hdd, not_true_eq_false, not_false_eq_true, Bool.and_true, Bool.true_and, Bool.false_and, Bool.and_false, Bool.false_or, Bool.or_false, Bool.true_beq, Bool.false_beq, Int.reduceEq, Int.reduceLT, Int.reduceLE]
    first | done | (rw [hlA]; omega) | (simp [wst, hwl]; done) | (simp [wst]; omega)
  · intro k _
    rw [hlA]; exact Nat.le_add_right _ _
  · intro k _
    exact hclA _
  rintro k hk2
  have hwk := (hwA (colF (setQ l (D) axis t) (past (D) k))).w
  rw [wkO] at hwk
  by_cases hkC : k < (D).length
  · obtain ⟨n, hn⟩ : ∃ n, (D)[k]? = some n := ⟨(D)[k], List.getElem?_eq_getElem hkC⟩
    have hnl := hCl n (List.mem_of_getElem? hn)
    obtain ⟨x, hx⟩ : ∃ x, l[n]? = some x := ⟨l[n], List.getElem?_eq_getElem hnl⟩
    have k1 : ((k : Int) < ((D).length : Int)) = True := eq_true (by omega)
    have k0 : ((0 : Int) ≤ (k : Int)) = True := eq_true (by omega)
    have ec : (k : Int) + 1 = ((k + 1 : Nat) : Int) := by omega
    have hpl := past_le hCl k
    have hcl2 := colF_len (setQ l (D) axis t) (past (D) k)
    have ht : ∀ K, K (.tu []) (wst H idw ido l axis t (colF (setQ l (D) axis t) (past (D) (k + 1))) ++ [GG, Ob.dead]) → ACalls Tryd.prog 48 [.pt idw 0 0 0, .d (.i .i64 n), .d (.b true)] (wst H idw ido l axis t (colF (setQ l (D) axis t) (past (D) k)) ++ [GG, Ob.dead]) K := fun K hk => take_A l hN axis t idw ido _ (by omega) n _ x hx _ K (hwA _) (by rw [(hW.next _).wst_app, hW.wst2, setQ_step hCr hn hx]; exact hk)
    repeat' (first | with_reducible (first | refine And.intro ?_ ?_ | intro _ | refine AWp_seq ?_ | refine AWp_block ?_ | (refine hKv _ _ (AWp_nop ?_); clear hKv Kv) | (refine hKA ?_; clear hKA hKB KA KB) | (refine hKB ?_; clear hKA hKB KA KB) | refine AWp_skipN ?_ | refine AWp_exitO (by repeat (first | exact Out.hit | apply Out.thenA | apply Out.out rfl)) ?_) | ((first | with_reducible (first | (refine hKv _ _ ?_; clear hKv Kv) | ((first | refine AWp_regG gv_49 mu_49 ks_49 (by decide) ?_ | refine AWp_regC mu_49 ks_49 ?_ | refine AWp_regE mu_49 ks_49 ?_); intro Kv hKv) | refine AWp_retR ?_) | refine ht _ ?_); try simp (dsimp := false) only [go_sem, Nat.reduceAdd, Nat.reduceBEq, Nat.reduceEqDiff, Nat.reduceLT, Nat.reduceLeDiff, Nat.reduceMul, Int.reduceToNat, reduceCtorEq, ↓reduceIte, Tryd.ntmps49, Tryd.results49, ks_49, mu_49, gv_49, ti_ag3, ti_ag34, ti_fl73_0, ti_fl101_5, ti_hb44, ti_hb48, ti_ky3, ti_mp107, ti_sb35, ti_sl34, ti_sl35, ti_zv4, ndD, ndV, tsV, natR, hlA, hwl, hn, k0, k1, ec, not_true_eq_false, not_false_eq_true, Bool.and_true, Bool.true_and, Bool.false_and, Bool.and_false, Bool.false_or, Bool.or_false, Bool.true_beq, Bool.false_beq, Int.reduceEq, Int.reduceLT, Int.reduceLE]) | (refine AWp_condC rfl ?_; intro KA KB hKA hKB; try simp only [onB_true, onB_false, onB_dec, onB_ndec, onB_not, onB_and, onB_or]) | (refine AWp_condA rfl ?_ ?_) | with_reducible (first | refine onB_of ?_ ?_ | rfl) | omega)
    all_goals first
      | omega
      | exact ⟨k + 1, by omega, by omega, rfl, by (repeat' (refine And.intro ?_ ?_)) <;> first | rfl | omega | (rw [hlA]; omega) | (simp; done) | (simp; omega)⟩
  obtain rfl : k = (D).length := by omega
  have k1 : (((D).length : Int) < ((D).length : Int)) = False := eq_false (by omega)
  rw [setQ_end hCr hCl, setQ_walked hCm] at *
  repeat' (first | with_reducible (first | refine And.intro ?_ ?_ | intro _ | refine AWp_seq ?_ | refine AWp_block ?_ | (refine hKv _ _ (AWp_nop ?_); clear hKv Kv) | (refine hKA ?_; clear hKA hKB KA KB) | (refine hKB ?_; clear hKA hKB KA KB) | refine AWp_skipN ?_ | refine AWp_exitO (by repeat (first | exact Out.hit | apply Out.thenA | apply Out.out rfl)) ?_) | (with_reducible (first | (refine hKv _ _ ?_; clear hKv Kv) | ((first | refine AWp_regG gv_49 mu_49 ks_49 (by decide) ?_ | refine AWp_regC mu_49 ks_49 ?_ | refine AWp_regE mu_49 ks_49 ?_); intro Kv hKv) | refine AWp_retR ?_); try simp (dsimp := false) only [go_sem, Nat.reduceAdd, Nat.reduceBEq, Nat.reduceEqDiff, Nat.reduceLT, Nat.reduceLeDiff, Nat.reduceMul, Int.reduceToNat, reduceCtorEq, ↓reduceIte, Tryd.ntmps49, Tryd.results49, ks_49, mu_49, gv_49, ti_ag3, ti_ag34, ti_fl73_0, ti_fl101_5, ti_hb44, ti_hb48, ti_ky3, ti_mp107, ti_sb35, ti_sl34, ti_sl35, ti_zv4, ndD, ndV, tsV, natR, k1, not_true_eq_false, not_false_eq_true, Bool.and_true, Bool.true_and, Bool.false_and, Bool.and_false, Bool.false_or, Bool.or_false, Bool.true_beq, Bool.false_beq, Int.reduceEq, Int.reduceLT, Int.reduceLE]) | (refine AWp_condC rfl ?_; intro KA KB hKA hKB; try simp only [onB_true, onB_false, onB_dec, onB_ndec, onB_not, onB_and, onB_or]) | (refine AWp_condA rfl ?_ ?_) | with_reducible (first | refine onB_of ?_ ?_ | rfl) | omega)
  all_goals try first | (refine AWp_skip ?_; simp (dsimp := false) only [go_sem, Nat.reduceAdd, Nat.reduceBEq, Nat.reduceEqDiff, Nat.reduceLT, Nat.reduceLeDiff, Nat.reduceMul, Int.reduceToNat, reduceCtorEq, ↓reduceIte, Tryd.ntmps49, Tryd.results49, ks_49, mu_49, gv_49, ti_ag3, ti_ag34, ti_fl73_0, ti_fl101_5, ti_hb44, ti_hb48, ti_ky3, ti_mp107, ti_sb35, ti_sl34, ti_sl35, ti_zv4, ndD, ndV, tsV, natR, k1, not_true_eq_false, not_false_eq_true, Bool.and_true, Bool.true_and, Bool.false_and, Bool.and_false, Bool.false_or, Bool.or_false, Bool.true_beq, Bool.false_beq, Int.reduceEq, Int.reduceLT, Int.reduceLE]) | (refine AWp_exit ?_; simp (dsimp := false) only [go_sem, Nat.reduceAdd, Nat.reduceBEq, Nat.reduceEqDiff, Nat.reduceLT, Nat.reduceLeDiff, Nat.reduceMul, Int.reduceToNat, reduceCtorEq, ↓reduceIte, Tryd.ntmps49, Tryd.results49, ks_49, mu_49, gv_49, ti_ag3, ti_ag34, ti_fl73_0, ti_fl101_5, ti_hb44, ti_hb48, ti_ky3, ti_mp107, ti_sb35, ti_sl34, ti_sl35, ti_zv4, ndD, ndV, tsV, natR, k1, not_true_eq_false, not_false_eq_true, Bool.and_true, Bool.true_and, Bool.false_and, Bool.and_false, Bool.false_or, Bool.or_false, Bool.true_beq, Bool.false_beq, Int.reduceEq, Int.reduceLT, Int.reduceLE])
  all_goals first
    | omega
    | exact dropS hk (by rw [hW.len]; exact Nat.le_refl _) (hW.closed _) (by simp [Bel_tu])
end Go.Proofs.YtpgdflhcmijaiaaDoor
