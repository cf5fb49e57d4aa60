/- Steps from nodes: what is behind and ahead, tree by tree. No condition. -/
import Derived.Test.YtpgdflhcmijaiaaDoorZ30
set_option linter.all false
set_option linter.unusedSimpArgs false
set_option linter.unusedVariables false
namespace Go.Proofs.YtpgdflhcmijaiaaDoor
open Go Go.Proofs.YtpgdflhcmijaiaaDoor.Ab
variable [Glo]
set_option maxHeartbeats 4000000
set_option maxRecDepth 20000
structure Grp (l : List Nd) (C : List Nat) (G : List (List Nat)) : Prop where
  fl : G.flatten = C
  ne : ∀ g, g ∈ G → g ≠ []
  same : ∀ g, g ∈ G → ∀ a, a ∈ g → ∀ b, b ∈ g → rt l a = rt l b
  lt : G.Pairwise fun g g' => ∀ a, a ∈ g → ∀ b, b ∈ g' → rt l a < rt l b
theorem Grp.mem {l : List Nd} {C : List Nat} {G : List (List Nat)} (h : Grp l C G) {g : List Nat} (hg : g ∈ G) {a : Nat} (ha : a ∈ g) : a ∈ C := by
  rw [← h.fl]; exact List.mem_flatten.2 ⟨g, hg, ha⟩
theorem Grp.all {l : List Nd} {C : List Nat} {G : List (List Nat)} (h : Grp l C G) {k : Nat} {g : List Nat} (hg : G[k]? = some g) {a c : Nat} (ha : a ∈ g) (hc : c ∈ C) (e : rt l c = rt l a) : c ∈ g := by
  rw [← h.fl] at hc
  obtain ⟨g', hg', hc'⟩ := List.mem_flatten.1 hc
  obtain ⟨i, hi⟩ := List.getElem?_of_mem hg'
  obtain ⟨hk, rfl⟩ := List.getElem?_eq_some_iff.1 hg
  obtain ⟨hi2, rfl⟩ := List.getElem?_eq_some_iff.1 hi
  have hp := List.pairwise_iff_getElem.1 h.lt
  rcases Nat.lt_trichotomy i k with h1 | h1 | h1
  · have := hp i k hi2 hk h1 c hc' a ha; omega
  · subst h1; exact hc'
  · have := hp k i hk hi2 h1 a ha c hc'; omega
def mG (l : List Nd) (G : List (List Nat)) : Nat → Nat
  | 0 => 0
  | k + 1 => en l (rt l (((G[k]?).getD []).headD 0)) + 1
theorem head_mem {g : List Nat} (h : g ≠ []) : g.headD 0 ∈ g := by
  cases g with
  | nil => exact absurd rfl h
  | cons a g => simp
theorem mG_s {l : List Nd} {C : List Nat} {G : List (List Nat)} (h : Grp l C G) {k : Nat} {g : List Nat} (hg : G[k]? = some g) {a : Nat} (ha : a ∈ g) : mG l G (k + 1) = en l (rt l a) + 1 := by
  have hm := List.mem_of_getElem? hg
  simp only [mG, hg, Option.getD_some]
  rw [h.same g hm _ (head_mem (h.ne g hm)) a ha]
section
variable {l : List Nd} (hgd : Good l l.length) {C : List Nat} (hC : ∀ c, c ∈ C → c < l.length) {G : List (List Nat)} (h : Grp l C G)
include hgd hC h
theorem gap {k : Nat} {g : List Nat} (hk : G[k]? = some g) {a : Nat} (ha : a ∈ g) : mG l G k ≤ rt l a ∧ ∀ j, mG l G k ≤ j → j < rt l a → ∀ c, c ∈ C → rt l j ≠ rt l c := by
  have hal := hC a (h.mem (List.mem_of_getElem? hk) ha)
  have ra := rt_spec hgd hal
  have key : ∀ c, c ∈ C → rt l c < rt l a → en l (rt l c) + 1 ≤ mG l G k := fun c hc hlt => by
    have hcf := hc
    rw [← h.fl] at hcf
    obtain ⟨g', hg', hc'⟩ := List.mem_flatten.1 hcf
    obtain ⟨i, hi⟩ := List.getElem?_of_mem hg'
    obtain ⟨hk2, e2⟩ := List.getElem?_eq_some_iff.1 hk
    obtain ⟨hi2, e3⟩ := List.getElem?_eq_some_iff.1 hi
    have hp := List.pairwise_iff_getElem.1 h.lt
    have hik : i < k := Classical.byContradiction fun hn => by
      by_cases e : i = k
      · subst e
        rw [hk] at hi; cases hi
        have := h.same g (List.mem_of_getElem? hk) c hc' a ha
        omega
      · have := hp k i hk2 hi2 (by omega) a (e2 ▸ ha) c (e3 ▸ hc')
        omega
    obtain ⟨q, rfl⟩ : ∃ q, k = q + 1 := ⟨k - 1, by omega⟩
    have hq : q < G.length := by omega
    have hqm := List.getElem_mem hq
    obtain ⟨b, hb⟩ : ∃ b, b ∈ G[q] := ⟨_, head_mem (h.ne _ hqm)⟩
    rw [mG_s h (List.getElem?_eq_getElem hq) hb]
    have hbl := hC b (h.mem hqm hb)
    have rb := rt_spec hgd hbl
    by_cases e : i = q
    · subst e
      rw [List.getElem?_eq_getElem hq] at hi
      cases hi
      rw [h.same _ hqm c hc' b hb]
      exact Nat.le_refl _
    · have h1 := hp i q hi2 hq (by omega) c (e3 ▸ hc') b hb
      have hcl := hC c hc
      have rc := rt_spec hgd hcl
      have := top_out hgd (r := rt l b) (by omega) rb.2.2 h1
      have := en_ge l (rt l b)
      omega
  refine ⟨?_, fun j j1 j2 c hc e => ?_⟩
  · cases k with
    | zero => exact Nat.zero_le _
    | succ q =>
      obtain ⟨hk2, e2⟩ := List.getElem?_eq_some_iff.1 hk
      have hq : q < G.length := by omega
      have hqm := List.getElem_mem hq
      obtain ⟨b, hb⟩ : ∃ b, b ∈ G[q] := ⟨_, head_mem (h.ne _ hqm)⟩
      rw [mG_s h (List.getElem?_eq_getElem hq) hb]
      have h1 := List.pairwise_iff_getElem.1 h.lt q (q + 1) hq hk2 (by omega) b hb a (e2 ▸ ha)
      have := top_out hgd (r := rt l a) (by omega) ra.2.2 h1
      omega
  · have hjl : j < l.length := by omega
    have rj := rt_spec hgd hjl
    have hlt : rt l c < rt l a := by omega
    have := key c hc hlt
    rw [← e] at this
    omega
theorem gap_end : mG l G G.length ≤ l.length ∧ ∀ j, mG l G G.length ≤ j → j < l.length → ∀ c, c ∈ C → rt l j ≠ rt l c := by
  cases hk : G.length with
  | zero =>
    refine ⟨Nat.zero_le _, fun j _ _ c hc => ?_⟩
    have : G = [] := List.eq_nil_of_length_eq_zero hk
    rw [← h.fl, this] at hc
    cases hc
  | succ q =>
    have hq : q < G.length := by omega
    have hqm := List.getElem_mem hq
    obtain ⟨b, hb⟩ : ∃ b, b ∈ G[q] := ⟨_, head_mem (h.ne _ hqm)⟩
    rw [mG_s h (List.getElem?_eq_getElem hq) hb]
    have hbl := hC b (h.mem hqm hb)
    have rb := rt_spec hgd hbl
    have he := en_lt hgd (show rt l b < l.length by omega)
    refine ⟨by omega, fun j j1 j2 c hc e => ?_⟩
    have rj := rt_spec hgd j2
    have hcf := hc
    rw [← h.fl] at hcf
    obtain ⟨g', hg', hc'⟩ := List.mem_flatten.1 hcf
    obtain ⟨i, hi⟩ := List.getElem?_of_mem hg'
    obtain ⟨hi2, e3⟩ := List.getElem?_eq_some_iff.1 hi
    by_cases e4 : i = q
    · subst e4
      rw [List.getElem?_eq_getElem hq] at hi
      cases hi
      have := h.same _ hqm c hc' b hb
      rw [e, this] at rj
      omega
    · have h1 := List.pairwise_iff_getElem.1 h.lt i q hi2 hq (by omega) c (e3 ▸ hc') b hb
      have hcl := hC c hc
      have rc := rt_spec hgd hcl
      have := top_out hgd (r := rt l b) (by omega) rb.2.2 h1
      have := en_ge l (rt l b)
      rw [e] at rj
      omega
end
theorem onAx8 (l : List Nd) (c j : Nat) : onAx l c 8 j = ((decide (rt l j = rt l c) && decide (en l c < j)) && !decide ((gd l j).k = 2)) := rfl
theorem onAx9 (l : List Nd) (c j : Nat) : onAx l c 9 j = ((decide (rt l j = rt l c) && decide (en l j < c)) && !decide ((gd l j).k = 2)) := rfl
theorem refQ8_gap {l : List Nd} {C : List Nat} {t : Ts} {j : Nat} (h : ∀ c, c ∈ C → rt l j ≠ rt l c) : refQ l C 8 t j = false := refQ_false fun c hc => by rw [onAx8, decide_eq_false (h c hc)]; rfl
theorem refQ9_gap {l : List Nd} {C : List Nat} {t : Ts} {j : Nat} (h : ∀ c, c ∈ C → rt l j ≠ rt l c) : refQ l C 9 t j = false := refQ_false fun c hc => by rw [onAx9, decide_eq_false (h c hc)]; rfl
def fmin (l : List Nd) (r : Nat) (g : List Nat) : Nat → Nat
  | 0 => en l r + 1
  | k + 1 => min (fmin l r g k) (en l ((g[k]?).getD 0) + 1)
theorem fmin_s {l : List Nd} {r : Nat} {g : List Nat} {k n : Nat} (h : g[k]? = some n) : fmin l r g (k + 1) = min (fmin l r g k) (en l n + 1) := by rw [fmin, h]; rfl
theorem fmin_le {l : List Nd} {r : Nat} {g : List Nat} : ∀ k, fmin l r g k ≤ en l r + 1
  | 0 => Nat.le_refl _
  | k + 1 => Nat.le_trans (Nat.min_le_left _ _) (fmin_le k)
theorem fmin_all {l : List Nd} {r : Nat} {g : List Nat} {i c : Nat} (h : g[i]? = some c) : ∀ k, i < k → fmin l r g k ≤ en l c + 1
  | k + 1, hk => by
    rw [fmin]
    by_cases e : i = k
    · subst e; rw [h]; exact Nat.min_le_right _ _
    · exact Nat.le_trans (Nat.min_le_left _ _) (fmin_all h k (by omega))
theorem fmin_hit {l : List Nd} {r : Nat} {g : List Nat} : ∀ k, k ≤ g.length → fmin l r g k = en l r + 1 ∨ ∃ c, c ∈ g ∧ fmin l r g k = en l c + 1
  | 0, _ => .inl rfl
  | k + 1, hk => by
    have h := List.getElem?_eq_getElem (show k < g.length by omega)
    rw [fmin_s h]
    rcases Nat.le_total (fmin l r g k) (en l g[k] + 1) with h1 | h1
    · rw [Nat.min_eq_left h1]
      exact fmin_hit k (by omega)
    · rw [Nat.min_eq_right h1]
      exact .inr ⟨_, List.getElem_mem _, rfl⟩
theorem fmin_ge {l : List Nd} {r : Nat} {g : List Nat} (hr : ∀ c, c ∈ g → r ≤ c) : ∀ k, k ≤ g.length → r ≤ fmin l r g k
  | 0, _ => by have := en_ge l r; rw [fmin]; omega
  | k + 1, hk => by
    have h := List.getElem?_eq_getElem (show k < g.length by omega)
    rw [fmin_s h]
    have h1 := fmin_ge (l := l) hr k (by omega)
    have h2 := hr _ (List.getElem_mem (show k < g.length by omega))
    have h3 := en_ge l g[k]
    omega
def ks_51 : Nat → List Nat
  | 0 => [0, 1, 4]
  | 1 => [0, 1, 4, 5]
  | 2 => [0, 4, 5, 25, 26, 27]
  | 3 => [0, 4, 5, 25, 26, 27, 28]
  | 4 => [0, 4, 5, 7, 25, 26, 27]
  | 5 => [0, 4, 5, 25, 26, 27]
  | 6 => [0, 4, 5, 25, 26, 27]
  | 7 => [0, 4, 8]
  | 8 => [0, 4, 8, 57]
  | 9 => [0, 4, 8]
  | 10 => [0, 4, 8]
  | _ => []
def mu_51 : List Nat := []
def in_51 : List Nat := [0, 1]
theorem following_A (l : List Nd) (hg : Good l l.length) (hN : l.length ≤ 100000) (t : Ts) (idw ido : Nat) (C : List Nat) (hC : ∀ c, c ∈ C → c < l.length) (g : List Nat) (hgl : g.length ≤ 100000) (a : Nat) (ha : g[0]? = some a) (hgC : ∀ c, c ∈ g → c ∈ C) (hgr : ∀ c, c ∈ g → rt l c = rt l a) (hall : ∀ c, c ∈ C → rt l c = rt l a → c ∈ g) (m : Nat) (hm : m ≤ rt l a) (hgap : ∀ j, m ≤ j → j < rt l a → ∀ c, c ∈ C → rt l j ≠ rt l c)
    (H : Heap) (K : V → Heap → Prop) (hW : Wk H idw ido l 8 t (colF (refQ l C 8 t) m)) (hk : K (.tu []) (wst H idw ido l 8 t (colF (refQ l C 8 t) (en l (rt l a) + 1)))) : ACalls Tryd.prog 51 [.pt idw 0 0 0, .d (.sl 1 (g.map natR))] H K := by
  have hwl := hW.hw
  have hw := hW.w
  rw [wkO] at hw
  have hal := hC a (hgC a (List.mem_of_getElem? ha))
  obtain ⟨r1, r2, r3⟩ := rt_spec hg hal
  have hcl0 := colF_len (refQ l C 8 t) m
  have hro := fun H K hk => root_A l hg hN 8 t idw ido (colF (refQ l C 8 t) m) a hal H K hk
  generalize hr : rt l a = r at *
  have hrl : r < l.length := by omega
  obtain ⟨x, hx⟩ : ∃ x, l[r]? = some x := ⟨l[r], List.getElem?_eq_getElem hrl⟩
  have hei := en_int hg hrl
  have hel := en_lt hg hrl
  rw [gd_of_get hx] at hei
  have h0 : g.length ≠ 0 := fun e => by have := (List.getElem?_eq_some_iff.1 ha).1; omega
  have g0 : ((0 : Int) < (g.length : Int)) = True := eq_true (by omega)
  have y0 : ((0 : Int) ≤ (r : Int)) = True := eq_true (by omega)
  have y1 : ((r : Int) < (l.length : Int)) = True := eq_true (by omega)
  have e1 : (r : Int) + x.sz + 1 = ((fmin l r g 0 : Nat) : Int) := by rw [fmin]; omega
  refine ACalls_of Tryd.func51 rfl in_51 (Nat.le_of_ble_eq_true rfl) ?_
  intro F hF
  simp (dsimp := false) only [go_sem, Nat.reduceAdd, Nat.reduceBEq, Nat.reduceEqDiff, Nat.reduceLT, Nat.reduceLeDiff, Nat.reduceMul, Int.reduceToNat, reduceCtorEq, ↓reduceIte, Tryd.ntmps51, Tryd.results51, ks_51, mu_51, ti_ag3, ti_ag34, ti_fl73_0, ti_fl101_3, ti_hb48, ti_hb77, ti_sb35, ti_sl34, ti_sl35, ndD, ndV, tsV, natR, hwl, hw, ha, g0, hx, y0, y1, e1, Int.reduceLE, in_51] at hF
  subst hF
  repeat' (first | with_reducible (first | refine And.intro ?_ ?_ | intro _ | refine AWp_seq ?_ | refine AWp_block ?_ | (refine hKv _ _ (AWp_nop ?_); clear hKv Kv) | (refine hKA ?_; clear hKA hKB KA KB) | (refine hKB ?_; clear hKA hKB KA KB) | refine AWp_skipN ?_ | refine AWp_exitO (by repeat (first | exact Out.hit | apply Out.thenA | apply Out.out rfl)) ?_) | ((first | with_reducible (first | (refine hKv _ _ ?_; clear hKv Kv) | ((first | refine AWp_regC mu_51 ks_51 ?_ | refine AWp_regE mu_51 ks_51 ?_); intro Kv hKv) | refine AWp_retR ?_) | refine hro _ _ hW ?_); try simp (dsimp := false) only [go_sem, Nat.reduceAdd, Nat.reduceBEq, Nat.reduceEqDiff, Nat.reduceLT, Nat.reduceLeDiff, Nat.reduceMul, Int.reduceToNat, reduceCtorEq, ↓reduceIte, Tryd.ntmps51, Tryd.results51, ks_51, mu_51, ti_ag3, ti_ag34, ti_fl73_0, ti_fl101_3, ti_hb48, ti_hb77, ti_sb35, ti_sl34, ti_sl35, ndD, ndV, tsV, natR, hwl, hw, ha, g0, hx, y0, y1, e1, Int.reduceLE]) | (refine AWp_condC rfl ?_; intro KA KB hKA hKB; try simp only [onB_true, onB_false, onB_dec, onB_ndec, onB_not, onB_and, onB_or]) | (refine AWp_condA rfl ?_ ?_) | with_reducible (first | refine onB_of ?_ ?_ | rfl) | omega)
  refine AWp_whileP (fun k : Nat => k ≤ g.length) (fun k => [(0, .pt idw 0 0 0), (4, .d (.i .i64 r)), (5, .d (.i .i64 (fmin l r g k))), (25, .d (.sl 1 (g.map natR))), (26, .d (.i .i64 g.length)), (27, .d (.i .i64 k))]) (fun k => H) (fun k => g.length - k) 0 (Nat.zero_le _) rfl ?_ ?_ ?_ ?_
  · simp (dsimp := false) only [go_sem, Nat.reduceAdd, Nat.reduceBEq, Nat.reduceEqDiff, Nat.reduceLT, Nat.reduceLeDiff, Nat.reduceMul, Int.reduceToNat, reduceCtorEq, ↓reduceIte, Tryd.ntmps51, Tryd.results51, ks_51, mu_51, ti_ag3, ti_ag34, ti_fl73_0, ti_fl101_3, ti_hb48, ti_hb77, ti_sb35, ti_sl34, ti_sl35, ndD, ndV, tsV, natR, hwl, hw, ha, g0, hx, y0, y1, e1, Int.reduceLE]
    first | done | exact hwl | (simp [hwl]; done)
  · intro k _
    exact Nat.le_refl _
  · intro k _
    exact closed_self H
  rintro k hk2
  by_cases hkC : k < g.length
  · obtain ⟨n, hn⟩ : ∃ n, g[k]? = some n := ⟨g[k], List.getElem?_eq_getElem hkC⟩
    have hnl := hC n (hgC n (List.mem_of_getElem? hn))
    obtain ⟨z, hz⟩ : ∃ z, l[n]? = some z := ⟨l[n], List.getElem?_eq_getElem hnl⟩
    have hen := en_int hg hnl
    have henl := en_lt hg hnl
    rw [gd_of_get hz] at hen
    have hfs := fmin_s (l := l) (r := r) hn
    have k1 : ((k : Int) < (g.length : Int)) = True := eq_true (by omega)
    have k0 : ((0 : Int) ≤ (k : Int)) = True := eq_true (by omega)
    have n0 : ((0 : Int) ≤ (n : Int)) = True := eq_true (by omega)
    have n1 : ((n : Int) < (l.length : Int)) = True := eq_true (by omega)
    have e2 : min (fmin l r g k : Int) ((n : Int) + z.sz + 1) = ((fmin l r g (k + 1) : Nat) : Int) := by omega
    have ek : (k : Int) + 1 = ((k + 1 : Nat) : Int) := by omega
    repeat' (first | with_reducible (first | refine And.intro ?_ ?_ | intro _ | refine AWp_seq ?_ | refine AWp_block ?_ | (refine hKv _ _ (AWp_nop ?_); clear hKv Kv) | (refine hKA ?_; clear hKA hKB KA KB) | (refine hKB ?_; clear hKA hKB KA KB) | refine AWp_skipN ?_ | refine AWp_exitO (by repeat (first | exact Out.hit | apply Out.thenA | apply Out.out rfl)) ?_) | (with_reducible (first | (refine hKv _ _ ?_; clear hKv Kv) | ((first | refine AWp_regC mu_51 ks_51 ?_ | refine AWp_regE mu_51 ks_51 ?_); intro Kv hKv) | refine AWp_retR ?_); try simp (dsimp := false) only [go_sem, Nat.reduceAdd, Nat.reduceBEq, Nat.reduceEqDiff, Nat.reduceLT, Nat.reduceLeDiff, Nat.reduceMul, Int.reduceToNat, reduceCtorEq, ↓reduceIte, Tryd.ntmps51, Tryd.results51, ks_51, mu_51, ti_ag3, ti_ag34, ti_fl73_0, ti_fl101_3, ti_hb48, ti_hb77, ti_sb35, ti_sl34, ti_sl35, ndD, ndV, tsV, natR, hwl, hw, hn, hz, k0, k1, n0, n1, e2, ek]) | (refine AWp_condC rfl ?_; intro KA KB hKA hKB; try simp only [onB_true, onB_false, onB_dec, onB_ndec, onB_not, onB_and, onB_or]) | (refine AWp_condA rfl ?_ ?_) | with_reducible (first | refine onB_of ?_ ?_ | rfl) | omega)
    all_goals first
      | omega
      | exact ⟨k + 1, by omega, by omega, rfl, by (repeat' (refine And.intro ?_ ?_)) <;> first | rfl | omega | (simp; done) | (simp; omega)⟩
      | exact ⟨k + 1, by omega, by omega, by (repeat' (refine And.intro ?_ ?_)) <;> first | rfl | omega | (simp; done) | (simp; omega)⟩
  obtain rfl : k = g.length := by omega
  have k1 : ((g.length : Int) < (g.length : Int)) = False := eq_false (by omega)
  repeat' (first | with_reducible (first | refine And.intro ?_ ?_ | intro _ | refine AWp_seq ?_ | refine AWp_block ?_ | (refine hKv _ _ (AWp_nop ?_); clear hKv Kv) | (refine hKA ?_; clear hKA hKB KA KB) | (refine hKB ?_; clear hKA hKB KA KB) | refine AWp_skipN ?_ | refine AWp_exitO (by repeat (first | exact Out.hit | apply Out.thenA | apply Out.out rfl)) ?_) | (with_reducible (first | (refine hKv _ _ ?_; clear hKv Kv) | ((first | refine AWp_regC mu_51 ks_51 ?_ | refine AWp_regE mu_51 ks_51 ?_); intro Kv hKv) | refine AWp_retR ?_); try simp (dsimp := false) only [go_sem, Nat.reduceAdd, Nat.reduceBEq, Nat.reduceEqDiff, Nat.reduceLT, Nat.reduceLeDiff, Nat.reduceMul, Int.reduceToNat, reduceCtorEq, ↓reduceIte, Tryd.ntmps51, Tryd.results51, ks_51, mu_51, ti_ag3, ti_ag34, ti_fl73_0, ti_fl101_3, ti_hb48, ti_hb77, ti_sb35, ti_sl34, ti_sl35, ndD, ndV, tsV, natR, hwl, hw, k1]) | (refine AWp_condC rfl ?_; intro KA KB hKA hKB; try simp only [onB_true, onB_false, onB_dec, onB_ndec, onB_not, onB_and, onB_or]) | (refine AWp_condA rfl ?_ ?_) | with_reducible (first | refine onB_of ?_ ?_ | rfl) | omega)
  have hfl := fmin_le (l := l) (r := r) (g := g) g.length
  have hfg := fmin_ge (l := l) (r := r) (g := g) (fun c hc => by
    have := rt_spec hg (hC c (hgC c hc))
    rw [hgr c hc] at this
    exact this.1) g.length (Nat.le_refl _)
  have hfa := fun c hc => (let ⟨i, hi⟩ := List.getElem?_of_mem hc; fmin_all (l := l) (r := r) hi g.length (List.getElem?_eq_some_iff.1 hi).1 : fmin l r g g.length ≤ en l c + 1)
  have hfh := fmin_hit (l := l) (r := r) (g := g) g.length (Nat.le_refl _)
  generalize fmin l r g g.length = F at hfl hfg hfa hfh ⊢
  have hin : ∀ j, r ≤ j → j ≤ en l r → rt l j = r := fun j j1 j2 => rt_in hg hrl (by omega) r3 j1 j2
  have hskip : colF (refQ l C 8 t) F = colF (refQ l C 8 t) m := by
    refine colF_skip (by omega) fun j j1 j2 => ?_
    by_cases hjr : j < r
    · exact refQ8_gap (hgap j j1 hjr)
    · refine refQ_false fun c hc => ?_
      rw [onAx8]
      by_cases e : rt l j = rt l c
      · have hcg := hall c hc (by rw [← e]; exact hin j (by omega) (by omega))
        have := hfa c hcg
        have : ¬ en l c < j := by omega
        simp [this]
      · simp [e]
  have hhit : ∀ i, F ≤ i → i ≤ en l r → refQ l C 8 t i = takeB (gd l i) 8 t false := fun i i1 i2 => by
    obtain ⟨c, hc, hFc⟩ := hfh.resolve_left (by omega)
    by_cases h2 : (gd l i).k = 2
    · have e : takeB (gd l i) 8 t false = false := by simp [takeB, h2]
      rw [e]
      exact refQ_false fun c _ => by rw [onAx8]; simp [h2]
    · rw [refQ_true (hgC c hc) (by
        rw [onAx8, hin i (by omega) i2, hgr c hc]
        have : en l c < i := by omega
        simp [this, h2])]
      simp [takeB, h2]
  refine AWp_whileP (fun i : Nat => F ≤ i ∧ i ≤ en l r + 1) (fun i => [(0, .pt idw 0 0 0), (4, .d (.i .i64 r)), (8, .d (.i .i64 i))]) (fun i => wst H idw ido l 8 t (colF (refQ l C 8 t) i)) (fun i => l.length + 1 - i) F ⟨Nat.le_refl _, hfl⟩ ?_ ?_ ?_ ?_ ?_
  · rw [hskip, hW.self]
  · simp (dsimp := false) only [go_sem, Nat.reduceAdd, Nat.reduceBEq, Nat.reduceEqDiff, Nat.reduceLT, Nat.reduceLeDiff, Nat.reduceMul, Int.reduceToNat, reduceCtorEq, ↓reduceIte, Tryd.ntmps51, Tryd.results51, ks_51, mu_51, ti_ag3, ti_ag34, ti_fl73_0, ti_fl101_3, ti_hb48, ti_hb77, ti_sb35, ti_sl34, ti_sl35, ndD, ndV, tsV, natR, hwl, hw, k1]
    first | done | (rw [hW.len]; exact hwl) | (simp [wst, hwl]; done)
  · intro i _
    rw [hW.len]; exact Nat.le_refl _
  · intro i _
    exact hW.closed _
  rintro i ⟨i1, i2⟩
  have hwi := (hW.next (colF (refQ l C 8 t) i)).w
  have hli := hW.len (colF (refQ l C 8 t) i)
  rw [wkO] at hwi
  by_cases hie : i ≤ en l r
  · have hil : i < l.length := by omega
    obtain ⟨y, hy⟩ : ∃ y, l[i]? = some y := ⟨l[i], List.getElem?_eq_getElem hil⟩
    have hie' : ((i : Int) ≤ (r : Int) + x.sz) = True := eq_true (by omega)
    have hq := hhit i i1 hie
    rw [gd_of_get hy] at hq
    have hcl := colF_len (refQ l C 8 t) i
    have ht : ∀ K, K (.tu []) (wst H idw ido l 8 t (colF (refQ l C 8 t) (i + 1))) → ACalls Tryd.prog 48 [.pt idw 0 0 0, .d (.i .i64 i), .d (.b false)] (wst H idw ido l 8 t (colF (refQ l C 8 t) i)) K := fun K hk => take_A l hN 8 t idw ido _ (by omega) i false y hy _ K (hW.next _) (by rw [hW.wst2, tk_col hq]; exact hk)
    have ec : (i : Int) + 1 = ((i + 1 : Nat) : Int) := by omega
    repeat' (first | with_reducible (first | refine And.intro ?_ ?_ | intro _ | refine AWp_seq ?_ | refine AWp_block ?_ | (refine hKv _ _ (AWp_nop ?_); clear hKv Kv) | (refine hKA ?_; clear hKA hKB KA KB) | (refine hKB ?_; clear hKA hKB KA KB) | refine AWp_skipN ?_ | refine AWp_exitO (by repeat (first | exact Out.hit | apply Out.thenA | apply Out.out rfl)) ?_) | ((first | with_reducible (first | (refine hKv _ _ ?_; clear hKv Kv) | ((first | refine AWp_regC mu_51 ks_51 ?_ | refine AWp_regE mu_51 ks_51 ?_); intro Kv hKv) | refine AWp_retR ?_) | refine ht _ ?_); try simp (dsimp := false) only [go_sem, Nat.reduceAdd, Nat.reduceBEq, Nat.reduceEqDiff, Nat.reduceLT, Nat.reduceLeDiff, Nat.reduceMul, Int.reduceToNat, reduceCtorEq, ↓reduceIte, Tryd.ntmps51, Tryd.results51, ks_51, mu_51, ti_ag3, ti_ag34, ti_fl73_0, ti_fl101_3, ti_hb48, ti_hb77, ti_sb35, ti_sl34, ti_sl35, ndD, ndV, tsV, natR, hwi, hli, hwl, hx, y0, y1, hie', ec]) | (refine AWp_condC rfl ?_; intro KA KB hKA hKB; try simp only [onB_true, onB_false, onB_dec, onB_ndec, onB_not, onB_and, onB_or]) | (refine AWp_condA rfl ?_ ?_) | with_reducible (first | refine onB_of ?_ ?_ | rfl) | omega)
    all_goals first
      | omega
      | exact ⟨i + 1, ⟨by omega, by omega⟩, by omega, rfl, by (repeat' (refine And.intro ?_ ?_)) <;> first | rfl | omega | (rw [hW.len]; exact hwl) | (simp; done) | (simp; omega)⟩
  · have hie' : ((i : Int) ≤ (r : Int) + x.sz) = False := eq_false (by omega)
    obtain rfl : i = en l r + 1 := by omega
    repeat' (first | with_reducible (first | refine And.intro ?_ ?_ | intro _ | refine AWp_seq ?_ | refine AWp_block ?_ | (refine hKv _ _ (AWp_nop ?_); clear hKv Kv) | (refine hKA ?_; clear hKA hKB KA KB) | (refine hKB ?_; clear hKA hKB KA KB) | refine AWp_skipN ?_ | refine AWp_exitO (by repeat (first | exact Out.hit | apply Out.thenA | apply Out.out rfl)) ?_) | (with_reducible (first | (refine hKv _ _ ?_; clear hKv Kv) | ((first | refine AWp_regC mu_51 ks_51 ?_ | refine AWp_regE mu_51 ks_51 ?_); intro Kv hKv) | refine AWp_retR ?_); try simp (dsimp := false) only [go_sem, Nat.reduceAdd, Nat.reduceBEq, Nat.reduceEqDiff, Nat.reduceLT, Nat.reduceLeDiff, Nat.reduceMul, Int.reduceToNat, reduceCtorEq, ↓reduceIte, Tryd.ntmps51, Tryd.results51, ks_51, mu_51, ti_ag3, ti_ag34, ti_fl73_0, ti_fl101_3, ti_hb48, ti_hb77, ti_sb35, ti_sl34, ti_sl35, ndD, ndV, tsV, natR, hwi, hli, hwl, hx, y0, y1, hie']) | (refine AWp_condC rfl ?_; intro KA KB hKA hKB; try simp only [onB_true, onB_false, onB_dec, onB_ndec, onB_not, onB_and, onB_or]) | (refine AWp_condA rfl ?_ ?_) | with_reducible (first | refine onB_of ?_ ?_ | rfl) | omega)
    all_goals try first | (refine AWp_skip ?_; simp (dsimp := false) only [go_sem, Nat.reduceAdd, Nat.reduceBEq, Nat.reduceEqDiff, Nat.reduceLT, Nat.reduceLeDiff, Nat.reduceMul, Int.reduceToNat, reduceCtorEq, ↓reduceIte, Tryd.ntmps51, Tryd.results51, ks_51, mu_51, ti_ag3, ti_ag34, ti_fl73_0, ti_fl101_3, ti_hb48, ti_hb77, ti_sb35, ti_sl34, ti_sl35, ndD, ndV, tsV, natR, hwi, hli, hwl, hx, y0, y1, hie']) | (refine AWp_exit ?_; simp (dsimp := false) only [go_sem, Nat.reduceAdd, Nat.reduceBEq, Nat.reduceEqDiff, Nat.reduceLT, Nat.reduceLeDiff, Nat.reduceMul, Int.reduceToNat, reduceCtorEq, ↓reduceIte, Tryd.ntmps51, Tryd.results51, ks_51, mu_51, ti_ag3, ti_ag34, ti_fl73_0, ti_fl101_3, ti_hb48, ti_hb77, ti_sb35, ti_sl34, ti_sl35, ndD, ndV, tsV, natR, hwi, hli, hwl, hx, y0, y1, hie'])
    all_goals first
      | omega
      | exact keepS hk (by rw [hW.len]; exact Nat.le_refl _) (hW.closed _) (by simp [Bel_tu])
end Go.Proofs.YtpgdflhcmijaiaaDoor
namespace Go.Proofs.YtpgdflhcmijaiaaDoor
open Go Go.Proofs.YtpgdflhcmijaiaaDoor.Ab
variable [Glo]
set_option maxHeartbeats 4000000
set_option maxRecDepth 20000
def ks_52 : Nat → List Nat
  | 0 => [0, 4]
  | 1 => [0, 4, 5]
  | 2 => [0, 4, 5, 17]
  | 3 => [0, 4, 5]
  | 4 => [0, 4, 5, 31]
  | 5 => [0, 4, 5]
  | _ => []
def mu_52 : List Nat := []
def in_52 : List Nat := [0, 1]
theorem preceding_A (l : List Nd) (hg : Good l l.length) (hN : l.length ≤ 100000) (t : Ts) (idw ido : Nat) (C : List Nat) (hC : ∀ c, c ∈ C → c < l.length) (g : List Nat) (hgl : g.length ≤ 100000) (a : Nat) (ha : g[g.length - 1]? = some a) (hga : ∀ c, c ∈ g → c ≤ a) (hgC : ∀ c, c ∈ g → c ∈ C) (hgr : ∀ c, c ∈ g → rt l c = rt l a) (hall : ∀ c, c ∈ C → rt l c = rt l a → c ∈ g) (m : Nat) (hm : m ≤ rt l a) (hgap : ∀ j, m ≤ j → j < rt l a → ∀ c, c ∈ C → rt l j ≠ rt l c)
    (H : Heap) (K : V → Heap → Prop) (hW : Wk H idw ido l 9 t (colF (refQ l C 9 t) m)) (hk : K (.tu []) (wst H idw ido l 9 t (colF (refQ l C 9 t) (en l (rt l a) + 1)))) : ACalls Tryd.prog 52 [.pt idw 0 0 0, .d (.sl 1 (g.map natR))] H K := by
  have hwl := hW.hw
  have hw := hW.w
  rw [wkO] at hw
  have hal := hC a (hgC a (List.mem_of_getElem? ha))
  obtain ⟨r1, r2, r3⟩ := rt_spec hg hal
  have hcl0 := colF_len (refQ l C 9 t) m
  have hro := fun H K hk => root_A l hg hN 9 t idw ido (colF (refQ l C 9 t) m) a hal H K hk
  generalize hr : rt l a = r at *
  have hrl : r < l.length := by omega
  have hel := en_lt hg hrl
  have h0 : g.length ≠ 0 := fun e => by have := (List.getElem?_eq_some_iff.1 ha).1; omega
  have g0 : ((0 : Int) ≤ (g.length : Int) - 1) = True := eq_true (by omega)
  have g1 : ((g.length : Int) - 1 < (g.length : Int)) = True := eq_true (by omega)
  have g2 : ((g.length : Int) - 1).toNat = g.length - 1 := by omega
  have hin : ∀ j, r ≤ j → j ≤ en l r → rt l j = r := fun j j1 j2 => rt_in hg hrl (by omega) r3 j1 j2
  refine ACalls_of Tryd.func52 rfl in_52 (Nat.le_of_ble_eq_true rfl) ?_
  intro F hF
  simp (dsimp := false) only [go_sem, Nat.reduceAdd, Nat.reduceBEq, Nat.reduceEqDiff, Nat.reduceLT, Nat.reduceLeDiff, Nat.reduceMul, Int.reduceToNat, reduceCtorEq, ↓reduceIte, Tryd.ntmps52, Tryd.results52, ks_52, mu_52, ti_ag3, ti_ag34, ti_fl73_0, ti_fl101_3, ti_hb48, ti_hb77, ti_sb35, ti_sl34, ti_sl35, ndD, ndV, tsV, natR, hwl, hw, ha, g0, g1, g2, in_52] at hF
  subst hF
  repeat' (first | with_reducible (first | refine And.intro ?_ ?_ | intro _ | refine AWp_seq ?_ | refine AWp_block ?_ | (refine hKv _ _ (AWp_nop ?_); clear hKv Kv) | (refine hKA ?_; clear hKA hKB KA KB) | (refine hKB ?_; clear hKA hKB KA KB) | refine AWp_skipN ?_ | refine AWp_exitO (by repeat (first | exact Out.hit | apply Out.thenA | apply Out.out rfl)) ?_) | ((first | with_reducible (first | (refine hKv _ _ ?_; clear hKv Kv) | ((first | refine AWp_regC mu_52 ks_52 ?_ | refine AWp_regE mu_52 ks_52 ?_); intro Kv hKv) | refine AWp_retR ?_) | refine hro _ _ hW ?_); try simp (dsimp := false) only [go_sem, Nat.reduceAdd, Nat.reduceBEq, Nat.reduceEqDiff, Nat.reduceLT, Nat.reduceLeDiff, Nat.reduceMul, Int.reduceToNat, reduceCtorEq, ↓reduceIte, Tryd.ntmps52, Tryd.results52, ks_52, mu_52, ti_ag3, ti_ag34, ti_fl73_0, ti_fl101_3, ti_hb48, ti_hb77, ti_sb35, ti_sl34, ti_sl35, ndD, ndV, tsV, natR, hwl, hw, ha, g0, g1, g2]) | (refine AWp_condC rfl ?_; intro KA KB hKA hKB; try simp only [onB_true, onB_false, onB_dec, onB_ndec, onB_not, onB_and, onB_or]) | (refine AWp_condA rfl ?_ ?_) | with_reducible (first | refine onB_of ?_ ?_ | rfl) | omega)
  have hskip : colF (refQ l C 9 t) r = colF (refQ l C 9 t) m := colF_skip hm fun j j1 j2 => refQ9_gap (hgap j j1 j2)
  have hend : colF (refQ l C 9 t) (en l r + 1) = colF (refQ l C 9 t) a := by
    refine colF_skip (by omega) fun j j1 j2 => refQ_false fun c hc => ?_
    rw [onAx9]
    by_cases e : rt l j = rt l c
    · have hcg := hall c hc (by rw [← e]; exact hin j (by omega) (by omega))
      have := hga c hcg
      have := en_ge l j
      have : ¬ en l j < c := by omega
      simp [this]
    · simp [e]
  have hhit : ∀ i, r ≤ i → i < a → en l i < a → refQ l C 9 t i = takeB (gd l i) 9 t false := fun i i1 i2 i3 => by
    by_cases h2 : (gd l i).k = 2
    · have e : takeB (gd l i) 9 t false = false := by simp [takeB, h2]
      rw [e]
      exact refQ_false fun c _ => by rw [onAx9]; simp [h2]
    · rw [refQ_true (hgC a (List.mem_of_getElem? ha)) (by
        rw [onAx9, hin i i1 (by omega), hr]
        simp [i3, h2])]
      simp [takeB, h2]
  have hmiss : ∀ i, r ≤ i → i < a → ¬ en l i < a → refQ l C 9 t i = false := fun i i1 i2 i3 => refQ_false fun c hc => by
    rw [onAx9]
    by_cases e : rt l i = rt l c
    · have hcg := hall c hc (by rw [← e]; exact hin i i1 (by omega))
      have := hga c hcg
      have : ¬ en l i < c := by omega
      simp [this]
    · simp [e]
  refine AWp_whileP (fun i : Nat => r ≤ i ∧ i ≤ a) (fun i => [(0, .pt idw 0 0 0), (4, .d (.i .i64 a)), (5, .d (.i .i64 i))]) (fun i => wst H idw ido l 9 t (colF (refQ l C 9 t) i)) (fun i => l.length - i) r ⟨Nat.le_refl _, r1⟩ ?_ ?_ ?_ ?_ ?_
  · rw [hskip, hW.self]
  · simp (dsimp := false) only [go_sem, Nat.reduceAdd, Nat.reduceBEq, Nat.reduceEqDiff, Nat.reduceLT, Nat.reduceLeDiff, Nat.reduceMul, Int.reduceToNat, reduceCtorEq, ↓reduceIte, Tryd.ntmps52, Tryd.results52, ks_52, mu_52, ti_ag3, ti_ag34, ti_fl73_0, ti_fl101_3, ti_hb48, ti_hb77, ti_sb35, ti_sl34, ti_sl35, ndD, ndV, tsV, natR, hwl, hw, ha, g0, g1, g2]
    first | done | (rw [hW.len]; exact hwl) | (simp [wst, hwl]; done)
  · intro i _
    rw [hW.len]; exact Nat.le_refl _
  · intro i _
    exact hW.closed _
  rintro i ⟨i1, i2⟩
  have hwi := (hW.next (colF (refQ l C 9 t) i)).w
  have hli := hW.len (colF (refQ l C 9 t) i)
  rw [wkO] at hwi
  by_cases hie : i < a
  · have hil : i < l.length := by omega
    obtain ⟨y, hy⟩ : ∃ y, l[i]? = some y := ⟨l[i], List.getElem?_eq_getElem hil⟩
    have hei := en_int hg hil
    have heil := en_lt hg hil
    rw [gd_of_get hy] at hei
    have hie' : ((i : Int) < (a : Int)) = True := eq_true (by omega)
    have y0 : ((0 : Int) ≤ (i : Int)) = True := eq_true (by omega)
    have y1 : ((i : Int) < (l.length : Int)) = True := eq_true (by omega)
    have ec : (i : Int) + 1 = ((i + 1 : Nat) : Int) := by omega
    have hcl := colF_len (refQ l C 9 t) i
    by_cases hlt : en l i < a
    · have hlt' : ((i : Int) + y.sz < (a : Int)) = True := eq_true (by omega)
      have hq := hhit i i1 hie hlt
      rw [gd_of_get hy] at hq
      have ht : ∀ K, K (.tu []) (wst H idw ido l 9 t (colF (refQ l C 9 t) (i + 1))) → ACalls Tryd.prog 48 [.pt idw 0 0 0, .d (.i .i64 i), .d (.b false)] (wst H idw ido l 9 t (colF (refQ l C 9 t) i)) K := fun K hk => take_A l hN 9 t idw ido _ (by omega) i false y hy _ K (hW.next _) (by rw [hW.wst2, tk_col hq]; exact hk)
      repeat' (first | with_reducible (first | refine And.intro ?_ ?_ | intro _ | refine AWp_seq ?_ | refine AWp_block ?_ | (refine hKv _ _ (AWp_nop ?_); clear hKv Kv) | (refine hKA ?_; clear hKA hKB KA KB) | (refine hKB ?_; clear hKA hKB KA KB) | refine AWp_skipN ?_ | refine AWp_exitO (by repeat (first | exact Out.hit | apply Out.thenA | apply Out.out rfl)) ?_) | ((first | with_reducible (first | (refine hKv _ _ ?_; clear hKv Kv) | ((first | refine AWp_regC mu_52 ks_52 ?_ | refine AWp_regE mu_52 ks_52 ?_); intro Kv hKv) | refine AWp_retR ?_) | refine ht _ ?_); try simp (dsimp := false) only [go_sem, Nat.reduceAdd, Nat.reduceBEq, Nat.reduceEqDiff, Nat.reduceLT, Nat.reduceLeDiff, Nat.reduceMul, Int.reduceToNat, reduceCtorEq, ↓reduceIte, Tryd.ntmps52, Tryd.results52, ks_52, mu_52, ti_ag3, ti_ag34, ti_fl73_0, ti_fl101_3, ti_hb48, ti_hb77, ti_sb35, ti_sl34, ti_sl35, ndD, ndV, tsV, natR, hwi, hli, hwl, hy, y0, y1, hie', hlt', ec]) | (refine AWp_condC rfl ?_; intro KA KB hKA hKB; try simp only [onB_true, onB_false, onB_dec, onB_ndec, onB_not, onB_and, onB_or]) | (refine AWp_condA rfl ?_ ?_) | with_reducible (first | refine onB_of ?_ ?_ | rfl) | omega)
      all_goals first
        | omega
        | exact ⟨i + 1, ⟨by omega, by omega⟩, by omega, rfl, by (repeat' (refine And.intro ?_ ?_)) <;> first | rfl | omega | (rw [hW.len]; exact hwl) | (simp; done) | (simp; omega)⟩
    · have hlt' : ((i : Int) + y.sz < (a : Int)) = False := eq_false (by omega)
      have hq := hmiss i i1 hie hlt
      repeat' (first | with_reducible (first | refine And.intro ?_ ?_ | intro _ | refine AWp_seq ?_ | refine AWp_block ?_ | (refine hKv _ _ (AWp_nop ?_); clear hKv Kv) | (refine hKA ?_; clear hKA hKB KA KB) | (refine hKB ?_; clear hKA hKB KA KB) | refine AWp_skipN ?_ | refine AWp_exitO (by repeat (first | exact Out.hit | apply Out.thenA | apply Out.out rfl)) ?_) | (with_reducible (first | (refine hKv _ _ ?_; clear hKv Kv) | ((first | refine AWp_regC mu_52 ks_52 ?_ | refine AWp_regE mu_52 ks_52 ?_); intro Kv hKv) | refine AWp_retR ?_); try simp (dsimp := false) only [go_sem, Nat.reduceAdd, Nat.reduceBEq, Nat.reduceEqDiff, Nat.reduceLT, Nat.reduceLeDiff, Nat.reduceMul, Int.reduceToNat, reduceCtorEq, ↓reduceIte, Tryd.ntmps52, Tryd.results52, ks_52, mu_52, ti_ag3, ti_ag34, ti_fl73_0, ti_fl101_3, ti_hb48, ti_hb77, ti_sb35, ti_sl34, ti_sl35, ndD, ndV, tsV, natR, hwi, hli, hwl, hy, y0, y1, hie', hlt', ec]) | (refine AWp_condC rfl ?_; intro KA KB hKA hKB; try simp only [onB_true, onB_false, onB_dec, onB_ndec, onB_not, onB_and, onB_or]) | (refine AWp_condA rfl ?_ ?_) | with_reducible (first | refine onB_of ?_ ?_ | rfl) | omega)
      all_goals first
        | omega
        | exact ⟨i + 1, ⟨by omega, by omega⟩, by omega, by rw [colF_miss hq], by (repeat' (refine And.intro ?_ ?_)) <;> first | rfl | omega | (rw [hW.len]; exact hwl) | (simp; done) | (simp; omega)⟩
  · have hie' : ((i : Int) < (a : Int)) = False := eq_false (by omega)
    obtain rfl : i = a := by omega
    rw [hend] at hk
    repeat' (first | with_reducible (first | refine And.intro ?_ ?_ | intro _ | refine AWp_seq ?_ | refine AWp_block ?_ | (refine hKv _ _ (AWp_nop ?_); clear hKv Kv) | (refine hKA ?_; clear hKA hKB KA KB) | (refine hKB ?_; clear hKA hKB KA KB) | refine AWp_skipN ?_ | refine AWp_exitO (by repeat (first | exact Out.hit | apply Out.thenA | apply Out.out rfl)) ?_) | (with_reducible (first | (refine hKv _ _ ?_; clear hKv Kv) | ((first | refine AWp_regC mu_52 ks_52 ?_ | refine AWp_regE mu_52 ks_52 ?_); intro Kv hKv) | refine AWp_retR ?_); try simp (dsimp := false) only [go_sem, Nat.reduceAdd, Nat.reduceBEq, Nat.reduceEqDiff, Nat.reduceLT, Nat.reduceLeDiff, Nat.reduceMul, Int.reduceToNat, reduceCtorEq, ↓reduceIte, Tryd.ntmps52, Tryd.results52, ks_52, mu_52, ti_ag3, ti_ag34, ti_fl73_0, ti_fl101_3, ti_hb48, ti_hb77, ti_sb35, ti_sl34, ti_sl35, ndD, ndV, tsV, natR, hwi, hli, hwl, hie']) | (refine AWp_condC rfl ?_; intro KA KB hKA hKB; try simp only [onB_true, onB_false, onB_dec, onB_ndec, onB_not, onB_and, onB_or]) | (refine AWp_condA rfl ?_ ?_) | with_reducible (first | refine onB_of ?_ ?_ | rfl) | omega)
    all_goals try first | (refine AWp_skip ?_; simp (dsimp := false) only [go_sem, Nat.reduceAdd, Nat.reduceBEq, Nat.reduceEqDiff, Nat.reduceLT, Nat.reduceLeDiff, Nat.reduceMul, Int.reduceToNat, reduceCtorEq, ↓reduceIte, Tryd.ntmps52, Tryd.results52, ks_52, mu_52, ti_ag3, ti_ag34, ti_fl73_0, ti_fl101_3, ti_hb48, ti_hb77, ti_sb35, ti_sl34, ti_sl35, ndD, ndV, tsV, natR, hwi, hli, hwl, hie']) | (refine AWp_exit ?_; simp (dsimp := false) only [go_sem, Nat.reduceAdd, Nat.reduceBEq, Nat.reduceEqDiff, Nat.reduceLT, Nat.reduceLeDiff, Nat.reduceMul, Int.reduceToNat, reduceCtorEq, ↓reduceIte, Tryd.ntmps52, Tryd.results52, ks_52, mu_52, ti_ag3, ti_ag34, ti_fl73_0, ti_fl101_3, ti_hb48, ti_hb77, ti_sb35, ti_sl34, ti_sl35, ndD, ndV, tsV, natR, hwi, hli, hwl, hie'])
    all_goals first
      | omega
      | exact keepS hk (by rw [hW.len]; exact Nat.le_refl _) (hW.closed _) (by simp [Bel_tu])
end Go.Proofs.YtpgdflhcmijaiaaDoor
