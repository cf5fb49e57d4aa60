/- Inserting one by one: the walk. No condition. -/
import Derived.Test.YtpgdflhcmijaiaaDoorQ34
set_option linter.all false
set_option linter.unusedSimpArgs false
set_option linter.unusedVariables false
namespace Go.Proofs.YtpgdflhcmijaiaaDoor
open Go Go.Proofs.YtpgdflhcmijaiaaDoor.Ab
variable [Glo]
set_option maxHeartbeats 4000000
set_option maxRecDepth 20000
structure Cmp {α : Type} (dd : α → D) (cf : α → α → Int) (fg : Nat) (caps : List V) (m : Nat) (P : α → Prop) : Prop where
  hb : hasBody Tryd.prog fg = true
  bel : ∀ v, v ∈ caps → Bel m v
  call : ∀ (x y : α) (H : Heap) (K : V → Heap → Prop), P x → P y → K (.d (.i .i64 (cf x y))) H → ACalls Tryd.prog fg (.d (dd x) :: .d (dd y) :: caps) H K
theorem Cmp.belV {α : Type} {dd : α → D} {cf : α → α → Int} {fg : Nat} {caps : List V} {m : Nat} {P : α → Prop} (h : Cmp dd cf fg caps m P) : Bel m (.fn fg caps) := by
  simp only [Bel_fn]
  exact h.bel
def ks_90 : Nat → List Nat
  | 0 => [0, 1, 2, 3, 8]
  | 1 => [0, 1, 2, 3, 8, 14]
  | 2 => [0, 1, 2, 3, 8]
  | 3 => [0, 1, 2, 3, 8, 9]
  | 4 => [0, 1, 2, 3, 8, 9, 34]
  | 5 => [0, 1, 2, 3, 8, 9]
  | 6 => [0, 1, 2, 3, 8, 9]
  | _ => []
def mu_90 : List Nat := []
def in_90 : List Nat := [0, 1, 2, 3]
def xd_90 : Nat → Nat × Nat × List Bool
  | 6 => (16, 15, [])
  | _ => (0, 0, [])
def vw_90 : Nat → List Nat
  | _ => []
def nd_90 : Nat → Nat
  | 4 => 16
  | _ => 0
theorem insertion_A {α : Type} (dd : α → D) (cf : α → α → Int) (tg : α → Nat) (w : Weak cf) (fg : Nat) (caps : List V) (P : α → Prop) (id ver n : Nat) (g : Nat → α) (a b : Nat) (hP : ∀ k, k < n → P (g k)) (hn : n ≤ 1000000000) (hab : a ≤ b) (hb : b ≤ n) (ht : ∀ i j, a ≤ i → i < j → j < b → tg (g i) < tg (g j)) (H : Heap) (hc : Cmp dd cf fg caps H.length P) (K : V → Heap → Prop) (hr : H[id]? = some (sob dd ver n g))
    (hk : ∀ g', Pst a b g g' → Srt cf tg g' a b → K (.tu []) (H.set id (sob dd ver n g'))) :
    ACalls Tryd.prog 90 [.os id ver, .d (.i .i64 a), .d (.i .i64 b), .fn fg caps] H K := by
  have hid := lt_of_get hr
  have hbel := hc.belV
  have hhb := hc.hb
  have e1 : (a : Int) + 1 = ((a + 1 : Nat) : Int) := by omega
  have hidl : ∀ X, id < (H.set id X).length := fun X => by simpa using hid
  have hcapl : ∀ X v, v ∈ caps → Bel (H.set id X).length v := fun X v hv => by simpa using hc.bel v hv
  refine ACalls_of Tryd.func90 rfl in_90 (Nat.le_of_ble_eq_true rfl) ?_
  intro F hF
  simp (dsimp := false) only [go_sem, Nat.reduceAdd, Nat.reduceBEq, Nat.reduceEqDiff, Nat.reduceLT, Nat.reduceLeDiff, Nat.reduceMul, Int.reduceToNat, reduceCtorEq, ↓reduceIte, Tryd.ntmps90, Tryd.results90, ks_90, mu_90, nd_90, xd_90, vw_90, ti_ag3, ti_sl35, ti_sz3, hid, e1, in_90] at hF
  subst hF
  repeat' (first | with_reducible (first | refine And.intro ?_ ?_ | intro _ | refine AWp_seq ?_ | refine AWp_block ?_ | (refine hKv _ _ (AWp_nop ?_); clear hKv Kv) | (refine hKA ?_; clear hKA hKB KA KB) | (refine hKB ?_; clear hKA hKB KA KB) | refine AWp_skipN ?_ | refine AWp_exitO (by repeat (first | exact Out.hit | apply Out.thenA | apply Out.out rfl)) ?_) | (with_reducible (first | (refine hKv _ _ ?_; clear hKv Kv) | ((first | refine AWp_regC mu_90 ks_90 ?_ | refine AWp_drawX xd_90 mu_90 ks_90 vw_90 (by decide) ti_mixed (by kernel_rfl) ?_ | refine AWp_draw nd_90 mu_90 ks_90 ti_mixed (by kernel_rfl) ?_ | refine AWp_regE mu_90 ks_90 ?_ | refine AWp_drawE nd_90 mu_90 ks_90 ti_mixed (by kernel_rfl) ?_ | refine AWp_drawXE xd_90 mu_90 ks_90 vw_90 (by decide) ti_mixed (by kernel_rfl) ?_); intro Kv hKv) | refine AWp_retR ?_); try simp (dsimp := false) only [go_sem, Nat.reduceAdd, Nat.reduceBEq, Nat.reduceEqDiff, Nat.reduceLT, Nat.reduceLeDiff, Nat.reduceMul, Int.reduceToNat, reduceCtorEq, ↓reduceIte, Tryd.ntmps90, Tryd.results90, ks_90, mu_90, nd_90, xd_90, vw_90, ti_ag3, ti_sl35, ti_sz3, hid, e1]) | (refine AWp_condC rfl ?_; intro KA KB hKA hKB; try simp only [onB_true, onB_false, onB_dec, onB_ndec, onB_not, onB_and, onB_or]) | (refine AWp_condA rfl ?_ ?_) | with_reducible (first | refine onB_of ?_ ?_ | rfl) | omega)
  refine AWp_whileP (fun y : Nat × (Nat → α) => a + 1 ≤ y.1 ∧ (y.1 ≤ b ∨ y.1 = a + 1) ∧ Pst a y.1 g y.2 ∧ Srt cf tg y.2 a y.1) (fun y => [(0, .os id ver), (1, .d (.i .i64 a)), (2, .d (.i .i64 b)), (3, .fn fg caps), (8, .d (.i .i64 y.1))]) (fun y => H.set id (sob dd ver n y.2)) (fun y => b - y.1) (a + 1, g) ⟨Nat.le_refl _, .inr rfl, Pst.refl _ _ _, fun i j h1 h2 h3 => by simp only [] at h3; omega⟩ ?_ ?_ ?_ ?_ ?_
  · exact (set_same hr).symm
  · simp (dsimp := false) only [go_sem, Nat.reduceAdd, Nat.reduceBEq, Nat.reduceEqDiff, Nat.reduceLT, Nat.reduceLeDiff, Nat.reduceMul, Int.reduceToNat, reduceCtorEq, ↓reduceIte, Tryd.ntmps90, Tryd.results90, ks_90, mu_90, nd_90, xd_90, vw_90, ti_ag3, ti_sl35, ti_sz3, hid, e1]
    first | done | exact ⟨hidl _, hcapl _⟩ | exact hcapl _ | exact ⟨hid, hc.bel⟩ | (simp [hid]; done)
  · intro i _
    simp
  · intro i _
    exact closed_set (closed_self H) (sob_bel dd _ _ _ _)
  rintro ⟨i, g1⟩ ⟨h1, h2, h3, h4⟩
  simp only [] at h1 h2 h3 h4 ⊢
  have hgx : ∀ X, (H.set id X)[id]? = some X := fun X => get_self hr X
  have hss : ∀ X Y, (H.set id X).set id Y = H.set id Y := fun X Y => List.set_set ..
  have hcap0 := hc.bel
  have hP1 : ∀ k, k < n → P (g1 k) := fun k hk => by
    by_cases hk2 : a ≤ k ∧ k < i
    · obtain ⟨q, q1, q2, q3⟩ := (h3.s (g1 k)).1 ⟨k, hk2.1, hk2.2, rfl⟩
      rw [← q3]; exact hP q (by omega)
    · rw [h3.o k (by omega)]; exact hP k hk
  by_cases hib : i < b
  · have hib' : ((i : Int) < (b : Int)) = True := eq_true (by omega)
    have htg : ∀ k, a ≤ k → k < i → tg (g1 k) < tg (g1 i) := fun k k1 k2 => by
      obtain ⟨q, q1, q2, q3⟩ := (h3.s (g1 k)).1 ⟨k, k1, k2, rfl⟩
      rw [← q3, h3.o i (.inr (Nat.le_refl _))]
      exact ht q i q1 q2 hib
    have ei : (i : Int) + 1 = ((i + 1 : Nat) : Int) := by omega
    repeat' (first | with_reducible (first | refine And.intro ?_ ?_ | intro _ | refine AWp_seq ?_ | refine AWp_block ?_ | (refine hKv _ _ (AWp_nop ?_); clear hKv Kv) | (refine hKA ?_; clear hKA hKB KA KB) | (refine hKB ?_; clear hKA hKB KA KB) | refine AWp_skipN ?_ | refine AWp_exitO (by repeat (first | exact Out.hit | apply Out.thenA | apply Out.out rfl)) ?_) | (with_reducible (first | (refine hKv _ _ ?_; clear hKv Kv) | ((first | refine AWp_regC mu_90 ks_90 ?_ | refine AWp_drawX xd_90 mu_90 ks_90 vw_90 (by decide) ti_mixed (by kernel_rfl) ?_ | refine AWp_draw nd_90 mu_90 ks_90 ti_mixed (by kernel_rfl) ?_ | refine AWp_regE mu_90 ks_90 ?_ | refine AWp_drawE nd_90 mu_90 ks_90 ti_mixed (by kernel_rfl) ?_ | refine AWp_drawXE xd_90 mu_90 ks_90 vw_90 (by decide) ti_mixed (by kernel_rfl) ?_); intro Kv hKv) | refine AWp_retR ?_); try simp (dsimp := false) only [go_sem, Nat.reduceAdd, Nat.reduceBEq, Nat.reduceEqDiff, Nat.reduceLT, Nat.reduceLeDiff, Nat.reduceMul, Int.reduceToNat, reduceCtorEq, ↓reduceIte, Tryd.ntmps90, Tryd.results90, ks_90, mu_90, nd_90, xd_90, vw_90, ti_ag3, ti_sl35, ti_sz3, hib', hid, hidl, hcapl, hcap0]) | (refine AWp_condC rfl ?_; intro KA KB hKA hKB; try simp only [onB_true, onB_false, onB_dec, onB_ndec, onB_not, onB_and, onB_or]) | (refine AWp_condA rfl ?_ ?_) | with_reducible (first | refine onB_of ?_ ?_ | rfl) | omega)
    refine AWp_whileP (fun j : Nat => a ≤ j ∧ j ≤ i ∧ ∀ k, j ≤ k → k < i → cf (g1 i) (g1 k) < 0) (fun j => [(0, .os id ver), (1, .d (.i .i64 a)), (2, .d (.i .i64 b)), (3, .fn fg caps), (8, .d (.i .i64 i)), (9, .d (.i .i64 j))]) (fun j => H.set id (sob dd ver n (insF g1 j i))) (fun j => j) i ⟨by omega, Nat.le_refl _, fun k k1 k2 => by omega⟩ ?_ ?_ ?_ ?_ ?_
    · rw [ins_self]
    · simp (dsimp := false) only [go_sem, Nat.reduceAdd, Nat.reduceBEq, Nat.reduceEqDiff, Nat.reduceLT, Nat.reduceLeDiff, Nat.reduceMul, Int.reduceToNat, reduceCtorEq, ↓reduceIte, Tryd.ntmps90, Tryd.results90, ks_90, mu_90, nd_90, xd_90, vw_90, ti_ag3, ti_sl35, ti_sz3, hib', hid, hidl, hcapl, hcap0]
      first | done | exact ⟨hidl _, hcapl _⟩ | exact hcapl _ | exact ⟨hid, hc.bel⟩ | exact hc.bel | (simp [hid]; done)
    · intro i _
      simp
    · intro i _
      exact closed_set (closed_self H) (sob_bel dd _ _ _ _)
    rintro j ⟨j1, j2, j3⟩
    have stop : (j = a ∨ ¬ cf (g1 i) (g1 (j - 1)) < 0) → Pst a (i + 1) g (insF g1 j i) ∧ Srt cf tg (insF g1 j i) a (i + 1) := fun hx =>
      ⟨(h3.wide (Nat.le_refl _) (by omega) (Nat.le_succ i)).trans (ins_post j1 j2 (Nat.lt_succ_self i)), ins_srt w j1 j2 h4 htg j3 hx⟩
    have vj : insF g1 j i j = g1 i := by rw [insF, if_neg (Nat.lt_irrefl _), if_pos rfl]
    by_cases hja : a < j
    · have hja' : ((a : Int) < (j : Int)) = True := eq_true (by omega)
      have vp : insF g1 j i (j - 1) = g1 (j - 1) := if_pos (by omega)
      have b0 : ((0 : Int) ≤ (j : Int)) = True := eq_true (by omega)
      have b1 : ((j : Int) < (n : Int)) = True := eq_true (by omega)
      have c0 : ((0 : Int) ≤ (j : Int) - 1) = True := eq_true (by omega)
      have c1 : ((j : Int) - 1 < (n : Int)) = True := eq_true (by omega)
      have c2 : ((j : Int) - 1).toNat = j - 1 := by omega
      have gj := fun g => tab_get dd (n := n) (g := g) (k := j) (by omega)
      have gp := fun g => tab_get dd (n := n) (g := g) (k := j - 1) (by omega)
      have call := fun H K hk => hc.call (g1 i) (g1 (j - 1)) H K (hP1 i (by omega)) (hP1 _ (by omega)) hk
      by_cases hlt : cf (g1 i) (g1 (j - 1)) < 0
      · have hlt' : (cf (g1 i) (g1 (j - 1)) < 0) = True := eq_true hlt
        have hts := fun g (i : Nat) x => tab_set dd (n := n) (g := g) (i := i) (x := x)
        have hst : upd (upd (insF g1 j i) j (g1 (j - 1))) (j - 1) (g1 i) = insF g1 (j - 1) i := by
          have := ins_step (g := g1) (j := j - 1) (i := i) (by omega)
          rw [show j - 1 + 1 = j by omega] at this
          rw [vp, vj] at this
          exact this
        have ej : (j : Int) - 1 = ((j - 1 : Nat) : Int) := by omega
        have hnext : ∀ k, j - 1 ≤ k → k < i → cf (g1 i) (g1 k) < 0 := fun k k1 k2 => by
          by_cases hk0 : k = j - 1
          · rw [hk0]; exact hlt
          · exact j3 k (by omega) k2
        repeat' (first | with_reducible (first | refine And.intro ?_ ?_ | intro _ | refine AWp_seq ?_ | refine AWp_block ?_ | (refine hKv _ _ (AWp_nop ?_); clear hKv Kv) | (refine hKA ?_; clear hKA hKB KA KB) | (refine hKB ?_; clear hKA hKB KA KB) | refine AWp_skipN ?_ | refine AWp_exitO (by repeat (first | exact Out.hit | apply Out.thenA | apply Out.out rfl)) ?_) | ((first | with_reducible (first | (refine hKv _ _ ?_; clear hKv Kv) | ((first | refine AWp_regC mu_90 ks_90 ?_ | refine AWp_drawX xd_90 mu_90 ks_90 vw_90 (by decide) ti_mixed (by kernel_rfl) ?_ | refine AWp_draw nd_90 mu_90 ks_90 ti_mixed (by kernel_rfl) ?_ | refine AWp_regE mu_90 ks_90 ?_ | refine AWp_drawE nd_90 mu_90 ks_90 ti_mixed (by kernel_rfl) ?_ | refine AWp_drawXE xd_90 mu_90 ks_90 vw_90 (by decide) ti_mixed (by kernel_rfl) ?_); intro Kv hKv) | refine AWp_retR ?_) | refine call _ _ ?_ | refine QCall_of (call _ _ (Two_intro _ _)) ?_); try simp (dsimp := false) only [go_sem, Nat.reduceAdd, Nat.reduceBEq, Nat.reduceEqDiff, Nat.reduceLT, Nat.reduceLeDiff, Nat.reduceMul, Int.reduceToNat, reduceCtorEq, ↓reduceIte, Tryd.ntmps90, Tryd.results90, ks_90, mu_90, nd_90, xd_90, vw_90, ti_ag3, ti_sl35, ti_sz3, sob, hgx, hss, hidl, hid, hcapl, hcap0, hhb, hja', vj, vp, b0, b1, c0, c1, c2, gj, gp, hlt', hts, hst, tab_len, List.length_set]) | (refine AWp_condC rfl ?_; intro KA KB hKA hKB; try simp only [onB_true, onB_false, onB_dec, onB_ndec, onB_not, onB_and, onB_or]) | (refine AWp_condA rfl ?_ ?_) | with_reducible (first | refine onB_of ?_ ?_ | rfl) | omega)
        all_goals first
          | omega
          | exact ⟨j - 1, ⟨by omega, by omega, hnext⟩, by omega, by (repeat' (refine And.intro ?_ ?_)) <;> first | rfl | omega | exact hcapl _ | exact hcap0 | (simp; done) | (simp; omega)⟩
      · have hlt' : (cf (g1 i) (g1 (j - 1)) < 0) = False := eq_false hlt
        obtain ⟨p1, p2⟩ := stop (.inr hlt)
        repeat' (first | with_reducible (first | refine And.intro ?_ ?_ | intro _ | refine AWp_seq ?_ | refine AWp_block ?_ | (refine hKv _ _ (AWp_nop ?_); clear hKv Kv) | (refine hKA ?_; clear hKA hKB KA KB) | (refine hKB ?_; clear hKA hKB KA KB) | refine AWp_skipN ?_ | refine AWp_exitO (by repeat (first | exact Out.hit | apply Out.thenA | apply Out.out rfl)) ?_) | ((first | with_reducible (first | (refine hKv _ _ ?_; clear hKv Kv) | ((first | refine AWp_regC mu_90 ks_90 ?_ | refine AWp_drawX xd_90 mu_90 ks_90 vw_90 (by decide) ti_mixed (by kernel_rfl) ?_ | refine AWp_draw nd_90 mu_90 ks_90 ti_mixed (by kernel_rfl) ?_ | refine AWp_regE mu_90 ks_90 ?_ | refine AWp_drawE nd_90 mu_90 ks_90 ti_mixed (by kernel_rfl) ?_ | refine AWp_drawXE xd_90 mu_90 ks_90 vw_90 (by decide) ti_mixed (by kernel_rfl) ?_); intro Kv hKv) | refine AWp_retR ?_) | refine call _ _ ?_ | refine QCall_of (call _ _ (Two_intro _ _)) ?_); try simp (dsimp := false) only [go_sem, Nat.reduceAdd, Nat.reduceBEq, Nat.reduceEqDiff, Nat.reduceLT, Nat.reduceLeDiff, Nat.reduceMul, Int.reduceToNat, reduceCtorEq, ↓reduceIte, Tryd.ntmps90, Tryd.results90, ks_90, mu_90, nd_90, xd_90, vw_90, ti_ag3, ti_sl35, ti_sz3, sob, hgx, hss, hidl, hid, hcapl, hcap0, hhb, hja', ei, vj, vp, b0, b1, c0, c1, c2, gj, gp, hlt', tab_len, List.length_set]) | (refine AWp_condC rfl ?_; intro KA KB hKA hKB; try simp only [onB_true, onB_false, onB_dec, onB_ndec, onB_not, onB_and, onB_or]) | (refine AWp_condA rfl ?_ ?_) | with_reducible (first | refine onB_of ?_ ?_ | rfl) | omega)
        all_goals first
          | omega
          | exact ⟨(i + 1, insF g1 j i), ⟨by show a + 1 ≤ i + 1; omega, .inl hib, p1, p2⟩, by show b - (i + 1) < b - i; omega, by (repeat' (refine And.intro ?_ ?_)) <;> first | rfl | omega | exact hcapl _ | exact hcap0 | (simp; done) | (simp; omega)⟩
    · have hja' : ((a : Int) < (j : Int)) = False := eq_false (by omega)
      obtain ⟨p1, p2⟩ := stop (.inl (by omega))
      repeat' (first | with_reducible (first | refine And.intro ?_ ?_ | intro _ | refine AWp_seq ?_ | refine AWp_block ?_ | (refine hKv _ _ (AWp_nop ?_); clear hKv Kv) | (refine hKA ?_; clear hKA hKB KA KB) | (refine hKB ?_; clear hKA hKB KA KB) | refine AWp_skipN ?_ | refine AWp_exitO (by repeat (first | exact Out.hit | apply Out.thenA | apply Out.out rfl)) ?_) | (with_reducible (first | (refine hKv _ _ ?_; clear hKv Kv) | ((first | refine AWp_regC mu_90 ks_90 ?_ | refine AWp_drawX xd_90 mu_90 ks_90 vw_90 (by decide) ti_mixed (by kernel_rfl) ?_ | refine AWp_draw nd_90 mu_90 ks_90 ti_mixed (by kernel_rfl) ?_ | refine AWp_regE mu_90 ks_90 ?_ | refine AWp_drawE nd_90 mu_90 ks_90 ti_mixed (by kernel_rfl) ?_ | refine AWp_drawXE xd_90 mu_90 ks_90 vw_90 (by decide) ti_mixed (by kernel_rfl) ?_); intro Kv hKv) | refine AWp_retR ?_); try simp (dsimp := false) only [go_sem, Nat.reduceAdd, Nat.reduceBEq, Nat.reduceEqDiff, Nat.reduceLT, Nat.reduceLeDiff, Nat.reduceMul, Int.reduceToNat, reduceCtorEq, ↓reduceIte, Tryd.ntmps90, Tryd.results90, ks_90, mu_90, nd_90, xd_90, vw_90, ti_ag3, ti_sl35, ti_sz3, sob, hgx, hss, hidl, hid, hcapl, hcap0, hhb, hja', ei, tab_len, List.length_set]) | (refine AWp_condC rfl ?_; intro KA KB hKA hKB; try simp only [onB_true, onB_false, onB_dec, onB_ndec, onB_not, onB_and, onB_or]) | (refine AWp_condA rfl ?_ ?_) | with_reducible (first | refine onB_of ?_ ?_ | rfl) | omega)
      all_goals first
        | omega
        | exact ⟨(i + 1, insF g1 j i), ⟨by show a + 1 ≤ i + 1; omega, .inl hib, p1, p2⟩, by show b - (i + 1) < b - i; omega, by (repeat' (refine And.intro ?_ ?_)) <;> first | rfl | omega | exact hcapl _ | exact hcap0 | (simp; done) | (simp; omega)⟩
  · have hib' : ((i : Int) < (b : Int)) = False := eq_false (by omega)
    have hk := hk g1 (by
      by_cases e : i = b
      · rw [← e]; exact h3
      · have hba : b = a := by omega
        refine ⟨fun k _ => ?_, fun x => ⟨fun ⟨k, k1, k2, _⟩ => by omega, fun ⟨k, k1, k2, _⟩ => by omega⟩⟩
        by_cases hka : k = a
        · obtain ⟨q, q1, q2, q3⟩ := (h3.s (g1 a)).1 ⟨a, Nat.le_refl _, by omega, rfl⟩
          have : q = a := by omega
          rw [hka, ← q3, this]
        · exact h3.o k (by omega)) (fun p q p1 p2 p3 => h4 p q p1 p2 (by omega))
    repeat' (first | with_reducible (first | refine And.intro ?_ ?_ | intro _ | refine AWp_seq ?_ | refine AWp_block ?_ | (refine hKv _ _ (AWp_nop ?_); clear hKv Kv) | (refine hKA ?_; clear hKA hKB KA KB) | (refine hKB ?_; clear hKA hKB KA KB) | refine AWp_skipN ?_ | refine AWp_exitO (by repeat (first | exact Out.hit | apply Out.thenA | apply Out.out rfl)) ?_) | (with_reducible (first | (refine hKv _ _ ?_; clear hKv Kv) | ((first | refine AWp_regC mu_90 ks_90 ?_ | refine AWp_drawX xd_90 mu_90 ks_90 vw_90 (by decide) ti_mixed (by kernel_rfl) ?_ | refine AWp_draw nd_90 mu_90 ks_90 ti_mixed (by kernel_rfl) ?_ | refine AWp_regE mu_90 ks_90 ?_ | refine AWp_drawE nd_90 mu_90 ks_90 ti_mixed (by kernel_rfl) ?_ | refine AWp_drawXE xd_90 mu_90 ks_90 vw_90 (by decide) ti_mixed (by kernel_rfl) ?_); intro Kv hKv) | refine AWp_retR ?_); try simp (dsimp := false) only [go_sem, Nat.reduceAdd, Nat.reduceBEq, Nat.reduceEqDiff, Nat.reduceLT, Nat.reduceLeDiff, Nat.reduceMul, Int.reduceToNat, reduceCtorEq, ↓reduceIte, Tryd.ntmps90, Tryd.results90, ks_90, mu_90, nd_90, xd_90, vw_90, ti_ag3, ti_sl35, ti_sz3, hib', hid, hidl, hcapl]) | (refine AWp_condC rfl ?_; intro KA KB hKA hKB; try simp only [onB_true, onB_false, onB_dec, onB_ndec, onB_not, onB_and, onB_or]) | (refine AWp_condA rfl ?_ ?_) | with_reducible (first | refine onB_of ?_ ?_ | rfl) | omega)
    all_goals try first | (refine AWp_skip ?_; simp (dsimp := false) only [go_sem, Nat.reduceAdd, Nat.reduceBEq, Nat.reduceEqDiff, Nat.reduceLT, Nat.reduceLeDiff, Nat.reduceMul, Int.reduceToNat, reduceCtorEq, ↓reduceIte, Tryd.ntmps90, Tryd.results90, ks_90, mu_90, nd_90, xd_90, vw_90, ti_ag3, ti_sl35, ti_sz3, hib', hid, hidl, hcapl]) | (refine AWp_exit ?_; simp (dsimp := false) only [go_sem, Nat.reduceAdd, Nat.reduceBEq, Nat.reduceEqDiff, Nat.reduceLT, Nat.reduceLeDiff, Nat.reduceMul, Int.reduceToNat, reduceCtorEq, ↓reduceIte, Tryd.ntmps90, Tryd.results90, ks_90, mu_90, nd_90, xd_90, vw_90, ti_ag3, ti_sl35, ti_sz3, hib', hid, hidl, hcapl])
    all_goals first
      | omega
      | exact keepS hk (by simp) (closed_set (closed_self H) (sob_bel dd _ _ _ _)) (by simp [Bel_tu])
end Go.Proofs.YtpgdflhcmijaiaaDoor
