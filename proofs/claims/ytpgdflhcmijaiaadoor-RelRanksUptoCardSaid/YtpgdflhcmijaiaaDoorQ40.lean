/- Sorting so that what is the same stays in its order: the walk. No condition. -/
import Derived.Test.YtpgdflhcmijaiaaDoorQ38
import Derived.Test.YtpgdflhcmijaiaaDoorQ39
set_option linter.all false
set_option linter.unusedSimpArgs false
set_option linter.unusedVariables false
namespace Go.Proofs.YtpgdflhcmijaiaaDoor
open Go Go.Proofs.YtpgdflhcmijaiaaDoor.Ab
variable [Glo]
set_option maxHeartbeats 4000000
set_option maxRecDepth 20000
def ks_68 : Nat → List Nat
  | 0 => [0, 1, 2, 6]
  | 1 => [0, 1, 2, 6, 7, 8]
  | 2 => [0, 1, 2, 6, 7, 8, 13]
  | 3 => [0, 1, 2, 6, 8]
  | 4 => [0, 1, 2, 6, 7, 8]
  | 5 => [0, 1, 2, 6, 7, 8]
  | 6 => [0, 1, 2, 6]
  | 7 => [0, 1, 2, 6, 30]
  | 8 => [0, 1, 2, 6, 7, 8]
  | 9 => [0, 1, 2, 6, 7, 8, 35]
  | 10 => [0, 1, 2, 6, 8]
  | 11 => [0, 1, 2, 6, 7, 8]
  | 12 => [0, 1, 2, 6, 7, 8]
  | 13 => [0, 1, 2, 6, 7, 9]
  | 14 => [0, 1, 2, 6, 7, 9, 54]
  | 15 => [0, 1, 2, 6]
  | 16 => [0, 1, 2, 6]
  | _ => []
def mu_68 : List Nat := []
def in_68 : List Nat := [0, 1, 2]
theorem stable_A {α : Type} (dd : α → D) (cf : α → α → Int) (tg : α → Nat) (w : Weak cf) (fg : Nat) (caps : List V) (P : α → Prop) (id ver n : Nat) (g0 : Nat → α) (hP : ∀ k, k < n → P (g0 k)) (hn : n ≤ 1000000000) (ht : ∀ i j, i < j → j < n → tg (g0 i) < tg (g0 j)) (H : Heap) (hc : Cmp dd cf fg caps H.length P) (K : V → Heap → Prop) (hr : H[id]? = some (sob dd ver n g0))
    (hk : ∀ g', Pst 0 n g0 g' → Srt cf tg g' 0 n → K (.tu []) (H.set id (sob dd ver n g'))) :
    ACalls Tryd.prog 68 [.os id ver, .d (.i .i64 n), .fn fg caps] H K := by
  have hid := lt_of_get hr
  have hcap0 := hc.bel
  have hidl : ∀ X, id < (H.set id X).length := fun X => by simpa using hid
  have hcapl : ∀ X v, v ∈ caps → Bel (H.set id X).length v := fun X v hv => by simpa using hc.bel v hv
  have hgx : ∀ X, (H.set id X)[id]? = some X := fun X => get_self hr X
  have hss : ∀ X Y, (H.set id X).set id Y = H.set id Y := fun X Y => List.set_set ..
  have hcx : ∀ X, Cmp dd cf fg caps (H.set id X).length P := fun X => by simpa using hc
  refine ACalls_of Tryd.func68 rfl in_68 (Nat.le_of_ble_eq_true rfl) ?_
  intro F hF
  simp (dsimp := false) only [go_sem, Nat.reduceAdd, Nat.reduceBEq, Nat.reduceEqDiff, Nat.reduceLT, Nat.reduceLeDiff, Nat.reduceMul, Int.reduceToNat, reduceCtorEq, ↓reduceIte, Tryd.ntmps68, Tryd.results68, ks_68, mu_68, ti_hb90, ti_hb91, hid, hcap0, in_68] at hF
  subst hF
  repeat' (first | with_reducible (first | refine And.intro ?_ ?_ | intro _ | refine AWp_seq ?_ | refine AWp_block ?_ | (refine hKv _ _ (AWp_nop ?_); clear hKv Kv) | (refine hKA ?_; clear hKA hKB KA KB) | (refine hKB ?_; clear hKA hKB KA KB) | refine AWp_skipN ?_ | refine AWp_exitO (by repeat (first | exact Out.hit | apply Out.thenA | apply Out.out rfl)) ?_) | (with_reducible (first | (refine hKv _ _ ?_; clear hKv Kv) | ((first | refine AWp_regC mu_68 ks_68 ?_ | refine AWp_regE mu_68 ks_68 ?_); intro Kv hKv) | refine AWp_retR ?_); try simp (dsimp := false) only [go_sem, Nat.reduceAdd, Nat.reduceBEq, Nat.reduceEqDiff, Nat.reduceLT, Nat.reduceLeDiff, Nat.reduceMul, Int.reduceToNat, reduceCtorEq, ↓reduceIte, Tryd.ntmps68, Tryd.results68, ks_68, mu_68, ti_hb90, ti_hb91, hid, hcap0]) | (refine AWp_condC rfl ?_; intro KA KB hKA hKB; try simp only [onB_true, onB_false, onB_dec, onB_ndec, onB_not, onB_and, onB_or]) | (refine AWp_condA rfl ?_ ?_) | with_reducible (first | refine onB_of ?_ ?_ | rfl) | omega)
  refine AWp_whileP (fun y : Nat × (Nat → α) => Fst cf tg g0 y.2 n 20 y.1 ∧ ∀ k, k < n → P (y.2 k)) (fun y => [(0, .os id ver), (1, .d (.i .i64 n)), (2, .fn fg caps), (6, .d (.i .i64 20)), (7, .d (.i .i64 (y.1 * 20 : Nat))), (8, .d (.i .i64 (y.1 * 20 + 20 : Nat)))]) (fun y => H.set id (sob dd ver n y.2)) (fun y => n - y.1 * 20) (0, g0) ⟨Fst.zero g0 n 20, hP⟩ ?_ ?_ ?_ ?_ ?_
  · exact (set_same hr).symm
  · simp (dsimp := false) only [go_sem, Nat.reduceAdd, Nat.reduceBEq, Nat.reduceEqDiff, Nat.reduceLT, Nat.reduceLeDiff, Nat.reduceMul, Int.reduceToNat, reduceCtorEq, ↓reduceIte, Tryd.ntmps68, Tryd.results68, ks_68, mu_68, ti_hb90, ti_hb91, hid, hcap0]
    all_goals ((repeat' (refine And.intro ?_ ?_)) <;> first | rfl | omega | exact hid | exact hidl _ | exact hc.bel | exact hcapl _ | (simp; done))
  · intro i _
    simp
  · intro i _
    exact closed_set (closed_self H) (sob_bel dd _ _ _ _)
  rintro ⟨q, g1⟩ ⟨hF, hP1⟩
  simp only [] at hF hP1 ⊢
  have hqb := hF.b
  by_cases hb : q * 20 + 20 ≤ n
  · have hb' : (((q * 20 + 20 : Nat) : Int) ≤ (n : Int)) = True := eq_true (by omega)
    have ec : ((q * 20 + 20 : Nat) : Int) + 20 = (((q + 1) * 20 + 20 : Nat) : Int) := by omega
    have ht1 : ∀ i j, q * 20 ≤ i → i < j → j < q * 20 + 20 → tg (g1 i) < tg (g1 j) := fun i j h1 h2 h3 => by
      rw [hF.e i h1, hF.e j (by omega)]; exact ht i j h2 (by omega)
    have nx : ∀ g', Pst (q * 20) (q * 20 + 20) g1 g' → Srt cf tg g' (q * 20) (q * 20 + 20) → Fst cf tg g0 g' n 20 (q + 1) ∧ ∀ k, k < n → P (g' k) := fun g' p s => ⟨hF.step hb p s, p.P hb hP1⟩
    repeat' (first | with_reducible (first | refine And.intro ?_ ?_ | intro _ | refine AWp_seq ?_ | refine AWp_block ?_ | (refine hKv _ _ (AWp_nop ?_); clear hKv Kv) | (refine hKA ?_; clear hKA hKB KA KB) | (refine hKB ?_; clear hKA hKB KA KB) | refine AWp_skipN ?_ | refine AWp_exitO (by repeat (first | exact Out.hit | apply Out.thenA | apply Out.out rfl)) ?_) | ((first | with_reducible (first | (refine hKv _ _ ?_; clear hKv Kv) | ((first | refine AWp_regC mu_68 ks_68 ?_ | refine AWp_regE mu_68 ks_68 ?_); intro Kv hKv) | refine AWp_retR ?_) | refine insertion_A dd cf tg w fg caps P id ver n g1 (q * 20) (q * 20 + 20) hP1 hn (by omega) hb ht1 _ (hcx _) _ (hgx _) ?_); try simp (dsimp := false) only [go_sem, Nat.reduceAdd, Nat.reduceBEq, Nat.reduceEqDiff, Nat.reduceLT, Nat.reduceLeDiff, Nat.reduceMul, Int.reduceToNat, reduceCtorEq, ↓reduceIte, Tryd.ntmps68, Tryd.results68, ks_68, mu_68, ti_hb90, ti_hb91, hid, hcap0, hcapl, hidl, hgx, hss, hb', ec, List.length_set, not_true_eq_false, not_false_eq_true, Bool.and_true, Bool.true_and, Bool.false_and, Bool.and_false, Int.reduceEq, Int.reduceLT, Int.reduceLE]) | (refine AWp_condC rfl ?_; intro KA KB hKA hKB; try simp only [onB_true, onB_false, onB_dec, onB_ndec, onB_not, onB_and, onB_or]) | (refine AWp_condA rfl ?_ ?_) | with_reducible (first | refine onB_of ?_ ?_ | rfl) | omega)
    all_goals first
      | omega
      | exact ⟨(q + 1, _), nx _ (by assumption) (by assumption), by show n - (q + 1) * 20 < n - q * 20; omega, by (repeat' (refine And.intro ?_ ?_)) <;> first | rfl | omega | exact hcap0 | exact hcapl _ | exact hidl _ | (simp; done) | (simp; omega)⟩
  have hb' : (((q * 20 + 20 : Nat) : Int) ≤ (n : Int)) = False := eq_false (by omega)
  have ht1 : ∀ i j, q * 20 ≤ i → i < j → j < n → tg (g1 i) < tg (g1 j) := fun i j h1 h2 h3 => by
    rw [hF.e i h1, hF.e j (by omega)]; exact ht i j h2 (by omega)
  have nx : ∀ g', Pst (q * 20) n g1 g' → Srt cf tg g' (q * 20) n → (Blk cf tg g0 g' n 20 ∧ ∀ k, n ≤ k → g' k = g0 k) ∧ ∀ k, k < n → P (g' k) := fun g' p s => ⟨hF.last (by omega) p s, p.P (Nat.le_refl _) hP1⟩
  repeat' (first | with_reducible (first | refine And.intro ?_ ?_ | intro _ | refine AWp_seq ?_ | refine AWp_block ?_ | (refine hKv _ _ (AWp_nop ?_); clear hKv Kv) | (refine hKA ?_; clear hKA hKB KA KB) | (refine hKB ?_; clear hKA hKB KA KB) | refine AWp_skipN ?_ | refine AWp_exitO (by repeat (first | exact Out.hit | apply Out.thenA | apply Out.out rfl)) ?_) | ((first | with_reducible (first | (refine hKv _ _ ?_; clear hKv Kv) | ((first | refine AWp_regC mu_68 ks_68 ?_ | refine AWp_regE mu_68 ks_68 ?_); intro Kv hKv) | refine AWp_retR ?_) | refine insertion_A dd cf tg w fg caps P id ver n g1 (q * 20) n hP1 hn hqb (Nat.le_refl _) ht1 _ (hcx _) _ (hgx _) ?_); try simp (dsimp := false) only [go_sem, Nat.reduceAdd, Nat.reduceBEq, Nat.reduceEqDiff, Nat.reduceLT, Nat.reduceLeDiff, Nat.reduceMul, Int.reduceToNat, reduceCtorEq, ↓reduceIte, Tryd.ntmps68, Tryd.results68, ks_68, mu_68, ti_hb90, ti_hb91, hid, hcap0, hcapl, hidl, hgx, hss, hb', List.length_set, not_true_eq_false, not_false_eq_true, Bool.and_true, Bool.true_and, Bool.false_and, Bool.and_false, Int.reduceEq, Int.reduceLT, Int.reduceLE]) | (refine AWp_condC rfl ?_; intro KA KB hKA hKB; try simp only [onB_true, onB_false, onB_dec, onB_ndec, onB_not, onB_and, onB_or]) | (refine AWp_condA rfl ?_ ?_) | with_reducible (first | refine onB_of ?_ ?_ | rfl) | omega)
  rename_i g2 p2 s2
  obtain ⟨⟨hB2, hO2⟩, hP2⟩ := nx g2 p2 s2
  refine AWp_whileP (fun y : Nat × (Nat → α) => 0 < y.1 ∧ y.1 ≤ 2000000000 ∧ Blk cf tg g0 y.2 n y.1 ∧ (∀ k, n ≤ k → y.2 k = g0 k) ∧ ∀ k, k < n → P (y.2 k)) (fun y => [(0, .os id ver), (1, .d (.i .i64 n)), (2, .fn fg caps), (6, .d (.i .i64 y.1))]) (fun y => H.set id (sob dd ver n y.2)) (fun y => n - y.1) (20, g2) ⟨show (0 : Nat) < 20 by decide, show (20 : Nat) ≤ 2000000000 by decide, hB2, hO2, hP2⟩ ?_ ?_ ?_ ?_ ?_
  · first | rfl | (simp [hss]; done)
  · simp (dsimp := false) only [go_sem, Nat.reduceAdd, Nat.reduceBEq, Nat.reduceEqDiff, Nat.reduceLT, Nat.reduceLeDiff, Nat.reduceMul, Int.reduceToNat, reduceCtorEq, ↓reduceIte, Tryd.ntmps68, Tryd.results68, ks_68, mu_68, ti_hb90, ti_hb91, hid, hcap0, hcapl, hidl, hgx, hss, hb', List.length_set, not_true_eq_false, not_false_eq_true, Bool.and_true, Bool.true_and, Bool.false_and, Bool.and_false, Int.reduceEq, Int.reduceLT, Int.reduceLE]
    all_goals ((repeat' (refine And.intro ?_ ?_)) <;> first | rfl | omega | exact hid | exact hidl _ | exact hc.bel | exact hcapl _ | (simp; done))
  · intro i _
    simp
  · intro i _
    exact closed_set (closed_self H) (sob_bel dd _ _ _ _)
  clear nx p2 s2 hB2 hO2 hP2 hF hP1 ht1
  rintro ⟨s, g3⟩ ⟨hs0, hs1, hB3, hO3, hP3⟩
  simp only [] at hs0 hs1 hB3 hO3 hP3 ⊢
  by_cases hsn : s < n
  · have hsn' : ((s : Int) < (n : Int)) = True := eq_true (by omega)
    have e2 : (2 : Int) * (s : Int) = ((s + s : Nat) : Int) := by omega
    have e3 : (s : Int) * 2 = ((s + s : Nat) : Int) := by omega
    repeat' (first | with_reducible (first | refine And.intro ?_ ?_ | intro _ | refine AWp_seq ?_ | refine AWp_block ?_ | (refine hKv _ _ (AWp_nop ?_); clear hKv Kv) | (refine hKA ?_; clear hKA hKB KA KB) | (refine hKB ?_; clear hKA hKB KA KB) | refine AWp_skipN ?_ | refine AWp_exitO (by repeat (first | exact Out.hit | apply Out.thenA | apply Out.out rfl)) ?_) | (with_reducible (first | (refine hKv _ _ ?_; clear hKv Kv) | ((first | refine AWp_regC mu_68 ks_68 ?_ | refine AWp_regE mu_68 ks_68 ?_); intro Kv hKv) | refine AWp_retR ?_); try simp (dsimp := false) only [go_sem, Nat.reduceAdd, Nat.reduceBEq, Nat.reduceEqDiff, Nat.reduceLT, Nat.reduceLeDiff, Nat.reduceMul, Int.reduceToNat, reduceCtorEq, ↓reduceIte, Tryd.ntmps68, Tryd.results68, ks_68, mu_68, ti_hb90, ti_hb91, hid, hcap0, hcapl, hidl, hsn', e2, List.length_set, not_true_eq_false, not_false_eq_true, Bool.and_true, Bool.true_and, Bool.false_and, Bool.and_false, Int.reduceEq, Int.reduceLT, Int.reduceLE]) | (refine AWp_condC rfl ?_; intro KA KB hKA hKB; try simp only [onB_true, onB_false, onB_dec, onB_ndec, onB_not, onB_and, onB_or]) | (refine AWp_condA rfl ?_ ?_) | with_reducible (first | refine onB_of ?_ ?_ | rfl) | omega)
    refine AWp_whileP (fun y : Nat × (Nat → α) => Half cf tg g0 y.2 n s y.1 ∧ ∀ k, k < n → P (y.2 k)) (fun y => [(0, .os id ver), (1, .d (.i .i64 n)), (2, .fn fg caps), (6, .d (.i .i64 s)), (7, .d (.i .i64 (y.1 * (s + s) : Nat))), (8, .d (.i .i64 (y.1 * (s + s) + (s + s) : Nat)))]) (fun y => H.set id (sob dd ver n y.2)) (fun y => n - y.1 * (s + s)) (0, g3) ⟨Half.zero hB3 hO3, hP3⟩ ?_ ?_ ?_ ?_ ?_
    · rfl
    ·
      simp (dsimp := false) only [go_sem, Nat.reduceAdd, Nat.reduceBEq, Nat.reduceEqDiff, Nat.reduceLT, Nat.reduceLeDiff, Nat.reduceMul, Int.reduceToNat, reduceCtorEq, ↓reduceIte, Tryd.ntmps68, Tryd.results68, ks_68, mu_68, ti_hb90, ti_hb91, hid, hcap0, hcapl, hidl, e2, Nat.zero_mul, Nat.zero_add, List.length_set]
      all_goals ((repeat' (refine And.intro ?_ ?_)) <;> first | rfl | omega | exact hid | exact hidl _ | exact hc.bel | exact hcapl _ | (simp; done))
    · intro i _
      simp
    · intro i _
      exact closed_set (closed_self H) (sob_bel dd _ _ _ _)
    rintro ⟨q, g4⟩ ⟨hH, hP4⟩
    simp only [] at hH hP4 ⊢
    have hqb := hH.b
    have eq1 : (q + 1) * (s + s) = q * (s + s) + (s + s) := by rw [Nat.add_mul, Nat.one_mul]
    by_cases hb : q * (s + s) + (s + s) ≤ n
    · obtain ⟨t1, t2⟩ := hH.two hs0 (by omega)
      rw [Nat.min_eq_left (by omega)] at t2
      have hM := t1.mrg t2 (n := n) (by omega) ht
      rw [Nat.add_assoc] at hM
      have nx : ∀ g', Pst (q * (s + s)) (q * (s + s) + (s + s)) g4 g' → Srt cf tg g' (q * (s + s)) (q * (s + s) + (s + s)) → Half cf tg g0 g' n s (q + 1) ∧ ∀ k, k < n → P (g' k) := fun g' p sx => ⟨hH.step hs0 hb p sx, p.P hb hP4⟩
      have hb' : (((q * (s + s) + (s + s) : Nat) : Int) ≤ (n : Int)) = True := eq_true (by omega)
      have ea : ((q * (s + s) : Nat) : Int) + (s : Int) = ((q * (s + s) + s : Nat) : Int) := by omega
      have ec : ((q * (s + s) + (s + s) : Nat) : Int) + ((s + s : Nat) : Int) = (((q + 1) * (s + s) + (s + s) : Nat) : Int) := by rw [eq1]; omega
      have ed : ((q * (s + s) + (s + s) : Nat) : Int) = (((q + 1) * (s + s) : Nat) : Int) := by rw [eq1]
      have hmu : n - (q + 1) * (s + s) < n - q * (s + s) := by rw [eq1]; omega
      repeat' (first | with_reducible (first | refine And.intro ?_ ?_ | intro _ | refine AWp_seq ?_ | refine AWp_block ?_ | (refine hKv _ _ (AWp_nop ?_); clear hKv Kv) | (refine hKA ?_; clear hKA hKB KA KB) | (refine hKB ?_; clear hKA hKB KA KB) | refine AWp_skipN ?_ | refine AWp_exitO (by repeat (first | exact Out.hit | apply Out.thenA | apply Out.out rfl)) ?_) | ((first | with_reducible (first | (refine hKv _ _ ?_; clear hKv Kv) | ((first | refine AWp_regC mu_68 ks_68 ?_ | refine AWp_regE mu_68 ks_68 ?_); intro Kv hKv) | refine AWp_retR ?_) | refine symMerge_A dd cf tg w fg caps P id ver n hn (s + s) g4 (q * (s + s)) (q * (s + s) + s) (q * (s + s) + (s + s)) _ _ (by omega) hP4 (by omega) (by omega) hb hM (hcx _) (hgx _) ?_); try simp (dsimp := false) only [go_sem, Nat.reduceAdd, Nat.reduceBEq, Nat.reduceEqDiff, Nat.reduceLT, Nat.reduceLeDiff, Nat.reduceMul, Int.reduceToNat, reduceCtorEq, ↓reduceIte, Tryd.ntmps68, Tryd.results68, ks_68, mu_68, ti_hb90, ti_hb91, hid, hcap0, hcapl, hidl, hgx, hss, hb', e2, ea, ec, List.length_set, not_true_eq_false, not_false_eq_true, Bool.and_true, Bool.true_and, Bool.false_and, Bool.and_false, Int.reduceEq, Int.reduceLT, Int.reduceLE]) | (refine AWp_condC rfl ?_; intro KA KB hKA hKB; try simp only [onB_true, onB_false, onB_dec, onB_ndec, onB_not, onB_and, onB_or]) | (refine AWp_condA rfl ?_ ?_) | with_reducible (first | refine onB_of ?_ ?_ | rfl) | omega)
      all_goals first
        | omega
        | exact ⟨(q + 1, _), nx _ (by assumption) (by assumption), hmu, by first | exact ed | ((repeat' (refine And.intro ?_ ?_)) <;> first | rfl | exact ed | omega | exact hcap0 | exact hcapl _ | exact hidl _ | (simp; done))⟩
    · have hb' : (((q * (s + s) + (s + s) : Nat) : Int) ≤ (n : Int)) = False := eq_false (by omega)
      have ea : ((q * (s + s) : Nat) : Int) + (s : Int) = ((q * (s + s) + s : Nat) : Int) := by omega
      have hmu : n - (s + s) < n - s := by omega
      by_cases hm : q * (s + s) + s < n
      · obtain ⟨t1, t2⟩ := hH.two hs0 hm
        rw [Nat.min_eq_right (by omega)] at t2
        have hM := t1.mrg t2 (n := n) (Nat.le_refl _) ht
        have nx : ∀ g', Pst (q * (s + s)) n g4 g' → Srt cf tg g' (q * (s + s)) n → 0 < s + s ∧ s + s ≤ 2000000000 ∧ Blk cf tg g0 g' n (s + s) ∧ (∀ k, n ≤ k → g' k = g0 k) ∧ ∀ k, k < n → P (g' k) := fun g' p sx => ⟨by omega, by omega, hH.last hs0 (by omega) hm p sx, fun k hk => (p.o k (.inr hk)).trans (hH.o k hk), p.P (Nat.le_refl _) hP4⟩
        have hm' : (((q * (s + s) + s : Nat) : Int) < (n : Int)) = True := eq_true (by omega)
        repeat' (first | with_reducible (first | refine And.intro ?_ ?_ | intro _ | refine AWp_seq ?_ | refine AWp_block ?_ | (refine hKv _ _ (AWp_nop ?_); clear hKv Kv) | (refine hKA ?_; clear hKA hKB KA KB) | (refine hKB ?_; clear hKA hKB KA KB) | refine AWp_skipN ?_ | refine AWp_exitO (by repeat (first | exact Out.hit | apply Out.thenA | apply Out.out rfl)) ?_) | ((first | with_reducible (first | (refine hKv _ _ ?_; clear hKv Kv) | ((first | refine AWp_regC mu_68 ks_68 ?_ | refine AWp_regE mu_68 ks_68 ?_); intro Kv hKv) | refine AWp_retR ?_) | refine symMerge_A dd cf tg w fg caps P id ver n hn (s + s) g4 (q * (s + s)) (q * (s + s) + s) n _ _ (by omega) hP4 (by omega) hm (Nat.le_refl _) hM (hcx _) (hgx _) ?_); try simp (dsimp := false) only [go_sem, Nat.reduceAdd, Nat.reduceBEq, Nat.reduceEqDiff, Nat.reduceLT, Nat.reduceLeDiff, Nat.reduceMul, Int.reduceToNat, reduceCtorEq, ↓reduceIte, Tryd.ntmps68, Tryd.results68, ks_68, mu_68, ti_hb90, ti_hb91, hid, hcap0, hcapl, hidl, hgx, hss, hb', e3, ea, hm', List.length_set, not_true_eq_false, not_false_eq_true, Bool.and_true, Bool.true_and, Bool.false_and, Bool.and_false, Int.reduceEq, Int.reduceLT, Int.reduceLE]) | (refine AWp_condC rfl ?_; intro KA KB hKA hKB; try simp only [onB_true, onB_false, onB_dec, onB_ndec, onB_not, onB_and, onB_or]) | (refine AWp_condA rfl ?_ ?_) | with_reducible (first | refine onB_of ?_ ?_ | rfl) | omega)
        all_goals first
          | omega
          | exact ⟨(s + s, _), nx _ (by assumption) (by assumption), hmu, by (repeat' (refine And.intro ?_ ?_)) <;> first | rfl | omega | exact hcap0 | exact hcapl _ | exact hidl _ | (simp; done) | (simp; omega)⟩
      · have nx : 0 < s + s ∧ s + s ≤ 2000000000 ∧ Blk cf tg g0 g4 n (s + s) ∧ (∀ k, n ≤ k → g4 k = g0 k) ∧ ∀ k, k < n → P (g4 k) := ⟨by omega, by omega, hH.none hs0 (by omega) hm, hH.o, hP4⟩
        have hm' : (((q * (s + s) + s : Nat) : Int) < (n : Int)) = False := eq_false (by omega)
        repeat' (first | with_reducible (first | refine And.intro ?_ ?_ | intro _ | refine AWp_seq ?_ | refine AWp_block ?_ | (refine hKv _ _ (AWp_nop ?_); clear hKv Kv) | (refine hKA ?_; clear hKA hKB KA KB) | (refine hKB ?_; clear hKA hKB KA KB) | refine AWp_skipN ?_ | refine AWp_exitO (by repeat (first | exact Out.hit | apply Out.thenA | apply Out.out rfl)) ?_) | (with_reducible (first | (refine hKv _ _ ?_; clear hKv Kv) | ((first | refine AWp_regC mu_68 ks_68 ?_ | refine AWp_regE mu_68 ks_68 ?_); intro Kv hKv) | refine AWp_retR ?_); try simp (dsimp := false) only [go_sem, Nat.reduceAdd, Nat.reduceBEq, Nat.reduceEqDiff, Nat.reduceLT, Nat.reduceLeDiff, Nat.reduceMul, Int.reduceToNat, reduceCtorEq, ↓reduceIte, Tryd.ntmps68, Tryd.results68, ks_68, mu_68, ti_hb90, ti_hb91, hid, hcap0, hcapl, hidl, hgx, hss, hb', e3, ea, hm', List.length_set, not_true_eq_false, not_false_eq_true, Bool.and_true, Bool.true_and, Bool.false_and, Bool.and_false, Int.reduceEq, Int.reduceLT, Int.reduceLE]) | (refine AWp_condC rfl ?_; intro KA KB hKA hKB; try simp only [onB_true, onB_false, onB_dec, onB_ndec, onB_not, onB_and, onB_or]) | (refine AWp_condA rfl ?_ ?_) | with_reducible (first | refine onB_of ?_ ?_ | rfl) | omega)
        all_goals first
          | omega
          | exact ⟨(s + s, g4), nx, hmu, by (repeat' (refine And.intro ?_ ?_)) <;> first | rfl | omega | exact hcap0 | exact hcapl _ | exact hidl _ | (simp; done) | (simp; omega)⟩
  · have hsn' : ((s : Int) < (n : Int)) = False := eq_false (by omega)
    obtain ⟨k1, k2⟩ := hB3.all (by omega) hO3
    have hk := hk _ k1 k2
    repeat' (first | with_reducible (first | refine And.intro ?_ ?_ | intro _ | refine AWp_seq ?_ | refine AWp_block ?_ | (refine hKv _ _ (AWp_nop ?_); clear hKv Kv) | (refine hKA ?_; clear hKA hKB KA KB) | (refine hKB ?_; clear hKA hKB KA KB) | refine AWp_skipN ?_ | refine AWp_exitO (by repeat (first | exact Out.hit | apply Out.thenA | apply Out.out rfl)) ?_) | (with_reducible (first | (refine hKv _ _ ?_; clear hKv Kv) | ((first | refine AWp_regC mu_68 ks_68 ?_ | refine AWp_regE mu_68 ks_68 ?_); intro Kv hKv) | refine AWp_retR ?_); try simp (dsimp := false) only [go_sem, Nat.reduceAdd, Nat.reduceBEq, Nat.reduceEqDiff, Nat.reduceLT, Nat.reduceLeDiff, Nat.reduceMul, Int.reduceToNat, reduceCtorEq, ↓reduceIte, Tryd.ntmps68, Tryd.results68, ks_68, mu_68, ti_hb90, ti_hb91, hid, hcap0, hcapl, hidl, hsn', List.length_set, not_true_eq_false, not_false_eq_true, Bool.and_true, Bool.true_and, Bool.false_and, Bool.and_false, Int.reduceEq, Int.reduceLT, Int.reduceLE]) | (refine AWp_condC rfl ?_; intro KA KB hKA hKB; try simp only [onB_true, onB_false, onB_dec, onB_ndec, onB_not, onB_and, onB_or]) | (refine AWp_condA rfl ?_ ?_) | with_reducible (first | refine onB_of ?_ ?_ | rfl) | omega)
    all_goals try first | (refine AWp_skip ?_; simp (dsimp := false) only [go_sem, Nat.reduceAdd, Nat.reduceBEq, Nat.reduceEqDiff, Nat.reduceLT, Nat.reduceLeDiff, Nat.reduceMul, Int.reduceToNat, reduceCtorEq, ↓reduceIte, Tryd.ntmps68, Tryd.results68, ks_68, mu_68, ti_hb90, ti_hb91, hid, hcap0, hcapl, hidl, hsn', List.length_set, not_true_eq_false, not_false_eq_true, Bool.and_true, Bool.true_and, Bool.false_and, Bool.and_false, Int.reduceEq, Int.reduceLT, Int.reduceLE]) | (refine AWp_exit ?_; simp (dsimp := false) only [go_sem, Nat.reduceAdd, Nat.reduceBEq, Nat.reduceEqDiff, Nat.reduceLT, Nat.reduceLeDiff, Nat.reduceMul, Int.reduceToNat, reduceCtorEq, ↓reduceIte, Tryd.ntmps68, Tryd.results68, ks_68, mu_68, ti_hb90, ti_hb91, hid, hcap0, hcapl, hidl, hsn', List.length_set, not_true_eq_false, not_false_eq_true, Bool.and_true, Bool.true_and, Bool.false_and, Bool.and_false, Int.reduceEq, Int.reduceLT, Int.reduceLE])
    all_goals first
      | omega
      | exact keepS hk (by simp) (closed_set (closed_self H) (sob_bel dd _ _ _ _)) (by simp [Bel_tu])
def ks_34 : Nat → List Nat
  | 0 => []
  | _ => []
def mu_34 : List Nat := []
def in_34 : List Nat := [0, 1]
theorem sortStable_A {α : Type} (dd : α → D) (cf : α → α → Int) (tg : α → Nat) (w : Weak cf) (fg : Nat) (caps : List V) (P : α → Prop) (id ver n : Nat) (g0 : Nat → α) (hP : ∀ k, k < n → P (g0 k)) (hn : n ≤ 1000000000) (ht : ∀ i j, i < j → j < n → tg (g0 i) < tg (g0 j)) (H : Heap) (hc : Cmp dd cf fg caps H.length P) (K : V → Heap → Prop) (hr : H[id]? = some (sob dd ver n g0))
    (hk : ∀ g', Pst 0 n g0 g' → Srt cf tg g' 0 n → K (.tu []) (H.set id (sob dd ver n g'))) :
    ACalls Tryd.prog 34 [.os id ver, .fn fg caps] H K := by
  have hid := lt_of_get hr
  have hcap0 := hc.bel
  have hr' := hr
  rw [sob] at hr'
  refine ACalls_of Tryd.func34 rfl in_34 (Nat.le_of_ble_eq_true rfl) ?_
  intro F hF
  simp (dsimp := false) only [go_sem, Nat.reduceAdd, Nat.reduceBEq, Nat.reduceEqDiff, Nat.reduceLT, Nat.reduceLeDiff, Nat.reduceMul, Int.reduceToNat, reduceCtorEq, ↓reduceIte, Tryd.ntmps34, Tryd.results34, ks_34, mu_34, ti_hb68, ti_sb35, hid, hcap0, hr', tab_len, in_34] at hF
  subst hF
  repeat' (first | with_reducible (first | refine And.intro ?_ ?_ | intro _ | refine AWp_seq ?_ | refine AWp_block ?_ | (refine hKv _ _ (AWp_nop ?_); clear hKv Kv) | (refine hKA ?_; clear hKA hKB KA KB) | (refine hKB ?_; clear hKA hKB KA KB) | refine AWp_skipN ?_ | refine AWp_exitO (by repeat (first | exact Out.hit | apply Out.thenA | apply Out.out rfl)) ?_) | ((first | with_reducible (first | (refine hKv _ _ ?_; clear hKv Kv) | ((first | refine AWp_regC mu_34 ks_34 ?_ | refine AWp_regE mu_34 ks_34 ?_); intro Kv hKv) | refine AWp_retR ?_) | refine stable_A dd cf tg w fg caps P id ver n g0 hP hn ht _ hc _ hr ?_); try simp (dsimp := false) only [go_sem, Nat.reduceAdd, Nat.reduceBEq, Nat.reduceEqDiff, Nat.reduceLT, Nat.reduceLeDiff, Nat.reduceMul, Int.reduceToNat, reduceCtorEq, ↓reduceIte, Tryd.ntmps34, Tryd.results34, ks_34, mu_34, ti_hb68, ti_sb35, hid, hcap0, hr', tab_len]) | (refine AWp_condC rfl ?_; intro KA KB hKA hKB; try simp only [onB_true, onB_false, onB_dec, onB_ndec, onB_not, onB_and, onB_or]) | (refine AWp_condA rfl ?_ ?_) | with_reducible (first | refine onB_of ?_ ?_ | rfl) | omega)
  all_goals try first | (refine AWp_skip ?_; simp (dsimp := false) only [go_sem, Nat.reduceAdd, Nat.reduceBEq, Nat.reduceEqDiff, Nat.reduceLT, Nat.reduceLeDiff, Nat.reduceMul, Int.reduceToNat, reduceCtorEq, ↓reduceIte, Tryd.ntmps34, Tryd.results34, ks_34, mu_34, ti_hb68, ti_sb35, hid, hcap0, hr', tab_len]) | (refine AWp_exit ?_; simp (dsimp := false) only [go_sem, Nat.reduceAdd, Nat.reduceBEq, Nat.reduceEqDiff, Nat.reduceLT, Nat.reduceLeDiff, Nat.reduceMul, Int.reduceToNat, reduceCtorEq, ↓reduceIte, Tryd.ntmps34, Tryd.results34, ks_34, mu_34, ti_hb68, ti_sb35, hid, hcap0, hr', tab_len])
  all_goals first
    | omega
    | exact keepS (hk _ (by assumption) (by assumption)) (by simp) (closed_set (closed_self H) (sob_bel dd _ _ _ _)) (by simp [Bel_tu])
end Go.Proofs.YtpgdflhcmijaiaaDoor
