/- Merging two sorted neighbours: the walk. No condition. -/
import Derived.Test.YtpgdflhcmijaiaaDoorQ35
import Derived.Test.YtpgdflhcmijaiaaDoorQ36
set_option linter.all false
set_option linter.unusedSimpArgs false
set_option linter.unusedVariables false
namespace Go.Proofs.YtpgdflhcmijaiaaDoor
open Go Go.Proofs.YtpgdflhcmijaiaaDoor.Ab
variable [Glo]
set_option maxHeartbeats 4000000
set_option maxRecDepth 20000
theorem half_eq (x : Nat) (hx : x ≤ 4000000000) : IntKind.i64.wrap ((x : Int).fdiv (2 ^ min 1 64)) = ((x / 2 : Nat) : Int) := by
  have e : (x : Int).fdiv (2 ^ min 1 64) = ((x / 2 : Nat) : Int) := by
    rw [show ((2 : Int) ^ min 1 64) = ((2 : Nat) : Int) from rfl, Int.fdiv_eq_ediv_of_nonneg _ (by decide)]
    rfl
  rw [e, IntKind.wrap]
  simp [IntKind.bits, IntKind.signed]
  omega
theorem wrapu_eq {x : Int} {y : Nat} (h : x = y) (hy : y ≤ 4000000000) : IntKind.u64.wrap x = (y : Int) := by
  subst h
  rw [IntKind.wrap]; simp [IntKind.bits, IntKind.signed]; omega
def ks_91 : Nat → List Nat
  | 0 => [0, 1, 2, 3, 4, 28]
  | 1 => [0, 1, 3, 4, 10]
  | 2 => [0, 1, 4, 10, 11]
  | 3 => [0, 1, 4, 10, 11, 33]
  | 4 => [0, 1, 4, 10, 11, 12]
  | 5 => [0, 1, 4, 10, 11, 12, 50]
  | 6 => [0, 1, 4, 10, 11]
  | 7 => [0, 1, 4, 10, 11]
  | 8 => [0, 10, 13]
  | 9 => [0, 10, 13, 58]
  | 10 => [0, 10, 13]
  | 11 => [0, 10, 13]
  | 12 => [0, 1, 2, 3, 4, 80]
  | 13 => [0, 2, 4, 14]
  | 14 => [0, 2, 4, 14, 15]
  | 15 => [0, 2, 4, 14, 15, 85]
  | 16 => [0, 2, 4, 14, 15, 16]
  | 17 => [0, 2, 4, 14, 15, 16, 103]
  | 18 => [0, 2, 4, 14, 15]
  | 19 => [0, 2, 4, 14, 15]
  | 20 => [0, 14, 17]
  | 21 => [0, 14, 17, 110]
  | 22 => [0, 14, 17]
  | 23 => [0, 14, 17]
  | 24 => [0, 1, 2, 3, 4, 18]
  | 25 => [0, 1, 2, 3, 4, 18, 19]
  | 26 => [0, 1, 2, 3, 4, 18, 19]
  | 27 => [0, 1, 2, 3, 4, 18, 19, 140]
  | 28 => [0, 1, 2, 3, 4, 18, 19, 20]
  | 29 => [0, 1, 2, 3, 4, 18, 19, 20, 21]
  | 30 => [0, 1, 2, 3, 4, 18, 19, 20]
  | 31 => [0, 1, 2, 3, 4, 18, 19, 20, 21]
  | 32 => [0, 1, 2, 3, 4, 18, 19, 20, 21, 22]
  | 33 => [0, 1, 2, 3, 4, 18, 19, 20, 21, 22, 151]
  | 34 => [0, 1, 2, 3, 4, 18, 19, 20, 21, 22, 23]
  | 35 => [0, 1, 2, 3, 4, 18, 19, 20, 21, 22, 23, 171]
  | 36 => [0, 1, 2, 3, 4, 18, 19, 20, 21, 22]
  | 37 => [0, 1, 2, 3, 4, 18, 19, 20, 21, 22]
  | 38 => [0, 1, 2, 3, 4, 18, 20, 24]
  | 39 => [0, 1, 2, 3, 4, 18, 20, 24, 185]
  | 40 => [0, 1, 3, 4, 18, 20, 24]
  | 41 => [0, 1, 3, 4, 18, 20, 24, 199]
  | 42 => [0, 3, 4, 18, 24]
  | 43 => [0, 3, 4, 18, 24, 213]
  | 44 => []
  | _ => []
def mu_91 : List Nat := []
def in_91 : List Nat := [0, 1, 2, 3, 4]
def xd_91 : Nat → Nat × Nat × List Bool
  | 11 => (16, 15, [])
  | 23 => (16, 15, [])
  | _ => (0, 0, [])
def vw_91 : Nat → List Nat
  | _ => []
def nd_91 : Nat → Nat
  | 5 => 10
  | 17 => 11
  | 35 => 13
  | _ => 0
theorem symA_A {α : Type} (dd : α → D) (cf : α → α → Int) (tg : α → Nat) (w : Weak cf) (fg : Nat) (caps : List V) (P : α → Prop) (id ver n : Nat) (g : Nat → α) (a b : Nat) (hP : ∀ k, k < n → P (g k)) (hn : n ≤ 1000000000) (hab : a + 1 < b) (hb : b ≤ n) (hM : Mrg cf tg g a (a + 1) b) (H : Heap) (hc : Cmp dd cf fg caps H.length P) (K : V → Heap → Prop) (hr : H[id]? = some (sob dd ver n g))
    (hk : ∀ g', Pst a b g g' → Srt cf tg g' a b → K (.tu []) (H.set id (sob dd ver n g'))) :
    ACalls Tryd.prog 91 [.os id ver, .d (.i .i64 a), .d (.i .i64 (a + 1 : Nat)), .d (.i .i64 b), .fn fg caps] H K := by
  have hid := lt_of_get hr
  have hhb := hc.hb
  have hcap0 := hc.bel
  have hidl : ∀ X, id < (H.set id X).length := fun X => by simpa using hid
  have hcapl : ∀ X v, v ∈ caps → Bel (H.set id X).length v := fun X v hv => by simpa using hc.bel v hv
  have hgx : ∀ X, (H.set id X)[id]? = some X := fun X => get_self hr X
  have hss : ∀ X Y, (H.set id X).set id Y = H.set id Y := fun X Y => List.set_set ..
  have hts := fun g (i : Nat) x => tab_set dd (n := n) (g := g) (i := i) (x := x)
  have e1 : ((((a + 1 : Nat) : Int) - (a : Int)) = 1) = True := eq_true (by omega)
  have ga := tab_get dd (n := n) (g := g) (k := a) (by omega)
  have a0 : ((0 : Int) ≤ (a : Int)) = True := eq_true (by omega)
  have a1 : ((a : Int) < (n : Int)) = True := eq_true (by omega)
  refine ACalls_of Tryd.func91 rfl in_91 (Nat.le_of_ble_eq_true rfl) ?_
  intro F hF
  simp (dsimp := false) only [go_sem, Nat.reduceAdd, Nat.reduceBEq, Nat.reduceEqDiff, Nat.reduceLT, Nat.reduceLeDiff, Nat.reduceMul, Int.reduceToNat, reduceCtorEq, ↓reduceIte, Tryd.ntmps91, Tryd.results91, ks_91, mu_91, nd_91, xd_91, vw_91, ti_ag3, ti_hb91, ti_hb112, ti_in3, ti_in106, ti_sl35, ti_sz3, ti_us3, ti_us106, hid, hcap0, e1, in_91] at hF
  subst hF
  repeat' (first | with_reducible (first | refine And.intro ?_ ?_ | intro _ | refine AWp_seq ?_ | refine AWp_block ?_ | (refine hKv _ _ (AWp_nop ?_); clear hKv Kv) | (refine hKA ?_; clear hKA hKB KA KB) | (refine hKB ?_; clear hKA hKB KA KB) | refine AWp_skipN ?_ | refine AWp_exitO (by repeat (first | exact Out.hit | apply Out.thenA | apply Out.out rfl)) ?_) | (with_reducible (first | (refine hKv _ _ ?_; clear hKv Kv) | ((first | refine AWp_regC mu_91 ks_91 ?_ | refine AWp_drawX xd_91 mu_91 ks_91 vw_91 (by decide) ti_mixed (by kernel_rfl) ?_ | refine AWp_draw nd_91 mu_91 ks_91 ti_mixed (by kernel_rfl) ?_ | refine AWp_regE mu_91 ks_91 ?_ | refine AWp_drawE nd_91 mu_91 ks_91 ti_mixed (by kernel_rfl) ?_ | refine AWp_drawXE xd_91 mu_91 ks_91 vw_91 (by decide) ti_mixed (by kernel_rfl) ?_); intro Kv hKv) | refine AWp_retR ?_); try simp (dsimp := false) only [go_sem, Nat.reduceAdd, Nat.reduceBEq, Nat.reduceEqDiff, Nat.reduceLT, Nat.reduceLeDiff, Nat.reduceMul, Int.reduceToNat, reduceCtorEq, ↓reduceIte, Tryd.ntmps91, Tryd.results91, ks_91, mu_91, nd_91, xd_91, vw_91, ti_ag3, ti_hb91, ti_hb112, ti_in3, ti_in106, ti_sl35, ti_sz3, ti_us3, ti_us106, hid, hcap0, e1]) | (refine AWp_condC rfl ?_; intro KA KB hKA hKB; try simp only [onB_true, onB_false, onB_dec, onB_ndec, onB_not, onB_and, onB_or]) | (refine AWp_condA rfl ?_ ?_) | with_reducible (first | refine onB_of ?_ ?_ | rfl) | omega)
  refine AWp_while0 (fun y : Nat × Nat => a + 1 ≤ y.1 ∧ y.1 ≤ y.2 ∧ y.2 ≤ b ∧ (∀ k, a + 1 ≤ k → k < y.1 → cf (g k) (g a) < 0) ∧ (∀ k, y.2 ≤ k → k < b → ¬ cf (g k) (g a) < 0)) (fun y => [(0, .os id ver), (1, .d (.i .i64 a)), (4, .fn fg caps), (10, .d (.i .i64 y.1)), (11, .d (.i .i64 y.2))]) (fun y => y.2 - y.1) (a + 1, b) ⟨Nat.le_refl _, by show a + 1 ≤ b; omega, Nat.le_refl _, fun k k1 k2 => by simp only [] at k2; omega, fun k k1 k2 => by simp only [] at k1; omega⟩ ?_ ?_
  · simp (dsimp := false) only [go_sem, Nat.reduceAdd, Nat.reduceBEq, Nat.reduceEqDiff, Nat.reduceLT, Nat.reduceLeDiff, Nat.reduceMul, Int.reduceToNat, reduceCtorEq, ↓reduceIte, Tryd.ntmps91, Tryd.results91, ks_91, mu_91, nd_91, xd_91, vw_91, ti_ag3, ti_hb91, ti_hb112, ti_in3, ti_in106, ti_sl35, ti_sz3, ti_us3, ti_us106, hid, hcap0, e1]
    first | done | exact ⟨hid, hc.bel⟩ | exact ⟨hidl _, hcapl _⟩ | exact hidl _ | exact hc.bel | exact hcapl _ | (simp [hid]; done)
  rintro ⟨i, j⟩ ⟨h1, h2, h3, h4, h5⟩
  simp only [] at h1 h2 h3 h4 h5 ⊢
  by_cases hij : i < j
  · have hij' : ((i : Int) < (j : Int)) = True := eq_true (by omega)
    have hw1 := wrapu_eq (x := (i : Int) + (j : Int)) (y := i + j) (by omega) (by omega)
    have hw2 := half_eq (i + j) (by omega)
    have hd1 : i ≤ (i + j) / 2 := by omega
    have hd2 : (i + j) / 2 < j := by omega
    generalize hh : (i + j) / 2 = h at hw2 hd1 hd2
    have b0 : ((0 : Int) ≤ (h : Int)) = True := eq_true (by omega)
    have b1 : ((h : Int) < (n : Int)) = True := eq_true (by omega)
    have gh := tab_get dd (n := n) (g := g) (k := h) (by omega)
    have call := fun H K hk => hc.call (g h) (g a) H K (hP h (by omega)) (hP a (by omega)) hk
    by_cases hlt : cf (g h) (g a) < 0
    · have hlt' : (cf (g h) (g a) < 0) = True := eq_true hlt
      have eh : (h : Int) + 1 = ((h + 1 : Nat) : Int) := by omega
      have nx := up_lo w hM.r (by omega) (by omega) hlt
      repeat' (first | with_reducible (first | refine And.intro ?_ ?_ | intro _ | refine AWp_seq ?_ | refine AWp_block ?_ | (refine hKv _ _ (AWp_nop ?_); clear hKv Kv) | (refine hKA ?_; clear hKA hKB KA KB) | (refine hKB ?_; clear hKA hKB KA KB) | refine AWp_skipN ?_ | refine AWp_exitO (by repeat (first | exact Out.hit | apply Out.thenA | apply Out.out rfl)) ?_) | ((first | with_reducible (first | (refine hKv _ _ ?_; clear hKv Kv) | ((first | refine AWp_regC mu_91 ks_91 ?_ | refine AWp_drawX xd_91 mu_91 ks_91 vw_91 (by decide) ti_mixed (by kernel_rfl) ?_ | refine AWp_draw nd_91 mu_91 ks_91 ti_mixed (by kernel_rfl) ?_ | refine AWp_regE mu_91 ks_91 ?_ | refine AWp_drawE nd_91 mu_91 ks_91 ti_mixed (by kernel_rfl) ?_ | refine AWp_drawXE xd_91 mu_91 ks_91 vw_91 (by decide) ti_mixed (by kernel_rfl) ?_); intro Kv hKv) | refine AWp_retR ?_) | refine call _ _ ?_ | refine QCall_of (call _ _ (Two_intro _ _)) ?_); try simp (dsimp := false) only [go_sem, Nat.reduceAdd, Nat.reduceBEq, Nat.reduceEqDiff, Nat.reduceLT, Nat.reduceLeDiff, Nat.reduceMul, Int.reduceToNat, reduceCtorEq, ↓reduceIte, Tryd.ntmps91, Tryd.results91, ks_91, mu_91, nd_91, xd_91, vw_91, ti_ag3, ti_hb91, ti_hb112, ti_in3, ti_in106, ti_sl35, ti_sz3, ti_us3, ti_us106, hr, sob, hid, hcap0, hhb, hij', hw1, hw2, a0, a1, b0, b1, ga, gh, hlt', eh, tab_len, not_true_eq_false, not_false_eq_true, Bool.and_true, Bool.true_and, Bool.false_and, Bool.and_false, Int.reduceEq, Int.reduceLT, Int.reduceLE]) | (refine AWp_condC rfl ?_; intro KA KB hKA hKB; try simp only [onB_true, onB_false, onB_dec, onB_ndec, onB_not, onB_and, onB_or]) | (refine AWp_condA rfl ?_ ?_) | with_reducible (first | refine onB_of ?_ ?_ | rfl) | omega)
      all_goals try first | (refine AWp_skip ?_; simp (dsimp := false) only [go_sem, Nat.reduceAdd, Nat.reduceBEq, Nat.reduceEqDiff, Nat.reduceLT, Nat.reduceLeDiff, Nat.reduceMul, Int.reduceToNat, reduceCtorEq, ↓reduceIte, Tryd.ntmps91, Tryd.results91, ks_91, mu_91, nd_91, xd_91, vw_91, ti_ag3, ti_hb91, ti_hb112, ti_in3, ti_in106, ti_sl35, ti_sz3, ti_us3, ti_us106, hr, sob, hid, hcap0, hhb, hij', hw1, hw2, a0, a1, b0, b1, ga, gh, hlt', eh, tab_len, not_true_eq_false, not_false_eq_true, Bool.and_true, Bool.true_and, Bool.false_and, Bool.and_false, Int.reduceEq, Int.reduceLT, Int.reduceLE]) | (refine AWp_exit ?_; simp (dsimp := false) only [go_sem, Nat.reduceAdd, Nat.reduceBEq, Nat.reduceEqDiff, Nat.reduceLT, Nat.reduceLeDiff, Nat.reduceMul, Int.reduceToNat, reduceCtorEq, ↓reduceIte, Tryd.ntmps91, Tryd.results91, ks_91, mu_91, nd_91, xd_91, vw_91, ti_ag3, ti_hb91, ti_hb112, ti_in3, ti_in106, ti_sl35, ti_sz3, ti_us3, ti_us106, hr, sob, hid, hcap0, hhb, hij', hw1, hw2, a0, a1, b0, b1, ga, gh, hlt', eh, tab_len, not_true_eq_false, not_false_eq_true, Bool.and_true, Bool.true_and, Bool.false_and, Bool.and_false, Int.reduceEq, Int.reduceLT, Int.reduceLE])
      all_goals first
        | omega
        | exact ⟨(h + 1, j), ⟨by show a + 1 ≤ h + 1; omega, by show h + 1 ≤ j; omega, h3, nx, h5⟩, by show j - (h + 1) < j - i; omega, by (repeat' (refine And.intro ?_ ?_)) <;> first | rfl | omega | exact hcap0 | exact hcapl _ | exact hidl _ | (simp; done) | (simp; omega)⟩
    · have hlt' : (cf (g h) (g a) < 0) = False := eq_false hlt
      have nx := up_hi w hM.r (by omega) (by omega) hlt
      repeat' (first | with_reducible (first | refine And.intro ?_ ?_ | intro _ | refine AWp_seq ?_ | refine AWp_block ?_ | (refine hKv _ _ (AWp_nop ?_); clear hKv Kv) | (refine hKA ?_; clear hKA hKB KA KB) | (refine hKB ?_; clear hKA hKB KA KB) | refine AWp_skipN ?_ | refine AWp_exitO (by repeat (first | exact Out.hit | apply Out.thenA | apply Out.out rfl)) ?_) | ((first | with_reducible (first | (refine hKv _ _ ?_; clear hKv Kv) | ((first | refine AWp_regC mu_91 ks_91 ?_ | refine AWp_drawX xd_91 mu_91 ks_91 vw_91 (by decide) ti_mixed (by kernel_rfl) ?_ | refine AWp_draw nd_91 mu_91 ks_91 ti_mixed (by kernel_rfl) ?_ | refine AWp_regE mu_91 ks_91 ?_ | refine AWp_drawE nd_91 mu_91 ks_91 ti_mixed (by kernel_rfl) ?_ | refine AWp_drawXE xd_91 mu_91 ks_91 vw_91 (by decide) ti_mixed (by kernel_rfl) ?_); intro Kv hKv) | refine AWp_retR ?_) | refine call _ _ ?_ | refine QCall_of (call _ _ (Two_intro _ _)) ?_); try simp (dsimp := false) only [go_sem, Nat.reduceAdd, Nat.reduceBEq, Nat.reduceEqDiff, Nat.reduceLT, Nat.reduceLeDiff, Nat.reduceMul, Int.reduceToNat, reduceCtorEq, ↓reduceIte, Tryd.ntmps91, Tryd.results91, ks_91, mu_91, nd_91, xd_91, vw_91, ti_ag3, ti_hb91, ti_hb112, ti_in3, ti_in106, ti_sl35, ti_sz3, ti_us3, ti_us106, hr, sob, hid, hcap0, hhb, hij', hw1, hw2, a0, a1, b0, b1, ga, gh, hlt', tab_len, not_true_eq_false, not_false_eq_true, Bool.and_true, Bool.true_and, Bool.false_and, Bool.and_false, Int.reduceEq, Int.reduceLT, Int.reduceLE]) | (refine AWp_condC rfl ?_; intro KA KB hKA hKB; try simp only [onB_true, onB_false, onB_dec, onB_ndec, onB_not, onB_and, onB_or]) | (refine AWp_condA rfl ?_ ?_) | with_reducible (first | refine onB_of ?_ ?_ | rfl) | omega)
      all_goals try first | (refine AWp_skip ?_; simp (dsimp := false) only [go_sem, Nat.reduceAdd, Nat.reduceBEq, Nat.reduceEqDiff, Nat.reduceLT, Nat.reduceLeDiff, Nat.reduceMul, Int.reduceToNat, reduceCtorEq, ↓reduceIte, Tryd.ntmps91, Tryd.results91, ks_91, mu_91, nd_91, xd_91, vw_91, ti_ag3, ti_hb91, ti_hb112, ti_in3, ti_in106, ti_sl35, ti_sz3, ti_us3, ti_us106, hr, sob, hid, hcap0, hhb, hij', hw1, hw2, a0, a1, b0, b1, ga, gh, hlt', tab_len, not_true_eq_false, not_false_eq_true, Bool.and_true, Bool.true_and, Bool.false_and, Bool.and_false, Int.reduceEq, Int.reduceLT, Int.reduceLE]) | (refine AWp_exit ?_; simp (dsimp := false) only [go_sem, Nat.reduceAdd, Nat.reduceBEq, Nat.reduceEqDiff, Nat.reduceLT, Nat.reduceLeDiff, Nat.reduceMul, Int.reduceToNat, reduceCtorEq, ↓reduceIte, Tryd.ntmps91, Tryd.results91, ks_91, mu_91, nd_91, xd_91, vw_91, ti_ag3, ti_hb91, ti_hb112, ti_in3, ti_in106, ti_sl35, ti_sz3, ti_us3, ti_us106, hr, sob, hid, hcap0, hhb, hij', hw1, hw2, a0, a1, b0, b1, ga, gh, hlt', tab_len, not_true_eq_false, not_false_eq_true, Bool.and_true, Bool.true_and, Bool.false_and, Bool.and_false, Int.reduceEq, Int.reduceLT, Int.reduceLE])
      all_goals first
        | omega
        | exact ⟨(i, h), ⟨h1, hd1, by show h ≤ b; omega, h4, nx⟩, by show h - i < j - i; omega, by (repeat' (refine And.intro ?_ ?_)) <;> first | rfl | omega | exact hcap0 | exact hcapl _ | exact hidl _ | (simp; done) | (simp; omega)⟩
  · have hij' : ((i : Int) < (j : Int)) = False := eq_false (by omega)
    obtain ⟨k1, k2⟩ := mrg_a w hM h1 (by omega) h4 (fun k k1 k2 => h5 k (by omega) k2)
    have hk := hk _ k1 k2
    repeat' (first | with_reducible (first | refine And.intro ?_ ?_ | intro _ | refine AWp_seq ?_ | refine AWp_block ?_ | (refine hKv _ _ (AWp_nop ?_); clear hKv Kv) | (refine hKA ?_; clear hKA hKB KA KB) | (refine hKB ?_; clear hKA hKB KA KB) | refine AWp_skipN ?_ | refine AWp_exitO (by repeat (first | exact Out.hit | apply Out.thenA | apply Out.out rfl)) ?_) | (with_reducible (first | (refine hKv _ _ ?_; clear hKv Kv) | ((first | refine AWp_regC mu_91 ks_91 ?_ | refine AWp_drawX xd_91 mu_91 ks_91 vw_91 (by decide) ti_mixed (by kernel_rfl) ?_ | refine AWp_draw nd_91 mu_91 ks_91 ti_mixed (by kernel_rfl) ?_ | refine AWp_regE mu_91 ks_91 ?_ | refine AWp_drawE nd_91 mu_91 ks_91 ti_mixed (by kernel_rfl) ?_ | refine AWp_drawXE xd_91 mu_91 ks_91 vw_91 (by decide) ti_mixed (by kernel_rfl) ?_); intro Kv hKv) | refine AWp_retR ?_); try simp (dsimp := false) only [go_sem, Nat.reduceAdd, Nat.reduceBEq, Nat.reduceEqDiff, Nat.reduceLT, Nat.reduceLeDiff, Nat.reduceMul, Int.reduceToNat, reduceCtorEq, ↓reduceIte, Tryd.ntmps91, Tryd.results91, ks_91, mu_91, nd_91, xd_91, vw_91, ti_ag3, ti_hb91, ti_hb112, ti_in3, ti_in106, ti_sl35, ti_sz3, ti_us3, ti_us106, hr, sob, hid, hcap0, hij', not_true_eq_false, not_false_eq_true, Bool.and_true, Bool.true_and, Bool.false_and, Bool.and_false, Int.reduceEq, Int.reduceLT, Int.reduceLE]) | (refine AWp_condC rfl ?_; intro KA KB hKA hKB; try simp only [onB_true, onB_false, onB_dec, onB_ndec, onB_not, onB_and, onB_or]) | (refine AWp_condA rfl ?_ ?_) | with_reducible (first | refine onB_of ?_ ?_ | rfl) | omega)
    refine AWp_whileP (fun k : Nat => a ≤ k ∧ k + 1 ≤ i) (fun k => [(0, .os id ver), (10, .d (.i .i64 i)), (13, .d (.i .i64 k))]) (fun k => H.set id (sob dd ver n (rotF g a (a + 1) (k + 1)))) (fun k => i - k) a ⟨Nat.le_refl _, h1⟩ ?_ ?_ ?_ ?_ ?_
    · rw [rot_self2 (Nat.le_succ a), set_same hr]
    · simp (dsimp := false) only [go_sem, Nat.reduceAdd, Nat.reduceBEq, Nat.reduceEqDiff, Nat.reduceLT, Nat.reduceLeDiff, Nat.reduceMul, Int.reduceToNat, reduceCtorEq, ↓reduceIte, Tryd.ntmps91, Tryd.results91, ks_91, mu_91, nd_91, xd_91, vw_91, ti_ag3, ti_hb91, ti_hb112, ti_in3, ti_in106, ti_sl35, ti_sz3, ti_us3, ti_us106, hr, sob, hid, hcap0, hij', not_true_eq_false, not_false_eq_true, Bool.and_true, Bool.true_and, Bool.false_and, Bool.and_false, Int.reduceEq, Int.reduceLT, Int.reduceLE]
      first | done | exact ⟨hid, hc.bel⟩ | exact ⟨hidl _, hcapl _⟩ | exact hidl _ | exact hc.bel | exact hcapl _ | (simp [hid]; done)
    · intro k _
      simp
    · intro k _
      exact closed_set (closed_self H) (sob_bel dd _ _ _ _)
    rintro k ⟨q1, q2⟩
    by_cases hki : k + 1 < i
    · have hki' : ((k : Int) < (i : Int) - 1) = True := eq_true (by omega)
      have hst := up_step (g := g) q1
      have c0 : ((0 : Int) ≤ (k : Int)) = True := eq_true (by omega)
      have c1 : ((k : Int) < (n : Int)) = True := eq_true (by omega)
      have d0 : ((0 : Int) ≤ (k : Int) + 1) = True := eq_true (by omega)
      have d1 : ((k : Int) + 1 < (n : Int)) = True := eq_true (by omega)
      have d2 : ((k : Int) + 1).toNat = k + 1 := by omega
      have gk := fun g => tab_get dd (n := n) (g := g) (k := k) (by omega)
      have gl := fun g => tab_get dd (n := n) (g := g) (k := k + 1) (by omega)
      repeat' (first | with_reducible (first | refine And.intro ?_ ?_ | intro _ | refine AWp_seq ?_ | refine AWp_block ?_ | (refine hKv _ _ (AWp_nop ?_); clear hKv Kv) | (refine hKA ?_; clear hKA hKB KA KB) | (refine hKB ?_; clear hKA hKB KA KB) | refine AWp_skipN ?_ | refine AWp_exitO (by repeat (first | exact Out.hit | apply Out.thenA | apply Out.out rfl)) ?_) | (with_reducible (first | (refine hKv _ _ ?_; clear hKv Kv) | ((first | refine AWp_regC mu_91 ks_91 ?_ | refine AWp_drawX xd_91 mu_91 ks_91 vw_91 (by decide) ti_mixed (by kernel_rfl) ?_ | refine AWp_draw nd_91 mu_91 ks_91 ti_mixed (by kernel_rfl) ?_ | refine AWp_regE mu_91 ks_91 ?_ | refine AWp_drawE nd_91 mu_91 ks_91 ti_mixed (by kernel_rfl) ?_ | refine AWp_drawXE xd_91 mu_91 ks_91 vw_91 (by decide) ti_mixed (by kernel_rfl) ?_); intro Kv hKv) | refine AWp_retR ?_); try simp (dsimp := false) only [go_sem, Nat.reduceAdd, Nat.reduceBEq, Nat.reduceEqDiff, Nat.reduceLT, Nat.reduceLeDiff, Nat.reduceMul, Int.reduceToNat, reduceCtorEq, ↓reduceIte, Tryd.ntmps91, Tryd.results91, ks_91, mu_91, nd_91, xd_91, vw_91, ti_ag3, ti_hb91, ti_hb112, ti_in3, ti_in106, ti_sl35, ti_sz3, ti_us3, ti_us106, sob, hgx, hss, hidl, hid, hki', c0, c1, d0, d1, d2, gk, gl, hts, hst, tab_len, List.length_set, not_true_eq_false, not_false_eq_true, Bool.and_true, Bool.true_and, Bool.false_and, Bool.and_false, Int.reduceEq, Int.reduceLT, Int.reduceLE]) | (refine AWp_condC rfl ?_; intro KA KB hKA hKB; try simp only [onB_true, onB_false, onB_dec, onB_ndec, onB_not, onB_and, onB_or]) | (refine AWp_condA rfl ?_ ?_) | with_reducible (first | refine onB_of ?_ ?_ | rfl) | omega)
      all_goals try first | (refine AWp_skip ?_; simp (dsimp := false) only [go_sem, Nat.reduceAdd, Nat.reduceBEq, Nat.reduceEqDiff, Nat.reduceLT, Nat.reduceLeDiff, Nat.reduceMul, Int.reduceToNat, reduceCtorEq, ↓reduceIte, Tryd.ntmps91, Tryd.results91, ks_91, mu_91, nd_91, xd_91, vw_91, ti_ag3, ti_hb91, ti_hb112, ti_in3, ti_in106, ti_sl35, ti_sz3, ti_us3, ti_us106, sob, hgx, hss, hidl, hid, hki', c0, c1, d0, d1, d2, gk, gl, hts, hst, tab_len, List.length_set, not_true_eq_false, not_false_eq_true, Bool.and_true, Bool.true_and, Bool.false_and, Bool.and_false, Int.reduceEq, Int.reduceLT, Int.reduceLE]) | (refine AWp_exit ?_; simp (dsimp := false) only [go_sem, Nat.reduceAdd, Nat.reduceBEq, Nat.reduceEqDiff, Nat.reduceLT, Nat.reduceLeDiff, Nat.reduceMul, Int.reduceToNat, reduceCtorEq, ↓reduceIte, Tryd.ntmps91, Tryd.results91, ks_91, mu_91, nd_91, xd_91, vw_91, ti_ag3, ti_hb91, ti_hb112, ti_in3, ti_in106, ti_sl35, ti_sz3, ti_us3, ti_us106, sob, hgx, hss, hidl, hid, hki', c0, c1, d0, d1, d2, gk, gl, hts, hst, tab_len, List.length_set, not_true_eq_false, not_false_eq_true, Bool.and_true, Bool.true_and, Bool.false_and, Bool.and_false, Int.reduceEq, Int.reduceLT, Int.reduceLE])
      all_goals first
        | omega
        | exact ⟨k + 1, ⟨by omega, by omega⟩, by omega, by (repeat' (refine And.intro ?_ ?_)) <;> first | rfl | omega | exact hcap0 | exact hcapl _ | exact hidl _ | (simp; done) | (simp; omega)⟩
    · have hki' : ((k : Int) < (i : Int) - 1) = False := eq_false (by omega)
      obtain rfl : k + 1 = i := by omega
      repeat' (first | with_reducible (first | refine And.intro ?_ ?_ | intro _ | refine AWp_seq ?_ | refine AWp_block ?_ | (refine hKv _ _ (AWp_nop ?_); clear hKv Kv) | (refine hKA ?_; clear hKA hKB KA KB) | (refine hKB ?_; clear hKA hKB KA KB) | refine AWp_skipN ?_ | refine AWp_exitO (by repeat (first | exact Out.hit | apply Out.thenA | apply Out.out rfl)) ?_) | (with_reducible (first | (refine hKv _ _ ?_; clear hKv Kv) | ((first | refine AWp_regC mu_91 ks_91 ?_ | refine AWp_drawX xd_91 mu_91 ks_91 vw_91 (by decide) ti_mixed (by kernel_rfl) ?_ | refine AWp_draw nd_91 mu_91 ks_91 ti_mixed (by kernel_rfl) ?_ | refine AWp_regE mu_91 ks_91 ?_ | refine AWp_drawE nd_91 mu_91 ks_91 ti_mixed (by kernel_rfl) ?_ | refine AWp_drawXE xd_91 mu_91 ks_91 vw_91 (by decide) ti_mixed (by kernel_rfl) ?_); intro Kv hKv) | refine AWp_retR ?_); try simp (dsimp := false) only [go_sem, Nat.reduceAdd, Nat.reduceBEq, Nat.reduceEqDiff, Nat.reduceLT, Nat.reduceLeDiff, Nat.reduceMul, Int.reduceToNat, reduceCtorEq, ↓reduceIte, Tryd.ntmps91, Tryd.results91, ks_91, mu_91, nd_91, xd_91, vw_91, ti_ag3, ti_hb91, ti_hb112, ti_in3, ti_in106, ti_sl35, ti_sz3, ti_us3, ti_us106, sob, hgx, hidl, hid, hki', not_true_eq_false, not_false_eq_true, Bool.and_true, Bool.true_and, Bool.false_and, Bool.and_false, Int.reduceEq, Int.reduceLT, Int.reduceLE]) | (refine AWp_condC rfl ?_; intro KA KB hKA hKB; try simp only [onB_true, onB_false, onB_dec, onB_ndec, onB_not, onB_and, onB_or]) | (refine AWp_condA rfl ?_ ?_) | with_reducible (first | refine onB_of ?_ ?_ | rfl) | omega)
      all_goals try first | (refine AWp_skip ?_; simp (dsimp := false) only [go_sem, Nat.reduceAdd, Nat.reduceBEq, Nat.reduceEqDiff, Nat.reduceLT, Nat.reduceLeDiff, Nat.reduceMul, Int.reduceToNat, reduceCtorEq, ↓reduceIte, Tryd.ntmps91, Tryd.results91, ks_91, mu_91, nd_91, xd_91, vw_91, ti_ag3, ti_hb91, ti_hb112, ti_in3, ti_in106, ti_sl35, ti_sz3, ti_us3, ti_us106, sob, hgx, hidl, hid, hki', not_true_eq_false, not_false_eq_true, Bool.and_true, Bool.true_and, Bool.false_and, Bool.and_false, Int.reduceEq, Int.reduceLT, Int.reduceLE]) | (refine AWp_exit ?_; simp (dsimp := false) only [go_sem, Nat.reduceAdd, Nat.reduceBEq, Nat.reduceEqDiff, Nat.reduceLT, Nat.reduceLeDiff, Nat.reduceMul, Int.reduceToNat, reduceCtorEq, ↓reduceIte, Tryd.ntmps91, Tryd.results91, ks_91, mu_91, nd_91, xd_91, vw_91, ti_ag3, ti_hb91, ti_hb112, ti_in3, ti_in106, ti_sl35, ti_sz3, ti_us3, ti_us106, sob, hgx, hidl, hid, hki', not_true_eq_false, not_false_eq_true, Bool.and_true, Bool.true_and, Bool.false_and, Bool.and_false, Int.reduceEq, Int.reduceLT, Int.reduceLE])
      all_goals first
        | omega
        | exact keepS hk (by simp) (closed_set (closed_self H) (sob_bel dd _ _ _ _)) (by simp [Bel_tu])
theorem symB_A {α : Type} (dd : α → D) (cf : α → α → Int) (tg : α → Nat) (w : Weak cf) (fg : Nat) (caps : List V) (P : α → Prop) (id ver n : Nat) (g : Nat → α) (a m : Nat) (hP : ∀ k, k < n → P (g k)) (hn : n ≤ 1000000000) (hab : a + 1 < m) (hb : m + 1 ≤ n) (hM : Mrg cf tg g a m (m + 1)) (H : Heap) (hc : Cmp dd cf fg caps H.length P) (K : V → Heap → Prop) (hr : H[id]? = some (sob dd ver n g))
    (hk : ∀ g', Pst a (m + 1) g g' → Srt cf tg g' a (m + 1) → K (.tu []) (H.set id (sob dd ver n g'))) :
    ACalls Tryd.prog 91 [.os id ver, .d (.i .i64 a), .d (.i .i64 m), .d (.i .i64 (m + 1 : Nat)), .fn fg caps] H K := by
  have hid := lt_of_get hr
  have hhb := hc.hb
  have hcap0 := hc.bel
  have hidl : ∀ X, id < (H.set id X).length := fun X => by simpa using hid
  have hcapl : ∀ X v, v ∈ caps → Bel (H.set id X).length v := fun X v hv => by simpa using hc.bel v hv
  have hgx : ∀ X, (H.set id X)[id]? = some X := fun X => get_self hr X
  have hss : ∀ X Y, (H.set id X).set id Y = H.set id Y := fun X Y => List.set_set ..
  have hts := fun g (i : Nat) x => tab_set dd (n := n) (g := g) (i := i) (x := x)
  have e1 : (((m : Int) - (a : Int)) = 1) = False := eq_false (by omega)
  have e2 : ((((m + 1 : Nat) : Int) - (m : Int)) = 1) = True := eq_true (by omega)
  have ga := tab_get dd (n := n) (g := g) (k := m) (by omega)
  have a0 : ((0 : Int) ≤ (m : Int)) = True := eq_true (by omega)
  have a1 : ((m : Int) < (n : Int)) = True := eq_true (by omega)
  refine ACalls_of Tryd.func91 rfl in_91 (Nat.le_of_ble_eq_true rfl) ?_
  intro F hF
  simp (dsimp := false) only [go_sem, Nat.reduceAdd, Nat.reduceBEq, Nat.reduceEqDiff, Nat.reduceLT, Nat.reduceLeDiff, Nat.reduceMul, Int.reduceToNat, reduceCtorEq, ↓reduceIte, Tryd.ntmps91, Tryd.results91, ks_91, mu_91, nd_91, xd_91, vw_91, ti_ag3, ti_hb91, ti_hb112, ti_in3, ti_in106, ti_sl35, ti_sz3, ti_us3, ti_us106, hid, hcap0, e1, e2, in_91] at hF
  subst hF
  repeat' (first | with_reducible (first | refine And.intro ?_ ?_ | intro _ | refine AWp_seq ?_ | refine AWp_block ?_ | (refine hKv _ _ (AWp_nop ?_); clear hKv Kv) | (refine hKA ?_; clear hKA hKB KA KB) | (refine hKB ?_; clear hKA hKB KA KB) | refine AWp_skipN ?_ | refine AWp_exitO (by repeat (first | exact Out.hit | apply Out.thenA | apply Out.out rfl)) ?_) | (with_reducible (first | (refine hKv _ _ ?_; clear hKv Kv) | ((first | refine AWp_regC mu_91 ks_91 ?_ | refine AWp_drawX xd_91 mu_91 ks_91 vw_91 (by decide) ti_mixed (by kernel_rfl) ?_ | refine AWp_draw nd_91 mu_91 ks_91 ti_mixed (by kernel_rfl) ?_ | refine AWp_regE mu_91 ks_91 ?_ | refine AWp_drawE nd_91 mu_91 ks_91 ti_mixed (by kernel_rfl) ?_ | refine AWp_drawXE xd_91 mu_91 ks_91 vw_91 (by decide) ti_mixed (by kernel_rfl) ?_); intro Kv hKv) | refine AWp_retR ?_); try simp (dsimp := false) only [go_sem, Nat.reduceAdd, Nat.reduceBEq, Nat.reduceEqDiff, Nat.reduceLT, Nat.reduceLeDiff, Nat.reduceMul, Int.reduceToNat, reduceCtorEq, ↓reduceIte, Tryd.ntmps91, Tryd.results91, ks_91, mu_91, nd_91, xd_91, vw_91, ti_ag3, ti_hb91, ti_hb112, ti_in3, ti_in106, ti_sl35, ti_sz3, ti_us3, ti_us106, hid, hcap0, e1, e2]) | (refine AWp_condC rfl ?_; intro KA KB hKA hKB; try simp only [onB_true, onB_false, onB_dec, onB_ndec, onB_not, onB_and, onB_or]) | (refine AWp_condA rfl ?_ ?_) | with_reducible (first | refine onB_of ?_ ?_ | rfl) | omega)
  refine AWp_while0 (fun y : Nat × Nat => a ≤ y.1 ∧ y.1 ≤ y.2 ∧ y.2 ≤ m ∧ (∀ k, a ≤ k → k < y.1 → ¬ cf (g m) (g k) < 0) ∧ (∀ k, y.2 ≤ k → k < m → cf (g m) (g k) < 0)) (fun y => [(0, .os id ver), (2, .d (.i .i64 m)), (4, .fn fg caps), (14, .d (.i .i64 y.1)), (15, .d (.i .i64 y.2))]) (fun y => y.2 - y.1) (a, m) ⟨Nat.le_refl _, by show a ≤ m; omega, Nat.le_refl _, fun k k1 k2 => by simp only [] at k2; omega, fun k k1 k2 => by simp only [] at k1; omega⟩ ?_ ?_
  · simp (dsimp := false) only [go_sem, Nat.reduceAdd, Nat.reduceBEq, Nat.reduceEqDiff, Nat.reduceLT, Nat.reduceLeDiff, Nat.reduceMul, Int.reduceToNat, reduceCtorEq, ↓reduceIte, Tryd.ntmps91, Tryd.results91, ks_91, mu_91, nd_91, xd_91, vw_91, ti_ag3, ti_hb91, ti_hb112, ti_in3, ti_in106, ti_sl35, ti_sz3, ti_us3, ti_us106, hid, hcap0, e1, e2]
    first | done | exact ⟨hid, hc.bel⟩ | exact ⟨hidl _, hcapl _⟩ | exact hidl _ | exact hc.bel | exact hcapl _ | (simp [hid]; done)
  rintro ⟨i, j⟩ ⟨h1, h2, h3, h4, h5⟩
  simp only [] at h1 h2 h3 h4 h5 ⊢
  by_cases hij : i < j
  · have hij' : ((i : Int) < (j : Int)) = True := eq_true (by omega)
    have hw1 := wrapu_eq (x := (i : Int) + (j : Int)) (y := i + j) (by omega) (by omega)
    have hw2 := half_eq (i + j) (by omega)
    have hd1 : i ≤ (i + j) / 2 := by omega
    have hd2 : (i + j) / 2 < j := by omega
    generalize hh : (i + j) / 2 = h at hw2 hd1 hd2
    have b0 : ((0 : Int) ≤ (h : Int)) = True := eq_true (by omega)
    have b1 : ((h : Int) < (n : Int)) = True := eq_true (by omega)
    have gh := tab_get dd (n := n) (g := g) (k := h) (by omega)
    have call := fun H K hk => hc.call (g m) (g h) H K (hP m (by omega)) (hP h (by omega)) hk
    by_cases hlt : cf (g m) (g h) < 0
    · have hlt' : (cf (g m) (g h) < 0) = True := eq_true hlt
      have nx := dn_hi w hM.l (by omega) (by omega) hlt
      repeat' (first | with_reducible (first | refine And.intro ?_ ?_ | intro _ | refine AWp_seq ?_ | refine AWp_block ?_ | (refine hKv _ _ (AWp_nop ?_); clear hKv Kv) | (refine hKA ?_; clear hKA hKB KA KB) | (refine hKB ?_; clear hKA hKB KA KB) | refine AWp_skipN ?_ | refine AWp_exitO (by repeat (first | exact Out.hit | apply Out.thenA | apply Out.out rfl)) ?_) | ((first | with_reducible (first | (refine hKv _ _ ?_; clear hKv Kv) | ((first | refine AWp_regC mu_91 ks_91 ?_ | refine AWp_drawX xd_91 mu_91 ks_91 vw_91 (by decide) ti_mixed (by kernel_rfl) ?_ | refine AWp_draw nd_91 mu_91 ks_91 ti_mixed (by kernel_rfl) ?_ | refine AWp_regE mu_91 ks_91 ?_ | refine AWp_drawE nd_91 mu_91 ks_91 ti_mixed (by kernel_rfl) ?_ | refine AWp_drawXE xd_91 mu_91 ks_91 vw_91 (by decide) ti_mixed (by kernel_rfl) ?_); intro Kv hKv) | refine AWp_retR ?_) | refine call _ _ ?_ | refine QCall_of (call _ _ (Two_intro _ _)) ?_); try simp (dsimp := false) only [go_sem, Nat.reduceAdd, Nat.reduceBEq, Nat.reduceEqDiff, Nat.reduceLT, Nat.reduceLeDiff, Nat.reduceMul, Int.reduceToNat, reduceCtorEq, ↓reduceIte, Tryd.ntmps91, Tryd.results91, ks_91, mu_91, nd_91, xd_91, vw_91, ti_ag3, ti_hb91, ti_hb112, ti_in3, ti_in106, ti_sl35, ti_sz3, ti_us3, ti_us106, hr, sob, hid, hcap0, hhb, hij', hw1, hw2, a0, a1, b0, b1, ga, gh, hlt', tab_len, not_true_eq_false, not_false_eq_true, Bool.and_true, Bool.true_and, Bool.false_and, Bool.and_false, Int.reduceEq, Int.reduceLT, Int.reduceLE]) | (refine AWp_condC rfl ?_; intro KA KB hKA hKB; try simp only [onB_true, onB_false, onB_dec, onB_ndec, onB_not, onB_and, onB_or]) | (refine AWp_condA rfl ?_ ?_) | with_reducible (first | refine onB_of ?_ ?_ | rfl) | omega)
      all_goals try first | (refine AWp_skip ?_; simp (dsimp := false) only [go_sem, Nat.reduceAdd, Nat.reduceBEq, Nat.reduceEqDiff, Nat.reduceLT, Nat.reduceLeDiff, Nat.reduceMul, Int.reduceToNat, reduceCtorEq, ↓reduceIte, Tryd.ntmps91, Tryd.results91, ks_91, mu_91, nd_91, xd_91, vw_91, ti_ag3, ti_hb91, ti_hb112, ti_in3, ti_in106, ti_sl35, ti_sz3, ti_us3, ti_us106, hr, sob, hid, hcap0, hhb, hij', hw1, hw2, a0, a1, b0, b1, ga, gh, hlt', tab_len, not_true_eq_false, not_false_eq_true, Bool.and_true, Bool.true_and, Bool.false_and, Bool.and_false, Int.reduceEq, Int.reduceLT, Int.reduceLE]) | (refine AWp_exit ?_; simp (dsimp := false) only [go_sem, Nat.reduceAdd, Nat.reduceBEq, Nat.reduceEqDiff, Nat.reduceLT, Nat.reduceLeDiff, Nat.reduceMul, Int.reduceToNat, reduceCtorEq, ↓reduceIte, Tryd.ntmps91, Tryd.results91, ks_91, mu_91, nd_91, xd_91, vw_91, ti_ag3, ti_hb91, ti_hb112, ti_in3, ti_in106, ti_sl35, ti_sz3, ti_us3, ti_us106, hr, sob, hid, hcap0, hhb, hij', hw1, hw2, a0, a1, b0, b1, ga, gh, hlt', tab_len, not_true_eq_false, not_false_eq_true, Bool.and_true, Bool.true_and, Bool.false_and, Bool.and_false, Int.reduceEq, Int.reduceLT, Int.reduceLE])
      all_goals first
        | omega
        | exact ⟨(i, h), ⟨h1, hd1, by show h ≤ m; omega, h4, nx⟩, by show h - i < j - i; omega, by (repeat' (refine And.intro ?_ ?_)) <;> first | rfl | omega | exact hcap0 | exact hcapl _ | exact hidl _ | (simp; done) | (simp; omega)⟩
    · have hlt' : (cf (g m) (g h) < 0) = False := eq_false hlt
      have eh : (h : Int) + 1 = ((h + 1 : Nat) : Int) := by omega
      have nx := dn_lo w hM.l (by omega) (by omega) hlt
      repeat' (first | with_reducible (first | refine And.intro ?_ ?_ | intro _ | refine AWp_seq ?_ | refine AWp_block ?_ | (refine hKv _ _ (AWp_nop ?_); clear hKv Kv) | (refine hKA ?_; clear hKA hKB KA KB) | (refine hKB ?_; clear hKA hKB KA KB) | refine AWp_skipN ?_ | refine AWp_exitO (by repeat (first | exact Out.hit | apply Out.thenA | apply Out.out rfl)) ?_) | ((first | with_reducible (first | (refine hKv _ _ ?_; clear hKv Kv) | ((first | refine AWp_regC mu_91 ks_91 ?_ | refine AWp_drawX xd_91 mu_91 ks_91 vw_91 (by decide) ti_mixed (by kernel_rfl) ?_ | refine AWp_draw nd_91 mu_91 ks_91 ti_mixed (by kernel_rfl) ?_ | refine AWp_regE mu_91 ks_91 ?_ | refine AWp_drawE nd_91 mu_91 ks_91 ti_mixed (by kernel_rfl) ?_ | refine AWp_drawXE xd_91 mu_91 ks_91 vw_91 (by decide) ti_mixed (by kernel_rfl) ?_); intro Kv hKv) | refine AWp_retR ?_) | refine call _ _ ?_ | refine QCall_of (call _ _ (Two_intro _ _)) ?_); try simp (dsimp := false) only [go_sem, Nat.reduceAdd, Nat.reduceBEq, Nat.reduceEqDiff, Nat.reduceLT, Nat.reduceLeDiff, Nat.reduceMul, Int.reduceToNat, reduceCtorEq, ↓reduceIte, Tryd.ntmps91, Tryd.results91, ks_91, mu_91, nd_91, xd_91, vw_91, ti_ag3, ti_hb91, ti_hb112, ti_in3, ti_in106, ti_sl35, ti_sz3, ti_us3, ti_us106, hr, sob, hid, hcap0, hhb, hij', hw1, hw2, a0, a1, b0, b1, ga, gh, hlt', eh, tab_len, not_true_eq_false, not_false_eq_true, Bool.and_true, Bool.true_and, Bool.false_and, Bool.and_false, Int.reduceEq, Int.reduceLT, Int.reduceLE]) | (refine AWp_condC rfl ?_; intro KA KB hKA hKB; try simp only [onB_true, onB_false, onB_dec, onB_ndec, onB_not, onB_and, onB_or]) | (refine AWp_condA rfl ?_ ?_) | with_reducible (first | refine onB_of ?_ ?_ | rfl) | omega)
      all_goals try first | (refine AWp_skip ?_; simp (dsimp := false) only [go_sem, Nat.reduceAdd, Nat.reduceBEq, Nat.reduceEqDiff, Nat.reduceLT, Nat.reduceLeDiff, Nat.reduceMul, Int.reduceToNat, reduceCtorEq, ↓reduceIte, Tryd.ntmps91, Tryd.results91, ks_91, mu_91, nd_91, xd_91, vw_91, ti_ag3, ti_hb91, ti_hb112, ti_in3, ti_in106, ti_sl35, ti_sz3, ti_us3, ti_us106, hr, sob, hid, hcap0, hhb, hij', hw1, hw2, a0, a1, b0, b1, ga, gh, hlt', eh, tab_len, not_true_eq_false, not_false_eq_true, Bool.and_true, Bool.true_and, Bool.false_and, Bool.and_false, Int.reduceEq, Int.reduceLT, Int.reduceLE]) | (refine AWp_exit ?_; simp (dsimp := false) only [go_sem, Nat.reduceAdd, Nat.reduceBEq, Nat.reduceEqDiff, Nat.reduceLT, Nat.reduceLeDiff, Nat.reduceMul, Int.reduceToNat, reduceCtorEq, ↓reduceIte, Tryd.ntmps91, Tryd.results91, ks_91, mu_91, nd_91, xd_91, vw_91, ti_ag3, ti_hb91, ti_hb112, ti_in3, ti_in106, ti_sl35, ti_sz3, ti_us3, ti_us106, hr, sob, hid, hcap0, hhb, hij', hw1, hw2, a0, a1, b0, b1, ga, gh, hlt', eh, tab_len, not_true_eq_false, not_false_eq_true, Bool.and_true, Bool.true_and, Bool.false_and, Bool.and_false, Int.reduceEq, Int.reduceLT, Int.reduceLE])
      all_goals first
        | omega
        | exact ⟨(h + 1, j), ⟨by show a ≤ h + 1; omega, by show h + 1 ≤ j; omega, h3, nx, h5⟩, by show j - (h + 1) < j - i; omega, by (repeat' (refine And.intro ?_ ?_)) <;> first | rfl | omega | exact hcap0 | exact hcapl _ | exact hidl _ | (simp; done) | (simp; omega)⟩
  · have hij' : ((i : Int) < (j : Int)) = False := eq_false (by omega)
    obtain ⟨k1, k2⟩ := mrg_b w hM h1 (by omega) h4 (fun k k1 k2 => h5 k (by omega) k2)
    have hk := hk _ k1 k2
    repeat' (first | with_reducible (first | refine And.intro ?_ ?_ | intro _ | refine AWp_seq ?_ | refine AWp_block ?_ | (refine hKv _ _ (AWp_nop ?_); clear hKv Kv) | (refine hKA ?_; clear hKA hKB KA KB) | (refine hKB ?_; clear hKA hKB KA KB) | refine AWp_skipN ?_ | refine AWp_exitO (by repeat (first | exact Out.hit | apply Out.thenA | apply Out.out rfl)) ?_) | (with_reducible (first | (refine hKv _ _ ?_; clear hKv Kv) | ((first | refine AWp_regC mu_91 ks_91 ?_ | refine AWp_drawX xd_91 mu_91 ks_91 vw_91 (by decide) ti_mixed (by kernel_rfl) ?_ | refine AWp_draw nd_91 mu_91 ks_91 ti_mixed (by kernel_rfl) ?_ | refine AWp_regE mu_91 ks_91 ?_ | refine AWp_drawE nd_91 mu_91 ks_91 ti_mixed (by kernel_rfl) ?_ | refine AWp_drawXE xd_91 mu_91 ks_91 vw_91 (by decide) ti_mixed (by kernel_rfl) ?_); intro Kv hKv) | refine AWp_retR ?_); try simp (dsimp := false) only [go_sem, Nat.reduceAdd, Nat.reduceBEq, Nat.reduceEqDiff, Nat.reduceLT, Nat.reduceLeDiff, Nat.reduceMul, Int.reduceToNat, reduceCtorEq, ↓reduceIte, Tryd.ntmps91, Tryd.results91, ks_91, mu_91, nd_91, xd_91, vw_91, ti_ag3, ti_hb91, ti_hb112, ti_in3, ti_in106, ti_sl35, ti_sz3, ti_us3, ti_us106, hr, sob, hid, hcap0, hij', not_true_eq_false, not_false_eq_true, Bool.and_true, Bool.true_and, Bool.false_and, Bool.and_false, Int.reduceEq, Int.reduceLT, Int.reduceLE]) | (refine AWp_condC rfl ?_; intro KA KB hKA hKB; try simp only [onB_true, onB_false, onB_dec, onB_ndec, onB_not, onB_and, onB_or]) | (refine AWp_condA rfl ?_ ?_) | with_reducible (first | refine onB_of ?_ ?_ | rfl) | omega)
    refine AWp_whileP (fun k : Nat => i ≤ k ∧ k ≤ m) (fun k => [(0, .os id ver), (14, .d (.i .i64 i)), (17, .d (.i .i64 k))]) (fun k => H.set id (sob dd ver n (insF g k m))) (fun k => k) m ⟨by omega, Nat.le_refl _⟩ ?_ ?_ ?_ ?_ ?_
    · rw [ins_self, set_same hr]
    · simp (dsimp := false) only [go_sem, Nat.reduceAdd, Nat.reduceBEq, Nat.reduceEqDiff, Nat.reduceLT, Nat.reduceLeDiff, Nat.reduceMul, Int.reduceToNat, reduceCtorEq, ↓reduceIte, Tryd.ntmps91, Tryd.results91, ks_91, mu_91, nd_91, xd_91, vw_91, ti_ag3, ti_hb91, ti_hb112, ti_in3, ti_in106, ti_sl35, ti_sz3, ti_us3, ti_us106, hr, sob, hid, hcap0, hij', not_true_eq_false, not_false_eq_true, Bool.and_true, Bool.true_and, Bool.false_and, Bool.and_false, Int.reduceEq, Int.reduceLT, Int.reduceLE]
      first | done | exact ⟨hid, hc.bel⟩ | exact ⟨hidl _, hcapl _⟩ | exact hidl _ | exact hc.bel | exact hcapl _ | (simp [hid]; done)
    · intro k _
      simp
    · intro k _
      exact closed_set (closed_self H) (sob_bel dd _ _ _ _)
    rintro k ⟨q1, q2⟩
    by_cases hki : i < k
    · have hki' : ((i : Int) < (k : Int)) = True := eq_true (by omega)
      have hst : upd (upd (insF g k m) k (insF g k m (k - 1))) (k - 1) (insF g k m k) = insF g (k - 1) m := by
        have := ins_step (g := g) (j := k - 1) (i := m) (by omega)
        rwa [show k - 1 + 1 = k by omega] at this
      have c0 : ((0 : Int) ≤ (k : Int)) = True := eq_true (by omega)
      have c1 : ((k : Int) < (n : Int)) = True := eq_true (by omega)
      have d0 : ((0 : Int) ≤ (k : Int) - 1) = True := eq_true (by omega)
      have d1 : ((k : Int) - 1 < (n : Int)) = True := eq_true (by omega)
      have d2 : ((k : Int) - 1).toNat = k - 1 := by omega
      have gk := fun g => tab_get dd (n := n) (g := g) (k := k) (by omega)
      have gl := fun g => tab_get dd (n := n) (g := g) (k := k - 1) (by omega)
      repeat' (first | with_reducible (first | refine And.intro ?_ ?_ | intro _ | refine AWp_seq ?_ | refine AWp_block ?_ | (refine hKv _ _ (AWp_nop ?_); clear hKv Kv) | (refine hKA ?_; clear hKA hKB KA KB) | (refine hKB ?_; clear hKA hKB KA KB) | refine AWp_skipN ?_ | refine AWp_exitO (by repeat (first | exact Out.hit | apply Out.thenA | apply Out.out rfl)) ?_) | (with_reducible (first | (refine hKv _ _ ?_; clear hKv Kv) | ((first | refine AWp_regC mu_91 ks_91 ?_ | refine AWp_drawX xd_91 mu_91 ks_91 vw_91 (by decide) ti_mixed (by kernel_rfl) ?_ | refine AWp_draw nd_91 mu_91 ks_91 ti_mixed (by kernel_rfl) ?_ | refine AWp_regE mu_91 ks_91 ?_ | refine AWp_drawE nd_91 mu_91 ks_91 ti_mixed (by kernel_rfl) ?_ | refine AWp_drawXE xd_91 mu_91 ks_91 vw_91 (by decide) ti_mixed (by kernel_rfl) ?_); intro Kv hKv) | refine AWp_retR ?_); try simp (dsimp := false) only [go_sem, Nat.reduceAdd, Nat.reduceBEq, Nat.reduceEqDiff, Nat.reduceLT, Nat.reduceLeDiff, Nat.reduceMul, Int.reduceToNat, reduceCtorEq, ↓reduceIte, Tryd.ntmps91, Tryd.results91, ks_91, mu_91, nd_91, xd_91, vw_91, ti_ag3, ti_hb91, ti_hb112, ti_in3, ti_in106, ti_sl35, ti_sz3, ti_us3, ti_us106, sob, hgx, hss, hidl, hid, hki', c0, c1, d0, d1, d2, gk, gl, hts, hst, tab_len, List.length_set, not_true_eq_false, not_false_eq_true, Bool.and_true, Bool.true_and, Bool.false_and, Bool.and_false, Int.reduceEq, Int.reduceLT, Int.reduceLE]) | (refine AWp_condC rfl ?_; intro KA KB hKA hKB; try simp only [onB_true, onB_false, onB_dec, onB_ndec, onB_not, onB_and, onB_or]) | (refine AWp_condA rfl ?_ ?_) | with_reducible (first | refine onB_of ?_ ?_ | rfl) | omega)
      all_goals try first | (refine AWp_skip ?_; simp (dsimp := false) only [go_sem, Nat.reduceAdd, Nat.reduceBEq, Nat.reduceEqDiff, Nat.reduceLT, Nat.reduceLeDiff, Nat.reduceMul, Int.reduceToNat, reduceCtorEq, ↓reduceIte, Tryd.ntmps91, Tryd.results91, ks_91, mu_91, nd_91, xd_91, vw_91, ti_ag3, ti_hb91, ti_hb112, ti_in3, ti_in106, ti_sl35, ti_sz3, ti_us3, ti_us106, sob, hgx, hss, hidl, hid, hki', c0, c1, d0, d1, d2, gk, gl, hts, hst, tab_len, List.length_set, not_true_eq_false, not_false_eq_true, Bool.and_true, Bool.true_and, Bool.false_and, Bool.and_false, Int.reduceEq, Int.reduceLT, Int.reduceLE]) | (refine AWp_exit ?_; simp (dsimp := false) only [go_sem, Nat.reduceAdd, Nat.reduceBEq, Nat.reduceEqDiff, Nat.reduceLT, Nat.reduceLeDiff, Nat.reduceMul, Int.reduceToNat, reduceCtorEq, ↓reduceIte, Tryd.ntmps91, Tryd.results91, ks_91, mu_91, nd_91, xd_91, vw_91, ti_ag3, ti_hb91, ti_hb112, ti_in3, ti_in106, ti_sl35, ti_sz3, ti_us3, ti_us106, sob, hgx, hss, hidl, hid, hki', c0, c1, d0, d1, d2, gk, gl, hts, hst, tab_len, List.length_set, not_true_eq_false, not_false_eq_true, Bool.and_true, Bool.true_and, Bool.false_and, Bool.and_false, Int.reduceEq, Int.reduceLT, Int.reduceLE])
      all_goals first
        | omega
        | exact ⟨k - 1, ⟨by omega, by omega⟩, by omega, by (repeat' (refine And.intro ?_ ?_)) <;> first | rfl | omega | exact hcap0 | exact hcapl _ | exact hidl _ | (simp; done) | (simp; omega)⟩
    · have hki' : ((i : Int) < (k : Int)) = False := eq_false (by omega)
      obtain rfl : i = k := by omega
      repeat' (first | with_reducible (first | refine And.intro ?_ ?_ | intro _ | refine AWp_seq ?_ | refine AWp_block ?_ | (refine hKv _ _ (AWp_nop ?_); clear hKv Kv) | (refine hKA ?_; clear hKA hKB KA KB) | (refine hKB ?_; clear hKA hKB KA KB) | refine AWp_skipN ?_ | refine AWp_exitO (by repeat (first | exact Out.hit | apply Out.thenA | apply Out.out rfl)) ?_) | (with_reducible (first | (refine hKv _ _ ?_; clear hKv Kv) | ((first | refine AWp_regC mu_91 ks_91 ?_ | refine AWp_drawX xd_91 mu_91 ks_91 vw_91 (by decide) ti_mixed (by kernel_rfl) ?_ | refine AWp_draw nd_91 mu_91 ks_91 ti_mixed (by kernel_rfl) ?_ | refine AWp_regE mu_91 ks_91 ?_ | refine AWp_drawE nd_91 mu_91 ks_91 ti_mixed (by kernel_rfl) ?_ | refine AWp_drawXE xd_91 mu_91 ks_91 vw_91 (by decide) ti_mixed (by kernel_rfl) ?_); intro Kv hKv) | refine AWp_retR ?_); try simp (dsimp := false) only [go_sem, Nat.reduceAdd, Nat.reduceBEq, Nat.reduceEqDiff, Nat.reduceLT, Nat.reduceLeDiff, Nat.reduceMul, Int.reduceToNat, reduceCtorEq, ↓reduceIte, Tryd.ntmps91, Tryd.results91, ks_91, mu_91, nd_91, xd_91, vw_91, ti_ag3, ti_hb91, ti_hb112, ti_in3, ti_in106, ti_sl35, ti_sz3, ti_us3, ti_us106, sob, hgx, hidl, hid, hki', not_true_eq_false, not_false_eq_true, Bool.and_true, Bool.true_and, Bool.false_and, Bool.and_false, Int.reduceEq, Int.reduceLT, Int.reduceLE]) | (refine AWp_condC rfl ?_; intro KA KB hKA hKB; try simp only [onB_true, onB_false, onB_dec, onB_ndec, onB_not, onB_and, onB_or]) | (refine AWp_condA rfl ?_ ?_) | with_reducible (first | refine onB_of ?_ ?_ | rfl) | omega)
      all_goals try first | (refine AWp_skip ?_; simp (dsimp := false) only [go_sem, Nat.reduceAdd, Nat.reduceBEq, Nat.reduceEqDiff, Nat.reduceLT, Nat.reduceLeDiff, Nat.reduceMul, Int.reduceToNat, reduceCtorEq, ↓reduceIte, Tryd.ntmps91, Tryd.results91, ks_91, mu_91, nd_91, xd_91, vw_91, ti_ag3, ti_hb91, ti_hb112, ti_in3, ti_in106, ti_sl35, ti_sz3, ti_us3, ti_us106, sob, hgx, hidl, hid, hki', not_true_eq_false, not_false_eq_true, Bool.and_true, Bool.true_and, Bool.false_and, Bool.and_false, Int.reduceEq, Int.reduceLT, Int.reduceLE]) | (refine AWp_exit ?_; simp (dsimp := false) only [go_sem, Nat.reduceAdd, Nat.reduceBEq, Nat.reduceEqDiff, Nat.reduceLT, Nat.reduceLeDiff, Nat.reduceMul, Int.reduceToNat, reduceCtorEq, ↓reduceIte, Tryd.ntmps91, Tryd.results91, ks_91, mu_91, nd_91, xd_91, vw_91, ti_ag3, ti_hb91, ti_hb112, ti_in3, ti_in106, ti_sl35, ti_sz3, ti_us3, ti_us106, sob, hgx, hidl, hid, hki', not_true_eq_false, not_false_eq_true, Bool.and_true, Bool.true_and, Bool.false_and, Bool.and_false, Int.reduceEq, Int.reduceLT, Int.reduceLE])
      all_goals first
        | omega
        | exact keepS hk (by simp) (closed_set (closed_self H) (sob_bel dd _ _ _ _)) (by simp [Bel_tu])
end Go.Proofs.YtpgdflhcmijaiaaDoor
