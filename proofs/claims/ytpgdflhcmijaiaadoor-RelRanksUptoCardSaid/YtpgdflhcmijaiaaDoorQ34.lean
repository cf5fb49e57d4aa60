/- Ranges that change places, and turning two neighbours round: the walks. No condition. -/
import Derived.Test.YtpgdflhcmijaiaaDoorQ23
import Derived.Test.YtpgdflhcmijaiaaDoorQ21
import Derived.Test.YtpgdflhcmijaiaaDoorQ18
import Derived.Test.YtpgdflhcmijaiaaDoorQ33
set_option linter.all false
set_option linter.unusedSimpArgs false
set_option linter.unusedVariables false
namespace Go.Proofs.YtpgdflhcmijaiaaDoor
open Go Go.Proofs.YtpgdflhcmijaiaaDoor.Ab
variable [Glo]
set_option maxHeartbeats 4000000
set_option maxRecDepth 20000
def sob {α : Type} (dd : α → D) (ver n : Nat) (g : Nat → α) : Ob := .row ver 3 1 (tab dd n g)
theorem sob_bel {α : Type} (dd : α → D) (m ver n : Nat) (g : Nat → α) : ObBel m (sob dd ver n g) := tab_bel dd m ver _ n g
def ks_124 : Nat → List Nat
  | 0 => [0, 1, 2, 3, 10]
  | 1 => [0, 1, 2, 3, 10, 13]
  | 2 => [0, 1, 2, 3, 10]
  | 3 => [0, 1, 2, 3, 10]
  | _ => []
def mu_124 : List Nat := []
def in_124 : List Nat := [0, 1, 2, 3]
def xd_124 : Nat → Nat × Nat × List Bool
  | 3 => (22, 21, [])
  | _ => (0, 0, [])
def vw_124 : Nat → List Nat
  | _ => []
theorem swapRange_A {α : Type} (dd : α → D) (id ver n : Nat) (g : Nat → α) (a b c : Nat) (cv : V) (hn : n ≤ 1000000000) (hab : a + c ≤ b) (hb : b + c ≤ n) (H : Heap) (K : V → Heap → Prop) (hr : H[id]? = some (sob dd ver n g))
    (hk : K (.tu []) (H.set id (sob dd ver n (swrF g a b c)))) :
    ACalls Tryd.prog 124 [.os id ver, .d (.i .i64 a), .d (.i .i64 b), .d (.i .i64 c), cv] H K := by
  have hid := lt_of_get hr
  refine ACalls_of Tryd.func124 rfl in_124 (Nat.le_of_ble_eq_true rfl) ?_
  intro F hF
  simp (dsimp := false) only [go_sem, Nat.reduceAdd, Nat.reduceBEq, Nat.reduceEqDiff, Nat.reduceLT, Nat.reduceLeDiff, Nat.reduceMul, Int.reduceToNat, reduceCtorEq, ↓reduceIte, Tryd.ntmps124, Tryd.results124, ks_124, mu_124, xd_124, vw_124, ti_ag3, ti_sl35, ti_sz3, hid, in_124] at hF
  subst hF
  repeat' (first | with_reducible (first | refine And.intro ?_ ?_ | intro _ | refine AWp_seq ?_ | refine AWp_block ?_ | (refine hKv _ _ (AWp_nop ?_); clear hKv Kv) | (refine hKA ?_; clear hKA hKB KA KB) | (refine hKB ?_; clear hKA hKB KA KB) | refine AWp_skipN ?_ | refine AWp_exitO (by repeat (first | exact Out.hit | apply Out.thenA | apply Out.out rfl)) ?_) | (with_reducible (first | (refine hKv _ _ ?_; clear hKv Kv) | ((first | refine AWp_regC mu_124 ks_124 ?_ | refine AWp_drawX xd_124 mu_124 ks_124 vw_124 (by decide) ti_mixed (by kernel_rfl) ?_ | refine AWp_regE mu_124 ks_124 ?_ | refine AWp_drawXE xd_124 mu_124 ks_124 vw_124 (by decide) ti_mixed (by kernel_rfl) ?_); intro Kv hKv) | refine AWp_retR ?_); try simp (dsimp := false) only [go_sem, Nat.reduceAdd, Nat.reduceBEq, Nat.reduceEqDiff, Nat.reduceLT, Nat.reduceLeDiff, Nat.reduceMul, Int.reduceToNat, reduceCtorEq, ↓reduceIte, Tryd.ntmps124, Tryd.results124, ks_124, mu_124, xd_124, vw_124, ti_ag3, ti_sl35, ti_sz3, hid]) | (refine AWp_condC rfl ?_; intro KA KB hKA hKB; try simp only [onB_true, onB_false, onB_dec, onB_ndec, onB_not, onB_and, onB_or]) | (refine AWp_condA rfl ?_ ?_) | with_reducible (first | refine onB_of ?_ ?_ | rfl) | omega)
  refine AWp_whileP (fun i : Nat => i ≤ c) (fun i => [(0, .os id ver), (1, .d (.i .i64 a)), (2, .d (.i .i64 b)), (3, .d (.i .i64 c)), (10, .d (.i .i64 i))]) (fun i => H.set id (sob dd ver n (swrF g a b i))) (fun i => c - i) 0 (Nat.zero_le _) ?_ ?_ ?_ ?_ ?_
  · rw [swr_zero, set_same hr]
  · simp (dsimp := false) only [go_sem, Nat.reduceAdd, Nat.reduceBEq, Nat.reduceEqDiff, Nat.reduceLT, Nat.reduceLeDiff, Nat.reduceMul, Int.reduceToNat, reduceCtorEq, ↓reduceIte, Tryd.ntmps124, Tryd.results124, ks_124, mu_124, xd_124, vw_124, ti_ag3, ti_sl35, ti_sz3, hid]
    first | done | exact hid | (simp [hid]; done)
  · intro i _
    simp
  · intro i _
    exact closed_set (closed_self H) (sob_bel dd _ _ _ _)
  rintro i hi
  have hg : (H.set id (sob dd ver n (swrF g a b i)))[id]? = some (sob dd ver n (swrF g a b i)) := get_self hr _
  have hss : ∀ X Y, (H.set id X).set id Y = H.set id Y := fun X Y => List.set_set ..
  have hgx : ∀ X, (H.set id X)[id]? = some X := fun X => get_self hr X
  have hidl : ∀ X, id < (H.set id X).length := fun X => by simpa using hid
  have hts := fun g (i : Nat) x => tab_set dd (n := n) (g := g) (i := i) (x := x)
  by_cases hin : i < c
  · have hin' : ((i : Int) < (c : Int)) = True := eq_true (by omega)
    have a0 : ((0 : Int) ≤ (a : Int) + (i : Int)) = True := eq_true (by omega)
    have a1 : ((a : Int) + (i : Int) < (n : Int)) = True := eq_true (by omega)
    have a2 : ((a : Int) + (i : Int)).toNat = a + i := by omega
    have b0 : ((0 : Int) ≤ (b : Int) + (i : Int)) = True := eq_true (by omega)
    have b1 : ((b : Int) + (i : Int) < (n : Int)) = True := eq_true (by omega)
    have b2 : ((b : Int) + (i : Int)).toNat = b + i := by omega
    have ga := fun g => tab_get dd (n := n) (g := g) (k := a + i) (by omega)
    have gb := fun g => tab_get dd (n := n) (g := g) (k := b + i) (by omega)
    have hst := swr_step (g := g) (a := a) (b := b) (i := i) (by omega)
    repeat' (first | with_reducible (first | refine And.intro ?_ ?_ | intro _ | refine AWp_seq ?_ | refine AWp_block ?_ | (refine hKv _ _ (AWp_nop ?_); clear hKv Kv) | (refine hKA ?_; clear hKA hKB KA KB) | (refine hKB ?_; clear hKA hKB KA KB) | refine AWp_skipN ?_ | refine AWp_exitO (by repeat (first | exact Out.hit | apply Out.thenA | apply Out.out rfl)) ?_) | (with_reducible (first | (refine hKv _ _ ?_; clear hKv Kv) | ((first | refine AWp_regC mu_124 ks_124 ?_ | refine AWp_drawX xd_124 mu_124 ks_124 vw_124 (by decide) ti_mixed (by kernel_rfl) ?_ | refine AWp_regE mu_124 ks_124 ?_ | refine AWp_drawXE xd_124 mu_124 ks_124 vw_124 (by decide) ti_mixed (by kernel_rfl) ?_); intro Kv hKv) | refine AWp_retR ?_); try simp (dsimp := false) only [go_sem, Nat.reduceAdd, Nat.reduceBEq, Nat.reduceEqDiff, Nat.reduceLT, Nat.reduceLeDiff, Nat.reduceMul, Int.reduceToNat, reduceCtorEq, ↓reduceIte, Tryd.ntmps124, Tryd.results124, ks_124, mu_124, xd_124, vw_124, ti_ag3, ti_sl35, ti_sz3, sob, hgx, hidl, hss, hid, hin', a0, a1, a2, b0, b1, b2, ga, gb, hts, tab_len, List.length_set, hst]) | (refine AWp_condC rfl ?_; intro KA KB hKA hKB; try simp only [onB_true, onB_false, onB_dec, onB_ndec, onB_not, onB_and, onB_or]) | (refine AWp_condA rfl ?_ ?_) | with_reducible (first | refine onB_of ?_ ?_ | rfl) | omega)
    all_goals first
      | omega
      | exact ⟨i + 1, by omega, by omega, by (repeat' (refine And.intro ?_ ?_)) <;> first | rfl | omega | (simp; done) | (simp; omega)⟩
  · have hin' : ((i : Int) < (c : Int)) = False := eq_false (by omega)
    obtain rfl : i = c := by omega
    repeat' (first | with_reducible (first | refine And.intro ?_ ?_ | intro _ | refine AWp_seq ?_ | refine AWp_block ?_ | (refine hKv _ _ (AWp_nop ?_); clear hKv Kv) | (refine hKA ?_; clear hKA hKB KA KB) | (refine hKB ?_; clear hKA hKB KA KB) | refine AWp_skipN ?_ | refine AWp_exitO (by repeat (first | exact Out.hit | apply Out.thenA | apply Out.out rfl)) ?_) | (with_reducible (first | (refine hKv _ _ ?_; clear hKv Kv) | ((first | refine AWp_regC mu_124 ks_124 ?_ | refine AWp_drawX xd_124 mu_124 ks_124 vw_124 (by decide) ti_mixed (by kernel_rfl) ?_ | refine AWp_regE mu_124 ks_124 ?_ | refine AWp_drawXE xd_124 mu_124 ks_124 vw_124 (by decide) ti_mixed (by kernel_rfl) ?_); intro Kv hKv) | refine AWp_retR ?_); try simp (dsimp := false) only [go_sem, Nat.reduceAdd, Nat.reduceBEq, Nat.reduceEqDiff, Nat.reduceLT, Nat.reduceLeDiff, Nat.reduceMul, Int.reduceToNat, reduceCtorEq, ↓reduceIte, Tryd.ntmps124, Tryd.results124, ks_124, mu_124, xd_124, vw_124, ti_ag3, ti_sl35, ti_sz3, sob, hgx, hidl, hss, hid, hin']) | (refine AWp_condC rfl ?_; intro KA KB hKA hKB; try simp only [onB_true, onB_false, onB_dec, onB_ndec, onB_not, onB_and, onB_or]) | (refine AWp_condA rfl ?_ ?_) | with_reducible (first | refine onB_of ?_ ?_ | rfl) | omega)
    all_goals try first | (refine AWp_skip ?_; simp (dsimp := false) only [go_sem, Nat.reduceAdd, Nat.reduceBEq, Nat.reduceEqDiff, Nat.reduceLT, Nat.reduceLeDiff, Nat.reduceMul, Int.reduceToNat, reduceCtorEq, ↓reduceIte, Tryd.ntmps124, Tryd.results124, ks_124, mu_124, xd_124, vw_124, ti_ag3, ti_sl35, ti_sz3, sob, hgx, hidl, hss, hid, hin']) | (refine AWp_exit ?_; simp (dsimp := false) only [go_sem, Nat.reduceAdd, Nat.reduceBEq, Nat.reduceEqDiff, Nat.reduceLT, Nat.reduceLeDiff, Nat.reduceMul, Int.reduceToNat, reduceCtorEq, ↓reduceIte, Tryd.ntmps124, Tryd.results124, ks_124, mu_124, xd_124, vw_124, ti_ag3, ti_sl35, ti_sz3, sob, hgx, hidl, hss, hid, hin'])
    all_goals first
      | omega
      | exact keepS hk (by simp) (closed_set (closed_self H) (sob_bel dd _ _ _ _)) (by simp [Bel_tu])
def ks_112 : Nat → List Nat
  | 0 => [0, 2, 3, 4, 10]
  | 1 => [0, 2, 4, 10, 11]
  | 2 => [0, 2, 4, 10, 11, 20]
  | 3 => [0, 2, 4, 10, 11, 23]
  | 4 => [0, 2, 4, 10, 11]
  | 5 => [0, 2, 4, 10, 11]
  | 6 => [0, 2, 4, 10, 11]
  | 7 => [0, 2, 4, 10, 11]
  | 8 => []
  | _ => []
def mu_112 : List Nat := []
def in_112 : List Nat := [0, 1, 2, 3, 4]
theorem rotate_A {α : Type} (dd : α → D) (id ver n : Nat) (g : Nat → α) (a m b : Nat) (cv : V) (hn : n ≤ 1000000000) (ham : a < m) (hmb : m < b) (hb : b ≤ n) (H : Heap) (hcv : Bel H.length cv) (K : V → Heap → Prop) (hr : H[id]? = some (sob dd ver n g))
    (hk : K (.tu []) (H.set id (sob dd ver n (rotF g a m b)))) :
    ACalls Tryd.prog 112 [.os id ver, .d (.i .i64 a), .d (.i .i64 m), .d (.i .i64 b), cv] H K := by
  have hid := lt_of_get hr
  have e1 : (m : Int) - (a : Int) = ((m - a : Nat) : Int) := by omega
  have e2 : (b : Int) - (m : Int) = ((b - m : Nat) : Int) := by omega
  refine ACalls_of Tryd.func112 rfl in_112 (Nat.le_of_ble_eq_true rfl) ?_
  intro F hF
  simp (dsimp := false) only [go_sem, Nat.reduceAdd, Nat.reduceBEq, Nat.reduceEqDiff, Nat.reduceLT, Nat.reduceLeDiff, Nat.reduceMul, Int.reduceToNat, reduceCtorEq, ↓reduceIte, Tryd.ntmps112, Tryd.results112, ks_112, mu_112, ti_hb124, hid, e1, e2, in_112] at hF
  subst hF
  repeat' (first | with_reducible (first | refine And.intro ?_ ?_ | intro _ | refine AWp_seq ?_ | refine AWp_block ?_ | (refine hKv _ _ (AWp_nop ?_); clear hKv Kv) | (refine hKA ?_; clear hKA hKB KA KB) | (refine hKB ?_; clear hKA hKB KA KB) | refine AWp_skipN ?_ | refine AWp_exitO (by repeat (first | exact Out.hit | apply Out.thenA | apply Out.out rfl)) ?_) | (with_reducible (first | (refine hKv _ _ ?_; clear hKv Kv) | ((first | refine AWp_regC mu_112 ks_112 ?_ | refine AWp_regE mu_112 ks_112 ?_); intro Kv hKv) | refine AWp_retR ?_); try simp (dsimp := false) only [go_sem, Nat.reduceAdd, Nat.reduceBEq, Nat.reduceEqDiff, Nat.reduceLT, Nat.reduceLeDiff, Nat.reduceMul, Int.reduceToNat, reduceCtorEq, ↓reduceIte, Tryd.ntmps112, Tryd.results112, ks_112, mu_112, ti_hb124, hid, e1, e2]) | (refine AWp_condC rfl ?_; intro KA KB hKA hKB; try simp only [onB_true, onB_false, onB_dec, onB_ndec, onB_not, onB_and, onB_or]) | (refine AWp_condA rfl ?_ ?_) | with_reducible (first | refine onB_of ?_ ?_ | rfl) | omega)
  refine AWp_whileP (fun y : Nat × Nat × (Nat → α) => 0 < y.1 ∧ 0 < y.2.1 ∧ a + y.1 ≤ m ∧ m + y.2.1 ≤ b ∧ rotF y.2.2 (m - y.1) m (m + y.2.1) = rotF g a m b) (fun y => [(0, .os id ver), (2, .d (.i .i64 m)), (4, cv), (10, .d (.i .i64 y.1)), (11, .d (.i .i64 y.2.1))]) (fun y => H.set id (sob dd ver n y.2.2)) (fun y => y.1 + y.2.1) (m - a, b - m, g) ⟨by show 0 < m - a; omega, by show 0 < b - m; omega, by show a + (m - a) ≤ m; omega, by show m + (b - m) ≤ b; omega, by show rotF g (m - (m - a)) m (m + (b - m)) = _; rw [show m - (m - a) = a by omega, show m + (b - m) = b by omega]⟩ ?_ ?_ ?_ ?_ ?_
  · exact (set_same hr).symm
  · simp (dsimp := false) only [go_sem, Nat.reduceAdd, Nat.reduceBEq, Nat.reduceEqDiff, Nat.reduceLT, Nat.reduceLeDiff, Nat.reduceMul, Int.reduceToNat, reduceCtorEq, ↓reduceIte, Tryd.ntmps112, Tryd.results112, ks_112, mu_112, ti_hb124, hid, e1, e2]
    first | done | exact ⟨hid, hcv⟩ | (simp [hid, hcv]; done)
  · intro i _
    simp
  · intro i _
    exact closed_set (closed_self H) (sob_bel dd _ _ _ _)
  rintro ⟨i, j, g1⟩ ⟨h1, h2, h3, h4, h5⟩
  simp only [] at h1 h2 h3 h4 h5 ⊢
  have hgx : ∀ X, (H.set id X)[id]? = some X := fun X => get_self hr X
  have hss : ∀ X Y, (H.set id X).set id Y = H.set id Y := fun X Y => List.set_set ..
  have hidl : ∀ X, id < (H.set id X).length := fun X => by simpa using hid
  have hcvl : ∀ X, Bel (H.set id X).length cv := fun X => by simpa using hcv
  have c1 : (m : Int) - (i : Int) = ((m - i : Nat) : Int) := by omega
  by_cases hij : i = j
  · subst hij
    have hij' : ((i : Int) = (i : Int)) = True := eq_true rfl
    rw [← h5, ← rot_end (by omega)] at hk
    repeat' (first | with_reducible (first | refine And.intro ?_ ?_ | intro _ | refine AWp_seq ?_ | refine AWp_block ?_ | (refine hKv _ _ (AWp_nop ?_); clear hKv Kv) | (refine hKA ?_; clear hKA hKB KA KB) | (refine hKB ?_; clear hKA hKB KA KB) | refine AWp_skipN ?_ | refine AWp_exitO (by repeat (first | exact Out.hit | apply Out.thenA | apply Out.out rfl)) ?_) | ((first | with_reducible (first | (refine hKv _ _ ?_; clear hKv Kv) | ((first | refine AWp_regC mu_112 ks_112 ?_ | refine AWp_regE mu_112 ks_112 ?_); intro Kv hKv) | refine AWp_retR ?_) | refine swapRange_A dd id ver n g1 (m - i) m i cv hn (by omega) (by omega) _ _ (hgx _) ?_); try simp (dsimp := false) only [go_sem, Nat.reduceAdd, Nat.reduceBEq, Nat.reduceEqDiff, Nat.reduceLT, Nat.reduceLeDiff, Nat.reduceMul, Int.reduceToNat, reduceCtorEq, ↓reduceIte, Tryd.ntmps112, Tryd.results112, ks_112, mu_112, ti_hb124, hgx, hidl, hss, hid, hcv, c1, not_true_eq_false, List.length_set]) | (refine AWp_condC rfl ?_; intro KA KB hKA hKB; try simp only [onB_true, onB_false, onB_dec, onB_ndec, onB_not, onB_and, onB_or]) | (refine AWp_condA rfl ?_ ?_) | with_reducible (first | refine onB_of ?_ ?_ | rfl) | omega)
    all_goals try first | (refine AWp_skip ?_; simp (dsimp := false) only [go_sem, Nat.reduceAdd, Nat.reduceBEq, Nat.reduceEqDiff, Nat.reduceLT, Nat.reduceLeDiff, Nat.reduceMul, Int.reduceToNat, reduceCtorEq, ↓reduceIte, Tryd.ntmps112, Tryd.results112, ks_112, mu_112, ti_hb124, hgx, hidl, hss, hid, hcv, c1, not_true_eq_false, List.length_set]) | (refine AWp_exit ?_; simp (dsimp := false) only [go_sem, Nat.reduceAdd, Nat.reduceBEq, Nat.reduceEqDiff, Nat.reduceLT, Nat.reduceLeDiff, Nat.reduceMul, Int.reduceToNat, reduceCtorEq, ↓reduceIte, Tryd.ntmps112, Tryd.results112, ks_112, mu_112, ti_hb124, hgx, hidl, hss, hid, hcv, c1, not_true_eq_false, List.length_set])
    all_goals first
      | omega
      | exact keepS hk (by simp) (closed_set (closed_self H) (sob_bel dd _ _ _ _)) (by simp [Bel_tu])
  · have hij' : ((i : Int) = (j : Int)) = False := eq_false (by omega)
    by_cases hlt : j < i
    · have hlt' : ((j : Int) < (i : Int)) = True := eq_true (by omega)
      have c2 : (i : Int) - (j : Int) = ((i - j : Nat) : Int) := by omega
      have hrb := rot_big (g := g1) (m := m) (i := i) (j := j) (by omega) hlt
      repeat' (first | with_reducible (first | refine And.intro ?_ ?_ | intro _ | refine AWp_seq ?_ | refine AWp_block ?_ | (refine hKv _ _ (AWp_nop ?_); clear hKv Kv) | (refine hKA ?_; clear hKA hKB KA KB) | (refine hKB ?_; clear hKA hKB KA KB) | refine AWp_skipN ?_ | refine AWp_exitO (by repeat (first | exact Out.hit | apply Out.thenA | apply Out.out rfl)) ?_) | ((first | with_reducible (first | (refine hKv _ _ ?_; clear hKv Kv) | ((first | refine AWp_regC mu_112 ks_112 ?_ | refine AWp_regE mu_112 ks_112 ?_); intro Kv hKv) | refine AWp_retR ?_) | refine swapRange_A dd id ver n g1 (m - i) m j cv hn (by omega) (by omega) _ _ (hgx _) ?_); try simp (dsimp := false) only [go_sem, Nat.reduceAdd, Nat.reduceBEq, Nat.reduceEqDiff, Nat.reduceLT, Nat.reduceLeDiff, Nat.reduceMul, Int.reduceToNat, reduceCtorEq, ↓reduceIte, Tryd.ntmps112, Tryd.results112, ks_112, mu_112, ti_hb124, hgx, hidl, hss, hid, hcv, hcvl, c1, c2, hij', hlt', not_false_eq_true, List.length_set]) | (refine AWp_condC rfl ?_; intro KA KB hKA hKB; try simp only [onB_true, onB_false, onB_dec, onB_ndec, onB_not, onB_and, onB_or]) | (refine AWp_condA rfl ?_ ?_) | with_reducible (first | refine onB_of ?_ ?_ | rfl) | omega)
      all_goals first
        | omega
        | exact ⟨(i - j, j, swrF g1 (m - i) m j), ⟨by show 0 < i - j; omega, h2, by show a + (i - j) ≤ m; omega, h4, hrb.trans h5⟩, by show i - j + j < i + j; omega, by (repeat' (refine And.intro ?_ ?_)) <;> first | rfl | omega | exact hcv | (simp; done) | (simp; omega)⟩
    · have hlt' : ((j : Int) < (i : Int)) = False := eq_false (by omega)
      have c2 : (j : Int) - (i : Int) = ((j - i : Nat) : Int) := by omega
      have c3 : (m : Int) + (j : Int) - (i : Int) = ((m + j - i : Nat) : Int) := by omega
      have hrb := rot_small (g := g1) (m := m) (i := i) (j := j) (by omega) (by omega)
      repeat' (first | with_reducible (first | refine And.intro ?_ ?_ | intro _ | refine AWp_seq ?_ | refine AWp_block ?_ | (refine hKv _ _ (AWp_nop ?_); clear hKv Kv) | (refine hKA ?_; clear hKA hKB KA KB) | (refine hKB ?_; clear hKA hKB KA KB) | refine AWp_skipN ?_ | refine AWp_exitO (by repeat (first | exact Out.hit | apply Out.thenA | apply Out.out rfl)) ?_) | ((first | with_reducible (first | (refine hKv _ _ ?_; clear hKv Kv) | ((first | refine AWp_regC mu_112 ks_112 ?_ | refine AWp_regE mu_112 ks_112 ?_); intro Kv hKv) | refine AWp_retR ?_) | refine swapRange_A dd id ver n g1 (m - i) (m + j - i) i cv hn (by omega) (by omega) _ _ (hgx _) ?_); try simp (dsimp := false) only [go_sem, Nat.reduceAdd, Nat.reduceBEq, Nat.reduceEqDiff, Nat.reduceLT, Nat.reduceLeDiff, Nat.reduceMul, Int.reduceToNat, reduceCtorEq, ↓reduceIte, Tryd.ntmps112, Tryd.results112, ks_112, mu_112, ti_hb124, hgx, hidl, hss, hid, hcv, hcvl, c1, c2, c3, hij', hlt', not_false_eq_true, List.length_set]) | (refine AWp_condC rfl ?_; intro KA KB hKA hKB; try simp only [onB_true, onB_false, onB_dec, onB_ndec, onB_not, onB_and, onB_or]) | (refine AWp_condA rfl ?_ ?_) | with_reducible (first | refine onB_of ?_ ?_ | rfl) | omega)
      all_goals first
        | omega
        | exact ⟨(i, j - i, swrF g1 (m - i) (m + j - i) i), ⟨h1, by show 0 < j - i; omega, h3, by show m + (j - i) ≤ b; omega, hrb.trans h5⟩, by show i + (j - i) < i + j; omega, by (repeat' (refine And.intro ?_ ?_)) <;> first | rfl | omega | exact hcv | (simp; done) | (simp; omega)⟩
end Go.Proofs.YtpgdflhcmijaiaaDoor
