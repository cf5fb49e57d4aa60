/- The core: the reference's check, whole: of any expression. No condition but that the tables of package unicode/utf8 and of the core's functions are there. -/
import Derived.Test.YtppalmoicjogaaaDoorC29
import Derived.Test.YtppalmoicjogaaaDoorC30
import Derived.Test.YtppalmoicjogaaaDoorC31
import Derived.Test.YtppalmoicjogaaaDoorC32
import Derived.Test.YtppalmoicjogaaaDoorC33
import Derived.Test.YtppalmoicjogaaaDoorC34
import Derived.Test.YtppalmoicjogaaaDoorC35
import Derived.Test.YtppalmoicjogaaaDoorC36
import Derived.Test.YtppalmoicjogaaaDoorC37
import Derived.Test.YtppalmoicjogaaaDoorC38
import Derived.Test.YtppalmoicjogaaaDoorC39
import Derived.Test.YtppalmoicjogaaaDoorC40
set_option linter.all false
set_option linter.unusedSimpArgs false
set_option linter.unusedVariables false
namespace Go.Proofs.YtppalmoicjogaaaDoor
open Go Go.Proofs.YtppalmoicjogaaaDoor.Ab
variable [Glo] [U8] [CAr]
set_option maxHeartbeats 4000000
set_option maxRecDepth 20000
theorem exprFaultS_A (h : Xh) (l : List Ex) (ok : XhOk h) (hl : l.length ≤ 1048576) (sc : List (List UInt8)) (hsc : sc.length + 2 ≤ 1000000)
    (ih : ∀ x, x ∈ l → ∀ (sc' : List (List UInt8)), sc'.length ≤ sc.length + 2 → ∀ (H : Heap) (K : V → Heap → Prop), K (.d (.i .i64 (efQ x sc'))) H → ACalls Tryd.prog 25 [exV x.h x.args, .d (.sl 1 (sc'.map strRow))] H K)
    (H : Heap) (K : V → Heap → Prop) (hk : K (.d (.i .i64 (efQ (.mk h l) sc))) H) : ACalls Tryd.prog 25 [exV h l, .d (.sl 1 (sc.map strRow))] H K := by
  have hI := in_A h.k 1 11
  have hM := argCount_A h.k
  by_cases h1 : 1 ≤ h.k ∧ h.k ≤ 11
  case neg =>
    rw [decide_eq_false h1] at hI
    rw [efQ, if_pos h1] at hk
    refine ACalls_of Tryd.func25 rfl in_25 (Nat.le_of_ble_eq_true rfl) ?_
    intro F hF
    simp (dsimp := false) only [go_sem, Nat.reduceAdd, Nat.reduceBEq, Nat.reduceEqDiff, Nat.reduceLT, Nat.reduceLeDiff, Nat.reduceMul, Int.reduceToNat, reduceCtorEq, ↓reduceIte, Tryd.ntmps25, Tryd.results25, ks_25, mu_25, nd_25, ti_ag3, ti_ag9, ti_ag31, ti_ag33, ti_ag34, ti_ag36, ti_fl31_0, ti_fl36_0, ti_fl36_1, ti_fl36_2, ti_fl36_3, ti_fl36_4, ti_fl36_5, ti_fl36_6, ti_fl36_7, ti_hb17, ti_hb25, ti_hb41, ti_hb43, ti_hb44, ti_hb47, ti_hb48, ti_hb49, ti_hb50, ti_hb51, ti_sb34, ti_sl34, ti_sl48, ti_sz31, ti_sz33, ti_sz36, not_true_eq_false, not_false_eq_true, Bool.true_and, Bool.false_and, Int.reduceEq, Int.reduceLT, Int.reduceLE, Int.reduceNeg, List.map_cons, List.map_nil, exV, in_25] at hF
    subst hF
    repeat' (first | with_reducible (first | refine And.intro ?_ ?_ | intro _ | refine AWp_seq ?_ | refine AWp_block ?_ | (refine hKv _ _ (AWp_nop ?_); clear hKv Kv) | (refine hKA ?_; clear hKA hKB KA KB) | (refine hKB ?_; clear hKA hKB KA KB) | refine AWp_skipN ?_ | refine AWp_exitO (by repeat (first | exact Out.hit | apply Out.thenA | apply Out.out rfl)) ?_) | ((first | with_reducible (first | (refine hKv _ _ ?_; clear hKv Kv) | ((first | refine AWp_regC mu_25 ks_25 ?_ | refine AWp_draw nd_25 mu_25 ks_25 ti_mixed (by kernel_rfl) ?_ | refine AWp_regE mu_25 ks_25 ?_ | refine AWp_drawE nd_25 mu_25 ks_25 ti_mixed (by kernel_rfl) ?_); intro Kv hKv) | refine AWp_retR ?_) | refine hI _ _ ?_ | refine QCall_of (hI _ _ (Two_intro _ _)) ?_); try simp (dsimp := false) only [go_sem, Nat.reduceAdd, Nat.reduceBEq, Nat.reduceEqDiff, Nat.reduceLT, Nat.reduceLeDiff, Nat.reduceMul, Int.reduceToNat, reduceCtorEq, ↓reduceIte, Tryd.ntmps25, Tryd.results25, ks_25, mu_25, nd_25, ti_ag3, ti_ag9, ti_ag31, ti_ag33, ti_ag34, ti_ag36, ti_fl31_0, ti_fl36_0, ti_fl36_1, ti_fl36_2, ti_fl36_3, ti_fl36_4, ti_fl36_5, ti_fl36_6, ti_fl36_7, ti_hb17, ti_hb25, ti_hb41, ti_hb43, ti_hb44, ti_hb47, ti_hb48, ti_hb49, ti_hb50, ti_hb51, ti_sb34, ti_sl34, ti_sl48, ti_sz31, ti_sz33, ti_sz36, not_true_eq_false, not_false_eq_true, Bool.true_and, Bool.false_and, Int.reduceEq, Int.reduceLT, Int.reduceLE, Int.reduceNeg, List.map_cons, List.map_nil, exV]) | (refine AWp_condC rfl ?_; intro KA KB hKA hKB; try simp only [onB_true, onB_false, onB_dec, onB_ndec, onB_not, onB_and, onB_or]) | (refine AWp_condA rfl ?_ ?_) | with_reducible (first | refine onB_of ?_ ?_ | rfl) | omega)
    all_goals first
      | omega
      | exact keepD hk rfl
  by_cases h2 : 0 ≤ coreMany h.k ∧ coreMany h.k ≠ (l.length : Int)
  · rw [decide_eq_true h1] at hI
    rw [efQ, if_neg (by simpa using h1), if_pos h2] at hk
    have t1 : (0 ≤ coreMany h.k) = True := eq_true h2.1
    have t2 : (coreMany h.k = (l.length : Int)) = False := eq_false h2.2
    refine ACalls_of Tryd.func25 rfl in_25 (Nat.le_of_ble_eq_true rfl) ?_
    intro F hF
    simp (dsimp := false) only [go_sem, Nat.reduceAdd, Nat.reduceBEq, Nat.reduceEqDiff, Nat.reduceLT, Nat.reduceLeDiff, Nat.reduceMul, Int.reduceToNat, reduceCtorEq, ↓reduceIte, Tryd.ntmps25, Tryd.results25, ks_25, mu_25, nd_25, ti_ag3, ti_ag9, ti_ag31, ti_ag33, ti_ag34, ti_ag36, ti_fl31_0, ti_fl36_0, ti_fl36_1, ti_fl36_2, ti_fl36_3, ti_fl36_4, ti_fl36_5, ti_fl36_6, ti_fl36_7, ti_hb17, ti_hb25, ti_hb41, ti_hb43, ti_hb44, ti_hb47, ti_hb48, ti_hb49, ti_hb50, ti_hb51, ti_sb34, ti_sl34, ti_sl48, ti_sz31, ti_sz33, ti_sz36, not_true_eq_false, not_false_eq_true, Bool.true_and, Bool.false_and, Int.reduceEq, Int.reduceLT, Int.reduceLE, Int.reduceNeg, List.map_cons, List.map_nil, exV, t1, t2, in_25] at hF
    subst hF
    repeat' (first | with_reducible (first | refine And.intro ?_ ?_ | intro _ | refine AWp_seq ?_ | refine AWp_block ?_ | (refine hKv _ _ (AWp_nop ?_); clear hKv Kv) | (refine hKA ?_; clear hKA hKB KA KB) | (refine hKB ?_; clear hKA hKB KA KB) | refine AWp_skipN ?_ | refine AWp_exitO (by repeat (first | exact Out.hit | apply Out.thenA | apply Out.out rfl)) ?_) | ((first | with_reducible (first | (refine hKv _ _ ?_; clear hKv Kv) | ((first | refine AWp_regC mu_25 ks_25 ?_ | refine AWp_draw nd_25 mu_25 ks_25 ti_mixed (by kernel_rfl) ?_ | refine AWp_regE mu_25 ks_25 ?_ | refine AWp_drawE nd_25 mu_25 ks_25 ti_mixed (by kernel_rfl) ?_); intro Kv hKv) | refine AWp_retR ?_) | refine hI _ _ ?_ | refine QCall_of (hI _ _ (Two_intro _ _)) ?_ | refine hM _ _ ?_ | refine QCall_of (hM _ _ (Two_intro _ _)) ?_); try simp (dsimp := false) only [go_sem, Nat.reduceAdd, Nat.reduceBEq, Nat.reduceEqDiff, Nat.reduceLT, Nat.reduceLeDiff, Nat.reduceMul, Int.reduceToNat, reduceCtorEq, ↓reduceIte, Tryd.ntmps25, Tryd.results25, ks_25, mu_25, nd_25, ti_ag3, ti_ag9, ti_ag31, ti_ag33, ti_ag34, ti_ag36, ti_fl31_0, ti_fl36_0, ti_fl36_1, ti_fl36_2, ti_fl36_3, ti_fl36_4, ti_fl36_5, ti_fl36_6, ti_fl36_7, ti_hb17, ti_hb25, ti_hb41, ti_hb43, ti_hb44, ti_hb47, ti_hb48, ti_hb49, ti_hb50, ti_hb51, ti_sb34, ti_sl34, ti_sl48, ti_sz31, ti_sz33, ti_sz36, not_true_eq_false, not_false_eq_true, Bool.true_and, Bool.false_and, Int.reduceEq, Int.reduceLT, Int.reduceLE, Int.reduceNeg, List.map_cons, List.map_nil, exV, t1, t2]) | (refine AWp_condC rfl ?_; intro KA KB hKA hKB; try simp only [onB_true, onB_false, onB_dec, onB_ndec, onB_not, onB_and, onB_or]) | (refine AWp_condA rfl ?_ ?_) | with_reducible (first | refine onB_of ?_ ?_ | rfl) | omega)
    all_goals first
      | omega
      | exact keepD hk rfl
  have hcount : coreMany h.k < 0 ∨ coreMany h.k = (l.length : Int) := by omega
  have : h.k = 1 ∨ h.k = 2 ∨ h.k = 3 ∨ h.k = 4 ∨ h.k = 5 ∨ h.k = 6 ∨ h.k = 7 ∨ h.k = 8 ∨ h.k = 9 ∨ h.k = 10 ∨ h.k = 11 := by omega
  rcases this with e | e | e | e | e | e | e | e | e | e | e
  · exact exprFault1_A h l e ok hl hcount sc hsc ih H K hk
  · exact exprFault2_A h l e ok hl hcount sc hsc ih H K hk
  · exact exprFault3_A h l e ok hl hcount sc hsc ih H K hk
  · exact exprFault4_A h l e ok hl hcount sc hsc ih H K hk
  · exact exprFault5_A h l e ok hl hcount sc hsc ih H K hk
  · exact exprFault6_A h l e ok hl hcount sc hsc ih H K hk
  · exact exprFault7_A h l e ok hl hcount sc hsc ih H K hk
  · exact exprFault8_A h l e ok hl hcount sc hsc ih H K hk
  · exact exprFault9_A h l e ok hl hcount sc hsc ih H K hk
  · exact exprFault10_A h l e ok hl hcount sc hsc ih H K hk
  · exact exprFault11_A h l e ok hl hcount sc hsc ih H K hk
theorem exprFault_A : ∀ (n : Nat) (x : Ex), exN x ≤ n → ExOk x → ∀ (sc : List (List UInt8)), sc.length + 2 * exN x ≤ 1000000 → ∀ (H : Heap) (K : V → Heap → Prop), K (.d (.i .i64 (efQ x sc))) H → ACalls Tryd.prog 25 [exV x.h x.args, .d (.sl 1 (sc.map strRow))] H K
  | 0, x, hn, _, _, _, _, _, _ => by rw [exN_eq] at hn; omega
  | n + 1, .mk h l, hn, ok, sc, hsc, H, K, hk => by
    refine exprFaultS_A h l ok.h ok.len sc (by rw [exN] at hsc; omega) (fun x hx sc' hsc' H K hk => ?_) H K hk
    have := exN_lt (x := .mk h l) hx
    exact exprFault_A n x (by omega) (ok.mem x hx) sc' (by omega) H K hk
def ks_27 : Nat → List Nat
  | 0 => [1]
  | 1 => [1, 3]
  | 2 => [1, 3, 4]
  | 3 => [1, 3, 4, 9]
  | 4 => [1, 3, 4]
  | 5 => [1, 3, 4]
  | 6 => [2]
  | _ => []
def mu_27 : List Nat := []
def in_27 : List Nat := [0]
theorem partCountS_A (h : Xh) (l : List Ex) (hl : l.length ≤ 1048576) (hn : exNs l ≤ 1000000) (ih : ∀ x, x ∈ l → ∀ (H : Heap) (K : V → Heap → Prop), K (.d (.i .i64 (exN x))) H → ACalls Tryd.prog 27 [exV x.h x.args] H K)
    (H : Heap) (K : V → Heap → Prop) (hk : K (.d (.i .i64 (exN (.mk h l)))) H) : ACalls Tryd.prog 27 [exV h l] H K := by
  rw [exN] at hk
  refine ACalls_of Tryd.func27 rfl in_27 (Nat.le_of_ble_eq_true rfl) ?_
  intro F hF
  simp (dsimp := false) only [go_sem, Nat.reduceAdd, Nat.reduceBEq, Nat.reduceEqDiff, Nat.reduceLT, Nat.reduceLeDiff, Nat.reduceMul, Int.reduceToNat, reduceCtorEq, ↓reduceIte, Tryd.ntmps27, Tryd.results27, ks_27, mu_27, ti_ag34, ti_ag36, ti_fl36_7, ti_hb27, ti_sb34, ti_sl34, ti_sz36, not_true_eq_false, not_false_eq_true, Bool.true_and, Bool.false_and, Int.reduceEq, Int.reduceLT, Int.reduceLE, Int.reduceNeg, List.map_cons, List.map_nil, exV, in_27] at hF
  subst hF
  repeat' (first | with_reducible (first | refine And.intro ?_ ?_ | intro _ | refine AWp_seq ?_ | refine AWp_block ?_ | (refine hKv _ _ (AWp_nop ?_); clear hKv Kv) | (refine hKA ?_; clear hKA hKB KA KB) | (refine hKB ?_; clear hKA hKB KA KB) | refine AWp_skipN ?_ | refine AWp_exitO (by repeat (first | exact Out.hit | apply Out.thenA | apply Out.out rfl)) ?_) | (with_reducible (first | (refine hKv _ _ ?_; clear hKv Kv) | ((first | refine AWp_regC mu_27 ks_27 ?_ | refine AWp_regE mu_27 ks_27 ?_); intro Kv hKv) | refine AWp_retR ?_); try simp (dsimp := false) only [go_sem, Nat.reduceAdd, Nat.reduceBEq, Nat.reduceEqDiff, Nat.reduceLT, Nat.reduceLeDiff, Nat.reduceMul, Int.reduceToNat, reduceCtorEq, ↓reduceIte, Tryd.ntmps27, Tryd.results27, ks_27, mu_27, ti_ag34, ti_ag36, ti_fl36_7, ti_hb27, ti_sb34, ti_sl34, ti_sz36, not_true_eq_false, not_false_eq_true, Bool.true_and, Bool.false_and, Int.reduceEq, Int.reduceLT, Int.reduceLE, Int.reduceNeg, List.map_cons, List.map_nil, exV]) | (refine AWp_condC rfl ?_; intro KA KB hKA hKB; try simp only [onB_true, onB_false, onB_dec, onB_ndec, onB_not, onB_and, onB_or]) | (refine AWp_condA rfl ?_ ?_) | with_reducible (first | refine onB_of ?_ ?_ | rfl) | omega)
  refine AWp_while0 (fun i : Nat => i ≤ l.length) (fun i => [(1, .rp [.i .i64 h.k, .i .i64 h.it.k, .i .i64 h.it.n, .s h.it.s, .s h.nm, .s h.at_, .i .i64 h.n, .i .i64 h.ax, .i .i64 h.tk, .s h.tn, .sl 11 (l.map exD)]), (3, .d (.i .i64 (1 + (exNs (l.take i) : Int)))), (4, .d (.i .i64 i))]) (fun i => l.length - i) 0 (Nat.zero_le _) ?_ ?_
  · simp (dsimp := false) only [go_sem, Nat.reduceAdd, Nat.reduceBEq, Nat.reduceEqDiff, Nat.reduceLT, Nat.reduceLeDiff, Nat.reduceMul, Int.reduceToNat, reduceCtorEq, ↓reduceIte, Tryd.ntmps27, Tryd.results27, ks_27, mu_27, ti_ag34, ti_ag36, ti_fl36_7, ti_hb27, ti_sb34, ti_sl34, ti_sz36, not_true_eq_false, not_false_eq_true, Bool.true_and, Bool.false_and, Int.reduceEq, Int.reduceLT, Int.reduceLE, Int.reduceNeg, List.map_cons, List.map_nil, exV]
    first | done | (simp [exNs]; done)
  rintro i hi
  have t2 : ((0 : Int) ≤ (i : Int)) = True := eq_true (by omega)
  by_cases hil : i < l.length
  · obtain ⟨x, hx⟩ : ∃ x, l[i]? = some x := ⟨l[i], List.getElem?_eq_getElem hil⟩
    have t1 : ((i : Int) < (l.length : Int)) = True := eq_true (by omega)
    have hc := ih x (List.mem_of_getElem? hx)
    have z1 := exNs_take hx
    have z2 := exNs_le_take l (i + 1)
    have r1 : inR .i64 (1 + (exNs (l.take i) : Int) + (exN x : Int)) := inR_i64' (by omega) (by omega)
    repeat' (first | with_reducible (first | refine And.intro ?_ ?_ | intro _ | refine AWp_seq ?_ | refine AWp_block ?_ | (refine hKv _ _ (AWp_nop ?_); clear hKv Kv) | (refine hKA ?_; clear hKA hKB KA KB) | (refine hKB ?_; clear hKA hKB KA KB) | refine AWp_skipN ?_ | refine AWp_exitO (by repeat (first | exact Out.hit | apply Out.thenA | apply Out.out rfl)) ?_) | ((first | with_reducible (first | (refine hKv _ _ ?_; clear hKv Kv) | ((first | refine AWp_regC mu_27 ks_27 ?_ | refine AWp_regE mu_27 ks_27 ?_); intro Kv hKv) | refine AWp_retR ?_) | refine hc _ _ ?_); try simp (dsimp := false) only [go_sem, Nat.reduceAdd, Nat.reduceBEq, Nat.reduceEqDiff, Nat.reduceLT, Nat.reduceLeDiff, Nat.reduceMul, Int.reduceToNat, reduceCtorEq, ↓reduceIte, Tryd.ntmps27, Tryd.results27, ks_27, mu_27, ti_ag34, ti_ag36, ti_fl36_7, ti_hb27, ti_sb34, ti_sl34, ti_sz36, not_true_eq_false, not_false_eq_true, Bool.true_and, Bool.false_and, Int.reduceEq, Int.reduceLT, Int.reduceLE, Int.reduceNeg, List.map_cons, List.map_nil, exV, exD_1, hx, t1, t2, r1]) | (refine AWp_condC rfl ?_; intro KA KB hKA hKB; try simp only [onB_true, onB_false, onB_dec, onB_ndec, onB_not, onB_and, onB_or]) | (refine AWp_condA rfl ?_ ?_) | with_reducible (first | refine onB_of ?_ ?_ | rfl) | omega)
    all_goals first
      | omega
      | exact r1
      | exact ⟨i + 1, by omega, by omega, by rw [z1]; omega, by omega⟩
  · have t1 : ((i : Int) < (l.length : Int)) = False := eq_false (by omega)
    rw [List.take_of_length_le (by omega)]
    repeat' (first | with_reducible (first | refine And.intro ?_ ?_ | intro _ | refine AWp_seq ?_ | refine AWp_block ?_ | (refine hKv _ _ (AWp_nop ?_); clear hKv Kv) | (refine hKA ?_; clear hKA hKB KA KB) | (refine hKB ?_; clear hKA hKB KA KB) | refine AWp_skipN ?_ | refine AWp_exitO (by repeat (first | exact Out.hit | apply Out.thenA | apply Out.out rfl)) ?_) | (with_reducible (first | (refine hKv _ _ ?_; clear hKv Kv) | ((first | refine AWp_regC mu_27 ks_27 ?_ | refine AWp_regE mu_27 ks_27 ?_); intro Kv hKv) | refine AWp_retR ?_); try simp (dsimp := false) only [go_sem, Nat.reduceAdd, Nat.reduceBEq, Nat.reduceEqDiff, Nat.reduceLT, Nat.reduceLeDiff, Nat.reduceMul, Int.reduceToNat, reduceCtorEq, ↓reduceIte, Tryd.ntmps27, Tryd.results27, ks_27, mu_27, ti_ag34, ti_ag36, ti_fl36_7, ti_hb27, ti_sb34, ti_sl34, ti_sz36, not_true_eq_false, not_false_eq_true, Bool.true_and, Bool.false_and, Int.reduceEq, Int.reduceLT, Int.reduceLE, Int.reduceNeg, List.map_cons, List.map_nil, t1]) | (refine AWp_condC rfl ?_; intro KA KB hKA hKB; try simp only [onB_true, onB_false, onB_dec, onB_ndec, onB_not, onB_and, onB_or]) | (refine AWp_condA rfl ?_ ?_) | with_reducible (first | refine onB_of ?_ ?_ | rfl) | omega)
    all_goals first
      | omega
      | exact keepD hk (by congr 2; omega)
theorem partCount_A : ∀ (n : Nat) (x : Ex), exN x ≤ n → ExOk x → exN x ≤ 1000000 → ∀ (H : Heap) (K : V → Heap → Prop), K (.d (.i .i64 (exN x))) H → ACalls Tryd.prog 27 [exV x.h x.args] H K
  | 0, x, hn, _, _, _, _, _ => by rw [exN_eq] at hn; omega
  | n + 1, .mk h l, hn, ok, hsc, H, K, hk => by
    refine partCountS_A h l ok.len (by rw [exN] at hsc; omega) (fun x hx H K hk => ?_) H K hk
    have := exN_lt (x := .mk h l) hx
    exact partCount_A n x (by omega) (ok.mem x hx) (by omega) H K hk
def ks_26 : Nat → List Nat
  | 0 => [1, 2, 3]
  | 1 => [1, 2, 3, 7]
  | 2 => [1, 2, 3, 7, 18]
  | 3 => [1, 2, 3, 7]
  | 4 => [1, 2, 3, 7, 8]
  | 5 => [1, 2, 3, 7, 8, 23]
  | 6 => [1, 2, 3, 7, 8]
  | 7 => [1, 2, 3, 7, 8]
  | 8 => [6]
  | _ => []
def mu_26 : List Nat := []
def in_26 : List Nat := [0, 1, 2]
theorem howManyS_A (h : Xh) (l : List Ex) (p q : Int) (hl : l.length ≤ 1048576) (hn : exNs l ≤ 1000000) (ih : ∀ x, x ∈ l → ∀ (H : Heap) (K : V → Heap → Prop), K (.d (.i .i64 (exHow p q x))) H → ACalls Tryd.prog 26 [exV x.h x.args, .d (.i .i64 p), .d (.i .i64 q)] H K)
    (H : Heap) (K : V → Heap → Prop) (hk : K (.d (.i .i64 (exHow p q (.mk h l)))) H) : ACalls Tryd.prog 26 [exV h l, .d (.i .i64 p), .d (.i .i64 q)] H K := by
  rw [exHow] at hk
  by_cases c1 : h.k = p
  · have i1 : (h.k = p) = True := eq_true c1
    have hw : (if h.k = p ∨ h.k = q then 1 else 0) = 1 := by rw [if_pos (by first | exact .inl c1 | exact .inr c2)]
    rw [hw] at hk
    refine ACalls_of Tryd.func26 rfl in_26 (Nat.le_of_ble_eq_true rfl) ?_
    intro F hF
    simp (dsimp := false) only [go_sem, Nat.reduceAdd, Nat.reduceBEq, Nat.reduceEqDiff, Nat.reduceLT, Nat.reduceLeDiff, Nat.reduceMul, Int.reduceToNat, reduceCtorEq, ↓reduceIte, Tryd.ntmps26, Tryd.results26, ks_26, mu_26, ti_ag3, ti_ag34, ti_ag36, ti_fl36_0, ti_fl36_7, ti_hb26, ti_sb34, ti_sl34, ti_sz36, not_true_eq_false, not_false_eq_true, Bool.true_and, Bool.false_and, Int.reduceEq, Int.reduceLT, Int.reduceLE, Int.reduceNeg, List.map_cons, List.map_nil, exV, i1, in_26] at hF
    subst hF
    repeat' (first | with_reducible (first | refine And.intro ?_ ?_ | intro _ | refine AWp_seq ?_ | refine AWp_block ?_ | (refine hKv _ _ (AWp_nop ?_); clear hKv Kv) | (refine hKA ?_; clear hKA hKB KA KB) | (refine hKB ?_; clear hKA hKB KA KB) | refine AWp_skipN ?_ | refine AWp_exitO (by repeat (first | exact Out.hit | apply Out.thenA | apply Out.out rfl)) ?_) | (with_reducible (first | (refine hKv _ _ ?_; clear hKv Kv) | ((first | refine AWp_regC mu_26 ks_26 ?_ | refine AWp_regE mu_26 ks_26 ?_); intro Kv hKv) | refine AWp_retR ?_); try simp (dsimp := false) only [go_sem, Nat.reduceAdd, Nat.reduceBEq, Nat.reduceEqDiff, Nat.reduceLT, Nat.reduceLeDiff, Nat.reduceMul, Int.reduceToNat, reduceCtorEq, ↓reduceIte, Tryd.ntmps26, Tryd.results26, ks_26, mu_26, ti_ag3, ti_ag34, ti_ag36, ti_fl36_0, ti_fl36_7, ti_hb26, ti_sb34, ti_sl34, ti_sz36, not_true_eq_false, not_false_eq_true, Bool.true_and, Bool.false_and, Int.reduceEq, Int.reduceLT, Int.reduceLE, Int.reduceNeg, List.map_cons, List.map_nil, exV, i1]) | (refine AWp_condC rfl ?_; intro KA KB hKA hKB; try simp only [onB_true, onB_false, onB_dec, onB_ndec, onB_not, onB_and, onB_or]) | (refine AWp_condA rfl ?_ ?_) | with_reducible (first | refine onB_of ?_ ?_ | rfl) | omega)
    refine AWp_while0 (fun i : Nat => i ≤ l.length) (fun i => [(1, .d (.i .i64 p)), (2, .d (.i .i64 q)), (3, .rp [.i .i64 h.k, .i .i64 h.it.k, .i .i64 h.it.n, .s h.it.s, .s h.nm, .s h.at_, .i .i64 h.n, .i .i64 h.ax, .i .i64 h.tk, .s h.tn, .sl 11 (l.map exD)]), (7, .d (.i .i64 (1 + (exHows p q (l.take i) : Int)))), (8, .d (.i .i64 i))]) (fun i => l.length - i) 0 (Nat.zero_le _) ?_ ?_
    · simp (dsimp := false) only [go_sem, Nat.reduceAdd, Nat.reduceBEq, Nat.reduceEqDiff, Nat.reduceLT, Nat.reduceLeDiff, Nat.reduceMul, Int.reduceToNat, reduceCtorEq, ↓reduceIte, Tryd.ntmps26, Tryd.results26, ks_26, mu_26, ti_ag3, ti_ag34, ti_ag36, ti_fl36_0, ti_fl36_7, ti_hb26, ti_sb34, ti_sl34, ti_sz36, not_true_eq_false, not_false_eq_true, Bool.true_and, Bool.false_and, Int.reduceEq, Int.reduceLT, Int.reduceLE, Int.reduceNeg, List.map_cons, List.map_nil, exV, i1]
      first | done | (simp [exHows]; done)
    rintro i hi
    have t2 : ((0 : Int) ≤ (i : Int)) = True := eq_true (by omega)
    by_cases hil : i < l.length
    · obtain ⟨x, hx⟩ : ∃ x, l[i]? = some x := ⟨l[i], List.getElem?_eq_getElem hil⟩
      have t1 : ((i : Int) < (l.length : Int)) = True := eq_true (by omega)
      have hc := ih x (List.mem_of_getElem? hx)
      have z1 := exHows_take (a := p) (b := q) hx
      have z2 := exNs_le_take l (i + 1)
      have z3 := exHows_le p q (l.take (i + 1))
      have r1 : inR .i64 (1 + (exHows p q (l.take i) : Int) + (exHow p q x : Int)) := inR_i64' (by omega) (by omega)
      repeat' (first | with_reducible (first | refine And.intro ?_ ?_ | intro _ | refine AWp_seq ?_ | refine AWp_block ?_ | (refine hKv _ _ (AWp_nop ?_); clear hKv Kv) | (refine hKA ?_; clear hKA hKB KA KB) | (refine hKB ?_; clear hKA hKB KA KB) | refine AWp_skipN ?_ | refine AWp_exitO (by repeat (first | exact Out.hit | apply Out.thenA | apply Out.out rfl)) ?_) | ((first | with_reducible (first | (refine hKv _ _ ?_; clear hKv Kv) | ((first | refine AWp_regC mu_26 ks_26 ?_ | refine AWp_regE mu_26 ks_26 ?_); intro Kv hKv) | refine AWp_retR ?_) | refine hc _ _ ?_); try simp (dsimp := false) only [go_sem, Nat.reduceAdd, Nat.reduceBEq, Nat.reduceEqDiff, Nat.reduceLT, Nat.reduceLeDiff, Nat.reduceMul, Int.reduceToNat, reduceCtorEq, ↓reduceIte, Tryd.ntmps26, Tryd.results26, ks_26, mu_26, ti_ag3, ti_ag34, ti_ag36, ti_fl36_0, ti_fl36_7, ti_hb26, ti_sb34, ti_sl34, ti_sz36, not_true_eq_false, not_false_eq_true, Bool.true_and, Bool.false_and, Int.reduceEq, Int.reduceLT, Int.reduceLE, Int.reduceNeg, List.map_cons, List.map_nil, exV, exD_1, hx, t1, t2, r1]) | (refine AWp_condC rfl ?_; intro KA KB hKA hKB; try simp only [onB_true, onB_false, onB_dec, onB_ndec, onB_not, onB_and, onB_or]) | (refine AWp_condA rfl ?_ ?_) | with_reducible (first | refine onB_of ?_ ?_ | rfl) | omega)
      all_goals first
        | omega
        | exact r1
        | exact ⟨i + 1, by omega, by omega, by rw [z1]; omega, by omega⟩
    · have t1 : ((i : Int) < (l.length : Int)) = False := eq_false (by omega)
      rw [List.take_of_length_le (by omega)]
      repeat' (first | with_reducible (first | refine And.intro ?_ ?_ | intro _ | refine AWp_seq ?_ | refine AWp_block ?_ | (refine hKv _ _ (AWp_nop ?_); clear hKv Kv) | (refine hKA ?_; clear hKA hKB KA KB) | (refine hKB ?_; clear hKA hKB KA KB) | refine AWp_skipN ?_ | refine AWp_exitO (by repeat (first | exact Out.hit | apply Out.thenA | apply Out.out rfl)) ?_) | (with_reducible (first | (refine hKv _ _ ?_; clear hKv Kv) | ((first | refine AWp_regC mu_26 ks_26 ?_ | refine AWp_regE mu_26 ks_26 ?_); intro Kv hKv) | refine AWp_retR ?_); try simp (dsimp := false) only [go_sem, Nat.reduceAdd, Nat.reduceBEq, Nat.reduceEqDiff, Nat.reduceLT, Nat.reduceLeDiff, Nat.reduceMul, Int.reduceToNat, reduceCtorEq, ↓reduceIte, Tryd.ntmps26, Tryd.results26, ks_26, mu_26, ti_ag3, ti_ag34, ti_ag36, ti_fl36_0, ti_fl36_7, ti_hb26, ti_sb34, ti_sl34, ti_sz36, not_true_eq_false, not_false_eq_true, Bool.true_and, Bool.false_and, Int.reduceEq, Int.reduceLT, Int.reduceLE, Int.reduceNeg, List.map_cons, List.map_nil, t1]) | (refine AWp_condC rfl ?_; intro KA KB hKA hKB; try simp only [onB_true, onB_false, onB_dec, onB_ndec, onB_not, onB_and, onB_or]) | (refine AWp_condA rfl ?_ ?_) | with_reducible (first | refine onB_of ?_ ?_ | rfl) | omega)
      all_goals first
        | omega
        | exact keepD hk (by congr 2)
        | exact keepD hk (by congr 2; omega)
  have i1 : (h.k = p) = False := eq_false c1
  by_cases c2 : h.k = q
  · have i2 : (h.k = q) = True := eq_true c2
    have hw : (if h.k = p ∨ h.k = q then 1 else 0) = 1 := by rw [if_pos (by first | exact .inl c1 | exact .inr c2)]
    rw [hw] at hk
    refine ACalls_of Tryd.func26 rfl in_26 (Nat.le_of_ble_eq_true rfl) ?_
    intro F hF
    simp (dsimp := false) only [go_sem, Nat.reduceAdd, Nat.reduceBEq, Nat.reduceEqDiff, Nat.reduceLT, Nat.reduceLeDiff, Nat.reduceMul, Int.reduceToNat, reduceCtorEq, ↓reduceIte, Tryd.ntmps26, Tryd.results26, ks_26, mu_26, ti_ag3, ti_ag34, ti_ag36, ti_fl36_0, ti_fl36_7, ti_hb26, ti_sb34, ti_sl34, ti_sz36, not_true_eq_false, not_false_eq_true, Bool.true_and, Bool.false_and, Int.reduceEq, Int.reduceLT, Int.reduceLE, Int.reduceNeg, List.map_cons, List.map_nil, exV, i1, i2, in_26] at hF
    subst hF
    repeat' (first | with_reducible (first | refine And.intro ?_ ?_ | intro _ | refine AWp_seq ?_ | refine AWp_block ?_ | (refine hKv _ _ (AWp_nop ?_); clear hKv Kv) | (refine hKA ?_; clear hKA hKB KA KB) | (refine hKB ?_; clear hKA hKB KA KB) | refine AWp_skipN ?_ | refine AWp_exitO (by repeat (first | exact Out.hit | apply Out.thenA | apply Out.out rfl)) ?_) | (with_reducible (first | (refine hKv _ _ ?_; clear hKv Kv) | ((first | refine AWp_regC mu_26 ks_26 ?_ | refine AWp_regE mu_26 ks_26 ?_); intro Kv hKv) | refine AWp_retR ?_); try simp (dsimp := false) only [go_sem, Nat.reduceAdd, Nat.reduceBEq, Nat.reduceEqDiff, Nat.reduceLT, Nat.reduceLeDiff, Nat.reduceMul, Int.reduceToNat, reduceCtorEq, ↓reduceIte, Tryd.ntmps26, Tryd.results26, ks_26, mu_26, ti_ag3, ti_ag34, ti_ag36, ti_fl36_0, ti_fl36_7, ti_hb26, ti_sb34, ti_sl34, ti_sz36, not_true_eq_false, not_false_eq_true, Bool.true_and, Bool.false_and, Int.reduceEq, Int.reduceLT, Int.reduceLE, Int.reduceNeg, List.map_cons, List.map_nil, exV, i1, i2]) | (refine AWp_condC rfl ?_; intro KA KB hKA hKB; try simp only [onB_true, onB_false, onB_dec, onB_ndec, onB_not, onB_and, onB_or]) | (refine AWp_condA rfl ?_ ?_) | with_reducible (first | refine onB_of ?_ ?_ | rfl) | omega)
    refine AWp_while0 (fun i : Nat => i ≤ l.length) (fun i => [(1, .d (.i .i64 p)), (2, .d (.i .i64 q)), (3, .rp [.i .i64 h.k, .i .i64 h.it.k, .i .i64 h.it.n, .s h.it.s, .s h.nm, .s h.at_, .i .i64 h.n, .i .i64 h.ax, .i .i64 h.tk, .s h.tn, .sl 11 (l.map exD)]), (7, .d (.i .i64 (1 + (exHows p q (l.take i) : Int)))), (8, .d (.i .i64 i))]) (fun i => l.length - i) 0 (Nat.zero_le _) ?_ ?_
    · simp (dsimp := false) only [go_sem, Nat.reduceAdd, Nat.reduceBEq, Nat.reduceEqDiff, Nat.reduceLT, Nat.reduceLeDiff, Nat.reduceMul, Int.reduceToNat, reduceCtorEq, ↓reduceIte, Tryd.ntmps26, Tryd.results26, ks_26, mu_26, ti_ag3, ti_ag34, ti_ag36, ti_fl36_0, ti_fl36_7, ti_hb26, ti_sb34, ti_sl34, ti_sz36, not_true_eq_false, not_false_eq_true, Bool.true_and, Bool.false_and, Int.reduceEq, Int.reduceLT, Int.reduceLE, Int.reduceNeg, List.map_cons, List.map_nil, exV, i1, i2]
      first | done | (simp [exHows]; done)
    rintro i hi
    have t2 : ((0 : Int) ≤ (i : Int)) = True := eq_true (by omega)
    by_cases hil : i < l.length
    · obtain ⟨x, hx⟩ : ∃ x, l[i]? = some x := ⟨l[i], List.getElem?_eq_getElem hil⟩
      have t1 : ((i : Int) < (l.length : Int)) = True := eq_true (by omega)
      have hc := ih x (List.mem_of_getElem? hx)
      have z1 := exHows_take (a := p) (b := q) hx
      have z2 := exNs_le_take l (i + 1)
      have z3 := exHows_le p q (l.take (i + 1))
      have r1 : inR .i64 (1 + (exHows p q (l.take i) : Int) + (exHow p q x : Int)) := inR_i64' (by omega) (by omega)
      repeat' (first | with_reducible (first | refine And.intro ?_ ?_ | intro _ | refine AWp_seq ?_ | refine AWp_block ?_ | (refine hKv _ _ (AWp_nop ?_); clear hKv Kv) | (refine hKA ?_; clear hKA hKB KA KB) | (refine hKB ?_; clear hKA hKB KA KB) | refine AWp_skipN ?_ | refine AWp_exitO (by repeat (first | exact Out.hit | apply Out.thenA | apply Out.out rfl)) ?_) | ((first | with_reducible (first | (refine hKv _ _ ?_; clear hKv Kv) | ((first | refine AWp_regC mu_26 ks_26 ?_ | refine AWp_regE mu_26 ks_26 ?_); intro Kv hKv) | refine AWp_retR ?_) | refine hc _ _ ?_); try simp (dsimp := false) only [go_sem, Nat.reduceAdd, Nat.reduceBEq, Nat.reduceEqDiff, Nat.reduceLT, Nat.reduceLeDiff, Nat.reduceMul, Int.reduceToNat, reduceCtorEq, ↓reduceIte, Tryd.ntmps26, Tryd.results26, ks_26, mu_26, ti_ag3, ti_ag34, ti_ag36, ti_fl36_0, ti_fl36_7, ti_hb26, ti_sb34, ti_sl34, ti_sz36, not_true_eq_false, not_false_eq_true, Bool.true_and, Bool.false_and, Int.reduceEq, Int.reduceLT, Int.reduceLE, Int.reduceNeg, List.map_cons, List.map_nil, exV, exD_1, hx, t1, t2, r1]) | (refine AWp_condC rfl ?_; intro KA KB hKA hKB; try simp only [onB_true, onB_false, onB_dec, onB_ndec, onB_not, onB_and, onB_or]) | (refine AWp_condA rfl ?_ ?_) | with_reducible (first | refine onB_of ?_ ?_ | rfl) | omega)
      all_goals first
        | omega
        | exact r1
        | exact ⟨i + 1, by omega, by omega, by rw [z1]; omega, by omega⟩
    · have t1 : ((i : Int) < (l.length : Int)) = False := eq_false (by omega)
      rw [List.take_of_length_le (by omega)]
      repeat' (first | with_reducible (first | refine And.intro ?_ ?_ | intro _ | refine AWp_seq ?_ | refine AWp_block ?_ | (refine hKv _ _ (AWp_nop ?_); clear hKv Kv) | (refine hKA ?_; clear hKA hKB KA KB) | (refine hKB ?_; clear hKA hKB KA KB) | refine AWp_skipN ?_ | refine AWp_exitO (by repeat (first | exact Out.hit | apply Out.thenA | apply Out.out rfl)) ?_) | (with_reducible (first | (refine hKv _ _ ?_; clear hKv Kv) | ((first | refine AWp_regC mu_26 ks_26 ?_ | refine AWp_regE mu_26 ks_26 ?_); intro Kv hKv) | refine AWp_retR ?_); try simp (dsimp := false) only [go_sem, Nat.reduceAdd, Nat.reduceBEq, Nat.reduceEqDiff, Nat.reduceLT, Nat.reduceLeDiff, Nat.reduceMul, Int.reduceToNat, reduceCtorEq, ↓reduceIte, Tryd.ntmps26, Tryd.results26, ks_26, mu_26, ti_ag3, ti_ag34, ti_ag36, ti_fl36_0, ti_fl36_7, ti_hb26, ti_sb34, ti_sl34, ti_sz36, not_true_eq_false, not_false_eq_true, Bool.true_and, Bool.false_and, Int.reduceEq, Int.reduceLT, Int.reduceLE, Int.reduceNeg, List.map_cons, List.map_nil, t1]) | (refine AWp_condC rfl ?_; intro KA KB hKA hKB; try simp only [onB_true, onB_false, onB_dec, onB_ndec, onB_not, onB_and, onB_or]) | (refine AWp_condA rfl ?_ ?_) | with_reducible (first | refine onB_of ?_ ?_ | rfl) | omega)
      all_goals first
        | omega
        | exact keepD hk (by congr 2)
        | exact keepD hk (by congr 2; omega)
  have i2 : (h.k = q) = False := eq_false c2
  have hw : (if h.k = p ∨ h.k = q then 1 else 0) = 0 := by rw [if_neg (by simp [c1, c2])]
  rw [hw] at hk
  refine ACalls_of Tryd.func26 rfl in_26 (Nat.le_of_ble_eq_true rfl) ?_
  intro F hF
  simp (dsimp := false) only [go_sem, Nat.reduceAdd, Nat.reduceBEq, Nat.reduceEqDiff, Nat.reduceLT, Nat.reduceLeDiff, Nat.reduceMul, Int.reduceToNat, reduceCtorEq, ↓reduceIte, Tryd.ntmps26, Tryd.results26, ks_26, mu_26, ti_ag3, ti_ag34, ti_ag36, ti_fl36_0, ti_fl36_7, ti_hb26, ti_sb34, ti_sl34, ti_sz36, not_true_eq_false, not_false_eq_true, Bool.true_and, Bool.false_and, Int.reduceEq, Int.reduceLT, Int.reduceLE, Int.reduceNeg, List.map_cons, List.map_nil, exV, i1, i2, in_26] at hF
  subst hF
  repeat' (first | with_reducible (first | refine And.intro ?_ ?_ | intro _ | refine AWp_seq ?_ | refine AWp_block ?_ | (refine hKv _ _ (AWp_nop ?_); clear hKv Kv) | (refine hKA ?_; clear hKA hKB KA KB) | (refine hKB ?_; clear hKA hKB KA KB) | refine AWp_skipN ?_ | refine AWp_exitO (by repeat (first | exact Out.hit | apply Out.thenA | apply Out.out rfl)) ?_) | (with_reducible (first | (refine hKv _ _ ?_; clear hKv Kv) | ((first | refine AWp_regC mu_26 ks_26 ?_ | refine AWp_regE mu_26 ks_26 ?_); intro Kv hKv) | refine AWp_retR ?_); try simp (dsimp := false) only [go_sem, Nat.reduceAdd, Nat.reduceBEq, Nat.reduceEqDiff, Nat.reduceLT, Nat.reduceLeDiff, Nat.reduceMul, Int.reduceToNat, reduceCtorEq, ↓reduceIte, Tryd.ntmps26, Tryd.results26, ks_26, mu_26, ti_ag3, ti_ag34, ti_ag36, ti_fl36_0, ti_fl36_7, ti_hb26, ti_sb34, ti_sl34, ti_sz36, not_true_eq_false, not_false_eq_true, Bool.true_and, Bool.false_and, Int.reduceEq, Int.reduceLT, Int.reduceLE, Int.reduceNeg, List.map_cons, List.map_nil, exV, i1, i2]) | (refine AWp_condC rfl ?_; intro KA KB hKA hKB; try simp only [onB_true, onB_false, onB_dec, onB_ndec, onB_not, onB_and, onB_or]) | (refine AWp_condA rfl ?_ ?_) | with_reducible (first | refine onB_of ?_ ?_ | rfl) | omega)
  refine AWp_while0 (fun i : Nat => i ≤ l.length) (fun i => [(1, .d (.i .i64 p)), (2, .d (.i .i64 q)), (3, .rp [.i .i64 h.k, .i .i64 h.it.k, .i .i64 h.it.n, .s h.it.s, .s h.nm, .s h.at_, .i .i64 h.n, .i .i64 h.ax, .i .i64 h.tk, .s h.tn, .sl 11 (l.map exD)]), (7, .d (.i .i64 (0 + (exHows p q (l.take i) : Int)))), (8, .d (.i .i64 i))]) (fun i => l.length - i) 0 (Nat.zero_le _) ?_ ?_
  · simp (dsimp := false) only [go_sem, Nat.reduceAdd, Nat.reduceBEq, Nat.reduceEqDiff, Nat.reduceLT, Nat.reduceLeDiff, Nat.reduceMul, Int.reduceToNat, reduceCtorEq, ↓reduceIte, Tryd.ntmps26, Tryd.results26, ks_26, mu_26, ti_ag3, ti_ag34, ti_ag36, ti_fl36_0, ti_fl36_7, ti_hb26, ti_sb34, ti_sl34, ti_sz36, not_true_eq_false, not_false_eq_true, Bool.true_and, Bool.false_and, Int.reduceEq, Int.reduceLT, Int.reduceLE, Int.reduceNeg, List.map_cons, List.map_nil, exV, i1, i2]
    first | done | (simp [exHows]; done)
  rintro i hi
  have t2 : ((0 : Int) ≤ (i : Int)) = True := eq_true (by omega)
  by_cases hil : i < l.length
  · obtain ⟨x, hx⟩ : ∃ x, l[i]? = some x := ⟨l[i], List.getElem?_eq_getElem hil⟩
    have t1 : ((i : Int) < (l.length : Int)) = True := eq_true (by omega)
    have hc := ih x (List.mem_of_getElem? hx)
    have z1 := exHows_take (a := p) (b := q) hx
    have z2 := exNs_le_take l (i + 1)
    have z3 := exHows_le p q (l.take (i + 1))
    have r1 : inR .i64 (0 + (exHows p q (l.take i) : Int) + (exHow p q x : Int)) := inR_i64' (by omega) (by omega)
    repeat' (first | with_reducible (first | refine And.intro ?_ ?_ | intro _ | refine AWp_seq ?_ | refine AWp_block ?_ | (refine hKv _ _ (AWp_nop ?_); clear hKv Kv) | (refine hKA ?_; clear hKA hKB KA KB) | (refine hKB ?_; clear hKA hKB KA KB) | refine AWp_skipN ?_ | refine AWp_exitO (by repeat (first | exact Out.hit | apply Out.thenA | apply Out.out rfl)) ?_) | ((first | with_reducible (first | (refine hKv _ _ ?_; clear hKv Kv) | ((first | refine AWp_regC mu_26 ks_26 ?_ | refine AWp_regE mu_26 ks_26 ?_); intro Kv hKv) | refine AWp_retR ?_) | refine hc _ _ ?_); try simp (dsimp := false) only [go_sem, Nat.reduceAdd, Nat.reduceBEq, Nat.reduceEqDiff, Nat.reduceLT, Nat.reduceLeDiff, Nat.reduceMul, Int.reduceToNat, reduceCtorEq, ↓reduceIte, Tryd.ntmps26, Tryd.results26, ks_26, mu_26, ti_ag3, ti_ag34, ti_ag36, ti_fl36_0, ti_fl36_7, ti_hb26, ti_sb34, ti_sl34, ti_sz36, not_true_eq_false, not_false_eq_true, Bool.true_and, Bool.false_and, Int.reduceEq, Int.reduceLT, Int.reduceLE, Int.reduceNeg, List.map_cons, List.map_nil, exV, exD_1, hx, t1, t2, r1]) | (refine AWp_condC rfl ?_; intro KA KB hKA hKB; try simp only [onB_true, onB_false, onB_dec, onB_ndec, onB_not, onB_and, onB_or]) | (refine AWp_condA rfl ?_ ?_) | with_reducible (first | refine onB_of ?_ ?_ | rfl) | omega)
    all_goals first
      | omega
      | exact r1
      | exact ⟨i + 1, by omega, by omega, by rw [z1]; omega, by omega⟩
  · have t1 : ((i : Int) < (l.length : Int)) = False := eq_false (by omega)
    rw [List.take_of_length_le (by omega)]
    repeat' (first | with_reducible (first | refine And.intro ?_ ?_ | intro _ | refine AWp_seq ?_ | refine AWp_block ?_ | (refine hKv _ _ (AWp_nop ?_); clear hKv Kv) | (refine hKA ?_; clear hKA hKB KA KB) | (refine hKB ?_; clear hKA hKB KA KB) | refine AWp_skipN ?_ | refine AWp_exitO (by repeat (first | exact Out.hit | apply Out.thenA | apply Out.out rfl)) ?_) | (with_reducible (first | (refine hKv _ _ ?_; clear hKv Kv) | ((first | refine AWp_regC mu_26 ks_26 ?_ | refine AWp_regE mu_26 ks_26 ?_); intro Kv hKv) | refine AWp_retR ?_); try simp (dsimp := false) only [go_sem, Nat.reduceAdd, Nat.reduceBEq, Nat.reduceEqDiff, Nat.reduceLT, Nat.reduceLeDiff, Nat.reduceMul, Int.reduceToNat, reduceCtorEq, ↓reduceIte, Tryd.ntmps26, Tryd.results26, ks_26, mu_26, ti_ag3, ti_ag34, ti_ag36, ti_fl36_0, ti_fl36_7, ti_hb26, ti_sb34, ti_sl34, ti_sz36, not_true_eq_false, not_false_eq_true, Bool.true_and, Bool.false_and, Int.reduceEq, Int.reduceLT, Int.reduceLE, Int.reduceNeg, List.map_cons, List.map_nil, t1]) | (refine AWp_condC rfl ?_; intro KA KB hKA hKB; try simp only [onB_true, onB_false, onB_dec, onB_ndec, onB_not, onB_and, onB_or]) | (refine AWp_condA rfl ?_ ?_) | with_reducible (first | refine onB_of ?_ ?_ | rfl) | omega)
    all_goals first
      | omega
      | exact keepD hk (by congr 2)
      | exact keepD hk (by congr 2; omega)
theorem howMany_A (p q : Int) : ∀ (n : Nat) (x : Ex), exN x ≤ n → ExOk x → exN x ≤ 1000000 → ∀ (H : Heap) (K : V → Heap → Prop), K (.d (.i .i64 (exHow p q x))) H → ACalls Tryd.prog 26 [exV x.h x.args, .d (.i .i64 p), .d (.i .i64 q)] H K
  | 0, x, hn, _, _, _, _, _ => by rw [exN_eq] at hn; omega
  | n + 1, .mk h l, hn, ok, hsc, H, K, hk => by
    refine howManyS_A h l p q ok.len (by rw [exN] at hsc; omega) (fun x hx H K hk => ?_) H K hk
    have := exN_lt (x := .mk h l) hx
    exact howMany_A p q n x (by omega) (ok.mem x hx) (by omega) H K hk
def coreQ (x : Ex) : Int := if efQ x [] = 0 then (if 6 < exHow 5 6 x ∨ 6 < exHow 10 10 x ∨ 700 < exN x then 1 else 0) else efQ x []
end Go.Proofs.YtppalmoicjogaaaDoor
