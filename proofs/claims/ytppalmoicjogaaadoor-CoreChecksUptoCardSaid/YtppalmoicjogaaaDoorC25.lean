/- The core: what an expression has beside its arguments is as it must be: walked. No condition but that the tables of package unicode/utf8 and of the core's functions are there. -/
import Derived.Test.YtppalmoicjogaaaDoorC24
set_option linter.all false
set_option linter.unusedSimpArgs false
set_option linter.unusedVariables false
namespace Go.Proofs.YtppalmoicjogaaaDoor
open Go Go.Proofs.YtppalmoicjogaaaDoor.Ab
variable [Glo] [U8]
set_option maxHeartbeats 4000000
set_option maxRecDepth 20000
class CAr [Glo] where
  L : List (List UInt8 × Int)
  perm : L.Perm coreArE
  at_ : glob 3 = some (mapRow L)
variable [CAr]
def exOwn (h : Xh) (n : Nat) (sc : List (List UInt8)) : Int :=
  if h.k = 1 then (if h.it.k = 1 then 12 else itemFault h.it)
  else if h.k = 2 then (if h.nm ∈ sc then 0 else 6)
  else if h.k = 4 ∨ h.k = 5 ∨ h.k = 6 then bindQ h.nm h.at_ (decide (h.k = 4))
  else if h.k = 8 then (match lookE coreArE h.nm with | some m => if m = n then 0 else 11 | none => 6)
  else if h.k = 9 then (if stepB h.ax h.tk = true then 0 else 3)
  else if h.k = 10 then madeQ h.n h.nm
  else 0
def exV (h : Xh) (l : List Ex) : V := .ag [.d (.i .i64 h.k), .d (.i .i64 h.it.k), .d (.i .i64 h.it.n), .d (.s h.it.s), .d (.s h.nm), .d (.s h.at_), .d (.i .i64 h.n), .d (.i .i64 h.ax), .d (.i .i64 h.tk), .d (.s h.tn), .d (.sl 11 (l.map exD))]
theorem exV_k {h : Xh} {l : List Ex} {k : Int} (e : h.k = k) : exV h l = .ag [.d (.i .i64 k), .d (.i .i64 h.it.k), .d (.i .i64 h.it.n), .d (.s h.it.s), .d (.s h.nm), .d (.s h.at_), .d (.i .i64 h.n), .d (.i .i64 h.ax), .d (.i .i64 h.tk), .d (.s h.tn), .d (.sl 11 (l.map exD))] := by rw [← e]; rfl
structure XhOk (h : Xh) : Prop where
  it : h.it.s.length ≤ 1048576
  nm : h.nm.length ≤ 1048576
  at_ : h.at_.length ≤ 1048576
  tn : h.tn.length ≤ 1048576
theorem ExOk.h {h : Xh} {l : List Ex} (x : ExOk (.mk h l)) : XhOk h := by cases x; constructor <;> assumption
theorem ExOk.len {h : Xh} {l : List Ex} (x : ExOk (.mk h l)) : l.length ≤ 1048576 := by cases x; assumption
theorem ExOk.mem {h : Xh} {l : List Ex} (x : ExOk (.mk h l)) : ∀ y, y ∈ l → ExOk y := by cases x; assumption
theorem itemFault_12 (x : It) : itemFault x = 0 ∨ itemFault x = 12 := by unfold itemFault; split; exact .inl rfl; exact .inr rfl
theorem bindQ_eq (nm at_ : List UInt8) (t : Bool) : bindQ nm at_ t = if varB nm = false ∨ (t = false ∧ at_ ≠ [] ∧ varB at_ = false) then 10 else if t = false ∧ at_ = nm then 7 else 0 := by
  unfold bindQ
  cases h1 : varB nm with
  | false => simp
  | true =>
    have hne : nm ≠ [] := by rintro rfl; exact absurd h1 (by decide)
    cases t with
    | true => simp
    | false =>
      by_cases h2 : at_ = []
      · subst h2; simp [Ne.symm hne]
      · cases h3 : varB at_ <;> simp [h2]
def ks_46 : Nat → List Nat
  | 0 => [1, 2]
  | 1 => [1, 2, 8]
  | 2 => [1, 2, 8, 9]
  | 3 => [2, 14]
  | 4 => [4]
  | 5 => [4]
  | 6 => [1, 2, 8, 18]
  | 7 => [24]
  | 8 => [4]
  | 9 => [2, 8, 25]
  | 10 => [2, 8, 25]
  | 11 => [2, 8, 25]
  | 12 => [2, 48]
  | 13 => [4]
  | 14 => [58]
  | 15 => [4]
  | 16 => [2, 8, 59]
  | 17 => [2, 5, 6]
  | 18 => [2, 5, 69]
  | 19 => [4]
  | 20 => [74]
  | 21 => [4]
  | 22 => [2, 8, 75]
  | 23 => [4]
  | 24 => [2, 82]
  | 25 => [4]
  | 26 => [4]
  | _ => []
def mu_46 : List Nat := []
def in_46 : List Nat := [0, 1]
theorem own_A (h : Xh) (l : List Ex) (ok : XhOk h) (hl : l.length ≤ 1048576) (sc : List (List UInt8)) (hsc : sc.length ≤ 9223372036854775807) (H : Heap) (K : V → Heap → Prop) (hk : K (.d (.i .i64 (exOwn h l.length sc))) H) :
    ACalls Tryd.prog 46 [exV h l, .d (.sl 1 (sc.map strRow))] H K := by
  have o1 := ok.it
  have o2 := ok.nm
  have o3 := ok.at_
  have o4 := ok.tn
  by_cases c1 : h.k = 1
  · rw [exV_k c1]
    rw [exOwn, if_pos c1] at hk
    by_cases ci : h.it.k = 1
    · have i1 : (h.it.k = 1) = True := eq_true ci
      rw [if_pos ci] at hk
      refine ACalls_of Tryd.func46 rfl in_46 (Nat.le_of_ble_eq_true rfl) ?_
      intro F hF
      simp (dsimp := false) only [go_sem, Nat.reduceAdd, Nat.reduceBEq, Nat.reduceEqDiff, Nat.reduceLT, Nat.reduceLeDiff, Nat.reduceMul, Int.reduceToNat, reduceCtorEq, ↓reduceIte, Tryd.ntmps46, Tryd.results46, ks_46, mu_46, ti_ag3, ti_ag9, ti_ag31, ti_ag33, ti_ag34, ti_ag82, ti_fl31_0, ti_fl36_0, ti_fl36_1, ti_fl36_2, ti_fl36_3, ti_fl36_4, ti_fl36_5, ti_fl36_6, ti_fl36_7, ti_hb39, ti_hb55, ti_hb61, ti_hb85, ti_hb86, ti_ky9, ti_mp82, ti_sb34, ti_sz31, ti_sz33, ti_zv3, i1, itD, itV, Int.reduceEq, in_46] at hF
      subst hF
      repeat' (first | with_reducible (first | refine And.intro ?_ ?_ | intro _ | refine AWp_seq ?_ | refine AWp_block ?_ | (refine hKv _ _ (AWp_nop ?_); clear hKv Kv) | (refine hKA ?_; clear hKA hKB KA KB) | (refine hKB ?_; clear hKA hKB KA KB) | refine AWp_skipN ?_ | refine AWp_exitO (by repeat (first | exact Out.hit | apply Out.thenA | apply Out.out rfl)) ?_) | ((first | with_reducible (first | (refine hKv _ _ ?_; clear hKv Kv) | ((first | refine AWp_regC mu_46 ks_46 ?_ | refine AWp_regE mu_46 ks_46 ?_); intro Kv hKv) | refine AWp_retR ?_) | refine checkItem_A h.it (by omega) _ _ ?_); try simp (dsimp := false) only [go_sem, Nat.reduceAdd, Nat.reduceBEq, Nat.reduceEqDiff, Nat.reduceLT, Nat.reduceLeDiff, Nat.reduceMul, Int.reduceToNat, reduceCtorEq, ↓reduceIte, Tryd.ntmps46, Tryd.results46, ks_46, mu_46, ti_ag3, ti_ag9, ti_ag31, ti_ag33, ti_ag34, ti_ag82, ti_fl31_0, ti_fl36_0, ti_fl36_1, ti_fl36_2, ti_fl36_3, ti_fl36_4, ti_fl36_5, ti_fl36_6, ti_fl36_7, ti_hb39, ti_hb55, ti_hb61, ti_hb85, ti_hb86, ti_ky9, ti_mp82, ti_sb34, ti_sz31, ti_sz33, ti_zv3, i1, itD, itV, Int.reduceEq]) | (refine AWp_condC rfl ?_; intro KA KB hKA hKB; try simp only [onB_true, onB_false, onB_dec, onB_ndec, onB_not, onB_and, onB_or]) | (refine AWp_condA rfl ?_ ?_) | with_reducible (first | refine onB_of ?_ ?_ | rfl) | omega)
      all_goals first
        | omega
        | exact keepD hk rfl
    · have i1 : (h.it.k = 1) = False := eq_false ci
      rw [if_neg ci] at hk
      refine ACalls_of Tryd.func46 rfl in_46 (Nat.le_of_ble_eq_true rfl) ?_
      intro F hF
      simp (dsimp := false) only [go_sem, Nat.reduceAdd, Nat.reduceBEq, Nat.reduceEqDiff, Nat.reduceLT, Nat.reduceLeDiff, Nat.reduceMul, Int.reduceToNat, reduceCtorEq, ↓reduceIte, Tryd.ntmps46, Tryd.results46, ks_46, mu_46, ti_ag3, ti_ag9, ti_ag31, ti_ag33, ti_ag34, ti_ag82, ti_fl31_0, ti_fl36_0, ti_fl36_1, ti_fl36_2, ti_fl36_3, ti_fl36_4, ti_fl36_5, ti_fl36_6, ti_fl36_7, ti_hb39, ti_hb55, ti_hb61, ti_hb85, ti_hb86, ti_ky9, ti_mp82, ti_sb34, ti_sz31, ti_sz33, ti_zv3, i1, itD, itV, Int.reduceEq, in_46] at hF
      subst hF
      repeat' (first | with_reducible (first | refine And.intro ?_ ?_ | intro _ | refine AWp_seq ?_ | refine AWp_block ?_ | (refine hKv _ _ (AWp_nop ?_); clear hKv Kv) | (refine hKA ?_; clear hKA hKB KA KB) | (refine hKB ?_; clear hKA hKB KA KB) | refine AWp_skipN ?_ | refine AWp_exitO (by repeat (first | exact Out.hit | apply Out.thenA | apply Out.out rfl)) ?_) | ((first | with_reducible (first | (refine hKv _ _ ?_; clear hKv Kv) | ((first | refine AWp_regC mu_46 ks_46 ?_ | refine AWp_regE mu_46 ks_46 ?_); intro Kv hKv) | refine AWp_retR ?_) | refine checkItem_A h.it (by omega) _ _ ?_); try simp (dsimp := false) only [go_sem, Nat.reduceAdd, Nat.reduceBEq, Nat.reduceEqDiff, Nat.reduceLT, Nat.reduceLeDiff, Nat.reduceMul, Int.reduceToNat, reduceCtorEq, ↓reduceIte, Tryd.ntmps46, Tryd.results46, ks_46, mu_46, ti_ag3, ti_ag9, ti_ag31, ti_ag33, ti_ag34, ti_ag82, ti_fl31_0, ti_fl36_0, ti_fl36_1, ti_fl36_2, ti_fl36_3, ti_fl36_4, ti_fl36_5, ti_fl36_6, ti_fl36_7, ti_hb39, ti_hb55, ti_hb61, ti_hb85, ti_hb86, ti_ky9, ti_mp82, ti_sb34, ti_sz31, ti_sz33, ti_zv3, i1, itD, itV, Int.reduceEq]) | (refine AWp_condC rfl ?_; intro KA KB hKA hKB; try simp only [onB_true, onB_false, onB_dec, onB_ndec, onB_not, onB_and, onB_or]) | (refine AWp_condA rfl ?_ ?_) | with_reducible (first | refine onB_of ?_ ?_ | rfl) | omega)
      all_goals first
        | omega
        | exact keepD hk rfl
  by_cases c2 : h.k = 2
  · rw [exV_k c2]
    rw [exOwn, if_neg c1, if_pos c2] at hk
    have hc := contains_A sc h.nm hsc
    cases hm : decide (h.nm ∈ sc) with
    | true =>
      rw [hm] at hc
      rw [if_pos (of_decide_eq_true hm)] at hk
      refine ACalls_of Tryd.func46 rfl in_46 (Nat.le_of_ble_eq_true rfl) ?_
      intro F hF
      simp (dsimp := false) only [go_sem, Nat.reduceAdd, Nat.reduceBEq, Nat.reduceEqDiff, Nat.reduceLT, Nat.reduceLeDiff, Nat.reduceMul, Int.reduceToNat, reduceCtorEq, ↓reduceIte, Tryd.ntmps46, Tryd.results46, ks_46, mu_46, ti_ag3, ti_ag9, ti_ag31, ti_ag33, ti_ag34, ti_ag82, ti_fl31_0, ti_fl36_0, ti_fl36_1, ti_fl36_2, ti_fl36_3, ti_fl36_4, ti_fl36_5, ti_fl36_6, ti_fl36_7, ti_hb39, ti_hb55, ti_hb61, ti_hb85, ti_hb86, ti_ky9, ti_mp82, ti_sb34, ti_sz31, ti_sz33, ti_zv3, strRow, Int.reduceEq, in_46] at hF
      subst hF
      repeat' (first | with_reducible (first | refine And.intro ?_ ?_ | intro _ | refine AWp_seq ?_ | refine AWp_block ?_ | (refine hKv _ _ (AWp_nop ?_); clear hKv Kv) | (refine hKA ?_; clear hKA hKB KA KB) | (refine hKB ?_; clear hKA hKB KA KB) | refine AWp_skipN ?_ | refine AWp_exitO (by repeat (first | exact Out.hit | apply Out.thenA | apply Out.out rfl)) ?_) | ((first | with_reducible (first | (refine hKv _ _ ?_; clear hKv Kv) | ((first | refine AWp_regC mu_46 ks_46 ?_ | refine AWp_regE mu_46 ks_46 ?_); intro Kv hKv) | refine AWp_retR ?_) | refine hc _ _ ?_); try simp (dsimp := false) only [go_sem, Nat.reduceAdd, Nat.reduceBEq, Nat.reduceEqDiff, Nat.reduceLT, Nat.reduceLeDiff, Nat.reduceMul, Int.reduceToNat, reduceCtorEq, ↓reduceIte, Tryd.ntmps46, Tryd.results46, ks_46, mu_46, ti_ag3, ti_ag9, ti_ag31, ti_ag33, ti_ag34, ti_ag82, ti_fl31_0, ti_fl36_0, ti_fl36_1, ti_fl36_2, ti_fl36_3, ti_fl36_4, ti_fl36_5, ti_fl36_6, ti_fl36_7, ti_hb39, ti_hb55, ti_hb61, ti_hb85, ti_hb86, ti_ky9, ti_mp82, ti_sb34, ti_sz31, ti_sz33, ti_zv3, strRow, Int.reduceEq]) | (refine AWp_condC rfl ?_; intro KA KB hKA hKB; try simp only [onB_true, onB_false, onB_dec, onB_ndec, onB_not, onB_and, onB_or]) | (refine AWp_condA rfl ?_ ?_) | with_reducible (first | refine onB_of ?_ ?_ | rfl) | omega)
      all_goals first
        | omega
        | exact keepD hk rfl
    | false =>
      rw [hm] at hc
      rw [if_neg (of_decide_eq_false hm)] at hk
      refine ACalls_of Tryd.func46 rfl in_46 (Nat.le_of_ble_eq_true rfl) ?_
      intro F hF
      simp (dsimp := false) only [go_sem, Nat.reduceAdd, Nat.reduceBEq, Nat.reduceEqDiff, Nat.reduceLT, Nat.reduceLeDiff, Nat.reduceMul, Int.reduceToNat, reduceCtorEq, ↓reduceIte, Tryd.ntmps46, Tryd.results46, ks_46, mu_46, ti_ag3, ti_ag9, ti_ag31, ti_ag33, ti_ag34, ti_ag82, ti_fl31_0, ti_fl36_0, ti_fl36_1, ti_fl36_2, ti_fl36_3, ti_fl36_4, ti_fl36_5, ti_fl36_6, ti_fl36_7, ti_hb39, ti_hb55, ti_hb61, ti_hb85, ti_hb86, ti_ky9, ti_mp82, ti_sb34, ti_sz31, ti_sz33, ti_zv3, strRow, Int.reduceEq, in_46] at hF
      subst hF
      repeat' (first | with_reducible (first | refine And.intro ?_ ?_ | intro _ | refine AWp_seq ?_ | refine AWp_block ?_ | (refine hKv _ _ (AWp_nop ?_); clear hKv Kv) | (refine hKA ?_; clear hKA hKB KA KB) | (refine hKB ?_; clear hKA hKB KA KB) | refine AWp_skipN ?_ | refine AWp_exitO (by repeat (first | exact Out.hit | apply Out.thenA | apply Out.out rfl)) ?_) | ((first | with_reducible (first | (refine hKv _ _ ?_; clear hKv Kv) | ((first | refine AWp_regC mu_46 ks_46 ?_ | refine AWp_regE mu_46 ks_46 ?_); intro Kv hKv) | refine AWp_retR ?_) | refine hc _ _ ?_); try simp (dsimp := false) only [go_sem, Nat.reduceAdd, Nat.reduceBEq, Nat.reduceEqDiff, Nat.reduceLT, Nat.reduceLeDiff, Nat.reduceMul, Int.reduceToNat, reduceCtorEq, ↓reduceIte, Tryd.ntmps46, Tryd.results46, ks_46, mu_46, ti_ag3, ti_ag9, ti_ag31, ti_ag33, ti_ag34, ti_ag82, ti_fl31_0, ti_fl36_0, ti_fl36_1, ti_fl36_2, ti_fl36_3, ti_fl36_4, ti_fl36_5, ti_fl36_6, ti_fl36_7, ti_hb39, ti_hb55, ti_hb61, ti_hb85, ti_hb86, ti_ky9, ti_mp82, ti_sb34, ti_sz31, ti_sz33, ti_zv3, strRow, Int.reduceEq]) | (refine AWp_condC rfl ?_; intro KA KB hKA hKB; try simp only [onB_true, onB_false, onB_dec, onB_ndec, onB_not, onB_and, onB_or]) | (refine AWp_condA rfl ?_ ?_) | with_reducible (first | refine onB_of ?_ ?_ | rfl) | omega)
      all_goals first
        | omega
        | exact keepD hk rfl
  by_cases c3 : h.k = 4
  · rw [exV_k c3]
    rw [exOwn, if_neg c1, if_neg c2, if_pos (.inl c3), bindQ_eq, decide_eq_true c3] at hk
    have hn := name_A h.nm (by omega)
    cases hv : varB h.nm with
    | false =>
      rw [hv] at hn hk
      refine ACalls_of Tryd.func46 rfl in_46 (Nat.le_of_ble_eq_true rfl) ?_
      intro F hF
      simp (dsimp := false) only [go_sem, Nat.reduceAdd, Nat.reduceBEq, Nat.reduceEqDiff, Nat.reduceLT, Nat.reduceLeDiff, Nat.reduceMul, Int.reduceToNat, reduceCtorEq, ↓reduceIte, Tryd.ntmps46, Tryd.results46, ks_46, mu_46, ti_ag3, ti_ag9, ti_ag31, ti_ag33, ti_ag34, ti_ag82, ti_fl31_0, ti_fl36_0, ti_fl36_1, ti_fl36_2, ti_fl36_3, ti_fl36_4, ti_fl36_5, ti_fl36_6, ti_fl36_7, ti_hb39, ti_hb55, ti_hb61, ti_hb85, ti_hb86, ti_ky9, ti_mp82, ti_sb34, ti_sz31, ti_sz33, ti_zv3, Int.reduceEq, not_true_eq_false, in_46] at hF
      subst hF
      repeat' (first | with_reducible (first | refine And.intro ?_ ?_ | intro _ | refine AWp_seq ?_ | refine AWp_block ?_ | (refine hKv _ _ (AWp_nop ?_); clear hKv Kv) | (refine hKA ?_; clear hKA hKB KA KB) | (refine hKB ?_; clear hKA hKB KA KB) | refine AWp_skipN ?_ | refine AWp_exitO (by repeat (first | exact Out.hit | apply Out.thenA | apply Out.out rfl)) ?_) | ((first | with_reducible (first | (refine hKv _ _ ?_; clear hKv Kv) | ((first | refine AWp_regC mu_46 ks_46 ?_ | refine AWp_regE mu_46 ks_46 ?_); intro Kv hKv) | refine AWp_retR ?_) | refine hn _ _ ?_); try simp (dsimp := false) only [go_sem, Nat.reduceAdd, Nat.reduceBEq, Nat.reduceEqDiff, Nat.reduceLT, Nat.reduceLeDiff, Nat.reduceMul, Int.reduceToNat, reduceCtorEq, ↓reduceIte, Tryd.ntmps46, Tryd.results46, ks_46, mu_46, ti_ag3, ti_ag9, ti_ag31, ti_ag33, ti_ag34, ti_ag82, ti_fl31_0, ti_fl36_0, ti_fl36_1, ti_fl36_2, ti_fl36_3, ti_fl36_4, ti_fl36_5, ti_fl36_6, ti_fl36_7, ti_hb39, ti_hb55, ti_hb61, ti_hb85, ti_hb86, ti_ky9, ti_mp82, ti_sb34, ti_sz31, ti_sz33, ti_zv3, Int.reduceEq, not_true_eq_false]) | (refine AWp_condC rfl ?_; intro KA KB hKA hKB; try simp only [onB_true, onB_false, onB_dec, onB_ndec, onB_not, onB_and, onB_or]) | (refine AWp_condA rfl ?_ ?_) | with_reducible (first | refine onB_of ?_ ?_ | rfl) | omega)
      all_goals first
        | omega
        | exact keepD hk (by simp)
    | true =>
      rw [hv] at hn hk
      refine ACalls_of Tryd.func46 rfl in_46 (Nat.le_of_ble_eq_true rfl) ?_
      intro F hF
      simp (dsimp := false) only [go_sem, Nat.reduceAdd, Nat.reduceBEq, Nat.reduceEqDiff, Nat.reduceLT, Nat.reduceLeDiff, Nat.reduceMul, Int.reduceToNat, reduceCtorEq, ↓reduceIte, Tryd.ntmps46, Tryd.results46, ks_46, mu_46, ti_ag3, ti_ag9, ti_ag31, ti_ag33, ti_ag34, ti_ag82, ti_fl31_0, ti_fl36_0, ti_fl36_1, ti_fl36_2, ti_fl36_3, ti_fl36_4, ti_fl36_5, ti_fl36_6, ti_fl36_7, ti_hb39, ti_hb55, ti_hb61, ti_hb85, ti_hb86, ti_ky9, ti_mp82, ti_sb34, ti_sz31, ti_sz33, ti_zv3, Int.reduceEq, not_true_eq_false, in_46] at hF
      subst hF
      repeat' (first | with_reducible (first | refine And.intro ?_ ?_ | intro _ | refine AWp_seq ?_ | refine AWp_block ?_ | (refine hKv _ _ (AWp_nop ?_); clear hKv Kv) | (refine hKA ?_; clear hKA hKB KA KB) | (refine hKB ?_; clear hKA hKB KA KB) | refine AWp_skipN ?_ | refine AWp_exitO (by repeat (first | exact Out.hit | apply Out.thenA | apply Out.out rfl)) ?_) | ((first | with_reducible (first | (refine hKv _ _ ?_; clear hKv Kv) | ((first | refine AWp_regC mu_46 ks_46 ?_ | refine AWp_regE mu_46 ks_46 ?_); intro Kv hKv) | refine AWp_retR ?_) | refine hn _ _ ?_); try simp (dsimp := false) only [go_sem, Nat.reduceAdd, Nat.reduceBEq, Nat.reduceEqDiff, Nat.reduceLT, Nat.reduceLeDiff, Nat.reduceMul, Int.reduceToNat, reduceCtorEq, ↓reduceIte, Tryd.ntmps46, Tryd.results46, ks_46, mu_46, ti_ag3, ti_ag9, ti_ag31, ti_ag33, ti_ag34, ti_ag82, ti_fl31_0, ti_fl36_0, ti_fl36_1, ti_fl36_2, ti_fl36_3, ti_fl36_4, ti_fl36_5, ti_fl36_6, ti_fl36_7, ti_hb39, ti_hb55, ti_hb61, ti_hb85, ti_hb86, ti_ky9, ti_mp82, ti_sb34, ti_sz31, ti_sz33, ti_zv3, Int.reduceEq, not_true_eq_false]) | (refine AWp_condC rfl ?_; intro KA KB hKA hKB; try simp only [onB_true, onB_false, onB_dec, onB_ndec, onB_not, onB_and, onB_or]) | (refine AWp_condA rfl ?_ ?_) | with_reducible (first | refine onB_of ?_ ?_ | rfl) | omega)
      all_goals first
        | omega
        | exact keepD hk (by simp)
  by_cases c4 : h.k = 5 ∨ h.k = 6
  · rw [exOwn, if_neg c1, if_neg c2, if_pos (.inr c4), bindQ_eq, decide_eq_false c3] at hk
    have hn := name_A h.nm (by omega)
    have ha := name_A h.at_ (by omega)
    have body : ∀ k : Int, h.k = k → (k = 5 ∨ k = 6) → ACalls Tryd.prog 46 [exV h l, .d (.sl 1 (sc.map strRow))] H K := fun k hkk hk56 => by
      rw [exV_k hkk]
      have k1 : (k = 1) = False := eq_false (by omega)
      have k2 : (k = 2) = False := eq_false (by omega)
      have k4 : (k = 4) = False := eq_false (by omega)
      have k56 : k = 5 ∨ k = 6 := hk56
      cases hv : varB h.nm with
      | false =>
        rw [hv] at hn hk
        rcases hk56 with rfl | rfl
        ·
          refine ACalls_of Tryd.func46 rfl in_46 (Nat.le_of_ble_eq_true rfl) ?_
          intro F hF
          simp (dsimp := false) only [go_sem, Nat.reduceAdd, Nat.reduceBEq, Nat.reduceEqDiff, Nat.reduceLT, Nat.reduceLeDiff, Nat.reduceMul, Int.reduceToNat, reduceCtorEq, ↓reduceIte, Tryd.ntmps46, Tryd.results46, ks_46, mu_46, ti_ag3, ti_ag9, ti_ag31, ti_ag33, ti_ag34, ti_ag82, ti_fl31_0, ti_fl36_0, ti_fl36_1, ti_fl36_2, ti_fl36_3, ti_fl36_4, ti_fl36_5, ti_fl36_6, ti_fl36_7, ti_hb39, ti_hb55, ti_hb61, ti_hb85, ti_hb86, ti_ky9, ti_mp82, ti_sb34, ti_sz31, ti_sz33, ti_zv3, Int.reduceEq, not_true_eq_false, not_false_eq_true, in_46] at hF
          subst hF
          repeat' (first | with_reducible (first | refine And.intro ?_ ?_ | intro _ | refine AWp_seq ?_ | refine AWp_block ?_ | (refine hKv _ _ (AWp_nop ?_); clear hKv Kv) | (refine hKA ?_; clear hKA hKB KA KB) | (refine hKB ?_; clear hKA hKB KA KB) | refine AWp_skipN ?_ | refine AWp_exitO (by repeat (first | exact Out.hit | apply Out.thenA | apply Out.out rfl)) ?_) | ((first | with_reducible (first | (refine hKv _ _ ?_; clear hKv Kv) | ((first | refine AWp_regC mu_46 ks_46 ?_ | refine AWp_regE mu_46 ks_46 ?_); intro Kv hKv) | refine AWp_retR ?_) | refine hn _ _ ?_); try simp (dsimp := false) only [go_sem, Nat.reduceAdd, Nat.reduceBEq, Nat.reduceEqDiff, Nat.reduceLT, Nat.reduceLeDiff, Nat.reduceMul, Int.reduceToNat, reduceCtorEq, ↓reduceIte, Tryd.ntmps46, Tryd.results46, ks_46, mu_46, ti_ag3, ti_ag9, ti_ag31, ti_ag33, ti_ag34, ti_ag82, ti_fl31_0, ti_fl36_0, ti_fl36_1, ti_fl36_2, ti_fl36_3, ti_fl36_4, ti_fl36_5, ti_fl36_6, ti_fl36_7, ti_hb39, ti_hb55, ti_hb61, ti_hb85, ti_hb86, ti_ky9, ti_mp82, ti_sb34, ti_sz31, ti_sz33, ti_zv3, Int.reduceEq, not_true_eq_false, not_false_eq_true]) | (refine AWp_condC rfl ?_; intro KA KB hKA hKB; try simp only [onB_true, onB_false, onB_dec, onB_ndec, onB_not, onB_and, onB_or]) | (refine AWp_condA rfl ?_ ?_) | with_reducible (first | refine onB_of ?_ ?_ | rfl) | omega)
          all_goals first
            | omega
            | exact keepD hk (by simp)
        ·
          refine ACalls_of Tryd.func46 rfl in_46 (Nat.le_of_ble_eq_true rfl) ?_
          intro F hF
          simp (dsimp := false) only [go_sem, Nat.reduceAdd, Nat.reduceBEq, Nat.reduceEqDiff, Nat.reduceLT, Nat.reduceLeDiff, Nat.reduceMul, Int.reduceToNat, reduceCtorEq, ↓reduceIte, Tryd.ntmps46, Tryd.results46, ks_46, mu_46, ti_ag3, ti_ag9, ti_ag31, ti_ag33, ti_ag34, ti_ag82, ti_fl31_0, ti_fl36_0, ti_fl36_1, ti_fl36_2, ti_fl36_3, ti_fl36_4, ti_fl36_5, ti_fl36_6, ti_fl36_7, ti_hb39, ti_hb55, ti_hb61, ti_hb85, ti_hb86, ti_ky9, ti_mp82, ti_sb34, ti_sz31, ti_sz33, ti_zv3, Int.reduceEq, not_true_eq_false, not_false_eq_true, in_46] at hF
          subst hF
          repeat' (first | with_reducible (first | refine And.intro ?_ ?_ | intro _ | refine AWp_seq ?_ | refine AWp_block ?_ | (refine hKv _ _ (AWp_nop ?_); clear hKv Kv) | (refine hKA ?_; clear hKA hKB KA KB) | (refine hKB ?_; clear hKA hKB KA KB) | refine AWp_skipN ?_ | refine AWp_exitO (by repeat (first | exact Out.hit | apply Out.thenA | apply Out.out rfl)) ?_) | ((first | with_reducible (first | (refine hKv _ _ ?_; clear hKv Kv) | ((first | refine AWp_regC mu_46 ks_46 ?_ | refine AWp_regE mu_46 ks_46 ?_); intro Kv hKv) | refine AWp_retR ?_) | refine hn _ _ ?_); try simp (dsimp := false) only [go_sem, Nat.reduceAdd, Nat.reduceBEq, Nat.reduceEqDiff, Nat.reduceLT, Nat.reduceLeDiff, Nat.reduceMul, Int.reduceToNat, reduceCtorEq, ↓reduceIte, Tryd.ntmps46, Tryd.results46, ks_46, mu_46, ti_ag3, ti_ag9, ti_ag31, ti_ag33, ti_ag34, ti_ag82, ti_fl31_0, ti_fl36_0, ti_fl36_1, ti_fl36_2, ti_fl36_3, ti_fl36_4, ti_fl36_5, ti_fl36_6, ti_fl36_7, ti_hb39, ti_hb55, ti_hb61, ti_hb85, ti_hb86, ti_ky9, ti_mp82, ti_sb34, ti_sz31, ti_sz33, ti_zv3, Int.reduceEq, not_true_eq_false, not_false_eq_true]) | (refine AWp_condC rfl ?_; intro KA KB hKA hKB; try simp only [onB_true, onB_false, onB_dec, onB_ndec, onB_not, onB_and, onB_or]) | (refine AWp_condA rfl ?_ ?_) | with_reducible (first | refine onB_of ?_ ?_ | rfl) | omega)
          all_goals first
            | omega
            | exact keepD hk (by simp)
      | true =>
        rw [hv] at hn hk
        have hne : h.nm ≠ [] := fun e => by rw [e] at hv; exact absurd hv (by decide)
        by_cases h0 : h.at_ = []
        · have i0 : (h.at_ = []) = True := eq_true h0
          have i1 : (h.at_ = h.nm) = False := eq_false (by rw [h0]; exact Ne.symm hne)
          rcases hk56 with rfl | rfl
          ·
            refine ACalls_of Tryd.func46 rfl in_46 (Nat.le_of_ble_eq_true rfl) ?_
            intro F hF
            simp (dsimp := false) only [go_sem, Nat.reduceAdd, Nat.reduceBEq, Nat.reduceEqDiff, Nat.reduceLT, Nat.reduceLeDiff, Nat.reduceMul, Int.reduceToNat, reduceCtorEq, ↓reduceIte, Tryd.ntmps46, Tryd.results46, ks_46, mu_46, ti_ag3, ti_ag9, ti_ag31, ti_ag33, ti_ag34, ti_ag82, ti_fl31_0, ti_fl36_0, ti_fl36_1, ti_fl36_2, ti_fl36_3, ti_fl36_4, ti_fl36_5, ti_fl36_6, ti_fl36_7, ti_hb39, ti_hb55, ti_hb61, ti_hb85, ti_hb86, ti_ky9, ti_mp82, ti_sb34, ti_sz31, ti_sz33, ti_zv3, i0, i1, Int.reduceEq, not_true_eq_false, not_false_eq_true, in_46] at hF
            subst hF
            repeat' (first | with_reducible (first | refine And.intro ?_ ?_ | intro _ | refine AWp_seq ?_ | refine AWp_block ?_ | (refine hKv _ _ (AWp_nop ?_); clear hKv Kv) | (refine hKA ?_; clear hKA hKB KA KB) | (refine hKB ?_; clear hKA hKB KA KB) | refine AWp_skipN ?_ | refine AWp_exitO (by repeat (first | exact Out.hit | apply Out.thenA | apply Out.out rfl)) ?_) | ((first | with_reducible (first | (refine hKv _ _ ?_; clear hKv Kv) | ((first | refine AWp_regC mu_46 ks_46 ?_ | refine AWp_regE mu_46 ks_46 ?_); intro Kv hKv) | refine AWp_retR ?_) | refine hn _ _ ?_ | refine ha _ _ ?_); try simp (dsimp := false) only [go_sem, Nat.reduceAdd, Nat.reduceBEq, Nat.reduceEqDiff, Nat.reduceLT, Nat.reduceLeDiff, Nat.reduceMul, Int.reduceToNat, reduceCtorEq, ↓reduceIte, Tryd.ntmps46, Tryd.results46, ks_46, mu_46, ti_ag3, ti_ag9, ti_ag31, ti_ag33, ti_ag34, ti_ag82, ti_fl31_0, ti_fl36_0, ti_fl36_1, ti_fl36_2, ti_fl36_3, ti_fl36_4, ti_fl36_5, ti_fl36_6, ti_fl36_7, ti_hb39, ti_hb55, ti_hb61, ti_hb85, ti_hb86, ti_ky9, ti_mp82, ti_sb34, ti_sz31, ti_sz33, ti_zv3, i0, i1, Int.reduceEq, not_true_eq_false, not_false_eq_true]) | (refine AWp_condC rfl ?_; intro KA KB hKA hKB; try simp only [onB_true, onB_false, onB_dec, onB_ndec, onB_not, onB_and, onB_or]) | (refine AWp_condA rfl ?_ ?_) | with_reducible (first | refine onB_of ?_ ?_ | rfl) | omega)
            all_goals first
              | omega
              | exact keepD hk (by simp [h0, Ne.symm hne])
          ·
            refine ACalls_of Tryd.func46 rfl in_46 (Nat.le_of_ble_eq_true rfl) ?_
            intro F hF
            simp (dsimp := false) only [go_sem, Nat.reduceAdd, Nat.reduceBEq, Nat.reduceEqDiff, Nat.reduceLT, Nat.reduceLeDiff, Nat.reduceMul, Int.reduceToNat, reduceCtorEq, ↓reduceIte, Tryd.ntmps46, Tryd.results46, ks_46, mu_46, ti_ag3, ti_ag9, ti_ag31, ti_ag33, ti_ag34, ti_ag82, ti_fl31_0, ti_fl36_0, ti_fl36_1, ti_fl36_2, ti_fl36_3, ti_fl36_4, ti_fl36_5, ti_fl36_6, ti_fl36_7, ti_hb39, ti_hb55, ti_hb61, ti_hb85, ti_hb86, ti_ky9, ti_mp82, ti_sb34, ti_sz31, ti_sz33, ti_zv3, i0, i1, Int.reduceEq, not_true_eq_false, not_false_eq_true, in_46] at hF
            subst hF
            repeat' (first | with_reducible (first | refine And.intro ?_ ?_ | intro _ | refine AWp_seq ?_ | refine AWp_block ?_ | (refine hKv _ _ (AWp_nop ?_); clear hKv Kv) | (refine hKA ?_; clear hKA hKB KA KB) | (refine hKB ?_; clear hKA hKB KA KB) | refine AWp_skipN ?_ | refine AWp_exitO (by repeat (first | exact Out.hit | apply Out.thenA | apply Out.out rfl)) ?_) | ((first | with_reducible (first | (refine hKv _ _ ?_; clear hKv Kv) | ((first | refine AWp_regC mu_46 ks_46 ?_ | refine AWp_regE mu_46 ks_46 ?_); intro Kv hKv) | refine AWp_retR ?_) | refine hn _ _ ?_ | refine ha _ _ ?_); try simp (dsimp := false) only [go_sem, Nat.reduceAdd, Nat.reduceBEq, Nat.reduceEqDiff, Nat.reduceLT, Nat.reduceLeDiff, Nat.reduceMul, Int.reduceToNat, reduceCtorEq, ↓reduceIte, Tryd.ntmps46, Tryd.results46, ks_46, mu_46, ti_ag3, ti_ag9, ti_ag31, ti_ag33, ti_ag34, ti_ag82, ti_fl31_0, ti_fl36_0, ti_fl36_1, ti_fl36_2, ti_fl36_3, ti_fl36_4, ti_fl36_5, ti_fl36_6, ti_fl36_7, ti_hb39, ti_hb55, ti_hb61, ti_hb85, ti_hb86, ti_ky9, ti_mp82, ti_sb34, ti_sz31, ti_sz33, ti_zv3, i0, i1, Int.reduceEq, not_true_eq_false, not_false_eq_true]) | (refine AWp_condC rfl ?_; intro KA KB hKA hKB; try simp only [onB_true, onB_false, onB_dec, onB_ndec, onB_not, onB_and, onB_or]) | (refine AWp_condA rfl ?_ ?_) | with_reducible (first | refine onB_of ?_ ?_ | rfl) | omega)
            all_goals first
              | omega
              | exact keepD hk (by simp [h0, Ne.symm hne])
        · have i0 : (h.at_ = []) = False := eq_false h0
          cases hw : varB h.at_ with
          | false =>
            rw [hw] at ha hk
            rcases hk56 with rfl | rfl
            ·
              refine ACalls_of Tryd.func46 rfl in_46 (Nat.le_of_ble_eq_true rfl) ?_
              intro F hF
              simp (dsimp := false) only [go_sem, Nat.reduceAdd, Nat.reduceBEq, Nat.reduceEqDiff, Nat.reduceLT, Nat.reduceLeDiff, Nat.reduceMul, Int.reduceToNat, reduceCtorEq, ↓reduceIte, Tryd.ntmps46, Tryd.results46, ks_46, mu_46, ti_ag3, ti_ag9, ti_ag31, ti_ag33, ti_ag34, ti_ag82, ti_fl31_0, ti_fl36_0, ti_fl36_1, ti_fl36_2, ti_fl36_3, ti_fl36_4, ti_fl36_5, ti_fl36_6, ti_fl36_7, ti_hb39, ti_hb55, ti_hb61, ti_hb85, ti_hb86, ti_ky9, ti_mp82, ti_sb34, ti_sz31, ti_sz33, ti_zv3, i0, Int.reduceEq, not_true_eq_false, not_false_eq_true, in_46] at hF
              subst hF
              repeat' (first | with_reducible (first | refine And.intro ?_ ?_ | intro _ | refine AWp_seq ?_ | refine AWp_block ?_ | (refine hKv _ _ (AWp_nop ?_); clear hKv Kv) | (refine hKA ?_; clear hKA hKB KA KB) | (refine hKB ?_; clear hKA hKB KA KB) | refine AWp_skipN ?_ | refine AWp_exitO (by repeat (first | exact Out.hit | apply Out.thenA | apply Out.out rfl)) ?_) | ((first | with_reducible (first | (refine hKv _ _ ?_; clear hKv Kv) | ((first | refine AWp_regC mu_46 ks_46 ?_ | refine AWp_regE mu_46 ks_46 ?_); intro Kv hKv) | refine AWp_retR ?_) | refine hn _ _ ?_ | refine ha _ _ ?_); try simp (dsimp := false) only [go_sem, Nat.reduceAdd, Nat.reduceBEq, Nat.reduceEqDiff, Nat.reduceLT, Nat.reduceLeDiff, Nat.reduceMul, Int.reduceToNat, reduceCtorEq, ↓reduceIte, Tryd.ntmps46, Tryd.results46, ks_46, mu_46, ti_ag3, ti_ag9, ti_ag31, ti_ag33, ti_ag34, ti_ag82, ti_fl31_0, ti_fl36_0, ti_fl36_1, ti_fl36_2, ti_fl36_3, ti_fl36_4, ti_fl36_5, ti_fl36_6, ti_fl36_7, ti_hb39, ti_hb55, ti_hb61, ti_hb85, ti_hb86, ti_ky9, ti_mp82, ti_sb34, ti_sz31, ti_sz33, ti_zv3, i0, Int.reduceEq, not_true_eq_false, not_false_eq_true]) | (refine AWp_condC rfl ?_; intro KA KB hKA hKB; try simp only [onB_true, onB_false, onB_dec, onB_ndec, onB_not, onB_and, onB_or]) | (refine AWp_condA rfl ?_ ?_) | with_reducible (first | refine onB_of ?_ ?_ | rfl) | omega)
              all_goals first
                | omega
                | exact keepD hk (by simp [h0])
            ·
              refine ACalls_of Tryd.func46 rfl in_46 (Nat.le_of_ble_eq_true rfl) ?_
              intro F hF
              simp (dsimp := false) only [go_sem, Nat.reduceAdd, Nat.reduceBEq, Nat.reduceEqDiff, Nat.reduceLT, Nat.reduceLeDiff, Nat.reduceMul, Int.reduceToNat, reduceCtorEq, ↓reduceIte, Tryd.ntmps46, Tryd.results46, ks_46, mu_46, ti_ag3, ti_ag9, ti_ag31, ti_ag33, ti_ag34, ti_ag82, ti_fl31_0, ti_fl36_0, ti_fl36_1, ti_fl36_2, ti_fl36_3, ti_fl36_4, ti_fl36_5, ti_fl36_6, ti_fl36_7, ti_hb39, ti_hb55, ti_hb61, ti_hb85, ti_hb86, ti_ky9, ti_mp82, ti_sb34, ti_sz31, ti_sz33, ti_zv3, i0, Int.reduceEq, not_true_eq_false, not_false_eq_true, in_46] at hF
              subst hF
              repeat' (first | with_reducible (first | refine And.intro ?_ ?_ | intro _ | refine AWp_seq ?_ | refine AWp_block ?_ | (refine hKv _ _ (AWp_nop ?_); clear hKv Kv) | (refine hKA ?_; clear hKA hKB KA KB) | (refine hKB ?_; clear hKA hKB KA KB) | refine AWp_skipN ?_ | refine AWp_exitO (by repeat (first | exact Out.hit | apply Out.thenA | apply Out.out rfl)) ?_) | ((first | with_reducible (first | (refine hKv _ _ ?_; clear hKv Kv) | ((first | refine AWp_regC mu_46 ks_46 ?_ | refine AWp_regE mu_46 ks_46 ?_); intro Kv hKv) | refine AWp_retR ?_) | refine hn _ _ ?_ | refine ha _ _ ?_); try simp (dsimp := false) only [go_sem, Nat.reduceAdd, Nat.reduceBEq, Nat.reduceEqDiff, Nat.reduceLT, Nat.reduceLeDiff, Nat.reduceMul, Int.reduceToNat, reduceCtorEq, ↓reduceIte, Tryd.ntmps46, Tryd.results46, ks_46, mu_46, ti_ag3, ti_ag9, ti_ag31, ti_ag33, ti_ag34, ti_ag82, ti_fl31_0, ti_fl36_0, ti_fl36_1, ti_fl36_2, ti_fl36_3, ti_fl36_4, ti_fl36_5, ti_fl36_6, ti_fl36_7, ti_hb39, ti_hb55, ti_hb61, ti_hb85, ti_hb86, ti_ky9, ti_mp82, ti_sb34, ti_sz31, ti_sz33, ti_zv3, i0, Int.reduceEq, not_true_eq_false, not_false_eq_true]) | (refine AWp_condC rfl ?_; intro KA KB hKA hKB; try simp only [onB_true, onB_false, onB_dec, onB_ndec, onB_not, onB_and, onB_or]) | (refine AWp_condA rfl ?_ ?_) | with_reducible (first | refine onB_of ?_ ?_ | rfl) | omega)
              all_goals first
                | omega
                | exact keepD hk (by simp [h0])
          | true =>
            rw [hw] at ha hk
            by_cases h2 : h.at_ = h.nm
            · have i1 : (h.at_ = h.nm) = True := eq_true h2
              rcases hk56 with rfl | rfl
              ·
                refine ACalls_of Tryd.func46 rfl in_46 (Nat.le_of_ble_eq_true rfl) ?_
                intro F hF
                simp (dsimp := false) only [go_sem, Nat.reduceAdd, Nat.reduceBEq, Nat.reduceEqDiff, Nat.reduceLT, Nat.reduceLeDiff, Nat.reduceMul, Int.reduceToNat, reduceCtorEq, ↓reduceIte, Tryd.ntmps46, Tryd.results46, ks_46, mu_46, ti_ag3, ti_ag9, ti_ag31, ti_ag33, ti_ag34, ti_ag82, ti_fl31_0, ti_fl36_0, ti_fl36_1, ti_fl36_2, ti_fl36_3, ti_fl36_4, ti_fl36_5, ti_fl36_6, ti_fl36_7, ti_hb39, ti_hb55, ti_hb61, ti_hb85, ti_hb86, ti_ky9, ti_mp82, ti_sb34, ti_sz31, ti_sz33, ti_zv3, i0, i1, Int.reduceEq, not_true_eq_false, not_false_eq_true, in_46] at hF
                subst hF
                repeat' (first | with_reducible (first | refine And.intro ?_ ?_ | intro _ | refine AWp_seq ?_ | refine AWp_block ?_ | (refine hKv _ _ (AWp_nop ?_); clear hKv Kv) | (refine hKA ?_; clear hKA hKB KA KB) | (refine hKB ?_; clear hKA hKB KA KB) | refine AWp_skipN ?_ | refine AWp_exitO (by repeat (first | exact Out.hit | apply Out.thenA | apply Out.out rfl)) ?_) | ((first | with_reducible (first | (refine hKv _ _ ?_; clear hKv Kv) | ((first | refine AWp_regC mu_46 ks_46 ?_ | refine AWp_regE mu_46 ks_46 ?_); intro Kv hKv) | refine AWp_retR ?_) | refine hn _ _ ?_ | refine ha _ _ ?_); try simp (dsimp := false) only [go_sem, Nat.reduceAdd, Nat.reduceBEq, Nat.reduceEqDiff, Nat.reduceLT, Nat.reduceLeDiff, Nat.reduceMul, Int.reduceToNat, reduceCtorEq, ↓reduceIte, Tryd.ntmps46, Tryd.results46, ks_46, mu_46, ti_ag3, ti_ag9, ti_ag31, ti_ag33, ti_ag34, ti_ag82, ti_fl31_0, ti_fl36_0, ti_fl36_1, ti_fl36_2, ti_fl36_3, ti_fl36_4, ti_fl36_5, ti_fl36_6, ti_fl36_7, ti_hb39, ti_hb55, ti_hb61, ti_hb85, ti_hb86, ti_ky9, ti_mp82, ti_sb34, ti_sz31, ti_sz33, ti_zv3, i0, i1, Int.reduceEq, not_true_eq_false, not_false_eq_true]) | (refine AWp_condC rfl ?_; intro KA KB hKA hKB; try simp only [onB_true, onB_false, onB_dec, onB_ndec, onB_not, onB_and, onB_or]) | (refine AWp_condA rfl ?_ ?_) | with_reducible (first | refine onB_of ?_ ?_ | rfl) | omega)
                all_goals first
                  | omega
                  | exact keepD hk (by simp [h2])
              ·
                refine ACalls_of Tryd.func46 rfl in_46 (Nat.le_of_ble_eq_true rfl) ?_
                intro F hF
                simp (dsimp := false) only [go_sem, Nat.reduceAdd, Nat.reduceBEq, Nat.reduceEqDiff, Nat.reduceLT, Nat.reduceLeDiff, Nat.reduceMul, Int.reduceToNat, reduceCtorEq, ↓reduceIte, Tryd.ntmps46, Tryd.results46, ks_46, mu_46, ti_ag3, ti_ag9, ti_ag31, ti_ag33, ti_ag34, ti_ag82, ti_fl31_0, ti_fl36_0, ti_fl36_1, ti_fl36_2, ti_fl36_3, ti_fl36_4, ti_fl36_5, ti_fl36_6, ti_fl36_7, ti_hb39, ti_hb55, ti_hb61, ti_hb85, ti_hb86, ti_ky9, ti_mp82, ti_sb34, ti_sz31, ti_sz33, ti_zv3, i0, i1, Int.reduceEq, not_true_eq_false, not_false_eq_true, in_46] at hF
                subst hF
                repeat' (first | with_reducible (first | refine And.intro ?_ ?_ | intro _ | refine AWp_seq ?_ | refine AWp_block ?_ | (refine hKv _ _ (AWp_nop ?_); clear hKv Kv) | (refine hKA ?_; clear hKA hKB KA KB) | (refine hKB ?_; clear hKA hKB KA KB) | refine AWp_skipN ?_ | refine AWp_exitO (by repeat (first | exact Out.hit | apply Out.thenA | apply Out.out rfl)) ?_) | ((first | with_reducible (first | (refine hKv _ _ ?_; clear hKv Kv) | ((first | refine AWp_regC mu_46 ks_46 ?_ | refine AWp_regE mu_46 ks_46 ?_); intro Kv hKv) | refine AWp_retR ?_) | refine hn _ _ ?_ | refine ha _ _ ?_); try simp (dsimp := false) only [go_sem, Nat.reduceAdd, Nat.reduceBEq, Nat.reduceEqDiff, Nat.reduceLT, Nat.reduceLeDiff, Nat.reduceMul, Int.reduceToNat, reduceCtorEq, ↓reduceIte, Tryd.ntmps46, Tryd.results46, ks_46, mu_46, ti_ag3, ti_ag9, ti_ag31, ti_ag33, ti_ag34, ti_ag82, ti_fl31_0, ti_fl36_0, ti_fl36_1, ti_fl36_2, ti_fl36_3, ti_fl36_4, ti_fl36_5, ti_fl36_6, ti_fl36_7, ti_hb39, ti_hb55, ti_hb61, ti_hb85, ti_hb86, ti_ky9, ti_mp82, ti_sb34, ti_sz31, ti_sz33, ti_zv3, i0, i1, Int.reduceEq, not_true_eq_false, not_false_eq_true]) | (refine AWp_condC rfl ?_; intro KA KB hKA hKB; try simp only [onB_true, onB_false, onB_dec, onB_ndec, onB_not, onB_and, onB_or]) | (refine AWp_condA rfl ?_ ?_) | with_reducible (first | refine onB_of ?_ ?_ | rfl) | omega)
                all_goals first
                  | omega
                  | exact keepD hk (by simp [h2])
            · have i1 : (h.at_ = h.nm) = False := eq_false h2
              rcases hk56 with rfl | rfl
              ·
                refine ACalls_of Tryd.func46 rfl in_46 (Nat.le_of_ble_eq_true rfl) ?_
                intro F hF
                simp (dsimp := false) only [go_sem, Nat.reduceAdd, Nat.reduceBEq, Nat.reduceEqDiff, Nat.reduceLT, Nat.reduceLeDiff, Nat.reduceMul, Int.reduceToNat, reduceCtorEq, ↓reduceIte, Tryd.ntmps46, Tryd.results46, ks_46, mu_46, ti_ag3, ti_ag9, ti_ag31, ti_ag33, ti_ag34, ti_ag82, ti_fl31_0, ti_fl36_0, ti_fl36_1, ti_fl36_2, ti_fl36_3, ti_fl36_4, ti_fl36_5, ti_fl36_6, ti_fl36_7, ti_hb39, ti_hb55, ti_hb61, ti_hb85, ti_hb86, ti_ky9, ti_mp82, ti_sb34, ti_sz31, ti_sz33, ti_zv3, i0, i1, Int.reduceEq, not_true_eq_false, not_false_eq_true, in_46] at hF
                subst hF
                repeat' (first | with_reducible (first | refine And.intro ?_ ?_ | intro _ | refine AWp_seq ?_ | refine AWp_block ?_ | (refine hKv _ _ (AWp_nop ?_); clear hKv Kv) | (refine hKA ?_; clear hKA hKB KA KB) | (refine hKB ?_; clear hKA hKB KA KB) | refine AWp_skipN ?_ | refine AWp_exitO (by repeat (first | exact Out.hit | apply Out.thenA | apply Out.out rfl)) ?_) | ((first | with_reducible (first | (refine hKv _ _ ?_; clear hKv Kv) | ((first | refine AWp_regC mu_46 ks_46 ?_ | refine AWp_regE mu_46 ks_46 ?_); intro Kv hKv) | refine AWp_retR ?_) | refine hn _ _ ?_ | refine ha _ _ ?_); try simp (dsimp := false) only [go_sem, Nat.reduceAdd, Nat.reduceBEq, Nat.reduceEqDiff, Nat.reduceLT, Nat.reduceLeDiff, Nat.reduceMul, Int.reduceToNat, reduceCtorEq, ↓reduceIte, Tryd.ntmps46, Tryd.results46, ks_46, mu_46, ti_ag3, ti_ag9, ti_ag31, ti_ag33, ti_ag34, ti_ag82, ti_fl31_0, ti_fl36_0, ti_fl36_1, ti_fl36_2, ti_fl36_3, ti_fl36_4, ti_fl36_5, ti_fl36_6, ti_fl36_7, ti_hb39, ti_hb55, ti_hb61, ti_hb85, ti_hb86, ti_ky9, ti_mp82, ti_sb34, ti_sz31, ti_sz33, ti_zv3, i0, i1, Int.reduceEq, not_true_eq_false, not_false_eq_true]) | (refine AWp_condC rfl ?_; intro KA KB hKA hKB; try simp only [onB_true, onB_false, onB_dec, onB_ndec, onB_not, onB_and, onB_or]) | (refine AWp_condA rfl ?_ ?_) | with_reducible (first | refine onB_of ?_ ?_ | rfl) | omega)
                all_goals first
                  | omega
                  | exact keepD hk (by simp [h0, h2])
              ·
                refine ACalls_of Tryd.func46 rfl in_46 (Nat.le_of_ble_eq_true rfl) ?_
                intro F hF
                simp (dsimp := false) only [go_sem, Nat.reduceAdd, Nat.reduceBEq, Nat.reduceEqDiff, Nat.reduceLT, Nat.reduceLeDiff, Nat.reduceMul, Int.reduceToNat, reduceCtorEq, ↓reduceIte, Tryd.ntmps46, Tryd.results46, ks_46, mu_46, ti_ag3, ti_ag9, ti_ag31, ti_ag33, ti_ag34, ti_ag82, ti_fl31_0, ti_fl36_0, ti_fl36_1, ti_fl36_2, ti_fl36_3, ti_fl36_4, ti_fl36_5, ti_fl36_6, ti_fl36_7, ti_hb39, ti_hb55, ti_hb61, ti_hb85, ti_hb86, ti_ky9, ti_mp82, ti_sb34, ti_sz31, ti_sz33, ti_zv3, i0, i1, Int.reduceEq, not_true_eq_false, not_false_eq_true, in_46] at hF
                subst hF
                repeat' (first | with_reducible (first | refine And.intro ?_ ?_ | intro _ | refine AWp_seq ?_ | refine AWp_block ?_ | (refine hKv _ _ (AWp_nop ?_); clear hKv Kv) | (refine hKA ?_; clear hKA hKB KA KB) | (refine hKB ?_; clear hKA hKB KA KB) | refine AWp_skipN ?_ | refine AWp_exitO (by repeat (first | exact Out.hit | apply Out.thenA | apply Out.out rfl)) ?_) | ((first | with_reducible (first | (refine hKv _ _ ?_; clear hKv Kv) | ((first | refine AWp_regC mu_46 ks_46 ?_ | refine AWp_regE mu_46 ks_46 ?_); intro Kv hKv) | refine AWp_retR ?_) | refine hn _ _ ?_ | refine ha _ _ ?_); try simp (dsimp := false) only [go_sem, Nat.reduceAdd, Nat.reduceBEq, Nat.reduceEqDiff, Nat.reduceLT, Nat.reduceLeDiff, Nat.reduceMul, Int.reduceToNat, reduceCtorEq, ↓reduceIte, Tryd.ntmps46, Tryd.results46, ks_46, mu_46, ti_ag3, ti_ag9, ti_ag31, ti_ag33, ti_ag34, ti_ag82, ti_fl31_0, ti_fl36_0, ti_fl36_1, ti_fl36_2, ti_fl36_3, ti_fl36_4, ti_fl36_5, ti_fl36_6, ti_fl36_7, ti_hb39, ti_hb55, ti_hb61, ti_hb85, ti_hb86, ti_ky9, ti_mp82, ti_sb34, ti_sz31, ti_sz33, ti_zv3, i0, i1, Int.reduceEq, not_true_eq_false, not_false_eq_true]) | (refine AWp_condC rfl ?_; intro KA KB hKA hKB; try simp only [onB_true, onB_false, onB_dec, onB_ndec, onB_not, onB_and, onB_or]) | (refine AWp_condA rfl ?_ ?_) | with_reducible (first | refine onB_of ?_ ?_ | rfl) | omega)
                all_goals first
                  | omega
                  | exact keepD hk (by simp [h0, h2])
    exact body h.k rfl c4
  have c456 : ¬(h.k = 4 ∨ h.k = 5 ∨ h.k = 6) := by omega
  rw [exOwn, if_neg c1, if_neg c2, if_neg c456] at hk
  by_cases c8 : h.k = 8
  · rw [exV_k c8]
    rw [if_pos c8] at hk
    have hgl : glob 3 = some [.m [.s] (mapKs CAr.L) (mapVs CAr.L)] := CAr.at_
    obtain ⟨g1, g2⟩ := mapGetE CAr.perm coreArE_nodup h.nm (.i .i64 0)
    cases hlk : lookE coreArE h.nm with
    | none =>
      rw [hlk] at g1 g2 hk
      have g1 : mget (mapKs CAr.L) (mapVs CAr.L) [.s h.nm] (.i .i64 0) = .i .i64 0 := g1
      have g2 : mhas (mapKs CAr.L) [.s h.nm] = false := g2
      refine ACalls_of Tryd.func46 rfl in_46 (Nat.le_of_ble_eq_true rfl) ?_
      intro F hF
      simp (dsimp := false) only [go_sem, Nat.reduceAdd, Nat.reduceBEq, Nat.reduceEqDiff, Nat.reduceLT, Nat.reduceLeDiff, Nat.reduceMul, Int.reduceToNat, reduceCtorEq, ↓reduceIte, Tryd.ntmps46, Tryd.results46, ks_46, mu_46, ti_ag3, ti_ag9, ti_ag31, ti_ag33, ti_ag34, ti_ag82, ti_fl31_0, ti_fl36_0, ti_fl36_1, ti_fl36_2, ti_fl36_3, ti_fl36_4, ti_fl36_5, ti_fl36_6, ti_fl36_7, ti_hb39, ti_hb55, ti_hb61, ti_hb85, ti_hb86, ti_ky9, ti_mp82, ti_sb34, ti_sz31, ti_sz33, ti_zv3, hgl, g1, g2, lkV, Int.reduceEq, in_46] at hF
      subst hF
      repeat' (first | with_reducible (first | refine And.intro ?_ ?_ | intro _ | refine AWp_seq ?_ | refine AWp_block ?_ | (refine hKv _ _ (AWp_nop ?_); clear hKv Kv) | (refine hKA ?_; clear hKA hKB KA KB) | (refine hKB ?_; clear hKA hKB KA KB) | refine AWp_skipN ?_ | refine AWp_exitO (by repeat (first | exact Out.hit | apply Out.thenA | apply Out.out rfl)) ?_) | (with_reducible (first | (refine hKv _ _ ?_; clear hKv Kv) | ((first | refine AWp_regC mu_46 ks_46 ?_ | refine AWp_regE mu_46 ks_46 ?_); intro Kv hKv) | refine AWp_retR ?_); try simp (dsimp := false) only [go_sem, Nat.reduceAdd, Nat.reduceBEq, Nat.reduceEqDiff, Nat.reduceLT, Nat.reduceLeDiff, Nat.reduceMul, Int.reduceToNat, reduceCtorEq, ↓reduceIte, Tryd.ntmps46, Tryd.results46, ks_46, mu_46, ti_ag3, ti_ag9, ti_ag31, ti_ag33, ti_ag34, ti_ag82, ti_fl31_0, ti_fl36_0, ti_fl36_1, ti_fl36_2, ti_fl36_3, ti_fl36_4, ti_fl36_5, ti_fl36_6, ti_fl36_7, ti_hb39, ti_hb55, ti_hb61, ti_hb85, ti_hb86, ti_ky9, ti_mp82, ti_sb34, ti_sz31, ti_sz33, ti_zv3, hgl, g1, g2, lkV, Int.reduceEq]) | (refine AWp_condC rfl ?_; intro KA KB hKA hKB; try simp only [onB_true, onB_false, onB_dec, onB_ndec, onB_not, onB_and, onB_or]) | (refine AWp_condA rfl ?_ ?_) | with_reducible (first | refine onB_of ?_ ?_ | rfl) | omega)
      all_goals first
        | omega
        | exact keepD hk rfl
    | some m =>
      rw [hlk] at g1 g2 hk
      have g1 : mget (mapKs CAr.L) (mapVs CAr.L) [.s h.nm] (.i .i64 0) = .i .i64 m := g1
      have g2 : mhas (mapKs CAr.L) [.s h.nm] = true := g2
      by_cases hm : m = (l.length : Int)
      · have i1 : (m = (l.length : Int)) = True := eq_true hm
        replace hk : K (.d (.i .i64 (if m = l.length then 0 else 11))) H := hk
        rw [if_pos hm] at hk
        refine ACalls_of Tryd.func46 rfl in_46 (Nat.le_of_ble_eq_true rfl) ?_
        intro F hF
        simp (dsimp := false) only [go_sem, Nat.reduceAdd, Nat.reduceBEq, Nat.reduceEqDiff, Nat.reduceLT, Nat.reduceLeDiff, Nat.reduceMul, Int.reduceToNat, reduceCtorEq, ↓reduceIte, Tryd.ntmps46, Tryd.results46, ks_46, mu_46, ti_ag3, ti_ag9, ti_ag31, ti_ag33, ti_ag34, ti_ag82, ti_fl31_0, ti_fl36_0, ti_fl36_1, ti_fl36_2, ti_fl36_3, ti_fl36_4, ti_fl36_5, ti_fl36_6, ti_fl36_7, ti_hb39, ti_hb55, ti_hb61, ti_hb85, ti_hb86, ti_ky9, ti_mp82, ti_sb34, ti_sz31, ti_sz33, ti_zv3, hgl, g1, g2, lkV, i1, Int.reduceEq, in_46] at hF
        subst hF
        repeat' (first | with_reducible (first | refine And.intro ?_ ?_ | intro _ | refine AWp_seq ?_ | refine AWp_block ?_ | (refine hKv _ _ (AWp_nop ?_); clear hKv Kv) | (refine hKA ?_; clear hKA hKB KA KB) | (refine hKB ?_; clear hKA hKB KA KB) | refine AWp_skipN ?_ | refine AWp_exitO (by repeat (first | exact Out.hit | apply Out.thenA | apply Out.out rfl)) ?_) | (with_reducible (first | (refine hKv _ _ ?_; clear hKv Kv) | ((first | refine AWp_regC mu_46 ks_46 ?_ | refine AWp_regE mu_46 ks_46 ?_); intro Kv hKv) | refine AWp_retR ?_); try simp (dsimp := false) only [go_sem, Nat.reduceAdd, Nat.reduceBEq, Nat.reduceEqDiff, Nat.reduceLT, Nat.reduceLeDiff, Nat.reduceMul, Int.reduceToNat, reduceCtorEq, ↓reduceIte, Tryd.ntmps46, Tryd.results46, ks_46, mu_46, ti_ag3, ti_ag9, ti_ag31, ti_ag33, ti_ag34, ti_ag82, ti_fl31_0, ti_fl36_0, ti_fl36_1, ti_fl36_2, ti_fl36_3, ti_fl36_4, ti_fl36_5, ti_fl36_6, ti_fl36_7, ti_hb39, ti_hb55, ti_hb61, ti_hb85, ti_hb86, ti_ky9, ti_mp82, ti_sb34, ti_sz31, ti_sz33, ti_zv3, hgl, g1, g2, lkV, i1, Int.reduceEq]) | (refine AWp_condC rfl ?_; intro KA KB hKA hKB; try simp only [onB_true, onB_false, onB_dec, onB_ndec, onB_not, onB_and, onB_or]) | (refine AWp_condA rfl ?_ ?_) | with_reducible (first | refine onB_of ?_ ?_ | rfl) | omega)
        all_goals first
          | omega
          | exact keepD hk rfl
      · have i1 : (m = (l.length : Int)) = False := eq_false hm
        replace hk : K (.d (.i .i64 (if m = l.length then 0 else 11))) H := hk
        rw [if_neg hm] at hk
        refine ACalls_of Tryd.func46 rfl in_46 (Nat.le_of_ble_eq_true rfl) ?_
        intro F hF
        simp (dsimp := false) only [go_sem, Nat.reduceAdd, Nat.reduceBEq, Nat.reduceEqDiff, Nat.reduceLT, Nat.reduceLeDiff, Nat.reduceMul, Int.reduceToNat, reduceCtorEq, ↓reduceIte, Tryd.ntmps46, Tryd.results46, ks_46, mu_46, ti_ag3, ti_ag9, ti_ag31, ti_ag33, ti_ag34, ti_ag82, ti_fl31_0, ti_fl36_0, ti_fl36_1, ti_fl36_2, ti_fl36_3, ti_fl36_4, ti_fl36_5, ti_fl36_6, ti_fl36_7, ti_hb39, ti_hb55, ti_hb61, ti_hb85, ti_hb86, ti_ky9, ti_mp82, ti_sb34, ti_sz31, ti_sz33, ti_zv3, hgl, g1, g2, lkV, i1, Int.reduceEq, in_46] at hF
        subst hF
        repeat' (first | with_reducible (first | refine And.intro ?_ ?_ | intro _ | refine AWp_seq ?_ | refine AWp_block ?_ | (refine hKv _ _ (AWp_nop ?_); clear hKv Kv) | (refine hKA ?_; clear hKA hKB KA KB) | (refine hKB ?_; clear hKA hKB KA KB) | refine AWp_skipN ?_ | refine AWp_exitO (by repeat (first | exact Out.hit | apply Out.thenA | apply Out.out rfl)) ?_) | (with_reducible (first | (refine hKv _ _ ?_; clear hKv Kv) | ((first | refine AWp_regC mu_46 ks_46 ?_ | refine AWp_regE mu_46 ks_46 ?_); intro Kv hKv) | refine AWp_retR ?_); try simp (dsimp := false) only [go_sem, Nat.reduceAdd, Nat.reduceBEq, Nat.reduceEqDiff, Nat.reduceLT, Nat.reduceLeDiff, Nat.reduceMul, Int.reduceToNat, reduceCtorEq, ↓reduceIte, Tryd.ntmps46, Tryd.results46, ks_46, mu_46, ti_ag3, ti_ag9, ti_ag31, ti_ag33, ti_ag34, ti_ag82, ti_fl31_0, ti_fl36_0, ti_fl36_1, ti_fl36_2, ti_fl36_3, ti_fl36_4, ti_fl36_5, ti_fl36_6, ti_fl36_7, ti_hb39, ti_hb55, ti_hb61, ti_hb85, ti_hb86, ti_ky9, ti_mp82, ti_sb34, ti_sz31, ti_sz33, ti_zv3, hgl, g1, g2, lkV, i1, Int.reduceEq]) | (refine AWp_condC rfl ?_; intro KA KB hKA hKB; try simp only [onB_true, onB_false, onB_dec, onB_ndec, onB_not, onB_and, onB_or]) | (refine AWp_condA rfl ?_ ?_) | with_reducible (first | refine onB_of ?_ ?_ | rfl) | omega)
        all_goals first
          | omega
          | exact keepD hk rfl
  rw [if_neg c8] at hk
  by_cases c9 : h.k = 9
  · rw [exV_k c9]
    rw [if_pos c9] at hk
    have hs := step_A h.ax h.tk h.tn
    refine ACalls_of Tryd.func46 rfl in_46 (Nat.le_of_ble_eq_true rfl) ?_
    intro F hF
    simp (dsimp := false) only [go_sem, Nat.reduceAdd, Nat.reduceBEq, Nat.reduceEqDiff, Nat.reduceLT, Nat.reduceLeDiff, Nat.reduceMul, Int.reduceToNat, reduceCtorEq, ↓reduceIte, Tryd.ntmps46, Tryd.results46, ks_46, mu_46, ti_ag3, ti_ag9, ti_ag31, ti_ag33, ti_ag34, ti_ag82, ti_fl31_0, ti_fl36_0, ti_fl36_1, ti_fl36_2, ti_fl36_3, ti_fl36_4, ti_fl36_5, ti_fl36_6, ti_fl36_7, ti_hb39, ti_hb55, ti_hb61, ti_hb85, ti_hb86, ti_ky9, ti_mp82, ti_sb34, ti_sz31, ti_sz33, ti_zv3, tsV, Int.reduceEq, in_46] at hF
    subst hF
    repeat' (first | with_reducible (first | refine And.intro ?_ ?_ | intro _ | refine AWp_seq ?_ | refine AWp_block ?_ | (refine hKv _ _ (AWp_nop ?_); clear hKv Kv) | (refine hKA ?_; clear hKA hKB KA KB) | (refine hKB ?_; clear hKA hKB KA KB) | refine AWp_skipN ?_ | refine AWp_exitO (by repeat (first | exact Out.hit | apply Out.thenA | apply Out.out rfl)) ?_) | ((first | with_reducible (first | (refine hKv _ _ ?_; clear hKv Kv) | ((first | refine AWp_regC mu_46 ks_46 ?_ | refine AWp_regE mu_46 ks_46 ?_); intro Kv hKv) | refine AWp_retR ?_) | refine hs _ _ ?_); try simp (dsimp := false) only [go_sem, Nat.reduceAdd, Nat.reduceBEq, Nat.reduceEqDiff, Nat.reduceLT, Nat.reduceLeDiff, Nat.reduceMul, Int.reduceToNat, reduceCtorEq, ↓reduceIte, Tryd.ntmps46, Tryd.results46, ks_46, mu_46, ti_ag3, ti_ag9, ti_ag31, ti_ag33, ti_ag34, ti_ag82, ti_fl31_0, ti_fl36_0, ti_fl36_1, ti_fl36_2, ti_fl36_3, ti_fl36_4, ti_fl36_5, ti_fl36_6, ti_fl36_7, ti_hb39, ti_hb55, ti_hb61, ti_hb85, ti_hb86, ti_ky9, ti_mp82, ti_sb34, ti_sz31, ti_sz33, ti_zv3, tsV, Int.reduceEq]) | (refine AWp_condC rfl ?_; intro KA KB hKA hKB; try simp only [onB_true, onB_false, onB_dec, onB_ndec, onB_not, onB_and, onB_or]) | (refine AWp_condA rfl ?_ ?_) | with_reducible (first | refine onB_of ?_ ?_ | rfl) | omega)
    all_goals first
      | omega
      | exact keepD hk rfl
  rw [if_neg c9] at hk
  by_cases c10 : h.k = 10
  · rw [exV_k c10]
    rw [if_pos c10] at hk
    have hs := made_A h.n h.nm (by omega)
    refine ACalls_of Tryd.func46 rfl in_46 (Nat.le_of_ble_eq_true rfl) ?_
    intro F hF
    simp (dsimp := false) only [go_sem, Nat.reduceAdd, Nat.reduceBEq, Nat.reduceEqDiff, Nat.reduceLT, Nat.reduceLeDiff, Nat.reduceMul, Int.reduceToNat, reduceCtorEq, ↓reduceIte, Tryd.ntmps46, Tryd.results46, ks_46, mu_46, ti_ag3, ti_ag9, ti_ag31, ti_ag33, ti_ag34, ti_ag82, ti_fl31_0, ti_fl36_0, ti_fl36_1, ti_fl36_2, ti_fl36_3, ti_fl36_4, ti_fl36_5, ti_fl36_6, ti_fl36_7, ti_hb39, ti_hb55, ti_hb61, ti_hb85, ti_hb86, ti_ky9, ti_mp82, ti_sb34, ti_sz31, ti_sz33, ti_zv3, Int.reduceEq, in_46] at hF
    subst hF
    repeat' (first | with_reducible (first | refine And.intro ?_ ?_ | intro _ | refine AWp_seq ?_ | refine AWp_block ?_ | (refine hKv _ _ (AWp_nop ?_); clear hKv Kv) | (refine hKA ?_; clear hKA hKB KA KB) | (refine hKB ?_; clear hKA hKB KA KB) | refine AWp_skipN ?_ | refine AWp_exitO (by repeat (first | exact Out.hit | apply Out.thenA | apply Out.out rfl)) ?_) | ((first | with_reducible (first | (refine hKv _ _ ?_; clear hKv Kv) | ((first | refine AWp_regC mu_46 ks_46 ?_ | refine AWp_regE mu_46 ks_46 ?_); intro Kv hKv) | refine AWp_retR ?_) | refine hs _ _ ?_); try simp (dsimp := false) only [go_sem, Nat.reduceAdd, Nat.reduceBEq, Nat.reduceEqDiff, Nat.reduceLT, Nat.reduceLeDiff, Nat.reduceMul, Int.reduceToNat, reduceCtorEq, ↓reduceIte, Tryd.ntmps46, Tryd.results46, ks_46, mu_46, ti_ag3, ti_ag9, ti_ag31, ti_ag33, ti_ag34, ti_ag82, ti_fl31_0, ti_fl36_0, ti_fl36_1, ti_fl36_2, ti_fl36_3, ti_fl36_4, ti_fl36_5, ti_fl36_6, ti_fl36_7, ti_hb39, ti_hb55, ti_hb61, ti_hb85, ti_hb86, ti_ky9, ti_mp82, ti_sb34, ti_sz31, ti_sz33, ti_zv3, Int.reduceEq]) | (refine AWp_condC rfl ?_; intro KA KB hKA hKB; try simp only [onB_true, onB_false, onB_dec, onB_ndec, onB_not, onB_and, onB_or]) | (refine AWp_condA rfl ?_ ?_) | with_reducible (first | refine onB_of ?_ ?_ | rfl) | omega)
    all_goals first
      | omega
      | exact keepD hk rfl
  rw [if_neg c10] at hk
  have k1 : (h.k = 1) = False := eq_false c1
  have k2 : (h.k = 2) = False := eq_false c2
  have k4 : (h.k = 4) = False := eq_false c3
  have k5 : (h.k = 5) = False := eq_false (by omega)
  have k6 : (h.k = 6) = False := eq_false (by omega)
  have k8 : (h.k = 8) = False := eq_false c8
  have k9 : (h.k = 9) = False := eq_false c9
  have k10 : (h.k = 10) = False := eq_false c10
  refine ACalls_of Tryd.func46 rfl in_46 (Nat.le_of_ble_eq_true rfl) ?_
  intro F hF
  simp (dsimp := false) only [go_sem, Nat.reduceAdd, Nat.reduceBEq, Nat.reduceEqDiff, Nat.reduceLT, Nat.reduceLeDiff, Nat.reduceMul, Int.reduceToNat, reduceCtorEq, ↓reduceIte, Tryd.ntmps46, Tryd.results46, ks_46, mu_46, ti_ag3, ti_ag9, ti_ag31, ti_ag33, ti_ag34, ti_ag82, ti_fl31_0, ti_fl36_0, ti_fl36_1, ti_fl36_2, ti_fl36_3, ti_fl36_4, ti_fl36_5, ti_fl36_6, ti_fl36_7, ti_hb39, ti_hb55, ti_hb61, ti_hb85, ti_hb86, ti_ky9, ti_mp82, ti_sb34, ti_sz31, ti_sz33, ti_zv3, exV, k1, k2, k4, k5, k6, k8, k9, k10, in_46] at hF
  subst hF
  repeat' (first | with_reducible (first | refine And.intro ?_ ?_ | intro _ | refine AWp_seq ?_ | refine AWp_block ?_ | (refine hKv _ _ (AWp_nop ?_); clear hKv Kv) | (refine hKA ?_; clear hKA hKB KA KB) | (refine hKB ?_; clear hKA hKB KA KB) | refine AWp_skipN ?_ | refine AWp_exitO (by repeat (first | exact Out.hit | apply Out.thenA | apply Out.out rfl)) ?_) | (with_reducible (first | (refine hKv _ _ ?_; clear hKv Kv) | ((first | refine AWp_regC mu_46 ks_46 ?_ | refine AWp_regE mu_46 ks_46 ?_); intro Kv hKv) | refine AWp_retR ?_); try simp (dsimp := false) only [go_sem, Nat.reduceAdd, Nat.reduceBEq, Nat.reduceEqDiff, Nat.reduceLT, Nat.reduceLeDiff, Nat.reduceMul, Int.reduceToNat, reduceCtorEq, ↓reduceIte, Tryd.ntmps46, Tryd.results46, ks_46, mu_46, ti_ag3, ti_ag9, ti_ag31, ti_ag33, ti_ag34, ti_ag82, ti_fl31_0, ti_fl36_0, ti_fl36_1, ti_fl36_2, ti_fl36_3, ti_fl36_4, ti_fl36_5, ti_fl36_6, ti_fl36_7, ti_hb39, ti_hb55, ti_hb61, ti_hb85, ti_hb86, ti_ky9, ti_mp82, ti_sb34, ti_sz31, ti_sz33, ti_zv3, exV, k1, k2, k4, k5, k6, k8, k9, k10]) | (refine AWp_condC rfl ?_; intro KA KB hKA hKB; try simp only [onB_true, onB_false, onB_dec, onB_ndec, onB_not, onB_and, onB_or]) | (refine AWp_condA rfl ?_ ?_) | with_reducible (first | refine onB_of ?_ ?_ | rfl) | omega)
  all_goals first
    | omega
    | exact keepD hk rfl
end Go.Proofs.YtppalmoicjogaaaDoor
