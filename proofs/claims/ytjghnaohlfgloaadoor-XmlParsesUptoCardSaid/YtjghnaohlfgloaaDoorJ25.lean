/- The parser reads a value: the walk. No condition but that the table of escapes, and what package bytealg calls its greatest length, are there. -/
import Derived.Test.YtjghnaohlfgloaaDoorJ24
import Derived.Test.YtjghnaohlfgloaaDoorJ19
set_option linter.all false
set_option linter.unusedSimpArgs false
set_option linter.unusedVariables false
namespace Go.Proofs.YtjghnaohlfgloaaDoor
open Go Go.Proofs.YtjghnaohlfgloaaDoor.Ab
variable [Glo] [U8] [Ml] [Ec]
set_option maxHeartbeats 4000000
set_option maxRecDepth 20000
def ks_108 : Nat → List Nat
  | 0 => [0, 1]
  | 1 => [0, 1, 5]
  | 2 => [0, 1, 5, 44]
  | 3 => [0, 1, 5, 54]
  | 4 => [0, 1, 5]
  | 5 => [0, 1, 5]
  | 6 => [0, 1, 5, 6]
  | 7 => [0, 1, 5, 6, 72, 73]
  | 8 => [0, 1, 5, 6, 72, 73, 74]
  | 9 => [0, 1, 5, 6, 8, 72, 73]
  | 10 => [0, 1, 5, 6, 8, 72, 73, 79]
  | 11 => [0, 1, 5]
  | 12 => [0, 1, 5, 6]
  | 13 => [0, 1, 5, 6, 72, 73]
  | 14 => [0, 1, 5, 85]
  | 15 => [0, 1, 5]
  | 16 => [0, 5, 104]
  | 17 => [5]
  | 18 => [4]
  | _ => []
def mu_108 : List Nat := []
def in_108 : List Nat := [0, 1]
def ro_108 : Nat → List Nat
  | 9 => [8]
  | _ => []
def nd_108 : Nat → Nat
  | 2 => 35
  | 3 => 9
  | 4 => 9
  | 16 => 16
  | _ => 0
theorem value_A (e : UInt8) (he : e = 34 ∨ e = 60) (ends : List UInt8) (hE : ∀ c, Lib.contains ends [c] = decide (c = e ∨ c = 60)) (hel : ends.length ≤ 10) (id : Nat) (s : List UInt8) (at_ : Nat) (f : Int) (o : V) (H : Heap) (K : V → Heap → Prop) (hr : H[id]? = some (prC s at_ o f)) (ho : Bel H.length o) (hs : s.length ≤ 1000000) (hat : at_ ≤ s.length)
    (hk : K (.d (.s (vlOf e s at_ f).out)) (H.set id (prC s ((at_ + (vlOf e s at_ f).n : Nat) : Int) o (vlOf e s at_ f).f))) :
    ACalls Tryd.prog 108 [.pt id 0 0 0, .d (.s ends)] H K := by
  have hglob : glob 1 = some escRow := Ec.esc
  have hid := lt_of_get hr
  have hss := set_same hr
  have gP := vaH_P hid (s := s) (o := o)
  have gB := vaH_B hid (s := s) (o := o)
  have gU := vaH_U hid (s := s) (o := o)
  have gL := vaH_len hid (s := s) (o := o)
  have gA := vaH_app hid (s := s) (o := o)
  have gAs := vaH_appset hid (s := s) (o := o)
  have gR := vaH_ro hid (s := s) (o := o)
  have gsP := vaH_setP hid (s := s) (o := o)
  have gsB := vaH_setB hid (s := s) (o := o)
  have gD := vaH_dead hid (s := s) (o := o)
  have gC := vaH_closed hid (s := s) ho
  have hidl : id < H.length + 2 := by omega
  have ho2 : Bel (H.length + 2) o := ho.mono (by omega)
  have h38 : ¬ ((38 : UInt8) = e ∨ (38 : UInt8) = 60) := by rcases he with rfl | rfl <;> decide
  have hsub : ∀ (i f : Int) (u : Bool) (k : Nat) (acc : List UInt8), Ab.Sub (vaH H id s o i f u k acc).length [(0, .pt id 0 0 0), (1, .d (.s ends)), (5, .pt H.length 0 0 0)] [(0, .pt id 0 0 0), (1, .d (.s ends)), (5, .pt H.length 0 0 0)] := fun i f u k acc => by
    rw [gL]
    simp (dsimp := false) only [go_sem, Nat.reduceAdd, Nat.reduceBEq, Nat.reduceEqDiff, Nat.reduceLT, Nat.reduceLeDiff, Nat.reduceMul, Int.reduceToNat, reduceCtorEq, ↓reduceIte, Tryd.ntmps108, Tryd.results108, ks_108, mu_108, nd_108, ro_108, ti_ag3, ti_ag9, ti_ag29, ti_ag175, ti_an175, ti_az175, ti_el174, ti_fl86_0, ti_fl86_1, ti_fl86_3, ti_hb100, ti_hb101, ti_hb102, ti_hb103, ti_hb105, ti_hb143, ti_sn174, ti_st9, ti_sz3, ti_sz174, ti_sz175, ti_zr134, ti_zr174, hidl]
    first | done | omega | exact ⟨hidl, by omega⟩ | (simp; omega)
  refine ACalls_of Tryd.func108 rfl in_108 (Nat.le_of_ble_eq_true rfl) ?_
  intro F hF
  simp (dsimp := false) only [go_sem, Nat.reduceAdd, Nat.reduceBEq, Nat.reduceEqDiff, Nat.reduceLT, Nat.reduceLeDiff, Nat.reduceMul, Int.reduceToNat, reduceCtorEq, ↓reduceIte, Tryd.ntmps108, Tryd.results108, ks_108, mu_108, nd_108, ro_108, ti_ag3, ti_ag9, ti_ag29, ti_ag175, ti_an175, ti_az175, ti_el174, ti_fl86_0, ti_fl86_1, ti_fl86_3, ti_hb100, ti_hb101, ti_hb102, ti_hb103, ti_hb105, ti_hb143, ti_sn174, ti_st9, ti_sz3, ti_sz174, ti_sz175, ti_zr134, ti_zr174, hid, in_108] at hF
  subst hF
  repeat' (first | with_reducible (first | refine And.intro ?_ ?_ | intro _ | refine AWp_seq ?_ | refine AWp_block ?_ | (refine hKv _ _ (AWp_nop ?_); clear hKv Kv) | (refine hKA ?_; clear hKA hKB KA KB) | (refine hKB ?_; clear hKA hKB KA KB) | refine AWp_skipN ?_ | refine AWp_exitO (by repeat (first | exact Out.hit | apply Out.thenA | apply Out.out rfl)) ?_) | (with_reducible (first | (refine hKv _ _ ?_; clear hKv Kv) | ((first | refine AWp_regro mu_108 ks_108 ro_108 ?_ | refine AWp_regC mu_108 ks_108 ?_ | refine AWp_draw nd_108 mu_108 ks_108 ti_mixed (by kernel_rfl) ?_ | refine AWp_regE mu_108 ks_108 ?_ | refine AWp_drawE nd_108 mu_108 ks_108 ti_mixed (by kernel_rfl) ?_); intro Kv hKv) | refine AWp_retR ?_); try simp (dsimp := false) only [go_sem, Nat.reduceAdd, Nat.reduceBEq, Nat.reduceEqDiff, Nat.reduceLT, Nat.reduceLeDiff, Nat.reduceMul, Int.reduceToNat, reduceCtorEq, ↓reduceIte, Tryd.ntmps108, Tryd.results108, ks_108, mu_108, nd_108, ro_108, ti_ag3, ti_ag9, ti_ag29, ti_ag175, ti_an175, ti_az175, ti_el174, ti_fl86_0, ti_fl86_1, ti_fl86_3, ti_hb100, ti_hb101, ti_hb102, ti_hb103, ti_hb105, ti_hb143, ti_sn174, ti_st9, ti_sz3, ti_sz174, ti_sz175, ti_zr134, ti_zr174, hid]) | (refine AWp_condC rfl ?_; intro KA KB hKA hKB; try simp only [onB_true, onB_false, onB_dec, onB_ndec, onB_not, onB_and, onB_or]) | (refine AWp_condA rfl ?_ ?_) | with_reducible (first | refine onB_of ?_ ?_ | rfl) | omega)
  refine AWp_prm H.length 0 1 5 1 ((get_app0 _ _).trans rfl) rfl rfl (h := ?_)
  by_cases hf : f = 0
  · subst hf
    rw [vlOf, if_pos rfl] at hk
    refine AWp_whileP (VaOk e s at_) (fun y => [(0, .pt id 0 0 0), (1, .d (.s ends)), (5, .pt H.length 0 0 0)]) (fun y => vaH H id s o y.i y.f y.u y.k y.acc) (fun y => if y.f = 0 then s.length - y.i + 1 else 0) ⟨at_, 0, false, 0, []⟩ ⟨Nat.le_refl _, hat, fun _ => ⟨rfl, rfl, rfl⟩, fun h => absurd rfl h, .inl rfl⟩ ?_ ?_ ?_ ?_ ?_
    · show _ = vaH H id s o at_ 0 false 0 []
      rw [vaH, hss]
      first | rfl | (simp [bldC, bufC, selfV]; done)
    · show Sub (vaH H id s o at_ 0 false 0 []).length _ _
      rw [gL]
      simp (dsimp := false) only [go_sem, Nat.reduceAdd, Nat.reduceBEq, Nat.reduceEqDiff, Nat.reduceLT, Nat.reduceLeDiff, Nat.reduceMul, Int.reduceToNat, reduceCtorEq, ↓reduceIte, Tryd.ntmps108, Tryd.results108, ks_108, mu_108, nd_108, ro_108, ti_ag3, ti_ag9, ti_ag29, ti_ag175, ti_an175, ti_az175, ti_el174, ti_fl86_0, ti_fl86_1, ti_fl86_3, ti_hb100, ti_hb101, ti_hb102, ti_hb103, ti_hb105, ti_hb143, ti_sn174, ti_st9, ti_sz3, ti_sz174, ti_sz175, ti_zr134, ti_zr174, hid]
      first | done | omega | exact ⟨hidl, by omega⟩ | (simp; omega)
    · intro y _
      rw [gL]; omega
    · intro y _
      exact gC _ _ _ _ _
    rintro ⟨i, g, u, k, acc⟩ hy
    have y1 : at_ ≤ i := hy.h1
    have y2 : i ≤ s.length := hy.h2
    have y5 : g = 0 ∨ g = 4 := hy.h5
    have yl : acc.length ≤ s.length := hy.len
    have ii0 : ((0 : Int) ≤ (i : Int)) = True := eq_true (by omega)
    have ii1 : ((i : Int) ≤ (s.length : Int)) = True := eq_true (by omega)
    have hcl : Closed H (vaH H id s o i g u k acc) := gC _ _ _ _ _
    have hob : Bel (vaH H id s o i g u k acc).length o := by rw [gL]; exact ho2
    simp only [] at ⊢
    by_cases hg : g = 0
    · subst hg
      have hPr : (vaH H id s o i 0 u k acc)[id]? = some (prC s i o 0) := gP _ _ _ _ _
      by_cases hin : i < s.length
      · obtain ⟨c, hc⟩ : ∃ c, s[i]? = some c := ⟨s[i], List.getElem?_eq_getElem hin⟩
        have hin' : ((i : Int) < (s.length : Int)) = True := eq_true (by omega)
        have ii2 : ((i : Int) + 1 ≤ (s.length : Int)) = True := eq_true (by omega)
        have ii3 : ((i : Int) ≤ (i : Int) + 1) = True := eq_true (by omega)
        have e1 : ((i : Int) + 1).toNat = i + 1 := by omega
        have hone : List.drop i (List.take (i + 1) s) = [c] := by
          rw [List.drop_take, Nat.add_sub_cancel_left, drop_of_get hc]; rfl
        have hEc := hE c
        by_cases c1 : c = e ∨ c = 60
        · rw [decide_eq_true c1] at hEc
          obtain ⟨k1, k2, k3⟩ := hy.stop hc c1
          rw [k3, ← k1, ← k2] at hk
          have e3 : ((i : Int) = (s.length : Int)) = False := eq_false (by omega)
          repeat' (first | with_reducible (first | refine And.intro ?_ ?_ | intro _ | refine AWp_seq ?_ | refine AWp_block ?_ | (refine hKv _ _ (AWp_nop ?_); clear hKv Kv) | (refine hKA ?_; clear hKA hKB KA KB) | (refine hKB ?_; clear hKA hKB KA KB) | refine AWp_skipN ?_ | refine AWp_exitO (by repeat (first | exact Out.hit | apply Out.thenA | apply Out.out rfl)) ?_) | ((first | with_reducible (first | (refine hKv _ _ ?_; clear hKv Kv) | ((first | refine AWp_regro mu_108 ks_108 ro_108 ?_ | refine AWp_regC mu_108 ks_108 ?_ | refine AWp_draw nd_108 mu_108 ks_108 ti_mixed (by kernel_rfl) ?_ | refine AWp_regE mu_108 ks_108 ?_ | refine AWp_drawE nd_108 mu_108 ks_108 ti_mixed (by kernel_rfl) ?_); intro Kv hKv) | refine AWp_retR ?_) | refine contains_A ends [c] (by omega) _ _ ?_ | refine QCall_of (contains_A ends [c] (by omega) _ _ (Two_intro _ _)) ?_ | refine bldString_A H.length (H.length + 1) k 0 _ acc (by omega) _ _ (gB i 0 u k acc) (gU i 0 u k acc) ?_ | refine QCall_of (bldString_A H.length (H.length + 1) k 0 _ acc (by omega) _ _ (gB i 0 u k acc) (gU i 0 u k acc) (Two_intro _ _)) ?_); try simp (dsimp := false) only [go_sem, Nat.reduceAdd, Nat.reduceBEq, Nat.reduceEqDiff, Nat.reduceLT, Nat.reduceLeDiff, Nat.reduceMul, Int.reduceToNat, reduceCtorEq, ↓reduceIte, Tryd.ntmps108, Tryd.results108, ks_108, mu_108, nd_108, ro_108, ti_ag3, ti_ag9, ti_ag29, ti_ag175, ti_an175, ti_az175, ti_el174, ti_fl86_0, ti_fl86_1, ti_fl86_3, ti_hb100, ti_hb101, ti_hb102, ti_hb103, ti_hb105, ti_hb143, ti_sn174, ti_st9, ti_sz3, ti_sz174, ti_sz175, ti_zr134, ti_zr174, prC, gP, gsP, gL, gD, ii0, ii1, ii2, ii3, hin', hc, e1, e3, hone, hEc, hidl, not_true_eq_false, not_false_eq_true, Int.reduceEq]) | (refine AWp_condC rfl ?_; intro KA KB hKA hKB; try simp only [onB_true, onB_false, onB_dec, onB_ndec, onB_not, onB_and, onB_or]) | (refine AWp_condA rfl ?_ ?_) | with_reducible (first | refine onB_of ?_ ?_ | rfl) | omega)
          all_goals first
            | omega
            | exact dropS hk (by simp) (closed_set (closed_self H) (prC_bel ho)) (.d _)
        rw [decide_eq_false c1] at hEc
        by_cases c2 : c = 38
        · subst c2
          have n1 : (((38 : UInt8).toNat : Int) = 38) = True := eq_true rfl
          have hat' : i ≤ s.length := y2
          have hPr0 : (vaH H id s o i 0 u k acc)[id]? = some (prC s i o 0) := gP _ _ _ _ _
          repeat' (first | with_reducible (first | refine And.intro ?_ ?_ | intro _ | refine AWp_seq ?_ | refine AWp_block ?_ | (refine hKv _ _ (AWp_nop ?_); clear hKv Kv) | (refine hKA ?_; clear hKA hKB KA KB) | (refine hKB ?_; clear hKA hKB KA KB) | refine AWp_skipN ?_ | refine AWp_exitO (by repeat (first | exact Out.hit | apply Out.thenA | apply Out.out rfl)) ?_) | ((first | with_reducible (first | (refine hKv _ _ ?_; clear hKv Kv) | ((first | refine AWp_regro mu_108 ks_108 ro_108 ?_ | refine AWp_regC mu_108 ks_108 ?_ | refine AWp_draw nd_108 mu_108 ks_108 ti_mixed (by kernel_rfl) ?_ | refine AWp_regE mu_108 ks_108 ?_ | refine AWp_drawE nd_108 mu_108 ks_108 ti_mixed (by kernel_rfl) ?_); intro Kv hKv) | refine AWp_retR ?_) | refine contains_A ends [38] (by omega) _ _ ?_ | refine QCall_of (contains_A ends [38] (by omega) _ _ (Two_intro _ _)) ?_); try simp (dsimp := false) only [go_sem, Nat.reduceAdd, Nat.reduceBEq, Nat.reduceEqDiff, Nat.reduceLT, Nat.reduceLeDiff, Nat.reduceMul, Int.reduceToNat, reduceCtorEq, ↓reduceIte, Tryd.ntmps108, Tryd.results108, ks_108, mu_108, nd_108, ro_108, ti_ag3, ti_ag9, ti_ag29, ti_ag175, ti_an175, ti_az175, ti_el174, ti_fl86_0, ti_fl86_1, ti_fl86_3, ti_hb100, ti_hb101, ti_hb102, ti_hb103, ti_hb105, ti_hb143, ti_sn174, ti_st9, ti_sz3, ti_sz174, ti_sz175, ti_zr134, ti_zr174, prC, hglob, escRow, gP, gsP, gL, ii0, ii1, ii2, ii3, hin', hc, n1, e1, hone, hEc, hidl, not_true_eq_false, not_false_eq_true, Int.reduceEq]) | (refine AWp_condC rfl ?_; intro KA KB hKA hKB; try simp only [onB_true, onB_false, onB_dec, onB_ndec, onB_not, onB_and, onB_or]) | (refine AWp_condA rfl ?_ ?_) | with_reducible (first | refine onB_of ?_ ?_ | rfl) | omega)
          refine AWp_whileP (fun j : Int => (0 ≤ j ∧ j ≤ 4) ∧ (0 < j → [38, 97, 109, 112, 59].isPrefixOf (s.drop i) = false) ∧ (1 < j → [38, 108, 116, 59].isPrefixOf (s.drop i) = false) ∧ (2 < j → [38, 103, 116, 59].isPrefixOf (s.drop i) = false) ∧ (3 < j → [38, 113, 117, 111, 116, 59].isPrefixOf (s.drop i) = false)) (fun j => [(0, .pt id 0 0 0), (1, .d (.s ends)), (5, .pt H.length 0 0 0), (6, .d (.b false)), (72, .ag (escRow.map V.d)), (73, .d (.i .i64 j))]) (fun _ => vaH H id s o i 0 u k acc) (fun j => (4 - j).toNat) 0 ⟨⟨by decide, by decide⟩, by omega, by omega, by omega, by omega⟩ ?_ ?_ ?_ ?_ ?_
          · rfl
          · simp (dsimp := false) only [go_sem, Nat.reduceAdd, Nat.reduceBEq, Nat.reduceEqDiff, Nat.reduceLT, Nat.reduceLeDiff, Nat.reduceMul, Int.reduceToNat, reduceCtorEq, ↓reduceIte, Tryd.ntmps108, Tryd.results108, ks_108, mu_108, nd_108, ro_108, ti_ag3, ti_ag9, ti_ag29, ti_ag175, ti_an175, ti_az175, ti_el174, ti_fl86_0, ti_fl86_1, ti_fl86_3, ti_hb100, ti_hb101, ti_hb102, ti_hb103, ti_hb105, ti_hb143, ti_sn174, ti_st9, ti_sz3, ti_sz174, ti_sz175, ti_zr134, ti_zr174, prC, hglob, escRow, gP, gsP, gL, ii0, ii1, ii2, ii3, hin', hc, n1, e1, hone, hEc, hidl, not_true_eq_false, not_false_eq_true, Int.reduceEq]
            first | done | exact esc_bel _ | exact ⟨by omega, esc_bel _⟩
          · intro y _
            rw [gL]; omega
          · intro y _
            exact gC _ _ _ _ _
          rintro j ⟨⟨j1, j2⟩, p0, p1, p2, p3⟩
          obtain rfl | rfl | rfl | rfl | rfl : j = 0 ∨ j = 1 ∨ j = 2 ∨ j = 3 ∨ j = 4 := by omega
          · cases hq : [38, 97, 109, 112, 59].isPrefixOf (s.drop i) with
            | true =>
              have hL : escL (s.drop i) = some (38, 5) := by rw [escL, if_pos hq]
              have hq' := (escL_len hL).1
              rw [List.length_drop] at hq'
              repeat' (first | with_reducible (first | refine And.intro ?_ ?_ | intro _ | refine AWp_seq ?_ | refine AWp_block ?_ | (refine hKv _ _ (AWp_nop ?_); clear hKv Kv) | (refine hKA ?_; clear hKA hKB KA KB) | (refine hKB ?_; clear hKA hKB KA KB) | refine AWp_skipN ?_ | refine AWp_exitO (by repeat (first | exact Out.hit | apply Out.thenA | apply Out.out rfl)) ?_) | ((first | with_reducible (first | (refine hKv _ _ ?_; clear hKv Kv) | ((first | refine AWp_regro mu_108 ks_108 ro_108 ?_ | refine AWp_regC mu_108 ks_108 ?_ | refine AWp_draw nd_108 mu_108 ks_108 ti_mixed (by kernel_rfl) ?_ | refine AWp_regE mu_108 ks_108 ?_ | refine AWp_drawE nd_108 mu_108 ks_108 ti_mixed (by kernel_rfl) ?_); intro Kv hKv) | refine AWp_retR ?_) | refine has_A id s [38, 97, 109, 112, 59] i 0 o _ _ hPr0 hob hs y2 (by decide) ?_ | refine QCall_of (has_A id s [38, 97, 109, 112, 59] i 0 o _ _ hPr0 hob hs y2 (by decide) (Two_intro _ _)) ?_ | refine writeString_A H.length (H.length + 1) k u acc [38] (by omega) (by (try simp only [List.length_cons, List.length_nil]); omega) _ _ (gB _ 0 u k acc) (gU _ 0 u k acc) ?_ | refine QCall_of (writeString_A H.length (H.length + 1) k u acc [38] (by omega) (by (try simp only [List.length_cons, List.length_nil]); omega) _ _ (gB _ 0 u k acc) (gU _ 0 u k acc) (Two_intro _ _)) ?_); try simp (dsimp := false) only [go_sem, Nat.reduceAdd, Nat.reduceBEq, Nat.reduceEqDiff, Nat.reduceLT, Nat.reduceLeDiff, Nat.reduceMul, Int.reduceToNat, reduceCtorEq, ↓reduceIte, Tryd.ntmps108, Tryd.results108, ks_108, mu_108, nd_108, ro_108, ti_ag3, ti_ag9, ti_ag29, ti_ag175, ti_an175, ti_az175, ti_el174, ti_fl86_0, ti_fl86_1, ti_fl86_3, ti_hb100, ti_hb101, ti_hb102, ti_hb103, ti_hb105, ti_hb143, ti_sn174, ti_st9, ti_sz3, ti_sz174, ti_sz175, ti_zr134, ti_zr174, gR, gAs, prC, escRow, hq, gP, gA, gsP, gsB, gL, hidl, Bool.and_true, Bool.true_and, not_true_eq_false, not_false_eq_true, and_self, Int.reduceEq, Int.reduceLT, Int.reduceLE]) | (refine AWp_condC rfl ?_; intro KA KB hKA hKB; try simp only [onB_true, onB_false, onB_dec, onB_ndec, onB_not, onB_and, onB_or]) | (refine AWp_condA rfl ?_ ?_) | with_reducible (first | refine onB_of ?_ ?_ | rfl) | omega)
              all_goals first
                | omega
                | exact esc_bel _
                | exact hcl
                | exact ⟨⟨i + 5, 0, true, k + 1, acc ++ [38]⟩, hy.esc hc h38 hL, by simp; omega, rfl, by first | exact hsub _ _ _ _ _ | omega | (rw [gL]; simp (dsimp := false) only [go_sem, Nat.reduceAdd, Nat.reduceBEq, Nat.reduceEqDiff, Nat.reduceLT, Nat.reduceLeDiff, Nat.reduceMul, Int.reduceToNat, reduceCtorEq, ↓reduceIte, Tryd.ntmps108, Tryd.results108, ks_108, mu_108, nd_108, ro_108, ti_ag3, ti_ag9, ti_ag29, ti_ag175, ti_an175, ti_az175, ti_el174, ti_fl86_0, ti_fl86_1, ti_fl86_3, ti_hb100, ti_hb101, ti_hb102, ti_hb103, ti_hb105, ti_hb143, ti_sn174, ti_st9, ti_sz3, ti_sz174, ti_sz175, ti_zr134, ti_zr174, gR, gAs, prC, escRow, hq, gP, gA, gsP, gsB, gL, hidl, Bool.and_true, Bool.true_and, not_true_eq_false, not_false_eq_true, and_self, Int.reduceEq, Int.reduceLT, Int.reduceLE]; omega) | (rw [gL]; simp (dsimp := false) only [go_sem, Nat.reduceAdd, Nat.reduceBEq, Nat.reduceEqDiff, Nat.reduceLT, Nat.reduceLeDiff, Nat.reduceMul, Int.reduceToNat, reduceCtorEq, ↓reduceIte, Tryd.ntmps108, Tryd.results108, ks_108, mu_108, nd_108, ro_108, ti_ag3, ti_ag9, ti_ag29, ti_ag175, ti_an175, ti_az175, ti_el174, ti_fl86_0, ti_fl86_1, ti_fl86_3, ti_hb100, ti_hb101, ti_hb102, ti_hb103, ti_hb105, ti_hb143, ti_sn174, ti_st9, ti_sz3, ti_sz174, ti_sz175, ti_zr134, ti_zr174, gR, gAs, prC, escRow, hq, gP, gA, gsP, gsB, gL, hidl, Bool.and_true, Bool.true_and, not_true_eq_false, not_false_eq_true, and_self, Int.reduceEq, Int.reduceLT, Int.reduceLE]; done)⟩
            | false =>
              repeat' (first | with_reducible (first | refine And.intro ?_ ?_ | intro _ | refine AWp_seq ?_ | refine AWp_block ?_ | (refine hKv _ _ (AWp_nop ?_); clear hKv Kv) | (refine hKA ?_; clear hKA hKB KA KB) | (refine hKB ?_; clear hKA hKB KA KB) | refine AWp_skipN ?_ | refine AWp_exitO (by repeat (first | exact Out.hit | apply Out.thenA | apply Out.out rfl)) ?_) | ((first | with_reducible (first | (refine hKv _ _ ?_; clear hKv Kv) | ((first | refine AWp_regro mu_108 ks_108 ro_108 ?_ | refine AWp_regC mu_108 ks_108 ?_ | refine AWp_draw nd_108 mu_108 ks_108 ti_mixed (by kernel_rfl) ?_ | refine AWp_regE mu_108 ks_108 ?_ | refine AWp_drawE nd_108 mu_108 ks_108 ti_mixed (by kernel_rfl) ?_); intro Kv hKv) | refine AWp_retR ?_) | refine has_A id s [38, 97, 109, 112, 59] i 0 o _ _ hPr0 hob hs y2 (by decide) ?_ | refine QCall_of (has_A id s [38, 97, 109, 112, 59] i 0 o _ _ hPr0 hob hs y2 (by decide) (Two_intro _ _)) ?_); try simp (dsimp := false) only [go_sem, Nat.reduceAdd, Nat.reduceBEq, Nat.reduceEqDiff, Nat.reduceLT, Nat.reduceLeDiff, Nat.reduceMul, Int.reduceToNat, reduceCtorEq, ↓reduceIte, Tryd.ntmps108, Tryd.results108, ks_108, mu_108, nd_108, ro_108, ti_ag3, ti_ag9, ti_ag29, ti_ag175, ti_an175, ti_az175, ti_el174, ti_fl86_0, ti_fl86_1, ti_fl86_3, ti_hb100, ti_hb101, ti_hb102, ti_hb103, ti_hb105, ti_hb143, ti_sn174, ti_st9, ti_sz3, ti_sz174, ti_sz175, ti_zr134, ti_zr174, gR, gAs, prC, escRow, hq, gP, gA, gsP, gsB, gL, hidl, Bool.and_true, Bool.true_and, Bool.and_false, and_false, not_true_eq_false, not_false_eq_true, and_self, Int.reduceEq, Int.reduceLT, Int.reduceLE]) | (refine AWp_condC rfl ?_; intro KA KB hKA hKB; try simp only [onB_true, onB_false, onB_dec, onB_ndec, onB_not, onB_and, onB_or]) | (refine AWp_condA rfl ?_ ?_) | with_reducible (first | refine onB_of ?_ ?_ | rfl) | omega)
              all_goals first
                | omega
                | exact esc_bel _
                | exact hcl
                | exact ⟨1, ⟨⟨by decide, by decide⟩, fun _ => (by first | exact hq | trivial), by omega, by omega, by omega⟩, by decide, by omega, esc_bel _, rfl⟩
          · have q0 := p0 (by omega)
            cases hq : [38, 108, 116, 59].isPrefixOf (s.drop i) with
            | true =>
              have hL : escL (s.drop i) = some (60, 4) := by rw [escL, if_neg (by rw [q0]; decide), if_pos hq]
              have hq' := (escL_len hL).1
              rw [List.length_drop] at hq'
              repeat' (first | with_reducible (first | refine And.intro ?_ ?_ | intro _ | refine AWp_seq ?_ | refine AWp_block ?_ | (refine hKv _ _ (AWp_nop ?_); clear hKv Kv) | (refine hKA ?_; clear hKA hKB KA KB) | (refine hKB ?_; clear hKA hKB KA KB) | refine AWp_skipN ?_ | refine AWp_exitO (by repeat (first | exact Out.hit | apply Out.thenA | apply Out.out rfl)) ?_) | ((first | with_reducible (first | (refine hKv _ _ ?_; clear hKv Kv) | ((first | refine AWp_regro mu_108 ks_108 ro_108 ?_ | refine AWp_regC mu_108 ks_108 ?_ | refine AWp_draw nd_108 mu_108 ks_108 ti_mixed (by kernel_rfl) ?_ | refine AWp_regE mu_108 ks_108 ?_ | refine AWp_drawE nd_108 mu_108 ks_108 ti_mixed (by kernel_rfl) ?_); intro Kv hKv) | refine AWp_retR ?_) | refine has_A id s [38, 108, 116, 59] i 0 o _ _ hPr0 hob hs y2 (by decide) ?_ | refine QCall_of (has_A id s [38, 108, 116, 59] i 0 o _ _ hPr0 hob hs y2 (by decide) (Two_intro _ _)) ?_ | refine writeString_A H.length (H.length + 1) k u acc [60] (by omega) (by (try simp only [List.length_cons, List.length_nil]); omega) _ _ (gB _ 0 u k acc) (gU _ 0 u k acc) ?_ | refine QCall_of (writeString_A H.length (H.length + 1) k u acc [60] (by omega) (by (try simp only [List.length_cons, List.length_nil]); omega) _ _ (gB _ 0 u k acc) (gU _ 0 u k acc) (Two_intro _ _)) ?_); try simp (dsimp := false) only [go_sem, Nat.reduceAdd, Nat.reduceBEq, Nat.reduceEqDiff, Nat.reduceLT, Nat.reduceLeDiff, Nat.reduceMul, Int.reduceToNat, reduceCtorEq, ↓reduceIte, Tryd.ntmps108, Tryd.results108, ks_108, mu_108, nd_108, ro_108, ti_ag3, ti_ag9, ti_ag29, ti_ag175, ti_an175, ti_az175, ti_el174, ti_fl86_0, ti_fl86_1, ti_fl86_3, ti_hb100, ti_hb101, ti_hb102, ti_hb103, ti_hb105, ti_hb143, ti_sn174, ti_st9, ti_sz3, ti_sz174, ti_sz175, ti_zr134, ti_zr174, gR, gAs, prC, escRow, hq, gP, gA, gsP, gsB, gL, hidl, Bool.and_true, Bool.true_and, not_true_eq_false, not_false_eq_true, and_self, Int.reduceEq, Int.reduceLT, Int.reduceLE]) | (refine AWp_condC rfl ?_; intro KA KB hKA hKB; try simp only [onB_true, onB_false, onB_dec, onB_ndec, onB_not, onB_and, onB_or]) | (refine AWp_condA rfl ?_ ?_) | with_reducible (first | refine onB_of ?_ ?_ | rfl) | omega)
              all_goals first
                | omega
                | exact esc_bel _
                | exact hcl
                | exact ⟨⟨i + 4, 0, true, k + 1, acc ++ [60]⟩, hy.esc hc h38 hL, by simp; omega, rfl, by first | exact hsub _ _ _ _ _ | omega | (rw [gL]; simp (dsimp := false) only [go_sem, Nat.reduceAdd, Nat.reduceBEq, Nat.reduceEqDiff, Nat.reduceLT, Nat.reduceLeDiff, Nat.reduceMul, Int.reduceToNat, reduceCtorEq, ↓reduceIte, Tryd.ntmps108, Tryd.results108, ks_108, mu_108, nd_108, ro_108, ti_ag3, ti_ag9, ti_ag29, ti_ag175, ti_an175, ti_az175, ti_el174, ti_fl86_0, ti_fl86_1, ti_fl86_3, ti_hb100, ti_hb101, ti_hb102, ti_hb103, ti_hb105, ti_hb143, ti_sn174, ti_st9, ti_sz3, ti_sz174, ti_sz175, ti_zr134, ti_zr174, gR, gAs, prC, escRow, hq, gP, gA, gsP, gsB, gL, hidl, Bool.and_true, Bool.true_and, not_true_eq_false, not_false_eq_true, and_self, Int.reduceEq, Int.reduceLT, Int.reduceLE]; omega) | (rw [gL]; simp (dsimp := false) only [go_sem, Nat.reduceAdd, Nat.reduceBEq, Nat.reduceEqDiff, Nat.reduceLT, Nat.reduceLeDiff, Nat.reduceMul, Int.reduceToNat, reduceCtorEq, ↓reduceIte, Tryd.ntmps108, Tryd.results108, ks_108, mu_108, nd_108, ro_108, ti_ag3, ti_ag9, ti_ag29, ti_ag175, ti_an175, ti_az175, ti_el174, ti_fl86_0, ti_fl86_1, ti_fl86_3, ti_hb100, ti_hb101, ti_hb102, ti_hb103, ti_hb105, ti_hb143, ti_sn174, ti_st9, ti_sz3, ti_sz174, ti_sz175, ti_zr134, ti_zr174, gR, gAs, prC, escRow, hq, gP, gA, gsP, gsB, gL, hidl, Bool.and_true, Bool.true_and, not_true_eq_false, not_false_eq_true, and_self, Int.reduceEq, Int.reduceLT, Int.reduceLE]; done)⟩
            | false =>
              repeat' (first | with_reducible (first | refine And.intro ?_ ?_ | intro _ | refine AWp_seq ?_ | refine AWp_block ?_ | (refine hKv _ _ (AWp_nop ?_); clear hKv Kv) | (refine hKA ?_; clear hKA hKB KA KB) | (refine hKB ?_; clear hKA hKB KA KB) | refine AWp_skipN ?_ | refine AWp_exitO (by repeat (first | exact Out.hit | apply Out.thenA | apply Out.out rfl)) ?_) | ((first | with_reducible (first | (refine hKv _ _ ?_; clear hKv Kv) | ((first | refine AWp_regro mu_108 ks_108 ro_108 ?_ | refine AWp_regC mu_108 ks_108 ?_ | refine AWp_draw nd_108 mu_108 ks_108 ti_mixed (by kernel_rfl) ?_ | refine AWp_regE mu_108 ks_108 ?_ | refine AWp_drawE nd_108 mu_108 ks_108 ti_mixed (by kernel_rfl) ?_); intro Kv hKv) | refine AWp_retR ?_) | refine has_A id s [38, 108, 116, 59] i 0 o _ _ hPr0 hob hs y2 (by decide) ?_ | refine QCall_of (has_A id s [38, 108, 116, 59] i 0 o _ _ hPr0 hob hs y2 (by decide) (Two_intro _ _)) ?_); try simp (dsimp := false) only [go_sem, Nat.reduceAdd, Nat.reduceBEq, Nat.reduceEqDiff, Nat.reduceLT, Nat.reduceLeDiff, Nat.reduceMul, Int.reduceToNat, reduceCtorEq, ↓reduceIte, Tryd.ntmps108, Tryd.results108, ks_108, mu_108, nd_108, ro_108, ti_ag3, ti_ag9, ti_ag29, ti_ag175, ti_an175, ti_az175, ti_el174, ti_fl86_0, ti_fl86_1, ti_fl86_3, ti_hb100, ti_hb101, ti_hb102, ti_hb103, ti_hb105, ti_hb143, ti_sn174, ti_st9, ti_sz3, ti_sz174, ti_sz175, ti_zr134, ti_zr174, gR, gAs, prC, escRow, hq, gP, gA, gsP, gsB, gL, hidl, Bool.and_true, Bool.true_and, Bool.and_false, and_false, not_true_eq_false, not_false_eq_true, and_self, Int.reduceEq, Int.reduceLT, Int.reduceLE]) | (refine AWp_condC rfl ?_; intro KA KB hKA hKB; try simp only [onB_true, onB_false, onB_dec, onB_ndec, onB_not, onB_and, onB_or]) | (refine AWp_condA rfl ?_ ?_) | with_reducible (first | refine onB_of ?_ ?_ | rfl) | omega)
              all_goals first
                | omega
                | exact esc_bel _
                | exact hcl
                | exact ⟨2, ⟨⟨by decide, by decide⟩, fun _ => q0, fun _ => (by first | exact hq | trivial), by omega, by omega⟩, by decide, by omega, esc_bel _, rfl⟩
          · have q0 := p0 (by omega)
            have q1 := p1 (by omega)
            cases hq : [38, 103, 116, 59].isPrefixOf (s.drop i) with
            | true =>
              have hL : escL (s.drop i) = some (62, 4) := by rw [escL, if_neg (by rw [q0]; decide), if_neg (by rw [q1]; decide), if_pos hq]
              have hq' := (escL_len hL).1
              rw [List.length_drop] at hq'
              repeat' (first | with_reducible (first | refine And.intro ?_ ?_ | intro _ | refine AWp_seq ?_ | refine AWp_block ?_ | (refine hKv _ _ (AWp_nop ?_); clear hKv Kv) | (refine hKA ?_; clear hKA hKB KA KB) | (refine hKB ?_; clear hKA hKB KA KB) | refine AWp_skipN ?_ | refine AWp_exitO (by repeat (first | exact Out.hit | apply Out.thenA | apply Out.out rfl)) ?_) | ((first | with_reducible (first | (refine hKv _ _ ?_; clear hKv Kv) | ((first | refine AWp_regro mu_108 ks_108 ro_108 ?_ | refine AWp_regC mu_108 ks_108 ?_ | refine AWp_draw nd_108 mu_108 ks_108 ti_mixed (by kernel_rfl) ?_ | refine AWp_regE mu_108 ks_108 ?_ | refine AWp_drawE nd_108 mu_108 ks_108 ti_mixed (by kernel_rfl) ?_); intro Kv hKv) | refine AWp_retR ?_) | refine has_A id s [38, 103, 116, 59] i 0 o _ _ hPr0 hob hs y2 (by decide) ?_ | refine QCall_of (has_A id s [38, 103, 116, 59] i 0 o _ _ hPr0 hob hs y2 (by decide) (Two_intro _ _)) ?_ | refine writeString_A H.length (H.length + 1) k u acc [62] (by omega) (by (try simp only [List.length_cons, List.length_nil]); omega) _ _ (gB _ 0 u k acc) (gU _ 0 u k acc) ?_ | refine QCall_of (writeString_A H.length (H.length + 1) k u acc [62] (by omega) (by (try simp only [List.length_cons, List.length_nil]); omega) _ _ (gB _ 0 u k acc) (gU _ 0 u k acc) (Two_intro _ _)) ?_); try simp (dsimp := false) only [go_sem, Nat.reduceAdd, Nat.reduceBEq, Nat.reduceEqDiff, Nat.reduceLT, Nat.reduceLeDiff, Nat.reduceMul, Int.reduceToNat, reduceCtorEq, ↓reduceIte, Tryd.ntmps108, Tryd.results108, ks_108, mu_108, nd_108, ro_108, ti_ag3, ti_ag9, ti_ag29, ti_ag175, ti_an175, ti_az175, ti_el174, ti_fl86_0, ti_fl86_1, ti_fl86_3, ti_hb100, ti_hb101, ti_hb102, ti_hb103, ti_hb105, ti_hb143, ti_sn174, ti_st9, ti_sz3, ti_sz174, ti_sz175, ti_zr134, ti_zr174, gR, gAs, prC, escRow, hq, gP, gA, gsP, gsB, gL, hidl, Bool.and_true, Bool.true_and, not_true_eq_false, not_false_eq_true, and_self, Int.reduceEq, Int.reduceLT, Int.reduceLE]) | (refine AWp_condC rfl ?_; intro KA KB hKA hKB; try simp only [onB_true, onB_false, onB_dec, onB_ndec, onB_not, onB_and, onB_or]) | (refine AWp_condA rfl ?_ ?_) | with_reducible (first | refine onB_of ?_ ?_ | rfl) | omega)
              all_goals first
                | omega
                | exact esc_bel _
                | exact hcl
                | exact ⟨⟨i + 4, 0, true, k + 1, acc ++ [62]⟩, hy.esc hc h38 hL, by simp; omega, rfl, by first | exact hsub _ _ _ _ _ | omega | (rw [gL]; simp (dsimp := false) only [go_sem, Nat.reduceAdd, Nat.reduceBEq, Nat.reduceEqDiff, Nat.reduceLT, Nat.reduceLeDiff, Nat.reduceMul, Int.reduceToNat, reduceCtorEq, ↓reduceIte, Tryd.ntmps108, Tryd.results108, ks_108, mu_108, nd_108, ro_108, ti_ag3, ti_ag9, ti_ag29, ti_ag175, ti_an175, ti_az175, ti_el174, ti_fl86_0, ti_fl86_1, ti_fl86_3, ti_hb100, ti_hb101, ti_hb102, ti_hb103, ti_hb105, ti_hb143, ti_sn174, ti_st9, ti_sz3, ti_sz174, ti_sz175, ti_zr134, ti_zr174, gR, gAs, prC, escRow, hq, gP, gA, gsP, gsB, gL, hidl, Bool.and_true, Bool.true_and, not_true_eq_false, not_false_eq_true, and_self, Int.reduceEq, Int.reduceLT, Int.reduceLE]; omega) | (rw [gL]; simp (dsimp := false) only [go_sem, Nat.reduceAdd, Nat.reduceBEq, Nat.reduceEqDiff, Nat.reduceLT, Nat.reduceLeDiff, Nat.reduceMul, Int.reduceToNat, reduceCtorEq, ↓reduceIte, Tryd.ntmps108, Tryd.results108, ks_108, mu_108, nd_108, ro_108, ti_ag3, ti_ag9, ti_ag29, ti_ag175, ti_an175, ti_az175, ti_el174, ti_fl86_0, ti_fl86_1, ti_fl86_3, ti_hb100, ti_hb101, ti_hb102, ti_hb103, ti_hb105, ti_hb143, ti_sn174, ti_st9, ti_sz3, ti_sz174, ti_sz175, ti_zr134, ti_zr174, gR, gAs, prC, escRow, hq, gP, gA, gsP, gsB, gL, hidl, Bool.and_true, Bool.true_and, not_true_eq_false, not_false_eq_true, and_self, Int.reduceEq, Int.reduceLT, Int.reduceLE]; done)⟩
            | false =>
              repeat' (first | with_reducible (first | refine And.intro ?_ ?_ | intro _ | refine AWp_seq ?_ | refine AWp_block ?_ | (refine hKv _ _ (AWp_nop ?_); clear hKv Kv) | (refine hKA ?_; clear hKA hKB KA KB) | (refine hKB ?_; clear hKA hKB KA KB) | refine AWp_skipN ?_ | refine AWp_exitO (by repeat (first | exact Out.hit | apply Out.thenA | apply Out.out rfl)) ?_) | ((first | with_reducible (first | (refine hKv _ _ ?_; clear hKv Kv) | ((first | refine AWp_regro mu_108 ks_108 ro_108 ?_ | refine AWp_regC mu_108 ks_108 ?_ | refine AWp_draw nd_108 mu_108 ks_108 ti_mixed (by kernel_rfl) ?_ | refine AWp_regE mu_108 ks_108 ?_ | refine AWp_drawE nd_108 mu_108 ks_108 ti_mixed (by kernel_rfl) ?_); intro Kv hKv) | refine AWp_retR ?_) | refine has_A id s [38, 103, 116, 59] i 0 o _ _ hPr0 hob hs y2 (by decide) ?_ | refine QCall_of (has_A id s [38, 103, 116, 59] i 0 o _ _ hPr0 hob hs y2 (by decide) (Two_intro _ _)) ?_); try simp (dsimp := false) only [go_sem, Nat.reduceAdd, Nat.reduceBEq, Nat.reduceEqDiff, Nat.reduceLT, Nat.reduceLeDiff, Nat.reduceMul, Int.reduceToNat, reduceCtorEq, ↓reduceIte, Tryd.ntmps108, Tryd.results108, ks_108, mu_108, nd_108, ro_108, ti_ag3, ti_ag9, ti_ag29, ti_ag175, ti_an175, ti_az175, ti_el174, ti_fl86_0, ti_fl86_1, ti_fl86_3, ti_hb100, ti_hb101, ti_hb102, ti_hb103, ti_hb105, ti_hb143, ti_sn174, ti_st9, ti_sz3, ti_sz174, ti_sz175, ti_zr134, ti_zr174, gR, gAs, prC, escRow, hq, gP, gA, gsP, gsB, gL, hidl, Bool.and_true, Bool.true_and, Bool.and_false, and_false, not_true_eq_false, not_false_eq_true, and_self, Int.reduceEq, Int.reduceLT, Int.reduceLE]) | (refine AWp_condC rfl ?_; intro KA KB hKA hKB; try simp only [onB_true, onB_false, onB_dec, onB_ndec, onB_not, onB_and, onB_or]) | (refine AWp_condA rfl ?_ ?_) | with_reducible (first | refine onB_of ?_ ?_ | rfl) | omega)
              all_goals first
                | omega
                | exact esc_bel _
                | exact hcl
                | exact ⟨3, ⟨⟨by decide, by decide⟩, fun _ => q0, fun _ => q1, fun _ => (by first | exact hq | trivial), by omega⟩, by decide, by omega, esc_bel _, rfl⟩
          · have q0 := p0 (by omega)
            have q1 := p1 (by omega)
            have q2 := p2 (by omega)
            cases hq : [38, 113, 117, 111, 116, 59].isPrefixOf (s.drop i) with
            | true =>
              have hL : escL (s.drop i) = some (34, 6) := by rw [escL, if_neg (by rw [q0]; decide), if_neg (by rw [q1]; decide), if_neg (by rw [q2]; decide), if_pos hq]
              have hq' := (escL_len hL).1
              rw [List.length_drop] at hq'
              repeat' (first | with_reducible (first | refine And.intro ?_ ?_ | intro _ | refine AWp_seq ?_ | refine AWp_block ?_ | (refine hKv _ _ (AWp_nop ?_); clear hKv Kv) | (refine hKA ?_; clear hKA hKB KA KB) | (refine hKB ?_; clear hKA hKB KA KB) | refine AWp_skipN ?_ | refine AWp_exitO (by repeat (first | exact Out.hit | apply Out.thenA | apply Out.out rfl)) ?_) | ((first | with_reducible (first | (refine hKv _ _ ?_; clear hKv Kv) | ((first | refine AWp_regro mu_108 ks_108 ro_108 ?_ | refine AWp_regC mu_108 ks_108 ?_ | refine AWp_draw nd_108 mu_108 ks_108 ti_mixed (by kernel_rfl) ?_ | refine AWp_regE mu_108 ks_108 ?_ | refine AWp_drawE nd_108 mu_108 ks_108 ti_mixed (by kernel_rfl) ?_); intro Kv hKv) | refine AWp_retR ?_) | refine has_A id s [38, 113, 117, 111, 116, 59] i 0 o _ _ hPr0 hob hs y2 (by decide) ?_ | refine QCall_of (has_A id s [38, 113, 117, 111, 116, 59] i 0 o _ _ hPr0 hob hs y2 (by decide) (Two_intro _ _)) ?_ | refine writeString_A H.length (H.length + 1) k u acc [34] (by omega) (by (try simp only [List.length_cons, List.length_nil]); omega) _ _ (gB _ 0 u k acc) (gU _ 0 u k acc) ?_ | refine QCall_of (writeString_A H.length (H.length + 1) k u acc [34] (by omega) (by (try simp only [List.length_cons, List.length_nil]); omega) _ _ (gB _ 0 u k acc) (gU _ 0 u k acc) (Two_intro _ _)) ?_); try simp (dsimp := false) only [go_sem, Nat.reduceAdd, Nat.reduceBEq, Nat.reduceEqDiff, Nat.reduceLT, Nat.reduceLeDiff, Nat.reduceMul, Int.reduceToNat, reduceCtorEq, ↓reduceIte, Tryd.ntmps108, Tryd.results108, ks_108, mu_108, nd_108, ro_108, ti_ag3, ti_ag9, ti_ag29, ti_ag175, ti_an175, ti_az175, ti_el174, ti_fl86_0, ti_fl86_1, ti_fl86_3, ti_hb100, ti_hb101, ti_hb102, ti_hb103, ti_hb105, ti_hb143, ti_sn174, ti_st9, ti_sz3, ti_sz174, ti_sz175, ti_zr134, ti_zr174, gR, gAs, prC, escRow, hq, gP, gA, gsP, gsB, gL, hidl, Bool.and_true, Bool.true_and, not_true_eq_false, not_false_eq_true, and_self, Int.reduceEq, Int.reduceLT, Int.reduceLE]) | (refine AWp_condC rfl ?_; intro KA KB hKA hKB; try simp only [onB_true, onB_false, onB_dec, onB_ndec, onB_not, onB_and, onB_or]) | (refine AWp_condA rfl ?_ ?_) | with_reducible (first | refine onB_of ?_ ?_ | rfl) | omega)
              all_goals first
                | omega
                | exact esc_bel _
                | exact hcl
                | exact ⟨⟨i + 6, 0, true, k + 1, acc ++ [34]⟩, hy.esc hc h38 hL, by simp; omega, rfl, by first | exact hsub _ _ _ _ _ | omega | (rw [gL]; simp (dsimp := false) only [go_sem, Nat.reduceAdd, Nat.reduceBEq, Nat.reduceEqDiff, Nat.reduceLT, Nat.reduceLeDiff, Nat.reduceMul, Int.reduceToNat, reduceCtorEq, ↓reduceIte, Tryd.ntmps108, Tryd.results108, ks_108, mu_108, nd_108, ro_108, ti_ag3, ti_ag9, ti_ag29, ti_ag175, ti_an175, ti_az175, ti_el174, ti_fl86_0, ti_fl86_1, ti_fl86_3, ti_hb100, ti_hb101, ti_hb102, ti_hb103, ti_hb105, ti_hb143, ti_sn174, ti_st9, ti_sz3, ti_sz174, ti_sz175, ti_zr134, ti_zr174, gR, gAs, prC, escRow, hq, gP, gA, gsP, gsB, gL, hidl, Bool.and_true, Bool.true_and, not_true_eq_false, not_false_eq_true, and_self, Int.reduceEq, Int.reduceLT, Int.reduceLE]; omega) | (rw [gL]; simp (dsimp := false) only [go_sem, Nat.reduceAdd, Nat.reduceBEq, Nat.reduceEqDiff, Nat.reduceLT, Nat.reduceLeDiff, Nat.reduceMul, Int.reduceToNat, reduceCtorEq, ↓reduceIte, Tryd.ntmps108, Tryd.results108, ks_108, mu_108, nd_108, ro_108, ti_ag3, ti_ag9, ti_ag29, ti_ag175, ti_an175, ti_az175, ti_el174, ti_fl86_0, ti_fl86_1, ti_fl86_3, ti_hb100, ti_hb101, ti_hb102, ti_hb103, ti_hb105, ti_hb143, ti_sn174, ti_st9, ti_sz3, ti_sz174, ti_sz175, ti_zr134, ti_zr174, gR, gAs, prC, escRow, hq, gP, gA, gsP, gsB, gL, hidl, Bool.and_true, Bool.true_and, not_true_eq_false, not_false_eq_true, and_self, Int.reduceEq, Int.reduceLT, Int.reduceLE]; done)⟩
            | false =>
              repeat' (first | with_reducible (first | refine And.intro ?_ ?_ | intro _ | refine AWp_seq ?_ | refine AWp_block ?_ | (refine hKv _ _ (AWp_nop ?_); clear hKv Kv) | (refine hKA ?_; clear hKA hKB KA KB) | (refine hKB ?_; clear hKA hKB KA KB) | refine AWp_skipN ?_ | refine AWp_exitO (by repeat (first | exact Out.hit | apply Out.thenA | apply Out.out rfl)) ?_) | ((first | with_reducible (first | (refine hKv _ _ ?_; clear hKv Kv) | ((first | refine AWp_regro mu_108 ks_108 ro_108 ?_ | refine AWp_regC mu_108 ks_108 ?_ | refine AWp_draw nd_108 mu_108 ks_108 ti_mixed (by kernel_rfl) ?_ | refine AWp_regE mu_108 ks_108 ?_ | refine AWp_drawE nd_108 mu_108 ks_108 ti_mixed (by kernel_rfl) ?_); intro Kv hKv) | refine AWp_retR ?_) | refine has_A id s [38, 113, 117, 111, 116, 59] i 0 o _ _ hPr0 hob hs y2 (by decide) ?_ | refine QCall_of (has_A id s [38, 113, 117, 111, 116, 59] i 0 o _ _ hPr0 hob hs y2 (by decide) (Two_intro _ _)) ?_); try simp (dsimp := false) only [go_sem, Nat.reduceAdd, Nat.reduceBEq, Nat.reduceEqDiff, Nat.reduceLT, Nat.reduceLeDiff, Nat.reduceMul, Int.reduceToNat, reduceCtorEq, ↓reduceIte, Tryd.ntmps108, Tryd.results108, ks_108, mu_108, nd_108, ro_108, ti_ag3, ti_ag9, ti_ag29, ti_ag175, ti_an175, ti_az175, ti_el174, ti_fl86_0, ti_fl86_1, ti_fl86_3, ti_hb100, ti_hb101, ti_hb102, ti_hb103, ti_hb105, ti_hb143, ti_sn174, ti_st9, ti_sz3, ti_sz174, ti_sz175, ti_zr134, ti_zr174, gR, gAs, prC, escRow, hq, gP, gA, gsP, gsB, gL, hidl, Bool.and_true, Bool.true_and, Bool.and_false, and_false, not_true_eq_false, not_false_eq_true, and_self, Int.reduceEq, Int.reduceLT, Int.reduceLE]) | (refine AWp_condC rfl ?_; intro KA KB hKA hKB; try simp only [onB_true, onB_false, onB_dec, onB_ndec, onB_not, onB_and, onB_or]) | (refine AWp_condA rfl ?_ ?_) | with_reducible (first | refine onB_of ?_ ?_ | rfl) | omega)
              all_goals first
                | omega
                | exact esc_bel _
                | exact hcl
                | exact ⟨4, ⟨⟨by decide, by decide⟩, fun _ => q0, fun _ => q1, fun _ => q2, fun _ => (by first | exact hq | trivial)⟩, by decide, by omega, esc_bel _, rfl⟩
          · have hL : escL (s.drop i) = none := by rw [escL, if_neg (by rw [p0 (by omega)]; decide), if_neg (by rw [p1 (by omega)]; decide), if_neg (by rw [p2 (by omega)]; decide), if_neg (by rw [p3 (by omega)]; decide)]
            repeat' (first | with_reducible (first | refine And.intro ?_ ?_ | intro _ | refine AWp_seq ?_ | refine AWp_block ?_ | (refine hKv _ _ (AWp_nop ?_); clear hKv Kv) | (refine hKA ?_; clear hKA hKB KA KB) | (refine hKB ?_; clear hKA hKB KA KB) | refine AWp_skipN ?_ | refine AWp_exitO (by repeat (first | exact Out.hit | apply Out.thenA | apply Out.out rfl)) ?_) | ((first | with_reducible (first | (refine hKv _ _ ?_; clear hKv Kv) | ((first | refine AWp_regro mu_108 ks_108 ro_108 ?_ | refine AWp_regC mu_108 ks_108 ?_ | refine AWp_draw nd_108 mu_108 ks_108 ti_mixed (by kernel_rfl) ?_ | refine AWp_regE mu_108 ks_108 ?_ | refine AWp_drawE nd_108 mu_108 ks_108 ti_mixed (by kernel_rfl) ?_); intro Kv hKv) | refine AWp_retR ?_) | refine stop_A id s i 0 4 o _ _ hPr0 hob ?_ | refine QCall_of (stop_A id s i 0 4 o _ _ hPr0 hob (Two_intro _ _)) ?_); try simp (dsimp := false) only [go_sem, Nat.reduceAdd, Nat.reduceBEq, Nat.reduceEqDiff, Nat.reduceLT, Nat.reduceLeDiff, Nat.reduceMul, Int.reduceToNat, reduceCtorEq, ↓reduceIte, Tryd.ntmps108, Tryd.results108, ks_108, mu_108, nd_108, ro_108, ti_ag3, ti_ag9, ti_ag29, ti_ag175, ti_an175, ti_az175, ti_el174, ti_fl86_0, ti_fl86_1, ti_fl86_3, ti_hb100, ti_hb101, ti_hb102, ti_hb103, ti_hb105, ti_hb143, ti_sn174, ti_st9, ti_sz3, ti_sz174, ti_sz175, ti_zr134, ti_zr174, prC, escRow, gP, gsP, gsB, gL, hidl, Bool.and_true, Bool.true_and, not_true_eq_false, not_false_eq_true, and_self, Int.reduceEq, Int.reduceLT, Int.reduceLE]) | (refine AWp_condC rfl ?_; intro KA KB hKA hKB; try simp only [onB_true, onB_false, onB_dec, onB_ndec, onB_not, onB_and, onB_or]) | (refine AWp_condA rfl ?_ ?_) | with_reducible (first | refine onB_of ?_ ?_ | rfl) | omega)
            all_goals first
              | omega
              | exact esc_bel _
              | exact hcl
              | exact ⟨⟨i, 4, u, k, acc⟩, hy.bad hc h38 hL, by simp, rfl, by first | exact hsub _ _ _ _ _ | omega⟩
        · have n1 : ((c.toNat : Int) = 38) = False := eq_false fun h => c2 (by rw [show (38 : Int) = ((38 : Nat) : Int) from rfl, byte_eq c 38 (by decide)] at h; exact h)
          repeat' (first | with_reducible (first | refine And.intro ?_ ?_ | intro _ | refine AWp_seq ?_ | refine AWp_block ?_ | (refine hKv _ _ (AWp_nop ?_); clear hKv Kv) | (refine hKA ?_; clear hKA hKB KA KB) | (refine hKB ?_; clear hKA hKB KA KB) | refine AWp_skipN ?_ | refine AWp_exitO (by repeat (first | exact Out.hit | apply Out.thenA | apply Out.out rfl)) ?_) | ((first | with_reducible (first | (refine hKv _ _ ?_; clear hKv Kv) | ((first | refine AWp_regro mu_108 ks_108 ro_108 ?_ | refine AWp_regC mu_108 ks_108 ?_ | refine AWp_draw nd_108 mu_108 ks_108 ti_mixed (by kernel_rfl) ?_ | refine AWp_regE mu_108 ks_108 ?_ | refine AWp_drawE nd_108 mu_108 ks_108 ti_mixed (by kernel_rfl) ?_); intro Kv hKv) | refine AWp_retR ?_) | refine contains_A ends [c] (by omega) _ _ ?_ | refine QCall_of (contains_A ends [c] (by omega) _ _ (Two_intro _ _)) ?_ | refine writeByte_A H.length (H.length + 1) k u acc _ c rfl (by omega) (by omega) _ _ (gB i 0 u k acc) (gU i 0 u k acc) ?_ | refine QCall_of (writeByte_A H.length (H.length + 1) k u acc _ c rfl (by omega) (by omega) _ _ (gB i 0 u k acc) (gU i 0 u k acc) (Two_intro _ _)) ?_); try simp (dsimp := false) only [go_sem, Nat.reduceAdd, Nat.reduceBEq, Nat.reduceEqDiff, Nat.reduceLT, Nat.reduceLeDiff, Nat.reduceMul, Int.reduceToNat, reduceCtorEq, ↓reduceIte, Tryd.ntmps108, Tryd.results108, ks_108, mu_108, nd_108, ro_108, ti_ag3, ti_ag9, ti_ag29, ti_ag175, ti_an175, ti_az175, ti_el174, ti_fl86_0, ti_fl86_1, ti_fl86_3, ti_hb100, ti_hb101, ti_hb102, ti_hb103, ti_hb105, ti_hb143, ti_sn174, ti_st9, ti_sz3, ti_sz174, ti_sz175, ti_zr134, ti_zr174, prC, gP, gsP, gsB, gL, ii0, ii1, ii2, ii3, hin', hc, n1, e1, hone, hEc, hidl, not_true_eq_false, not_false_eq_true, Int.reduceEq]) | (refine AWp_condC rfl ?_; intro KA KB hKA hKB; try simp only [onB_true, onB_false, onB_dec, onB_ndec, onB_not, onB_and, onB_or]) | (refine AWp_condA rfl ?_ ?_) | with_reducible (first | refine onB_of ?_ ?_ | rfl) | omega)
          all_goals first
            | omega
            | exact hcl
            | exact ⟨⟨i + 1, 0, true, k + 1, acc ++ [c]⟩, hy.plain hc c1 c2, by simp; omega, rfl, by first | exact hsub _ _ _ _ _ | omega | (rw [gL]; simp (dsimp := false) only [go_sem, Nat.reduceAdd, Nat.reduceBEq, Nat.reduceEqDiff, Nat.reduceLT, Nat.reduceLeDiff, Nat.reduceMul, Int.reduceToNat, reduceCtorEq, ↓reduceIte, Tryd.ntmps108, Tryd.results108, ks_108, mu_108, nd_108, ro_108, ti_ag3, ti_ag9, ti_ag29, ti_ag175, ti_an175, ti_az175, ti_el174, ti_fl86_0, ti_fl86_1, ti_fl86_3, ti_hb100, ti_hb101, ti_hb102, ti_hb103, ti_hb105, ti_hb143, ti_sn174, ti_st9, ti_sz3, ti_sz174, ti_sz175, ti_zr134, ti_zr174, prC, gP, gsP, gsB, gL, ii0, ii1, ii2, ii3, hin', hc, n1, e1, hone, hEc, hidl, not_true_eq_false, not_false_eq_true, Int.reduceEq]; omega) | (rw [gL]; simp (dsimp := false) only [go_sem, Nat.reduceAdd, Nat.reduceBEq, Nat.reduceEqDiff, Nat.reduceLT, Nat.reduceLeDiff, Nat.reduceMul, Int.reduceToNat, reduceCtorEq, ↓reduceIte, Tryd.ntmps108, Tryd.results108, ks_108, mu_108, nd_108, ro_108, ti_ag3, ti_ag9, ti_ag29, ti_ag175, ti_an175, ti_az175, ti_el174, ti_fl86_0, ti_fl86_1, ti_fl86_3, ti_hb100, ti_hb101, ti_hb102, ti_hb103, ti_hb105, ti_hb143, ti_sn174, ti_st9, ti_sz3, ti_sz174, ti_sz175, ti_zr134, ti_zr174, prC, gP, gsP, gsB, gL, ii0, ii1, ii2, ii3, hin', hc, n1, e1, hone, hEc, hidl, not_true_eq_false, not_false_eq_true, Int.reduceEq]; done)⟩
      · obtain ⟨k1, k2, k3⟩ := hy.end_ hin
        rw [k3, ← k1, ← k2] at hk
        have hin' : ((i : Int) < (s.length : Int)) = False := eq_false (by omega)
        have e3 : ((i : Int) = (s.length : Int)) = True := eq_true (by omega)
        repeat' (first | with_reducible (first | refine And.intro ?_ ?_ | intro _ | refine AWp_seq ?_ | refine AWp_block ?_ | (refine hKv _ _ (AWp_nop ?_); clear hKv Kv) | (refine hKA ?_; clear hKA hKB KA KB) | (refine hKB ?_; clear hKA hKB KA KB) | refine AWp_skipN ?_ | refine AWp_exitO (by repeat (first | exact Out.hit | apply Out.thenA | apply Out.out rfl)) ?_) | ((first | with_reducible (first | (refine hKv _ _ ?_; clear hKv Kv) | ((first | refine AWp_regro mu_108 ks_108 ro_108 ?_ | refine AWp_regC mu_108 ks_108 ?_ | refine AWp_draw nd_108 mu_108 ks_108 ti_mixed (by kernel_rfl) ?_ | refine AWp_regE mu_108 ks_108 ?_ | refine AWp_drawE nd_108 mu_108 ks_108 ti_mixed (by kernel_rfl) ?_); intro Kv hKv) | refine AWp_retR ?_) | refine stop_A id s i 0 5 o _ _ hPr hob ?_ | refine QCall_of (stop_A id s i 0 5 o _ _ hPr hob (Two_intro _ _)) ?_ | refine bldString_A H.length (H.length + 1) k 0 _ acc (by omega) _ _ (gB i 5 u k acc) (gU i 5 u k acc) ?_ | refine QCall_of (bldString_A H.length (H.length + 1) k 0 _ acc (by omega) _ _ (gB i 5 u k acc) (gU i 5 u k acc) (Two_intro _ _)) ?_); try simp (dsimp := false) only [go_sem, Nat.reduceAdd, Nat.reduceBEq, Nat.reduceEqDiff, Nat.reduceLT, Nat.reduceLeDiff, Nat.reduceMul, Int.reduceToNat, reduceCtorEq, ↓reduceIte, Tryd.ntmps108, Tryd.results108, ks_108, mu_108, nd_108, ro_108, ti_ag3, ti_ag9, ti_ag29, ti_ag175, ti_an175, ti_az175, ti_el174, ti_fl86_0, ti_fl86_1, ti_fl86_3, ti_hb100, ti_hb101, ti_hb102, ti_hb103, ti_hb105, ti_hb143, ti_sn174, ti_st9, ti_sz3, ti_sz174, ti_sz175, ti_zr134, ti_zr174, prC, gP, gsP, gL, gD, ii0, ii1, hin', e3, hidl, not_true_eq_false, not_false_eq_true, Int.reduceEq]) | (refine AWp_condC rfl ?_; intro KA KB hKA hKB; try simp only [onB_true, onB_false, onB_dec, onB_ndec, onB_not, onB_and, onB_or]) | (refine AWp_condA rfl ?_ ?_) | with_reducible (first | refine onB_of ?_ ?_ | rfl) | omega)
        all_goals first
          | omega
          | exact hcl
          | exact dropS hk (by simp) (closed_set (closed_self H) (prC_bel ho)) (.d _)
    · have hg4 : g = 4 := by omega
      subst hg4
      obtain ⟨k1, k2, k3⟩ := hy.h4 hg
      simp only [] at k1 k2 k3
      rw [← k3, ← k1, ← k2] at hk
      repeat' (first | with_reducible (first | refine And.intro ?_ ?_ | intro _ | refine AWp_seq ?_ | refine AWp_block ?_ | (refine hKv _ _ (AWp_nop ?_); clear hKv Kv) | (refine hKA ?_; clear hKA hKB KA KB) | (refine hKB ?_; clear hKA hKB KA KB) | refine AWp_skipN ?_ | refine AWp_exitO (by repeat (first | exact Out.hit | apply Out.thenA | apply Out.out rfl)) ?_) | ((first | with_reducible (first | (refine hKv _ _ ?_; clear hKv Kv) | ((first | refine AWp_regro mu_108 ks_108 ro_108 ?_ | refine AWp_regC mu_108 ks_108 ?_ | refine AWp_draw nd_108 mu_108 ks_108 ti_mixed (by kernel_rfl) ?_ | refine AWp_regE mu_108 ks_108 ?_ | refine AWp_drawE nd_108 mu_108 ks_108 ti_mixed (by kernel_rfl) ?_); intro Kv hKv) | refine AWp_retR ?_) | refine bldString_A H.length (H.length + 1) k 0 _ acc (by omega) _ _ (gB i 4 u k acc) (gU i 4 u k acc) ?_ | refine QCall_of (bldString_A H.length (H.length + 1) k 0 _ acc (by omega) _ _ (gB i 4 u k acc) (gU i 4 u k acc) (Two_intro _ _)) ?_); try simp (dsimp := false) only [go_sem, Nat.reduceAdd, Nat.reduceBEq, Nat.reduceEqDiff, Nat.reduceLT, Nat.reduceLeDiff, Nat.reduceMul, Int.reduceToNat, reduceCtorEq, ↓reduceIte, Tryd.ntmps108, Tryd.results108, ks_108, mu_108, nd_108, ro_108, ti_ag3, ti_ag9, ti_ag29, ti_ag175, ti_an175, ti_az175, ti_el174, ti_fl86_0, ti_fl86_1, ti_fl86_3, ti_hb100, ti_hb101, ti_hb102, ti_hb103, ti_hb105, ti_hb143, ti_sn174, ti_st9, ti_sz3, ti_sz174, ti_sz175, ti_zr134, ti_zr174, prC, gP, gsP, gL, gD, ii0, ii1, hidl, not_true_eq_false, not_false_eq_true, Int.reduceEq]) | (refine AWp_condC rfl ?_; intro KA KB hKA hKB; try simp only [onB_true, onB_false, onB_dec, onB_ndec, onB_not, onB_and, onB_or]) | (refine AWp_condA rfl ?_ ?_) | with_reducible (first | refine onB_of ?_ ?_ | rfl) | omega)
      all_goals first
        | omega
        | exact dropS hk (by simp) (closed_set (closed_self H) (prC_bel ho)) (.d _)
  · have h1 : (f = 0) = False := eq_false hf
    rw [vlOf, if_neg hf, Nat.add_zero] at hk
    refine AWp_whileP (fun _ : Unit => True) (fun _ => [(0, .pt id 0 0 0), (1, .d (.s ends)), (5, .pt H.length 0 0 0)]) (fun _ => vaH H id s o at_ f false 0 []) (fun _ => 0) () trivial ?_ ?_ ?_ ?_ ?_
    · rw [vaH, hss]
      first | rfl | (simp [bldC, bufC, selfV]; done)
    · rw [gL]
      simp (dsimp := false) only [go_sem, Nat.reduceAdd, Nat.reduceBEq, Nat.reduceEqDiff, Nat.reduceLT, Nat.reduceLeDiff, Nat.reduceMul, Int.reduceToNat, reduceCtorEq, ↓reduceIte, Tryd.ntmps108, Tryd.results108, ks_108, mu_108, nd_108, ro_108, ti_ag3, ti_ag9, ti_ag29, ti_ag175, ti_an175, ti_az175, ti_el174, ti_fl86_0, ti_fl86_1, ti_fl86_3, ti_hb100, ti_hb101, ti_hb102, ti_hb103, ti_hb105, ti_hb143, ti_sn174, ti_st9, ti_sz3, ti_sz174, ti_sz175, ti_zr134, ti_zr174, hidl]
      first | done | omega | exact ⟨hidl, by omega⟩ | (simp; omega)
    · intro y _
      rw [gL]; omega
    · intro y _
      exact gC _ _ _ _ _
    rintro ⟨⟩ _
    repeat' (first | with_reducible (first | refine And.intro ?_ ?_ | intro _ | refine AWp_seq ?_ | refine AWp_block ?_ | (refine hKv _ _ (AWp_nop ?_); clear hKv Kv) | (refine hKA ?_; clear hKA hKB KA KB) | (refine hKB ?_; clear hKA hKB KA KB) | refine AWp_skipN ?_ | refine AWp_exitO (by repeat (first | exact Out.hit | apply Out.thenA | apply Out.out rfl)) ?_) | ((first | with_reducible (first | (refine hKv _ _ ?_; clear hKv Kv) | ((first | refine AWp_regro mu_108 ks_108 ro_108 ?_ | refine AWp_regC mu_108 ks_108 ?_ | refine AWp_draw nd_108 mu_108 ks_108 ti_mixed (by kernel_rfl) ?_ | refine AWp_regE mu_108 ks_108 ?_ | refine AWp_drawE nd_108 mu_108 ks_108 ti_mixed (by kernel_rfl) ?_); intro Kv hKv) | refine AWp_retR ?_) | refine bldString_A H.length (H.length + 1) 0 0 _ [] (by decide) _ _ (gB at_ f false 0 []) (gU at_ f false 0 []) ?_ | refine QCall_of (bldString_A H.length (H.length + 1) 0 0 _ [] (by decide) _ _ (gB at_ f false 0 []) (gU at_ f false 0 []) (Two_intro _ _)) ?_); try simp (dsimp := false) only [go_sem, Nat.reduceAdd, Nat.reduceBEq, Nat.reduceEqDiff, Nat.reduceLT, Nat.reduceLeDiff, Nat.reduceMul, Int.reduceToNat, reduceCtorEq, ↓reduceIte, Tryd.ntmps108, Tryd.results108, ks_108, mu_108, nd_108, ro_108, ti_ag3, ti_ag9, ti_ag29, ti_ag175, ti_an175, ti_az175, ti_el174, ti_fl86_0, ti_fl86_1, ti_fl86_3, ti_hb100, ti_hb101, ti_hb102, ti_hb103, ti_hb105, ti_hb143, ti_sn174, ti_st9, ti_sz3, ti_sz174, ti_sz175, ti_zr134, ti_zr174, prC, gP, gsP, gL, gD, h1, hidl, not_true_eq_false, not_false_eq_true]) | (refine AWp_condC rfl ?_; intro KA KB hKA hKB; try simp only [onB_true, onB_false, onB_dec, onB_ndec, onB_not, onB_and, onB_or]) | (refine AWp_condA rfl ?_ ?_) | with_reducible (first | refine onB_of ?_ ?_ | rfl) | omega)
    all_goals first
      | omega
      | exact dropS hk (by simp) (closed_set (closed_self H) (prC_bel ho)) (.d _)
end Go.Proofs.YtjghnaohlfgloaaDoor
