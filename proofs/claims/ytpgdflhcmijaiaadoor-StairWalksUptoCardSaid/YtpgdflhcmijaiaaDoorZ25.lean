/- Steps from nodes: looking a list over, copying it, comparing two. No condition. -/
import Derived.Test.YtpgdflhcmijaiaaDoorZ23
import Derived.Test.YtpgdflhcmijaiaaDoorZ24
import Derived.Test.YtpgdflhcmijaiaaDoorZ19
set_option linter.all false
set_option linter.unusedSimpArgs false
set_option linter.unusedVariables false
namespace Go.Proofs.YtpgdflhcmijaiaaDoor
open Go Go.Proofs.YtpgdflhcmijaiaaDoor.Ab
variable [Glo]
set_option maxHeartbeats 4000000
set_option maxRecDepth 20000
def zR (z : Int) : List D := [.i .i64 z]
def badB (l : List Nd) (z : Int) : Bool := decide (z < 0) || decide ((l.length : Int) ≤ z)
def ks_42 : Nat → List Nat
  | 0 => [0, 1]
  | 1 => [3]
  | _ => []
def mu_42 : List Nat := []
def in_42 : List Nat := [0, 1]
theorem walk1_A (l : List Nd) (z : Int) (H : Heap) (K : V → Heap → Prop) (hk : K (.d (.b (badB l z))) H) : ACalls Tryd.prog 42 [.d (.i .i64 z), .rp [.sl 6 (l.map ndD)]] H K := by
  unfold badB at hk
  by_cases h : z < 0
  · have h' : (z < 0) = True := eq_true h
    rw [decide_eq_true h, Bool.true_or] at hk
    refine ACalls_of Tryd.func42 rfl in_42 (Nat.le_of_ble_eq_true rfl) ?_
    intro F hF
    simp (dsimp := false) only [go_sem, Nat.reduceAdd, Nat.reduceBEq, Nat.reduceEqDiff, Nat.reduceLT, Nat.reduceLeDiff, Nat.reduceMul, Int.reduceToNat, reduceCtorEq, ↓reduceIte, Tryd.ntmps42, Tryd.results42, ks_42, mu_42, ti_ag34, ti_sb34, ndD, ndV, h', not_true_eq_false, in_42] at hF
    subst hF
    repeat' (first | with_reducible (first | refine And.intro ?_ ?_ | intro _ | refine AWp_seq ?_ | refine AWp_block ?_ | (refine hKv _ _ (AWp_nop ?_); clear hKv Kv) | (refine hKA ?_; clear hKA hKB KA KB) | (refine hKB ?_; clear hKA hKB KA KB) | refine AWp_skipN ?_ | refine AWp_exitO (by repeat (first | exact Out.hit | apply Out.thenA | apply Out.out rfl)) ?_) | (with_reducible (first | (refine hKv _ _ ?_; clear hKv Kv) | ((first | refine AWp_regC mu_42 ks_42 ?_ | refine AWp_regE mu_42 ks_42 ?_); intro Kv hKv) | refine AWp_retR ?_); try simp (dsimp := false) only [go_sem, Nat.reduceAdd, Nat.reduceBEq, Nat.reduceEqDiff, Nat.reduceLT, Nat.reduceLeDiff, Nat.reduceMul, Int.reduceToNat, reduceCtorEq, ↓reduceIte, Tryd.ntmps42, Tryd.results42, ks_42, mu_42, ti_ag34, ti_sb34, ndD, ndV, h', not_true_eq_false]) | (refine AWp_condC rfl ?_; intro KA KB hKA hKB; try simp only [onB_true, onB_false, onB_dec, onB_ndec, onB_not, onB_and, onB_or]) | (refine AWp_condA rfl ?_ ?_) | with_reducible (first | refine onB_of ?_ ?_ | rfl) | omega)
    all_goals first
      | omega
      | exact keepD hk rfl
  · have h' : (z < 0) = False := eq_false h
    rw [decide_eq_false h, Bool.false_or] at hk
    refine ACalls_of Tryd.func42 rfl in_42 (Nat.le_of_ble_eq_true rfl) ?_
    intro F hF
    simp (dsimp := false) only [go_sem, Nat.reduceAdd, Nat.reduceBEq, Nat.reduceEqDiff, Nat.reduceLT, Nat.reduceLeDiff, Nat.reduceMul, Int.reduceToNat, reduceCtorEq, ↓reduceIte, Tryd.ntmps42, Tryd.results42, ks_42, mu_42, ti_ag34, ti_sb34, ndD, ndV, h', not_false_eq_true, in_42] at hF
    subst hF
    repeat' (first | with_reducible (first | refine And.intro ?_ ?_ | intro _ | refine AWp_seq ?_ | refine AWp_block ?_ | (refine hKv _ _ (AWp_nop ?_); clear hKv Kv) | (refine hKA ?_; clear hKA hKB KA KB) | (refine hKB ?_; clear hKA hKB KA KB) | refine AWp_skipN ?_ | refine AWp_exitO (by repeat (first | exact Out.hit | apply Out.thenA | apply Out.out rfl)) ?_) | (with_reducible (first | (refine hKv _ _ ?_; clear hKv Kv) | ((first | refine AWp_regC mu_42 ks_42 ?_ | refine AWp_regE mu_42 ks_42 ?_); intro Kv hKv) | refine AWp_retR ?_); try simp (dsimp := false) only [go_sem, Nat.reduceAdd, Nat.reduceBEq, Nat.reduceEqDiff, Nat.reduceLT, Nat.reduceLeDiff, Nat.reduceMul, Int.reduceToNat, reduceCtorEq, ↓reduceIte, Tryd.ntmps42, Tryd.results42, ks_42, mu_42, ti_ag34, ti_sb34, ndD, ndV, h', not_false_eq_true]) | (refine AWp_condC rfl ?_; intro KA KB hKA hKB; try simp only [onB_true, onB_false, onB_dec, onB_ndec, onB_not, onB_and, onB_or]) | (refine AWp_condA rfl ?_ ?_) | with_reducible (first | refine onB_of ?_ ?_ | rfl) | omega)
    all_goals first
      | omega
      | exact keepD hk rfl
def ks_73 : Nat → List Nat
  | 0 => [0, 1]
  | 1 => [0, 1, 7, 8]
  | 2 => [0, 1, 7, 8, 9]
  | 3 => [0, 1, 5, 7, 8]
  | 4 => [0, 1, 5, 7, 8, 16]
  | 5 => [4]
  | 6 => [0, 1, 7, 8]
  | 7 => [4]
  | _ => []
def mu_73 : List Nat := []
def in_73 : List Nat := [0, 1]
theorem idxBad_A (l : List Nd) (zs : List Int) (hzl : zs.length ≤ 9223372036854775807) (H : Heap) (K : V → Heap → Prop) (hk1 : zs.any (badB l) = false → K (.d (.i .i64 (-1))) H) (hk2 : ∀ i : Nat, zs.any (badB l) = true → K (.d (.i .i64 i)) H) : ACalls Tryd.prog 73 [.d (.sl 1 (zs.map zR)), .fn 42 [.rp [.sl 6 (l.map ndD)]]] H K := by
  have hhb : hasBody Tryd.prog 42 = true := by first | rfl | kernel_rfl
  refine ACalls_of Tryd.func73 rfl in_73 (Nat.le_of_ble_eq_true rfl) ?_
  intro F hF
  simp (dsimp := false) only [go_sem, Nat.reduceAdd, Nat.reduceBEq, Nat.reduceEqDiff, Nat.reduceLT, Nat.reduceLeDiff, Nat.reduceMul, Int.reduceToNat, reduceCtorEq, ↓reduceIte, Tryd.ntmps73, Tryd.results73, ks_73, mu_73, ti_ag3, ti_sb35, ti_sl35, zR, hhb, in_73] at hF
  subst hF
  repeat' (first | with_reducible (first | refine And.intro ?_ ?_ | intro _ | refine AWp_seq ?_ | refine AWp_block ?_ | (refine hKv _ _ (AWp_nop ?_); clear hKv Kv) | (refine hKA ?_; clear hKA hKB KA KB) | (refine hKB ?_; clear hKA hKB KA KB) | refine AWp_skipN ?_ | refine AWp_exitO (by repeat (first | exact Out.hit | apply Out.thenA | apply Out.out rfl)) ?_) | (with_reducible (first | (refine hKv _ _ ?_; clear hKv Kv) | ((first | refine AWp_regC mu_73 ks_73 ?_ | refine AWp_regE mu_73 ks_73 ?_); intro Kv hKv) | refine AWp_retR ?_); try simp (dsimp := false) only [go_sem, Nat.reduceAdd, Nat.reduceBEq, Nat.reduceEqDiff, Nat.reduceLT, Nat.reduceLeDiff, Nat.reduceMul, Int.reduceToNat, reduceCtorEq, ↓reduceIte, Tryd.ntmps73, Tryd.results73, ks_73, mu_73, ti_ag3, ti_sb35, ti_sl35, zR, hhb]) | (refine AWp_condC rfl ?_; intro KA KB hKA hKB; try simp only [onB_true, onB_false, onB_dec, onB_ndec, onB_not, onB_and, onB_or]) | (refine AWp_condA rfl ?_ ?_) | with_reducible (first | refine onB_of ?_ ?_ | rfl) | omega)
  refine AWp_while0 (fun i : Nat => i ≤ zs.length ∧ (zs.take i).any (badB l) = false) (fun i => [(0, .d (.sl 1 (zs.map zR))), (1, .fn 42 [.rp [.sl 6 (l.map ndD)]]), (7, .d (.i .i64 zs.length)), (8, .d (.i .i64 i))]) (fun i => zs.length - i) 0 ⟨Nat.zero_le _, by simp⟩ ?_ ?_
  · simp (dsimp := false) only [go_sem, Nat.reduceAdd, Nat.reduceBEq, Nat.reduceEqDiff, Nat.reduceLT, Nat.reduceLeDiff, Nat.reduceMul, Int.reduceToNat, reduceCtorEq, ↓reduceIte, Tryd.ntmps73, Tryd.results73, ks_73, mu_73, ti_ag3, ti_sb35, ti_sl35, zR, hhb]
    first | done | (simp; done) | (simp [Bel]; done) | (intro v hv; rw [List.mem_singleton.1 hv]; exact .rp _)
  rintro i ⟨hi, ha⟩
  by_cases hiN : i < zs.length
  · obtain ⟨z, hz⟩ : ∃ z, zs[i]? = some z := ⟨zs[i], List.getElem?_eq_getElem hiN⟩
    have i1 : ((i : Int) < (zs.length : Int)) = True := eq_true (by omega)
    have i0 : ((0 : Int) ≤ (i : Int)) = True := eq_true (by omega)
    have htk := take_of_get hz
    have ei : (i : Int) + 1 = ((i + 1 : Nat) : Int) := by omega
    cases hb : badB l z with
    | true =>
      have hall : zs.any (badB l) = true := List.any_eq_true.2 ⟨z, List.mem_of_getElem? hz, hb⟩
      have hk := hk2 i hall
      have hc := fun H K hk => walk1_A l z H K hk
      rw [hb] at hc
      repeat' (first | with_reducible (first | refine And.intro ?_ ?_ | intro _ | refine AWp_seq ?_ | refine AWp_block ?_ | (refine hKv _ _ (AWp_nop ?_); clear hKv Kv) | (refine hKA ?_; clear hKA hKB KA KB) | (refine hKB ?_; clear hKA hKB KA KB) | refine AWp_skipN ?_ | refine AWp_exitO (by repeat (first | exact Out.hit | apply Out.thenA | apply Out.out rfl)) ?_) | ((first | with_reducible (first | (refine hKv _ _ ?_; clear hKv Kv) | ((first | refine AWp_regC mu_73 ks_73 ?_ | refine AWp_regE mu_73 ks_73 ?_); intro Kv hKv) | refine AWp_retR ?_) | refine hc _ _ ?_); try simp (dsimp := false) only [go_sem, Nat.reduceAdd, Nat.reduceBEq, Nat.reduceEqDiff, Nat.reduceLT, Nat.reduceLeDiff, Nat.reduceMul, Int.reduceToNat, reduceCtorEq, ↓reduceIte, Tryd.ntmps73, Tryd.results73, ks_73, mu_73, ti_ag3, ti_sb35, ti_sl35, zR, hhb, hz, i0, i1, ei]) | (refine AWp_condC rfl ?_; intro KA KB hKA hKB; try simp only [onB_true, onB_false, onB_dec, onB_ndec, onB_not, onB_and, onB_or]) | (refine AWp_condA rfl ?_ ?_) | with_reducible (first | refine onB_of ?_ ?_ | rfl) | omega)
      all_goals first
        | omega
        | exact keepD hk rfl
    | false =>
      have hc := fun H K hk => walk1_A l z H K hk
      rw [hb] at hc
      have hnx : (zs.take (i + 1)).any (badB l) = false := by rw [htk, List.any_append, ha]; simp [hb]
      repeat' (first | with_reducible (first | refine And.intro ?_ ?_ | intro _ | refine AWp_seq ?_ | refine AWp_block ?_ | (refine hKv _ _ (AWp_nop ?_); clear hKv Kv) | (refine hKA ?_; clear hKA hKB KA KB) | (refine hKB ?_; clear hKA hKB KA KB) | refine AWp_skipN ?_ | refine AWp_exitO (by repeat (first | exact Out.hit | apply Out.thenA | apply Out.out rfl)) ?_) | ((first | with_reducible (first | (refine hKv _ _ ?_; clear hKv Kv) | ((first | refine AWp_regC mu_73 ks_73 ?_ | refine AWp_regE mu_73 ks_73 ?_); intro Kv hKv) | refine AWp_retR ?_) | refine hc _ _ ?_); try simp (dsimp := false) only [go_sem, Nat.reduceAdd, Nat.reduceBEq, Nat.reduceEqDiff, Nat.reduceLT, Nat.reduceLeDiff, Nat.reduceMul, Int.reduceToNat, reduceCtorEq, ↓reduceIte, Tryd.ntmps73, Tryd.results73, ks_73, mu_73, ti_ag3, ti_sb35, ti_sl35, zR, hhb, hz, i0, i1, ei]) | (refine AWp_condC rfl ?_; intro KA KB hKA hKB; try simp only [onB_true, onB_false, onB_dec, onB_ndec, onB_not, onB_and, onB_or]) | (refine AWp_condA rfl ?_ ?_) | with_reducible (first | refine onB_of ?_ ?_ | rfl) | omega)
      all_goals first
        | omega
        | exact ⟨i + 1, ⟨by omega, hnx⟩, by omega, by (repeat' (refine And.intro ?_ ?_)) <;> first | rfl | omega | (simp; done) | (simp [Bel]; done) | (intro v hv; rw [List.mem_singleton.1 hv]; exact .rp _)⟩
  · obtain rfl : i = zs.length := by omega
    rw [List.take_length] at ha
    have hk := hk1 ha
    have i1 : ((zs.length : Int) < (zs.length : Int)) = False := eq_false (by omega)
    repeat' (first | with_reducible (first | refine And.intro ?_ ?_ | intro _ | refine AWp_seq ?_ | refine AWp_block ?_ | (refine hKv _ _ (AWp_nop ?_); clear hKv Kv) | (refine hKA ?_; clear hKA hKB KA KB) | (refine hKB ?_; clear hKA hKB KA KB) | refine AWp_skipN ?_ | refine AWp_exitO (by repeat (first | exact Out.hit | apply Out.thenA | apply Out.out rfl)) ?_) | (with_reducible (first | (refine hKv _ _ ?_; clear hKv Kv) | ((first | refine AWp_regC mu_73 ks_73 ?_ | refine AWp_regE mu_73 ks_73 ?_); intro Kv hKv) | refine AWp_retR ?_); try simp (dsimp := false) only [go_sem, Nat.reduceAdd, Nat.reduceBEq, Nat.reduceEqDiff, Nat.reduceLT, Nat.reduceLeDiff, Nat.reduceMul, Int.reduceToNat, reduceCtorEq, ↓reduceIte, Tryd.ntmps73, Tryd.results73, ks_73, mu_73, ti_ag3, ti_sb35, ti_sl35, zR, hhb, i1]) | (refine AWp_condC rfl ?_; intro KA KB hKA hKB; try simp only [onB_true, onB_false, onB_dec, onB_ndec, onB_not, onB_and, onB_or]) | (refine AWp_condA rfl ?_ ?_) | with_reducible (first | refine onB_of ?_ ?_ | rfl) | omega)
    all_goals first
      | omega
      | exact keepD hk rfl
def ks_41 : Nat → List Nat
  | 0 => [0, 1]
  | 1 => [4]
  | _ => []
def mu_41 : List Nat := []
def in_41 : List Nat := [0, 1]
theorem hasBad_A (l : List Nd) (zs : List Int) (hzl : zs.length ≤ 9223372036854775807) (H : Heap) (K : V → Heap → Prop) (hk : K (.d (.b (zs.any (badB l)))) H) : ACalls Tryd.prog 41 [.d (.sl 1 (zs.map zR)), .fn 42 [.rp [.sl 6 (l.map ndD)]]] H K := by
  cases hb : zs.any (badB l) with
  | true =>
    rw [hb] at hk
    have hc : ∀ (H : Heap) K, (∀ i : Nat, K (.d (.i .i64 i)) H) → ACalls Tryd.prog 73 [.d (.sl 1 (zs.map zR)), .fn 42 [.rp [.sl 6 (l.map ndD)]]] H K := fun H K hk => idxBad_A l zs hzl H K (fun h => by rw [hb] at h; cases h) (fun i _ => hk i)
    have i0 : ∀ i : Nat, ((0 : Int) ≤ (i : Int)) = True := fun i => eq_true (by omega)
    refine ACalls_of Tryd.func41 rfl in_41 (Nat.le_of_ble_eq_true rfl) ?_
    intro F hF
    simp (dsimp := false) only [go_sem, Nat.reduceAdd, Nat.reduceBEq, Nat.reduceEqDiff, Nat.reduceLT, Nat.reduceLeDiff, Nat.reduceMul, Int.reduceToNat, reduceCtorEq, ↓reduceIte, Tryd.ntmps41, Tryd.results41, ks_41, mu_41, ti_hb73, zR, i0, in_41] at hF
    subst hF
    repeat' (first | with_reducible (first | refine And.intro ?_ ?_ | intro _ | refine AWp_seq ?_ | refine AWp_block ?_ | (refine hKv _ _ (AWp_nop ?_); clear hKv Kv) | (refine hKA ?_; clear hKA hKB KA KB) | (refine hKB ?_; clear hKA hKB KA KB) | refine AWp_skipN ?_ | refine AWp_exitO (by repeat (first | exact Out.hit | apply Out.thenA | apply Out.out rfl)) ?_) | ((first | with_reducible (first | (refine hKv _ _ ?_; clear hKv Kv) | ((first | refine AWp_regC mu_41 ks_41 ?_ | refine AWp_regE mu_41 ks_41 ?_); intro Kv hKv) | refine AWp_retR ?_) | refine hc _ _ ?_); try simp (dsimp := false) only [go_sem, Nat.reduceAdd, Nat.reduceBEq, Nat.reduceEqDiff, Nat.reduceLT, Nat.reduceLeDiff, Nat.reduceMul, Int.reduceToNat, reduceCtorEq, ↓reduceIte, Tryd.ntmps41, Tryd.results41, ks_41, mu_41, ti_hb73, zR, i0]) | (refine AWp_condC rfl ?_; intro KA KB hKA hKB; try simp only [onB_true, onB_false, onB_dec, onB_ndec, onB_not, onB_and, onB_or]) | (refine AWp_condA rfl ?_ ?_) | with_reducible (first | refine onB_of ?_ ?_ | rfl) | omega)
    all_goals first
      | omega
      | exact keepD hk rfl
  | false =>
    rw [hb] at hk
    have hc : ∀ (H : Heap) K, K (.d (.i .i64 (-1))) H → ACalls Tryd.prog 73 [.d (.sl 1 (zs.map zR)), .fn 42 [.rp [.sl 6 (l.map ndD)]]] H K := fun H K hk => idxBad_A l zs hzl H K (fun _ => hk) (fun i h => by rw [hb] at h; cases h)
    have i0 : ((0 : Int) ≤ -1) = False := eq_false (by decide)
    refine ACalls_of Tryd.func41 rfl in_41 (Nat.le_of_ble_eq_true rfl) ?_
    intro F hF
    simp (dsimp := false) only [go_sem, Nat.reduceAdd, Nat.reduceBEq, Nat.reduceEqDiff, Nat.reduceLT, Nat.reduceLeDiff, Nat.reduceMul, Int.reduceToNat, reduceCtorEq, ↓reduceIte, Tryd.ntmps41, Tryd.results41, ks_41, mu_41, ti_hb73, zR, i0, in_41] at hF
    subst hF
    repeat' (first | with_reducible (first | refine And.intro ?_ ?_ | intro _ | refine AWp_seq ?_ | refine AWp_block ?_ | (refine hKv _ _ (AWp_nop ?_); clear hKv Kv) | (refine hKA ?_; clear hKA hKB KA KB) | (refine hKB ?_; clear hKA hKB KA KB) | refine AWp_skipN ?_ | refine AWp_exitO (by repeat (first | exact Out.hit | apply Out.thenA | apply Out.out rfl)) ?_) | ((first | with_reducible (first | (refine hKv _ _ ?_; clear hKv Kv) | ((first | refine AWp_regC mu_41 ks_41 ?_ | refine AWp_regE mu_41 ks_41 ?_); intro Kv hKv) | refine AWp_retR ?_) | refine hc _ _ ?_); try simp (dsimp := false) only [go_sem, Nat.reduceAdd, Nat.reduceBEq, Nat.reduceEqDiff, Nat.reduceLT, Nat.reduceLeDiff, Nat.reduceMul, Int.reduceToNat, reduceCtorEq, ↓reduceIte, Tryd.ntmps41, Tryd.results41, ks_41, mu_41, ti_hb73, zR, i0]) | (refine AWp_condC rfl ?_; intro KA KB hKA hKB; try simp only [onB_true, onB_false, onB_dec, onB_ndec, onB_not, onB_and, onB_or]) | (refine AWp_condA rfl ?_ ?_) | with_reducible (first | refine onB_of ?_ ?_ | rfl) | omega)
    all_goals first
      | omega
      | exact keepD hk rfl
theorem zR_cells (zs : List Int) : (zs.map zR).map (fun r => r.map V.d) = zs.map icell := by rw [List.map_map]; rfl
theorem zcells_bel (m v e : Nat) (zs : List Int) : ObBel m (.row v e 1 (zs.map icell)) := by
  intro row hr v hv
  obtain ⟨z, _, rfl⟩ := List.mem_map.1 hr
  rw [List.mem_singleton.1 hv]
  exact .d _
def ks_43 : Nat → List Nat
  | 0 => [0]
  | 1 => [0, 4]
  | 2 => [2]
  | 3 => [2]
  | _ => []
def mu_43 : List Nat := [2, 5]
def in_43 : List Nat := [0]
theorem cloneI_A (zs : List Int) (hlen : zs.length * 8 ≤ 140737488355328) (H : Heap) (K : V → Heap → Prop) (hk : K (.os (H.length + 1) 1) (H ++ [.row 0 3 1 [], .row 1 3 1 (zs.map icell)])) : ACalls Tryd.prog 43 [.d (.sl 1 (zs.map zR))] H K := by
  have hc : Closed H (H ++ [.row 0 3 1 [], .row 1 3 1 (zs.map icell)]) := closed_app fun ob hob => by
    simp only [List.mem_cons, List.not_mem_nil, or_false] at hob
    rcases hob with rfl | rfl
    · exact zcells_bel _ _ _ []
    · exact zcells_bel _ _ _ _
  cases zs with
  | nil =>
    refine ACalls_of Tryd.func43 rfl in_43 (Nat.le_of_ble_eq_true rfl) ?_
    intro F hF
    simp (dsimp := false) only [go_sem, Nat.reduceAdd, Nat.reduceBEq, Nat.reduceEqDiff, Nat.reduceLT, Nat.reduceLeDiff, Nat.reduceMul, Int.reduceToNat, reduceCtorEq, ↓reduceIte, Tryd.ntmps43, Tryd.results43, ks_43, mu_43, ti_sb35, ti_sl35, in_43] at hF
    subst hF
    repeat' (first | (refine AWp_bump 2 (H.length + 1) 0 rfl ((get_appk _ _ 1).trans rfl) ?_) | with_reducible (first | refine And.intro ?_ ?_ | intro _ | refine AWp_seq ?_ | refine AWp_block ?_ | (refine hKv _ _ (AWp_nop ?_); clear hKv Kv) | (refine hKA ?_; clear hKA hKB KA KB) | (refine hKB ?_; clear hKA hKB KA KB) | refine AWp_skipN ?_ | refine AWp_exitO (by repeat (first | exact Out.hit | apply Out.thenA | apply Out.out rfl)) ?_) | (with_reducible (first | (refine hKv _ _ ?_; clear hKv Kv) | ((first | refine AWp_regC mu_43 ks_43 ?_ | refine AWp_regE mu_43 ks_43 ?_); intro Kv hKv) | refine AWp_retR ?_); try simp (dsimp := false) only [go_sem, Nat.reduceAdd, Nat.reduceBEq, Nat.reduceEqDiff, Nat.reduceLT, Nat.reduceLeDiff, Nat.reduceMul, Int.reduceToNat, reduceCtorEq, ↓reduceIte, Tryd.ntmps43, Tryd.results43, ks_43, mu_43, ti_sb35, ti_sl35]) | (refine AWp_condC rfl ?_; intro KA KB hKA hKB; try simp only [onB_true, onB_false, onB_dec, onB_ndec, onB_not, onB_and, onB_or]) | (refine AWp_condA rfl ?_ ?_) | with_reducible (first | refine onB_of ?_ ?_ | rfl) | omega)
    all_goals first
      | omega
      | exact keepS hk (by simp) hc (.os _ _ (by simp))
  | cons z zs =>
    simp only [List.length_cons] at hlen
    have hzc := zR_cells (z :: zs)
    refine ACalls_of Tryd.func43 rfl in_43 (Nat.le_of_ble_eq_true rfl) ?_
    intro F hF
    simp (dsimp := false) only [go_sem, Nat.reduceAdd, Nat.reduceBEq, Nat.reduceEqDiff, Nat.reduceLT, Nat.reduceLeDiff, Nat.reduceMul, Int.reduceToNat, reduceCtorEq, ↓reduceIte, Tryd.ntmps43, Tryd.results43, ks_43, mu_43, ti_sb35, ti_sl35, hzc, in_43] at hF
    subst hF
    repeat' (first | with_reducible (first | refine And.intro ?_ ?_ | intro _ | refine AWp_seq ?_ | refine AWp_block ?_ | (refine hKv _ _ (AWp_nop ?_); clear hKv Kv) | (refine hKA ?_; clear hKA hKB KA KB) | (refine hKB ?_; clear hKA hKB KA KB) | refine AWp_skipN ?_ | refine AWp_exitO (by repeat (first | exact Out.hit | apply Out.thenA | apply Out.out rfl)) ?_) | (with_reducible (first | (refine hKv _ _ ?_; clear hKv Kv) | ((first | refine AWp_regC mu_43 ks_43 ?_ | refine AWp_regE mu_43 ks_43 ?_); intro Kv hKv) | refine AWp_retR ?_); try simp (dsimp := false) only [go_sem, Nat.reduceAdd, Nat.reduceBEq, Nat.reduceEqDiff, Nat.reduceLT, Nat.reduceLeDiff, Nat.reduceMul, Int.reduceToNat, reduceCtorEq, ↓reduceIte, Tryd.ntmps43, Tryd.results43, ks_43, mu_43, ti_sb35, ti_sl35, hzc]) | (refine AWp_condC rfl ?_; intro KA KB hKA hKB; try simp only [onB_true, onB_false, onB_dec, onB_ndec, onB_not, onB_and, onB_or]) | (refine AWp_condA rfl ?_ ?_) | with_reducible (first | refine onB_of ?_ ?_ | rfl) | omega)
    all_goals first
      | omega
      | exact keepS hk (by simp) hc (.os _ _ (by simp))
      | (show RetK H K (V.os (H.length + 1) 1) (H ++ [Ob.row 0 3 1 [], Ob.row 1 3 1 (((z :: zs).map zR).map fun r => r.map V.d)]); rw [hzc]; exact keepS hk (by simp) hc (.os _ _ (by simp)))
end Go.Proofs.YtpgdflhcmijaiaaDoor
namespace Go.Proofs.YtpgdflhcmijaiaaDoor
open Go Go.Proofs.YtpgdflhcmijaiaaDoor.Ab
variable [Glo] [U8]
set_option maxHeartbeats 4000000
set_option maxRecDepth 20000
def Short (l : List Nd) : Prop := ∀ x, x ∈ l → x.nm.length ≤ 9223372036854775807 ∧ x.vl.length ≤ 9223372036854775807
theorem Short.get {l : List Nd} (h : Short l) {i : Nat} {x : Nd} (hx : l[i]? = some x) : x.nm.length ≤ 9223372036854775807 ∧ x.vl.length ≤ 9223372036854775807 := h x (List.mem_of_getElem? hx)
def ks_72 : Nat → List Nat
  | 0 => [0, 1]
  | 1 => [0, 1, 5]
  | 2 => [0, 1, 5, 40]
  | 3 => [4]
  | 4 => [0, 1, 5, 6]
  | 5 => [0, 1, 5, 69]
  | 6 => [4]
  | 7 => [0, 1, 5, 7]
  | 8 => [0, 1, 5, 92]
  | 9 => [4]
  | 10 => [0, 1, 5, 95]
  | 11 => [4]
  | 12 => [0, 1, 5, 112]
  | 13 => [4]
  | 14 => [1, 5, 8]
  | 15 => [4]
  | _ => []
def mu_72 : List Nat := []
def in_72 : List Nat := [0, 1]
def ro_72 : Nat → List Nat
  | 1 => [5]
  | 14 => [8]
  | _ => []
theorem sound_A (l : List Nd) (i : Nat) (n : Nd) (hn : l[i]? = some n) (hN : l.length ≤ 100000) (hS : Short l) (hg : Good l i) (H : Heap) (K : V → Heap → Prop) (hk : K (.d (.b (soundB l i n (gd l n.up)))) H) :
    ACalls Tryd.prog 72 [.d (.sl 6 (l.map ndD)), .d (.i .i64 i)] H K := by
  have hi := lt_of_get hn
  obtain ⟨s1, s2⟩ := hS.get hn
  refine ACalls_of Tryd.func72 rfl in_72 (Nat.le_of_ble_eq_true rfl) ?_
  intro F hF
  simp (dsimp := false) only [go_sem, Nat.reduceAdd, Nat.reduceBEq, Nat.reduceEqDiff, Nat.reduceLT, Nat.reduceLeDiff, Nat.reduceMul, Int.reduceToNat, reduceCtorEq, ↓reduceIte, Tryd.ntmps72, Tryd.results72, ks_72, mu_72, ro_72, ti_ag3, ti_ag9, ti_ag101, ti_bo4, ti_fl101_0, ti_fl101_1, ti_fl101_2, ti_fl101_3, ti_fl101_4, ti_fl101_5, ti_hb83, ti_hb93, ti_sb34, ti_sl34, ti_sz101, ti_zr101, itD, itV, ndD, ndV, in_72] at hF
  subst hF
  repeat' (first | with_reducible (first | refine And.intro ?_ ?_ | intro _ | refine AWp_seq ?_ | refine AWp_block ?_ | (refine hKv _ _ (AWp_nop ?_); clear hKv Kv) | (refine hKA ?_; clear hKA hKB KA KB) | (refine hKB ?_; clear hKA hKB KA KB) | refine AWp_skipN ?_ | refine AWp_exitO (by repeat (first | exact Out.hit | apply Out.thenA | apply Out.out rfl)) ?_) | ((first | with_reducible (first | (refine hKv _ _ ?_; clear hKv Kv) | ((first | refine AWp_regro mu_72 ks_72 ro_72 ?_ | refine AWp_regC mu_72 ks_72 ?_ | refine AWp_regE mu_72 ks_72 ?_); intro Kv hKv) | refine AWp_retR ?_) | refine checkName_A _ (hS.get (by assumption)).1 _ _ ?_ | refine checkText_A _ (hS.get (by assumption)).2 _ _ ?_); try simp (dsimp := false) only [go_sem, Nat.reduceAdd, Nat.reduceBEq, Nat.reduceEqDiff, Nat.reduceLT, Nat.reduceLeDiff, Nat.reduceMul, Int.reduceToNat, reduceCtorEq, ↓reduceIte, Tryd.ntmps72, Tryd.results72, ks_72, mu_72, ro_72, ti_ag3, ti_ag9, ti_ag101, ti_bo4, ti_fl101_0, ti_fl101_1, ti_fl101_2, ti_fl101_3, ti_fl101_4, ti_fl101_5, ti_hb83, ti_hb93, ti_sb34, ti_sl34, ti_sz101, ti_zr101, itD, itV, ndD, ndV]) | (refine AWp_condC rfl ?_; intro KA KB hKA hKB; try simp only [onB_true, onB_false, onB_dec, onB_ndec, onB_not, onB_and, onB_or]) | (refine AWp_condA rfl ?_ ?_) | with_reducible (first | refine onB_of ?_ ?_ | rfl) | omega)
  all_goals try (have e1 := Option.some.inj (hn.symm.trans ‹l[i]? = some _›); subst e1)
  all_goals try have e2 := gd_of_get' ‹l[Int.toNat _]? = some _›
  all_goals try (have b := good_bd' hg (j := n.up) (by omega) (by omega); rw [e2] at b)
  all_goals first
    | omega
    | exact keepD hk (by (simp only [V.d.injEq, D.i.injEq, D.b.injEq, D.s.injEq, true_and]; grind [soundB]))
def ks_78 : Nat → List Nat
  | 0 => [1]
  | 1 => [1, 4]
  | 2 => [1, 4, 5]
  | 3 => [2]
  | 4 => [1, 4, 16]
  | 5 => [2]
  | 6 => [1, 4, 33]
  | 7 => [1, 4, 33]
  | 8 => [2]
  | 9 => [1, 50]
  | 10 => [2]
  | 11 => [2]
  | _ => []
def mu_78 : List Nat := []
def in_78 : List Nat := [0]
theorem nodeMay_A (n : Nd) (s1 : n.nm.length ≤ 9223372036854775807) (s2 : n.vl.length ≤ 9223372036854775807) (H : Heap) (K : V → Heap → Prop) (hk : K (.d (.b (nodeMay n))) H) :
    ACalls Tryd.prog 78 [ndV n] H K := by
  refine ACalls_of Tryd.func78 rfl in_78 (Nat.le_of_ble_eq_true rfl) ?_
  intro F hF
  simp (dsimp := false) only [go_sem, Nat.reduceAdd, Nat.reduceBEq, Nat.reduceEqDiff, Nat.reduceLT, Nat.reduceLeDiff, Nat.reduceMul, Int.reduceToNat, reduceCtorEq, ↓reduceIte, Tryd.ntmps78, Tryd.results78, ks_78, mu_78, ti_ag3, ti_ag9, ti_fl101_0, ti_fl101_1, ti_fl101_2, ti_fl101_3, ti_fl101_5, ti_hb89, ti_hb105, itD, itV, ndD, ndV, in_78] at hF
  subst hF
  repeat' (first | with_reducible (first | refine And.intro ?_ ?_ | intro _ | refine AWp_seq ?_ | refine AWp_block ?_ | (refine hKv _ _ (AWp_nop ?_); clear hKv Kv) | (refine hKA ?_; clear hKA hKB KA KB) | (refine hKB ?_; clear hKA hKB KA KB) | refine AWp_skipN ?_ | refine AWp_exitO (by repeat (first | exact Out.hit | apply Out.thenA | apply Out.out rfl)) ?_) | ((first | with_reducible (first | (refine hKv _ _ ?_; clear hKv Kv) | ((first | refine AWp_regC mu_78 ks_78 ?_ | refine AWp_regE mu_78 ks_78 ?_); intro Kv hKv) | refine AWp_retR ?_) | refine nameFault_A _ s1 _ _ ?_ | refine valueFault_A _ s2 _ _ ?_); try simp (dsimp := false) only [go_sem, Nat.reduceAdd, Nat.reduceBEq, Nat.reduceEqDiff, Nat.reduceLT, Nat.reduceLeDiff, Nat.reduceMul, Int.reduceToNat, reduceCtorEq, ↓reduceIte, Tryd.ntmps78, Tryd.results78, ks_78, mu_78, ti_ag3, ti_ag9, ti_fl101_0, ti_fl101_1, ti_fl101_2, ti_fl101_3, ti_fl101_5, ti_hb89, ti_hb105, itD, itV, ndD, ndV]) | (refine AWp_condC rfl ?_; intro KA KB hKA hKB; try simp only [onB_true, onB_false, onB_dec, onB_ndec, onB_not, onB_and, onB_or]) | (refine AWp_condA rfl ?_ ?_) | with_reducible (first | refine onB_of ?_ ?_ | rfl) | omega)
  all_goals exact keepD hk (by (simp only [V.d.injEq, D.i.injEq, D.b.injEq, D.s.injEq, true_and]; grind [nodeMay]))
end Go.Proofs.YtpgdflhcmijaiaaDoor
