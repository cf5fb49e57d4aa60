/- Rows sorted by some of their items: what comes of it, and the program's sort of them. No condition. -/
import Derived.Test.YtpgdflhcmijaiaaDoorJ25
import Derived.Test.YtpgdflhcmijaiaaDoorJ34
import Derived.Test.YtpgdflhcmijaiaaDoorJ41
set_option linter.all false
set_option linter.unusedSimpArgs false
set_option linter.unusedVariables false
namespace Go.Proofs.YtpgdflhcmijaiaaDoor
open Go Go.Proofs.YtpgdflhcmijaiaaDoor.Ab
section
variable {α : Type}
def posF (cf : α → α → Int) (g : Nat → α) (x : α) : Nat → Nat
  | 0 => 0
  | j + 1 => if cf x (g j) < 0 then posF cf g x j else j + 1
def insAll (cf : α → α → Int) (g0 : Nat → α) : Nat → Nat → α
  | 0 => g0
  | i + 1 => insF (insAll cf g0 i) (posF cf (insAll cf g0 i) (insAll cf g0 i i) i) i
theorem posF_ok (cf : α → α → Int) (g : Nat → α) (x : α) : ∀ j, posF cf g x j ≤ j ∧ (∀ k, posF cf g x j ≤ k → k < j → cf x (g k) < 0) ∧ (posF cf g x j = 0 ∨ ¬ cf x (g (posF cf g x j - 1)) < 0)
  | 0 => ⟨Nat.le_refl _, fun k h1 h2 => by omega, .inl rfl⟩
  | j + 1 => by
    rw [posF]
    split
    · rename_i hc
      obtain ⟨h1, h2, h3⟩ := posF_ok cf g x j
      refine ⟨by omega, fun k k1 k2 => ?_, h3⟩
      by_cases e : k = j
      · rw [e]; exact hc
      · exact h2 k k1 (by omega)
    · rename_i hc
      exact ⟨Nat.le_refl _, fun k k1 k2 => by omega, .inr (by rw [Nat.add_sub_cancel]; exact hc)⟩
theorem insAll_ok {cf : α → α → Int} {tg : α → Nat} (w : Weak cf) {g0 : Nat → α} {n : Nat} (ht : ∀ i j, i < j → j < n → tg (g0 i) < tg (g0 j)) : ∀ i, i ≤ n → Pst 0 i g0 (insAll cf g0 i) ∧ Srt cf tg (insAll cf g0 i) 0 i
  | 0, _ => ⟨Pst.refl _ _ _, fun p q _ _ h => by omega⟩
  | i + 1, hi => by
    obtain ⟨h1, h2⟩ := insAll_ok w ht i (by omega)
    rw [insAll]
    generalize insAll cf g0 i = g at h1 h2
    obtain ⟨p1, p2, p3⟩ := posF_ok cf g (g i) i
    have htg : ∀ k, 0 ≤ k → k < i → tg (g k) < tg (g i) := fun k _ k2 => by
      obtain ⟨q, q1, q2, q3⟩ := (h1.s (g k)).1 ⟨k, Nat.zero_le _, k2, rfl⟩
      rw [← q3, h1.o i (.inr (Nat.le_refl _))]
      exact ht q i q2 (by omega)
    exact ⟨(h1.wide (Nat.le_refl _) (Nat.zero_le _) (Nat.le_succ i)).trans (ins_post (Nat.zero_le _) p1 (Nat.lt_succ_self i)), ins_srt w (Nat.zero_le _) p1 h2 htg p2 p3⟩
theorem insAll_uniq {cf : α → α → Int} {tg : α → Nat} (w : Weak cf) {g0 g' : Nat → α} {n : Nat} (ht : ∀ i j, i < j → j < n → tg (g0 i) < tg (g0 j)) (p : Pst 0 n g0 g') (s : Srt cf tg g' 0 n) : ∀ k, k < n → g' k = insAll cf g0 n k := fun k hk => by
  obtain ⟨h1, h2⟩ := insAll_ok w ht n (Nat.le_refl _)
  have := srt_uniq w n 0 (g := g') (g' := insAll cf g0 n) (by rw [Nat.zero_add]; exact s) (by rw [Nat.zero_add]; exact h2) (fun x => by rw [Nat.zero_add]; exact (p.s x).trans (h1.s x).symm) k (Nat.zero_le _) (by omega)
  exact this
end
variable [Glo] [U8]
set_option maxHeartbeats 4000000
set_option maxRecDepth 20000
abbrev Rw := List It × Nat
def rwD (x : Rw) : D := .sl 3 (x.1.map itD)
def rw0 (rows : List (List It)) (k : Nat) : Rw := (rows.getD k [], k)
def rwC (ps : List Int) (x y : Rw) : Int := ordI (projRow ps x.1) (projRow ps y.1)
def srtRows (ps : List Int) (rows : List (List It)) : List (List It) := (List.range rows.length).map fun k => (insAll (rwC ps) (rw0 rows) rows.length k).1
theorem rows_tab (rows : List (List It)) : rows.map rowC = tab rwD rows.length (rw0 rows) := by
  apply List.ext_getElem?
  intro k
  by_cases hk : k < rows.length
  · rw [tab_get rwD hk, List.getElem?_map, List.getElem?_eq_getElem hk]
    simp [rowC, rwD, rw0, List.getD, List.getElem?_eq_getElem hk]
  · rw [List.getElem?_eq_none (by rw [List.length_map]; omega), List.getElem?_eq_none (by rw [tab_len]; omega)]
theorem srt_tab (ps : List Int) (rows : List (List It)) : (srtRows ps rows).map rowC = tab rwD rows.length (insAll (rwC ps) (rw0 rows) rows.length) := by
  rw [srtRows, List.map_map, tab]
  rfl
theorem srtRows_len (ps : List Int) (rows : List (List It)) : (srtRows ps rows).length = rows.length := by simp [srtRows]
def ks_21 : Nat → List Nat
  | 0 => [0, 1, 2]
  | 1 => [5]
  | _ => []
def mu_21 : List Nat := []
def in_21 : List Nat := [0, 1, 2]
def nd_21 : Nat → Nat
  | 1 => 7
  | _ => 0
theorem sortCmp (ps : List Int) (hps : ps.length ≤ 1048576) (m : Nat) : Cmp rwD (rwC ps) 21 [.rp [.sl 1 (ps.map intRow)]] m fun x => ∀ i, i ∈ ps → 0 ≤ i ∧ i < x.1.length := by
  refine ⟨by first | rfl | kernel_rfl, fun v hv => by rw [List.mem_singleton.1 hv]; exact .rp _, fun x y H K hx hy hk => ?_⟩
  have hl : ∀ r : List It, (projRow ps r).length = ps.length := fun r => by simp [projRow]
  show ACalls Tryd.prog 21 [.d (.sl 3 (x.1.map itD)), .d (.sl 3 (y.1.map itD)), .rp [.sl 1 (ps.map intRow)]] H K
  have hk' : K (.d (.i .i64 (ordI (projRow ps x.1) (projRow ps y.1)))) H := hk
  refine ACalls_of Tryd.func21 rfl in_21 (Nat.le_of_ble_eq_true rfl) ?_
  intro F hF
  simp (dsimp := false) only [go_sem, Nat.reduceAdd, Nat.reduceBEq, Nat.reduceEqDiff, Nat.reduceLT, Nat.reduceLeDiff, Nat.reduceMul, Int.reduceToNat, reduceCtorEq, ↓reduceIte, Tryd.ntmps21, Tryd.results21, ks_21, mu_21, nd_21, ti_ag35, ti_hb22, ti_hb23, itD, itV, in_21] at hF
  subst hF
  repeat' (first | with_reducible (first | refine And.intro ?_ ?_ | intro _ | refine AWp_seq ?_ | refine AWp_block ?_ | (refine hKv _ _ (AWp_nop ?_); clear hKv Kv) | (refine hKA ?_; clear hKA hKB KA KB) | (refine hKB ?_; clear hKA hKB KA KB) | refine AWp_skipN ?_ | refine AWp_exitO (by repeat (first | exact Out.hit | apply Out.thenA | apply Out.out rfl)) ?_) | ((first | with_reducible (first | (refine hKv _ _ ?_; clear hKv Kv) | ((first | refine AWp_regC mu_21 ks_21 ?_ | refine AWp_draw nd_21 mu_21 ks_21 ti_mixed (by kernel_rfl) ?_ | refine AWp_regE mu_21 ks_21 ?_ | refine AWp_drawE nd_21 mu_21 ks_21 ti_mixed (by kernel_rfl) ?_); intro Kv hKv) | refine AWp_retR ?_) | refine these_A x.1 ps hps hx _ _ ?_ | refine QCall_of (these_A x.1 ps hps hx _ _ (Two_intro _ _)) ?_ | refine these_A y.1 ps hps hy _ _ ?_ | refine QCall_of (these_A y.1 ps hps hy _ _ (Two_intro _ _)) ?_ | refine order_A (projRow ps x.1) (projRow ps y.1) (by rw [hl]; exact hps) (by rw [hl]; exact hps) _ _ ?_ | refine QCall_of (order_A (projRow ps x.1) (projRow ps y.1) (by rw [hl]; exact hps) (by rw [hl]; exact hps) _ _ (Two_intro _ _)) ?_); try simp (dsimp := false) only [go_sem, Nat.reduceAdd, Nat.reduceBEq, Nat.reduceEqDiff, Nat.reduceLT, Nat.reduceLeDiff, Nat.reduceMul, Int.reduceToNat, reduceCtorEq, ↓reduceIte, Tryd.ntmps21, Tryd.results21, ks_21, mu_21, nd_21, ti_ag35, ti_hb22, ti_hb23, itD, itV]) | (refine AWp_condC rfl ?_; intro KA KB hKA hKB; try simp only [onB_true, onB_false, onB_dec, onB_ndec, onB_not, onB_and, onB_or]) | (refine AWp_condA rfl ?_ ?_) | with_reducible (first | refine onB_of ?_ ?_ | rfl) | omega)
  all_goals first
    | omega
    | exact keepD hk' rfl
theorem sortRows_A (ps : List Int) (hps : ps.length ≤ 1048576) (rows : List (List It)) (hn : rows.length ≤ 1000000000) (hat : ∀ row, row ∈ rows → ∀ i, i ∈ ps → 0 ≤ i ∧ i < row.length) (id ver : Nat) (H : Heap) (K : V → Heap → Prop) (hr : H[id]? = some (.row ver 44 1 (rows.map rowC)))
    (hk : K (.tu []) (H.set id (.row ver 44 1 ((srtRows ps rows).map rowC)))) :
    ACalls Tryd.prog 20 [.os id ver, .fn 21 [.rp [.sl 1 (ps.map intRow)]]] H K := by
  rw [rows_tab] at hr
  have ht : ∀ i j, i < j → j < rows.length → (rw0 rows i).2 < (rw0 rows j).2 := fun i j h _ => h
  refine sortStable_A rwD (rwC ps) (fun x => x.2) (ordI_weak fun x : Rw => projRow ps x.1) _ _ _ id ver rows.length (rw0 rows) (fun k hk i hi => ?_) hn ht H (sortCmp ps hps _) K hr fun g' p s => ?_
  · have e : (rw0 rows k).1 = rows[k] := by simp [rw0, List.getD, List.getElem?_eq_getElem hk]
    rw [e]
    exact hat _ (List.getElem_mem hk) i hi
  · have e : sob rwD ver rows.length g' = .row ver 44 1 ((srtRows ps rows).map rowC) := by
      rw [srt_tab, sob, tab_ext rwD (insAll_uniq (cf := rwC ps) (tg := fun x : Rw => x.2) (ordI_weak fun x : Rw => projRow ps x.1) ht p s)]
    rw [e]
    exact hk
end Go.Proofs.YtpgdflhcmijaiaaDoor
