/- Names of columns: what the program and the reference check of them; the place of a text in a list. No condition. -/
import Derived.Test.YtppalmoicjogaaaDoorR18
set_option linter.all false
set_option linter.unusedSimpArgs false
set_option linter.unusedVariables false
namespace Go.Proofs.YtppalmoicjogaaaDoor
open Go Go.Proofs.YtppalmoicjogaaaDoor.Ab
variable [Glo]
set_option maxHeartbeats 4000000
set_option maxRecDepth 20000
def colsGo : List (List UInt8) → List (List UInt8) → Int
  | _, [] => 0
  | done, s :: rest => if s = [] ∨ 20 < s.length then 10 else if s ∈ done then 7 else colsGo (done ++ [s]) rest
def colsFault (l : List (List UInt8)) : Int := if l.length ≤ 8 then colsGo [] l else 1
theorem colsGo_next {l : List (List UInt8)} {i : Nat} {s : List UInt8} (h : l[i]? = some s) : colsGo (l.take i) (l.drop i) = if s = [] ∨ 20 < s.length then 10 else if s ∈ l.take i then 7 else colsGo (l.take (i + 1)) (l.drop (i + 1)) := by
  rw [drop_of_get h, colsGo, take_of_get h]
theorem colsGo_rng : ∀ (r d : List (List UInt8)), colsGo d r = 0 ∨ colsGo d r = 7 ∨ colsGo d r = 10
  | [], d => .inl rfl
  | s :: r, d => by
    rw [colsGo]
    split
    · exact .inr (.inr rfl)
    · split
      · exact .inr (.inl rfl)
      · exact colsGo_rng r _
def fidxGo {α : Type} (p : α → Bool) : List α → Nat → Int
  | [], _ => -1
  | x :: l, k => if p x = true then k else fidxGo p l (k + 1)
def fidx {α : Type} (p : α → Bool) (l : List α) : Int := fidxGo p l 0
theorem fidxGo_next {α : Type} {p : α → Bool} {l : List α} {i : Nat} {x : α} (h : l[i]? = some x) : fidxGo p (l.drop i) i = if p x = true then (i : Int) else fidxGo p (l.drop (i + 1)) (i + 1) := by
  rw [drop_of_get h, fidxGo]
theorem fidxGo_end {α : Type} {p : α → Bool} (l : List α) (k : Nat) : fidxGo p (l.drop l.length) k = -1 := by rw [List.drop_length]; rfl
theorem fidxGo_spec {α : Type} {p : α → Bool} : ∀ (l : List α) (k : Nat), (fidxGo p l k = -1 ∧ ∀ x, x ∈ l → p x = false) ∨ ∃ (i : Nat) (x : α), l[i]? = some x ∧ p x = true ∧ fidxGo p l k = ((k + i : Nat) : Int)
  | [], k => .inl ⟨rfl, by simp⟩
  | x :: l, k => by
    rw [fidxGo]
    split
    · exact .inr ⟨0, x, rfl, by assumption, rfl⟩
    · rename_i hx
      rcases fidxGo_spec l (k + 1) with ⟨h1, h2⟩ | ⟨i, y, h1, h2, h3⟩
      · refine .inl ⟨h1, fun y hy => ?_⟩
        rcases List.mem_cons.1 hy with rfl | hy
        · simpa using hx
        · exact h2 y hy
      · exact .inr ⟨i + 1, y, by simpa using h1, h2, by rw [h3]; congr 1; omega⟩
theorem fidx_spec {α : Type} (p : α → Bool) (l : List α) : (fidx p l = -1 ∧ ∀ x, x ∈ l → p x = false) ∨ ∃ (i : Nat) (x : α), l[i]? = some x ∧ p x = true ∧ fidx p l = (i : Int) := by
  have := fidxGo_spec (p := p) l 0
  simpa [fidx] using this
theorem fidx_ge {α : Type} (p : α → Bool) (l : List α) : decide (0 ≤ fidx p l) = l.any p := by
  rcases fidx_spec p l with ⟨h1, h2⟩ | ⟨i, x, h1, h2, h3⟩
  · have : l.any p = false := by rw [List.any_eq_false]; intro x hx; simp [h2 x hx]
    rw [this, h1]; rfl
  · have : l.any p = true := List.any_eq_true.2 ⟨x, List.mem_of_getElem? h1, h2⟩
    rw [this, h3]; exact decide_eq_true (by omega)
theorem fidx_lt {α : Type} (p : α → Bool) (l : List α) : -1 ≤ fidx p l ∧ fidx p l < l.length := by
  rcases fidx_spec p l with ⟨h1, h2⟩ | ⟨i, x, h1, h2, h3⟩
  · omega
  · have := lt_of_get h1; omega
def txtAt (l : List (List UInt8)) (s : List UInt8) : Int := fidx (fun x => decide (s = x)) l
def ks_83 : Nat → List Nat
  | 0 => [0, 1]
  | 1 => [0, 1, 7, 8]
  | 2 => [0, 1, 7, 8, 9]
  | 3 => [0, 1, 5, 7, 8]
  | 4 => [0, 1, 5, 7, 8, 16]
  | 5 => [4]
  | 6 => [0, 1, 7, 8]
  | 7 => [4]
  | _ => []
def mu_83 : List Nat := []
def in_83 : List Nat := [0, 1]
theorem index_A (l : List (List UInt8)) (s : List UInt8) (hlen : l.length ≤ 9223372036854775807) (H : Heap) (K : V → Heap → Prop) (hk : K (.d (.i .i64 (txtAt l s))) H) :
    ACalls Tryd.prog 83 [.d (.sl 1 (l.map strRow)), .d (.s s)] H K := by
  refine ACalls_of Tryd.func83 rfl in_83 (Nat.le_of_ble_eq_true rfl) ?_
  intro F hF
  simp (dsimp := false) only [go_sem, Nat.reduceAdd, Nat.reduceBEq, Nat.reduceEqDiff, Nat.reduceLT, Nat.reduceLeDiff, Nat.reduceMul, Int.reduceToNat, reduceCtorEq, ↓reduceIte, Tryd.ntmps83, Tryd.results83, ks_83, mu_83, ti_ag9, ti_sb48, ti_sl48, in_83] at hF
  subst hF
  repeat' (first | with_reducible (first | refine And.intro ?_ ?_ | intro _ | refine AWp_seq ?_ | refine AWp_block ?_ | (refine hKv _ _ (AWp_nop ?_); clear hKv Kv) | (refine hKA ?_; clear hKA hKB KA KB) | (refine hKB ?_; clear hKA hKB KA KB) | refine AWp_skipN ?_ | refine AWp_exitO (by repeat (first | exact Out.hit | apply Out.thenA | apply Out.out rfl)) ?_) | (with_reducible (first | (refine hKv _ _ ?_; clear hKv Kv) | ((first | refine AWp_regC mu_83 ks_83 ?_ | refine AWp_regE mu_83 ks_83 ?_); intro Kv hKv) | refine AWp_retR ?_); try simp (dsimp := false) only [go_sem, Nat.reduceAdd, Nat.reduceBEq, Nat.reduceEqDiff, Nat.reduceLT, Nat.reduceLeDiff, Nat.reduceMul, Int.reduceToNat, reduceCtorEq, ↓reduceIte, Tryd.ntmps83, Tryd.results83, ks_83, mu_83, ti_ag9, ti_sb48, ti_sl48]) | (refine AWp_condC rfl ?_; intro KA KB hKA hKB; try simp only [onB_true, onB_false, onB_dec, onB_ndec, onB_not, onB_and, onB_or]) | (refine AWp_condA rfl ?_ ?_) | with_reducible (first | refine onB_of ?_ ?_ | rfl) | omega)
  refine AWp_while0 (fun i : Nat => i ≤ l.length ∧ fidxGo (fun x => decide (s = x)) (l.drop i) i = txtAt l s) (fun i => [(0, .d (.sl 1 (l.map strRow))), (1, .d (.s s)), (7, .d (.i .i64 l.length)), (8, .d (.i .i64 i))]) (fun i => l.length - i) 0 ⟨Nat.zero_le _, rfl⟩ ?_ ?_
  · simp (dsimp := false) only [go_sem, Nat.reduceAdd, Nat.reduceBEq, Nat.reduceEqDiff, Nat.reduceLT, Nat.reduceLeDiff, Nat.reduceMul, Int.reduceToNat, reduceCtorEq, ↓reduceIte, Tryd.ntmps83, Tryd.results83, ks_83, mu_83, ti_ag9, ti_sb48, ti_sl48]
    first | done | simp
  rintro i ⟨hi, hv⟩
  repeat' (first | with_reducible (first | refine And.intro ?_ ?_ | intro _ | refine AWp_seq ?_ | refine AWp_block ?_ | (refine hKv _ _ (AWp_nop ?_); clear hKv Kv) | (refine hKA ?_; clear hKA hKB KA KB) | (refine hKB ?_; clear hKA hKB KA KB) | refine AWp_skipN ?_ | refine AWp_exitO (by repeat (first | exact Out.hit | apply Out.thenA | apply Out.out rfl)) ?_) | (with_reducible (first | (refine hKv _ _ ?_; clear hKv Kv) | ((first | refine AWp_regC mu_83 ks_83 ?_ | refine AWp_regE mu_83 ks_83 ?_); intro Kv hKv) | refine AWp_retR ?_); try simp (dsimp := false) only [go_sem, Nat.reduceAdd, Nat.reduceBEq, Nat.reduceEqDiff, Nat.reduceLT, Nat.reduceLeDiff, Nat.reduceMul, Int.reduceToNat, reduceCtorEq, ↓reduceIte, Tryd.ntmps83, Tryd.results83, ks_83, mu_83, ti_ag9, ti_sb48, ti_sl48]) | (refine AWp_condC rfl ?_; intro KA KB hKA hKB; try simp only [onB_true, onB_false, onB_dec, onB_ndec, onB_not, onB_and, onB_or]) | (refine AWp_condA rfl ?_ ?_) | with_reducible (first | refine onB_of ?_ ?_ | rfl) | omega)
  · rename_i h1 x hx h
    rw [fidxGo_next hx, if_pos (by simpa using h)] at hv
    exact keepD hk (by rw [hv])
  · rename_i h1 x hx h
    rw [fidxGo_next hx, if_neg (by simpa using h)] at hv
    exact ⟨i + 1, ⟨by omega, hv⟩, by omega, by omega⟩
  · have e : i = l.length := by omega
    subst e
    rw [fidxGo_end] at hv
    exact keepD hk (by rw [hv])
theorem txtAt_ge (l : List (List UInt8)) (s : List UInt8) : decide (0 ≤ txtAt l s) = decide (s ∈ l) := by
  unfold txtAt
  rw [fidx_ge, Bool.eq_iff_iff, List.any_eq_true]
  simp
def ks_39 : Nat → List Nat
  | 0 => [0, 1]
  | 1 => [4]
  | _ => []
def mu_39 : List Nat := []
def in_39 : List Nat := [0, 1]
theorem contains_A (l : List (List UInt8)) (s : List UInt8) (hlen : l.length ≤ 9223372036854775807) (H : Heap) (K : V → Heap → Prop) (hk : K (.d (.b (decide (s ∈ l)))) H) :
    ACalls Tryd.prog 39 [.d (.sl 1 (l.map strRow)), .d (.s s)] H K := by
  refine ACalls_of Tryd.func39 rfl in_39 (Nat.le_of_ble_eq_true rfl) ?_
  intro F hF
  simp (dsimp := false) only [go_sem, Nat.reduceAdd, Nat.reduceBEq, Nat.reduceEqDiff, Nat.reduceLT, Nat.reduceLeDiff, Nat.reduceMul, Int.reduceToNat, reduceCtorEq, ↓reduceIte, Tryd.ntmps39, Tryd.results39, ks_39, mu_39, ti_hb83, in_39] at hF
  subst hF
  repeat' (first | with_reducible (first | refine And.intro ?_ ?_ | intro _ | refine AWp_seq ?_ | refine AWp_block ?_ | (refine hKv _ _ (AWp_nop ?_); clear hKv Kv) | (refine hKA ?_; clear hKA hKB KA KB) | (refine hKB ?_; clear hKA hKB KA KB) | refine AWp_skipN ?_ | refine AWp_exitO (by repeat (first | exact Out.hit | apply Out.thenA | apply Out.out rfl)) ?_) | ((first | with_reducible (first | (refine hKv _ _ ?_; clear hKv Kv) | ((first | refine AWp_regC mu_39 ks_39 ?_ | refine AWp_regE mu_39 ks_39 ?_); intro Kv hKv) | refine AWp_retR ?_) | refine index_A _ _ hlen _ _ ?_); try simp (dsimp := false) only [go_sem, Nat.reduceAdd, Nat.reduceBEq, Nat.reduceEqDiff, Nat.reduceLT, Nat.reduceLeDiff, Nat.reduceMul, Int.reduceToNat, reduceCtorEq, ↓reduceIte, Tryd.ntmps39, Tryd.results39, ks_39, mu_39, ti_hb83]) | (refine AWp_condC rfl ?_; intro KA KB hKA hKB; try simp only [onB_true, onB_false, onB_dec, onB_ndec, onB_not, onB_and, onB_or]) | (refine AWp_condA rfl ?_ ?_) | with_reducible (first | refine onB_of ?_ ?_ | rfl) | omega)
  exact keepD hk (by rw [txtAt_ge])
def ks_76 : Nat → List Nat
  | 0 => [0]
  | 1 => [0, 7]
  | 2 => [2]
  | 3 => [0, 8, 9, 10]
  | 4 => [0, 8, 9, 10, 11]
  | 5 => [0, 3, 4, 8, 9, 10]
  | 6 => [0, 3, 4, 8, 9, 10, 21]
  | 7 => [2]
  | 8 => [0, 8, 9, 10, 26]
  | 9 => [2]
  | 10 => [0, 8, 9, 10]
  | 11 => [2]
  | _ => []
def mu_76 : List Nat := []
def in_76 : List Nat := [0]
theorem names_A (l : List (List UInt8)) (hlen : l.length ≤ 9223372036854775807) (hS : ∀ s, s ∈ l → s.length ≤ 9223372036854775807) (H : Heap) (K : V → Heap → Prop) (hk : K (.d (.i .i64 (colsFault l))) H) :
    ACalls Tryd.prog 76 [.d (.sl 1 (l.map strRow))] H K := by
  refine ACalls_of Tryd.func76 rfl in_76 (Nat.le_of_ble_eq_true rfl) ?_
  intro F hF
  simp (dsimp := false) only [go_sem, Nat.reduceAdd, Nat.reduceBEq, Nat.reduceEqDiff, Nat.reduceLT, Nat.reduceLeDiff, Nat.reduceMul, Int.reduceToNat, reduceCtorEq, ↓reduceIte, Tryd.ntmps76, Tryd.results76, ks_76, mu_76, ti_ag9, ti_hb39, ti_sb48, ti_sl48, ti_st9, ← List.map_take, in_76] at hF
  subst hF
  repeat' (first | with_reducible (first | refine And.intro ?_ ?_ | intro _ | refine AWp_seq ?_ | refine AWp_block ?_ | (refine hKv _ _ (AWp_nop ?_); clear hKv Kv) | (refine hKA ?_; clear hKA hKB KA KB) | (refine hKB ?_; clear hKA hKB KA KB) | refine AWp_skipN ?_ | refine AWp_exitO (by repeat (first | exact Out.hit | apply Out.thenA | apply Out.out rfl)) ?_) | (with_reducible (first | (refine hKv _ _ ?_; clear hKv Kv) | ((first | refine AWp_regC mu_76 ks_76 ?_ | refine AWp_regE mu_76 ks_76 ?_); intro Kv hKv) | refine AWp_retR ?_); try simp (dsimp := false) only [go_sem, Nat.reduceAdd, Nat.reduceBEq, Nat.reduceEqDiff, Nat.reduceLT, Nat.reduceLeDiff, Nat.reduceMul, Int.reduceToNat, reduceCtorEq, ↓reduceIte, Tryd.ntmps76, Tryd.results76, ks_76, mu_76, ti_ag9, ti_hb39, ti_sb48, ti_sl48, ti_st9, ← List.map_take]) | (refine AWp_condC rfl ?_; intro KA KB hKA hKB; try simp only [onB_true, onB_false, onB_dec, onB_ndec, onB_not, onB_and, onB_or]) | (refine AWp_condA rfl ?_ ?_) | with_reducible (first | refine onB_of ?_ ?_ | rfl) | omega)
  · exact keepD hk (by (simp only [V.d.injEq, D.i.injEq, D.b.injEq, D.s.injEq, true_and]; grind [colsFault]))
  rename_i hN
  refine AWp_while0 (fun i : Nat => i ≤ l.length ∧ colsGo (l.take i) (l.drop i) = colsGo [] l) (fun i => [(0, .d (.sl 1 (l.map strRow))), (8, .d (.sl 1 (l.map strRow))), (9, .d (.i .i64 l.length)), (10, .d (.i .i64 i))]) (fun i => l.length - i) 0 ⟨Nat.zero_le _, rfl⟩ ?_ ?_
  · simp (dsimp := false) only [go_sem, Nat.reduceAdd, Nat.reduceBEq, Nat.reduceEqDiff, Nat.reduceLT, Nat.reduceLeDiff, Nat.reduceMul, Int.reduceToNat, reduceCtorEq, ↓reduceIte, Tryd.ntmps76, Tryd.results76, ks_76, mu_76, ti_ag9, ti_hb39, ti_sb48, ti_sl48, ti_st9, ← List.map_take]
    first | done | simp
  rintro i ⟨hi, hv⟩
  repeat' (first | with_reducible (first | refine And.intro ?_ ?_ | intro _ | refine AWp_seq ?_ | refine AWp_block ?_ | (refine hKv _ _ (AWp_nop ?_); clear hKv Kv) | (refine hKA ?_; clear hKA hKB KA KB) | (refine hKB ?_; clear hKA hKB KA KB) | refine AWp_skipN ?_ | refine AWp_exitO (by repeat (first | exact Out.hit | apply Out.thenA | apply Out.out rfl)) ?_) | ((first | with_reducible (first | (refine hKv _ _ ?_; clear hKv Kv) | ((first | refine AWp_regC mu_76 ks_76 ?_ | refine AWp_regE mu_76 ks_76 ?_); intro Kv hKv) | refine AWp_retR ?_) | refine contains_A (l.take i) _ (by simp; omega) _ _ ?_); try simp (dsimp := false) only [go_sem, Nat.reduceAdd, Nat.reduceBEq, Nat.reduceEqDiff, Nat.reduceLT, Nat.reduceLeDiff, Nat.reduceMul, Int.reduceToNat, reduceCtorEq, ↓reduceIte, Tryd.ntmps76, Tryd.results76, ks_76, mu_76, ti_ag9, ti_hb39, ti_sb48, ti_sl48, ti_st9, ← List.map_take]) | (refine AWp_condC rfl ?_; intro KA KB hKA hKB; try simp only [onB_true, onB_false, onB_dec, onB_ndec, onB_not, onB_and, onB_or]) | (refine AWp_condA rfl ?_ ?_) | with_reducible (first | refine onB_of ?_ ?_ | rfl) | omega)
  · rename_i h1 x hx h
    rw [colsGo_next hx, if_pos (.inl h)] at hv
    exact keepD hk (by rw [colsFault, if_pos (by omega), ← hv])
  · rename_i h1 x hx h h2
    rw [colsGo_next hx, if_pos (.inr (by omega))] at hv
    exact keepD hk (by rw [colsFault, if_pos (by omega), ← hv])
  · rename_i h1 x hx h h2 h3
    rw [colsGo_next hx, if_neg (by rintro (q | q) <;> first | exact h q | omega), if_pos h3] at hv
    exact keepD hk (by rw [colsFault, if_pos (by omega), ← hv])
  · rename_i h1 x hx h h2 h3
    rw [colsGo_next hx, if_neg (by rintro (q | q) <;> first | exact h q | omega), if_neg h3] at hv
    exact ⟨i + 1, ⟨by omega, hv⟩, by omega, by omega⟩
  · have e : i = l.length := by omega
    subst e
    rw [List.drop_length] at hv
    exact keepD hk (by rw [colsFault, if_pos (by omega), ← hv]; rfl)
def ks_20 : Nat → List Nat
  | 0 => [0]
  | 1 => [0, 7]
  | 2 => [2]
  | 3 => [0, 3]
  | 4 => [0, 3, 11]
  | 5 => [0, 3]
  | 6 => [0, 3, 20]
  | 7 => [2]
  | 8 => [0, 3, 4]
  | 9 => [0, 3, 4, 23]
  | 10 => [0, 3, 4]
  | 11 => [0, 3, 4, 34]
  | 12 => [2]
  | 13 => [2]
  | _ => []
def mu_20 : List Nat := []
def in_20 : List Nat := [0]
def nd_20 : Nat → Nat
  | 11 => 8
  | _ => 0
theorem colsFault_A (l : List (List UInt8)) (hlen : l.length ≤ 9223372036854775807) (hS : ∀ s, s ∈ l → s.length ≤ 9223372036854775807) (H : Heap) (K : V → Heap → Prop) (hk : K (.d (.i .i64 (colsFault l))) H) :
    ACalls Tryd.prog 20 [.d (.sl 1 (l.map strRow))] H K := by
  refine ACalls_of Tryd.func20 rfl in_20 (Nat.le_of_ble_eq_true rfl) ?_
  intro F hF
  simp (dsimp := false) only [go_sem, Nat.reduceAdd, Nat.reduceBEq, Nat.reduceEqDiff, Nat.reduceLT, Nat.reduceLeDiff, Nat.reduceMul, Int.reduceToNat, reduceCtorEq, ↓reduceIte, Tryd.ntmps20, Tryd.results20, ks_20, mu_20, nd_20, ti_ag9, ti_hb17, ti_sb48, ti_sl48, ti_st9, ← List.map_take, in_20] at hF
  subst hF
  repeat' (first | with_reducible (first | refine And.intro ?_ ?_ | intro _ | refine AWp_seq ?_ | refine AWp_block ?_ | (refine hKv _ _ (AWp_nop ?_); clear hKv Kv) | (refine hKA ?_; clear hKA hKB KA KB) | (refine hKB ?_; clear hKA hKB KA KB) | refine AWp_skipN ?_ | refine AWp_exitO (by repeat (first | exact Out.hit | apply Out.thenA | apply Out.out rfl)) ?_) | (with_reducible (first | (refine hKv _ _ ?_; clear hKv Kv) | ((first | refine AWp_regC mu_20 ks_20 ?_ | refine AWp_draw nd_20 mu_20 ks_20 ti_mixed (by kernel_rfl) ?_ | refine AWp_regE mu_20 ks_20 ?_ | refine AWp_drawE nd_20 mu_20 ks_20 ti_mixed (by kernel_rfl) ?_); intro Kv hKv) | refine AWp_retR ?_); try simp (dsimp := false) only [go_sem, Nat.reduceAdd, Nat.reduceBEq, Nat.reduceEqDiff, Nat.reduceLT, Nat.reduceLeDiff, Nat.reduceMul, Int.reduceToNat, reduceCtorEq, ↓reduceIte, Tryd.ntmps20, Tryd.results20, ks_20, mu_20, nd_20, ti_ag9, ti_hb17, ti_sb48, ti_sl48, ti_st9, ← List.map_take]) | (refine AWp_condC rfl ?_; intro KA KB hKA hKB; try simp only [onB_true, onB_false, onB_dec, onB_ndec, onB_not, onB_and, onB_or]) | (refine AWp_condA rfl ?_ ?_) | with_reducible (first | refine onB_of ?_ ?_ | rfl) | omega)
  · exact keepD hk (by (simp only [V.d.injEq, D.i.injEq, D.b.injEq, D.s.injEq, true_and]; grind [colsFault]))
  rename_i hN
  refine AWp_while0 (fun i : Nat => i ≤ l.length ∧ colsGo (l.take i) (l.drop i) = colsGo [] l) (fun i => [(0, .d (.sl 1 (l.map strRow))), (3, .d (.i .i64 i))]) (fun i => l.length - i) 0 ⟨Nat.zero_le _, rfl⟩ ?_ ?_
  · simp (dsimp := false) only [go_sem, Nat.reduceAdd, Nat.reduceBEq, Nat.reduceEqDiff, Nat.reduceLT, Nat.reduceLeDiff, Nat.reduceMul, Int.reduceToNat, reduceCtorEq, ↓reduceIte, Tryd.ntmps20, Tryd.results20, ks_20, mu_20, nd_20, ti_ag9, ti_hb17, ti_sb48, ti_sl48, ti_st9, ← List.map_take]
    first | done | simp
  rintro i ⟨hi, hv⟩
  repeat' (first | with_reducible (first | refine And.intro ?_ ?_ | intro _ | refine AWp_seq ?_ | refine AWp_block ?_ | (refine hKv _ _ (AWp_nop ?_); clear hKv Kv) | (refine hKA ?_; clear hKA hKB KA KB) | (refine hKB ?_; clear hKA hKB KA KB) | refine AWp_skipN ?_ | refine AWp_exitO (by repeat (first | exact Out.hit | apply Out.thenA | apply Out.out rfl)) ?_) | ((first | with_reducible (first | (refine hKv _ _ ?_; clear hKv Kv) | ((first | refine AWp_regC mu_20 ks_20 ?_ | refine AWp_draw nd_20 mu_20 ks_20 ti_mixed (by kernel_rfl) ?_ | refine AWp_regE mu_20 ks_20 ?_ | refine AWp_drawE nd_20 mu_20 ks_20 ti_mixed (by kernel_rfl) ?_); intro Kv hKv) | refine AWp_retR ?_) | refine in_A _ _ _ _ _ ?_ | refine QCall_of (in_A _ _ _ _ _ (Two_intro _ _)) ?_); try simp (dsimp := false) only [go_sem, Nat.reduceAdd, Nat.reduceBEq, Nat.reduceEqDiff, Nat.reduceLT, Nat.reduceLeDiff, Nat.reduceMul, Int.reduceToNat, reduceCtorEq, ↓reduceIte, Tryd.ntmps20, Tryd.results20, ks_20, mu_20, nd_20, ti_ag9, ti_hb17, ti_sb48, ti_sl48, ti_st9, ← List.map_take]) | (refine AWp_condC rfl ?_; intro KA KB hKA hKB; try simp only [onB_true, onB_false, onB_dec, onB_ndec, onB_not, onB_and, onB_or]) | (refine AWp_condA rfl ?_ ?_) | with_reducible (first | refine onB_of ?_ ?_ | rfl) | omega)
  · rename_i h1 x hx h2
    refine AWp_while0 (fun k : Nat => k ≤ i ∧ x ∉ l.take k) (fun k => [(0, .d (.sl 1 (l.map strRow))), (3, .d (.i .i64 i)), (4, .d (.i .i64 k))]) (fun k => i - k) 0 ⟨Nat.zero_le _, by simp⟩ ?_ ?_
    · simp (dsimp := false) only [go_sem, Nat.reduceAdd, Nat.reduceBEq, Nat.reduceEqDiff, Nat.reduceLT, Nat.reduceLeDiff, Nat.reduceMul, Int.reduceToNat, reduceCtorEq, ↓reduceIte, Tryd.ntmps20, Tryd.results20, ks_20, mu_20, nd_20, ti_ag9, ti_hb17, ti_sb48, ti_sl48, ti_st9, ← List.map_take]
      first | done | simp
    rintro k ⟨hk1, hk2⟩
    have hx' : l[(i : Int).toNat]? = some x := by simpa using hx
    repeat' (first | with_reducible (first | refine And.intro ?_ ?_ | intro _ | refine AWp_seq ?_ | refine AWp_block ?_ | (refine hKv _ _ (AWp_nop ?_); clear hKv Kv) | (refine hKA ?_; clear hKA hKB KA KB) | (refine hKB ?_; clear hKA hKB KA KB) | refine AWp_skipN ?_ | refine AWp_exitO (by repeat (first | exact Out.hit | apply Out.thenA | apply Out.out rfl)) ?_) | (with_reducible (first | (refine hKv _ _ ?_; clear hKv Kv) | ((first | refine AWp_regC mu_20 ks_20 ?_ | refine AWp_draw nd_20 mu_20 ks_20 ti_mixed (by kernel_rfl) ?_ | refine AWp_regE mu_20 ks_20 ?_ | refine AWp_drawE nd_20 mu_20 ks_20 ti_mixed (by kernel_rfl) ?_); intro Kv hKv) | refine AWp_retR ?_); try simp (dsimp := false) only [go_sem, Nat.reduceAdd, Nat.reduceBEq, Nat.reduceEqDiff, Nat.reduceLT, Nat.reduceLeDiff, Nat.reduceMul, Int.reduceToNat, reduceCtorEq, ↓reduceIte, Tryd.ntmps20, Tryd.results20, ks_20, mu_20, nd_20, ti_ag9, ti_hb17, ti_sb48, ti_sl48, ti_st9, ← List.map_take]) | (refine AWp_condC rfl ?_; intro KA KB hKA hKB; try simp only [onB_true, onB_false, onB_dec, onB_ndec, onB_not, onB_and, onB_or]) | (refine AWp_condA rfl ?_ ?_) | with_reducible (first | refine onB_of ?_ ?_ | rfl) | omega)
    · rename_i q1 y hy z hz q2
      rw [hx] at hz
      cases hz
      subst q2
      have : y ∈ l.take i := by
        rw [List.mem_take_iff_getElem]
        have := lt_of_get hy
        exact ⟨k, by omega, by rw [List.getElem?_eq_getElem this] at hy; exact Option.some.inj hy⟩
      rw [colsGo_next hx, if_neg (by rintro (q | q) <;> first | (subst q; simp at h2) | omega), if_pos this] at hv
      exact keepD hk (by rw [colsFault, if_pos (by omega), ← hv])
    · rename_i q1 y hy z hz q2
      rw [hx] at hz
      cases hz
      refine ⟨k + 1, ⟨by omega, ?_⟩, by omega, by omega⟩
      rw [take_of_get hy]
      simp only [List.mem_append, List.mem_singleton, not_or]
      exact ⟨hk2, fun e => q2 e.symm⟩
    · have e : k = i := by omega
      subst e
      rw [colsGo_next hx, if_neg (by rintro (q | q) <;> first | (subst q; simp at h2) | omega), if_neg hk2] at hv
      exact ⟨k + 1, ⟨by omega, hv⟩, by omega, by omega⟩
  · rename_i h1 x hx h2
    rw [colsGo_next hx, if_pos (by
      by_cases e : x = []
      · exact .inl e
      · have := List.length_pos_iff.2 e
        exact .inr (by omega))] at hv
    exact keepD hk (by rw [colsFault, if_pos (by omega), ← hv])
  · have e : i = l.length := by omega
    subst e
    rw [List.drop_length] at hv
    exact keepD hk (by rw [colsFault, if_pos (by omega), ← hv]; rfl)
end Go.Proofs.YtppalmoicjogaaaDoor
namespace Go.Proofs.YtppalmoicjogaaaDoor
open Go Go.Proofs.YtppalmoicjogaaaDoor.Ab
variable [Glo]
structure Rl where
  cols : List (List UInt8)
  rows : List (List It)
  deriving DecidableEq
def rowD (l : List It) : List D := [.sl 3 (l.map itD)]
def rlV (r : Rl) : V := .ag [.d (.sl 1 (r.cols.map strRow)), .d (.sl 1 (r.rows.map rowD))]
def rlD (r : Rl) : List D := [.sl 1 (r.cols.map strRow), .sl 1 (r.rows.map rowD)]
def rl0 : Rl := ⟨[], []⟩
def rowFault (n : Nat) (row : List It) : Int := if row.length = n then (if row.all itemB = true then 0 else 12) else 9
def rowsFault (n : Nat) : List (List It) → Int
  | [] => 0
  | row :: rest => if rowFault n row = 0 then rowsFault n rest else rowFault n row
def relFault (r : Rl) : Int := if colsFault r.cols = 0 then (if r.rows.length ≤ 1000000 then rowsFault r.cols.length r.rows else 1) else colsFault r.cols
theorem rowsFault_next {n : Nat} {l : List (List It)} {i : Nat} {row : List It} (h : l[i]? = some row) : rowsFault n (l.drop i) = if rowFault n row = 0 then rowsFault n (l.drop (i + 1)) else rowFault n row := by
  rw [drop_of_get h, rowsFault]
theorem relFault_ok {r : Rl} (h : relFault r = 0) : colsFault r.cols = 0 ∧ r.rows.length ≤ 1000000 ∧ ∀ row, row ∈ r.rows → row.length = r.cols.length ∧ row.all itemB = true := by
  unfold relFault at h
  split at h
  · rename_i h1
    split at h
    · rename_i h2
      refine ⟨h1, h2, ?_⟩
      clear h1 h2
      generalize r.cols.length = n at h ⊢
      generalize r.rows = l at h ⊢
      induction l with
      | nil => intro row hr; cases hr
      | cons x l ih =>
        rw [rowsFault] at h
        split at h
        · rename_i h0
          intro row hr
          rcases List.mem_cons.1 hr with rfl | hr
          · unfold rowFault at h0
            split at h0
            · rename_i hl
              split at h0
              · rename_i ha
                exact ⟨hl, ha⟩
              · omega
            · omega
          · exact ih h row hr
        · contradiction
    · omega
  · contradiction
structure ShR (r : Rl) : Prop where
  ncols : r.cols.length ≤ 1048576
  nrows : r.rows.length ≤ 1048576
  col : ∀ s, s ∈ r.cols → s.length ≤ 1048576
  row : ∀ row, row ∈ r.rows → row.length ≤ 1048576
  it : ∀ row, row ∈ r.rows → ∀ x, x ∈ row → x.s.length ≤ 1048576
abbrev tyRl : Ty := .cons (.sl .s) (.cons (.sl (.sl tyIt)) .nil)
theorem typed_strs {ds : List D} {m : Nat} (h : Typed (.sl .s) ds m) : ∃ l : List (List UInt8), ds = [.sl 1 (l.map strRow)] ∧ l.length ≤ m ∧ ∀ s, s ∈ l → s.length ≤ m := by
  obtain ⟨xs, ws, rfl, h1, h2, h3⟩ := typed_list (f := strRow) (p := fun (x : List UInt8) m => x.length + 1 ≤ m) (fun ds m h => by
    obtain ⟨s, rfl, hs⟩ := typed_s h
    exact ⟨s, rfl, by omega⟩) h
  have hw : ∀ (i : Nat) (x : List UInt8), xs[i]? = some x → ∃ w, ws[i]? = some w ∧ x.length + 1 ≤ w := fun i x hx => by
    have := lt_of_get hx
    obtain ⟨w, hw⟩ : ∃ w, ws[i]? = some w := ⟨ws[i]'(by omega), List.getElem?_eq_getElem (by omega)⟩
    exact ⟨w, hw, h3 i x w hx hw⟩
  refine ⟨xs, rfl, ?_, fun s hs => ?_⟩
  · have := len_sum (ws := ws) 1 fun i w hw' => by
      have hi : i < ws.length := lt_of_get hw'
      have := h3 i _ w (List.getElem?_eq_getElem (by omega)) hw'
      omega
    omega
  · obtain ⟨i, hi, rfl⟩ := List.mem_iff_getElem.1 hs
    obtain ⟨w, hw', h⟩ := hw i _ (List.getElem?_eq_getElem hi)
    have := le_sum hw'
    omega
theorem typed_its {ds : List D} {m : Nat} (h : Typed (.sl tyIt) ds m) : ∃ l : List It, ds = rowD l ∧ l.length + 1 ≤ m ∧ ∀ x, x ∈ l → x.s.length ≤ m ∧ inR .i64 x.n ∧ inR .i64 x.k := by
  obtain ⟨xs, ws, rfl, h1, h2, h3⟩ := typed_list (f := itD) (p := fun (x : It) m => x.s.length + 3 ≤ m ∧ inR .i64 x.n ∧ inR .i64 x.k) (fun ds m h => typed_it h) h
  refine ⟨xs, rfl, ?_, fun s hs => ?_⟩
  · have := len_sum (ws := ws) 1 fun i w hw' => by
      have hi : i < ws.length := lt_of_get hw'
      have := h3 i _ w (List.getElem?_eq_getElem (by omega)) hw'
      omega
    omega
  · obtain ⟨i, hi, rfl⟩ := List.mem_iff_getElem.1 hs
    obtain ⟨w, hw'⟩ : ∃ w, ws[i]? = some w := ⟨ws[i]'(by omega), List.getElem?_eq_getElem (by omega)⟩
    have g := h3 i _ w (List.getElem?_eq_getElem hi) hw'
    have := le_sum hw'
    exact ⟨by omega, g.2⟩
theorem typed_rl {ds : List D} {m : Nat} (hm : m ≤ 1048576) (h : Typed tyRl ds m) : ∃ r : Rl, ds = rlD r ∧ ShR r := by
  obtain ⟨_, _, _, _, rfl, e1, h1, g1⟩ := typed_cons h
  obtain ⟨_, _, _, _, rfl, e2, h2, g2⟩ := typed_cons g1
  obtain rfl := typed_nil g2
  obtain ⟨cols, rfl, c1, c2⟩ := typed_strs h1
  obtain ⟨rows, ws, rfl, k1, k2, k3⟩ := typed_list (f := rowD) (p := fun (l : List It) m => l.length + 1 ≤ m ∧ ∀ x, x ∈ l → x.s.length ≤ m) (fun ds m h => by
    obtain ⟨l, rfl, h1, h2⟩ := typed_its h
    exact ⟨l, rfl, h1, fun x hx => (h2 x hx).1⟩) h2
  have hw : ∀ row, row ∈ rows → ∃ w, w ≤ ws.sum ∧ row.length + 1 ≤ w ∧ ∀ x, x ∈ row → x.s.length ≤ w := fun row hr => by
    obtain ⟨i, hi, rfl⟩ := List.mem_iff_getElem.1 hr
    obtain ⟨w, hw⟩ : ∃ w, ws[i]? = some w := ⟨ws[i]'(by omega), List.getElem?_eq_getElem (by omega)⟩
    exact ⟨w, le_sum hw, k3 i _ w (List.getElem?_eq_getElem hi) hw⟩
  refine ⟨⟨cols, rows⟩, rfl, ⟨by simp only []; omega, ?_, fun s hs => ?_, fun row hr => ?_, fun row hr x hx => ?_⟩⟩
  · have := len_sum (ws := ws) 1 fun i w hw' => by
      have hi : i < ws.length := lt_of_get hw'
      have := (k3 i _ w (List.getElem?_eq_getElem (by omega)) hw').1
      omega
    simp only []
    omega
  · have := c2 s hs; omega
  · obtain ⟨w, a, b, c⟩ := hw row hr; omega
  · obtain ⟨w, a, b, c⟩ := hw row hr
    have := c x hx; omega
theorem ShR.get {r : Rl} (h : ShR r) {i : Nat} {row : List It} (hr : r.rows[i]? = some row) : row.length ≤ 1048576 ∧ ∀ x, x ∈ row → x.s.length ≤ 1048576 := ⟨h.row row (List.mem_of_getElem? hr), h.it row (List.mem_of_getElem? hr)⟩
end Go.Proofs.YtppalmoicjogaaaDoor
