/- Names of columns: what the program and the reference check of them; the place of a text in a list. No condition. -/
import Derived.Test.YtmalccaijjcepaaDoorIn
import Derived.Test.YtmalccaijjcepaaDoorDat
set_option linter.all false
set_option linter.unusedSimpArgs false
set_option linter.unusedVariables false
namespace Go.Proofs.YtmalccaijjcepaaDoor
open Go Go.Proofs.YtmalccaijjcepaaDoor.Ab
variable [Glo]
set_option maxHeartbeats 4000000
set_option maxRecDepth 20000
def colsGo : List (List UInt8) → List (List UInt8) → Int
  | _, [] => 0
  | done, s :: rest => if s = [] ∨ 20 < s.length then 10 else if s ∈ done then 7 else colsGo (done ++ [s]) rest
def colsFault (l : List (List UInt8)) : Int := if l.length ≤ 8 then colsGo [] l else 1
theorem colsGo_next {l : List (List UInt8)} {i : Nat} {s : List UInt8} (h : l[i]? = some s) : colsGo (l.take i) (l.drop i) = if s = [] ∨ 20 < s.length then 10 else if s ∈ l.take i then 7 else colsGo (l.take (i + 1)) (l.drop (i + 1)) := by
  rw [drop_of_get h, colsGo, take_of_get h]
theorem colsGo_rng : ∀ (r d : List (List UInt8)), colsGo d r = 0 ∨ colsGo d r = 7 ∨ colsGo d r = 10
  | [], d => .inl rfl
  | s :: r, d => by
    rw [colsGo]
    split
    · exact .inr (.inr rfl)
    · split
      · exact .inr (.inl rfl)
      · exact colsGo_rng r _

/-- The place of the first that is so; -1: none is. -/
def fidxGo {α : Type} (p : α → Bool) : List α → Nat → Int
  | [], _ => -1
  | x :: l, k => if p x = true then k else fidxGo p l (k + 1)
def fidx {α : Type} (p : α → Bool) (l : List α) : Int := fidxGo p l 0
theorem fidxGo_next {α : Type} {p : α → Bool} {l : List α} {i : Nat} {x : α} (h : l[i]? = some x) : fidxGo p (l.drop i) i = if p x = true then (i : Int) else fidxGo p (l.drop (i + 1)) (i + 1) := by
  rw [drop_of_get h, fidxGo]
theorem fidxGo_end {α : Type} {p : α → Bool} (l : List α) (k : Nat) : fidxGo p (l.drop l.length) k = -1 := by rw [List.drop_length]; rfl
theorem fidxGo_spec {α : Type} {p : α → Bool} : ∀ (l : List α) (k : Nat), (fidxGo p l k = -1 ∧ ∀ x, x ∈ l → p x = false) ∨ ∃ (i : Nat) (x : α), l[i]? = some x ∧ p x = true ∧ fidxGo p l k = ((k + i : Nat) : Int)
  | [], k => .inl ⟨rfl, by simp⟩
  | x :: l, k => by
    rw [fidxGo]
    split
    · exact .inr ⟨0, x, rfl, by assumption, rfl⟩
    · rename_i hx
      rcases fidxGo_spec l (k + 1) with ⟨h1, h2⟩ | ⟨i, y, h1, h2, h3⟩
      · refine .inl ⟨h1, fun y hy => ?_⟩
        rcases List.mem_cons.1 hy with rfl | hy
        · simpa using hx
        · exact h2 y hy
      · exact .inr ⟨i + 1, y, by simpa using h1, h2, by rw [h3]; congr 1; omega⟩
theorem fidx_spec {α : Type} (p : α → Bool) (l : List α) : (fidx p l = -1 ∧ ∀ x, x ∈ l → p x = false) ∨ ∃ (i : Nat) (x : α), l[i]? = some x ∧ p x = true ∧ fidx p l = (i : Int) := by
  have := fidxGo_spec (p := p) l 0
  simpa [fidx] using this
theorem fidx_ge {α : Type} (p : α → Bool) (l : List α) : decide (0 ≤ fidx p l) = l.any p := by
  rcases fidx_spec p l with ⟨h1, h2⟩ | ⟨i, x, h1, h2, h3⟩
  · have : l.any p = false := by rw [List.any_eq_false]; intro x hx; simp [h2 x hx]
    rw [this, h1]; rfl
  · have : l.any p = true := List.any_eq_true.2 ⟨x, List.mem_of_getElem? h1, h2⟩
    rw [this, h3]; exact decide_eq_true (by omega)
theorem fidx_lt {α : Type} (p : α → Bool) (l : List α) : -1 ≤ fidx p l ∧ fidx p l < l.length := by
  rcases fidx_spec p l with ⟨h1, h2⟩ | ⟨i, x, h1, h2, h3⟩
  · omega
  · have := lt_of_get h1; omega
/-- The place of a text. -/
def txtAt (l : List (List UInt8)) (s : List UInt8) : Int := fidx (fun x => decide (s = x)) l
/- the live slots of slices.Index[[]string,string] -/
def ks_66 : Nat → List Nat
  | 0 => [0, 1]
  | 1 => [0, 1, 7, 8]
  | 2 => [0, 1, 7, 8, 9]
  | 3 => [0, 1, 5, 7, 8]
  | 4 => [0, 1, 5, 7, 8, 16]
  | 5 => [4]
  | 6 => [0, 1, 7, 8]
  | 7 => [4]
  | _ => []
def mu_66 : List Nat := []
def in_66 : List Nat := [0, 1]
theorem index_A (l : List (List UInt8)) (s : List UInt8) (hlen : l.length ≤ 9223372036854775807) (H : Heap) (K : V → Heap → Prop) (hk : K (.d (.i .i64 (txtAt l s))) H) :
    ACalls Tryd.prog 66 [.d (.sl 1 (l.map strRow)), .d (.s s)] H K := by
  refine ACalls_of Tryd.func66 rfl in_66 (Nat.le_of_ble_eq_true rfl) ?_
  intro F hF
  simp (dsimp := false) only [go_sem, Nat.reduceAdd, Nat.reduceBEq, Nat.reduceEqDiff, Nat.reduceLT, Nat.reduceLeDiff, Nat.reduceMul, Int.reduceToNat, reduceCtorEq, ↓reduceIte, Tryd.ntmps66, Tryd.results66, ks_66, mu_66, ti_ag9, ti_sb33, ti_sl33, in_66] at hF
  subst hF
  repeat' (first | with_reducible (first | refine And.intro ?_ ?_ | intro _ | refine AWp_seq ?_ | refine AWp_block ?_ | (refine hKv _ _ (AWp_nop ?_); clear hKv Kv) | (refine hKA ?_; clear hKA hKB KA KB) | (refine hKB ?_; clear hKA hKB KA KB) | refine AWp_skipN ?_ | refine AWp_exitO (by repeat (first | exact Out.hit | apply Out.thenA | apply Out.out rfl)) ?_) | (with_reducible (first | (refine hKv _ _ ?_; clear hKv Kv) | ((first | refine AWp_regC mu_66 ks_66 ?_ | refine AWp_regE mu_66 ks_66 ?_); intro Kv hKv) | refine AWp_retR ?_); try simp (dsimp := false) only [go_sem, Nat.reduceAdd, Nat.reduceBEq, Nat.reduceEqDiff, Nat.reduceLT, Nat.reduceLeDiff, Nat.reduceMul, Int.reduceToNat, reduceCtorEq, ↓reduceIte, Tryd.ntmps66, Tryd.results66, ks_66, mu_66, ti_ag9, ti_sb33, ti_sl33]) | (refine AWp_condC rfl ?_; intro KA KB hKA hKB; try simp only [onB_true, onB_false, onB_dec, onB_ndec, onB_not, onB_and, onB_or]) | (refine AWp_condA rfl ?_ ?_) | with_reducible (first | refine onB_of ?_ ?_ | rfl) | omega)
  refine AWp_while0 (fun i : Nat => i ≤ l.length ∧ fidxGo (fun x => decide (s = x)) (l.drop i) i = txtAt l s) (fun i => [(0, .d (.sl 1 (l.map strRow))), (1, .d (.s s)), (7, .d (.i .i64 l.length)), (8, .d (.i .i64 i))]) (fun i => l.length - i) 0 ⟨Nat.zero_le _, rfl⟩ ?_ ?_
  · simp (dsimp := false) only [go_sem, Nat.reduceAdd, Nat.reduceBEq, Nat.reduceEqDiff, Nat.reduceLT, Nat.reduceLeDiff, Nat.reduceMul, Int.reduceToNat, reduceCtorEq, ↓reduceIte, Tryd.ntmps66, Tryd.results66, ks_66, mu_66, ti_ag9, ti_sb33, ti_sl33]
    first | done | simp
  rintro i ⟨hi, hv⟩
  repeat' (first | with_reducible (first | refine And.intro ?_ ?_ | intro _ | refine AWp_seq ?_ | refine AWp_block ?_ | (refine hKv _ _ (AWp_nop ?_); clear hKv Kv) | (refine hKA ?_; clear hKA hKB KA KB) | (refine hKB ?_; clear hKA hKB KA KB) | refine AWp_skipN ?_ | refine AWp_exitO (by repeat (first | exact Out.hit | apply Out.thenA | apply Out.out rfl)) ?_) | (with_reducible (first | (refine hKv _ _ ?_; clear hKv Kv) | ((first | refine AWp_regC mu_66 ks_66 ?_ | refine AWp_regE mu_66 ks_66 ?_); intro Kv hKv) | refine AWp_retR ?_); try simp (dsimp := false) only [go_sem, Nat.reduceAdd, Nat.reduceBEq, Nat.reduceEqDiff, Nat.reduceLT, Nat.reduceLeDiff, Nat.reduceMul, Int.reduceToNat, reduceCtorEq, ↓reduceIte, Tryd.ntmps66, Tryd.results66, ks_66, mu_66, ti_ag9, ti_sb33, ti_sl33]) | (refine AWp_condC rfl ?_; intro KA KB hKA hKB; try simp only [onB_true, onB_false, onB_dec, onB_ndec, onB_not, onB_and, onB_or]) | (refine AWp_condA rfl ?_ ?_) | with_reducible (first | refine onB_of ?_ ?_ | rfl) | omega)
  · rename_i h1 x hx h
    rw [fidxGo_next hx, if_pos (by simpa using h)] at hv
    exact keepD hk (by rw [hv])
  · rename_i h1 x hx h
    rw [fidxGo_next hx, if_neg (by simpa using h)] at hv
    exact ⟨i + 1, ⟨by omega, hv⟩, by omega, by omega⟩
  · have e : i = l.length := by omega
    subst e
    rw [fidxGo_end] at hv
    exact keepD hk (by rw [hv])
theorem txtAt_ge (l : List (List UInt8)) (s : List UInt8) : decide (0 ≤ txtAt l s) = decide (s ∈ l) := by
  unfold txtAt
  rw [fidx_ge, Bool.eq_iff_iff, List.any_eq_true]
  simp
/- the live slots of slices.Contains[[]string,string] -/
def ks_56 : Nat → List Nat
  | 0 => [0, 1]
  | 1 => [4]
  | _ => []
def mu_56 : List Nat := []
def in_56 : List Nat := [0, 1]
theorem contains_A (l : List (List UInt8)) (s : List UInt8) (hlen : l.length ≤ 9223372036854775807) (H : Heap) (K : V → Heap → Prop) (hk : K (.d (.b (decide (s ∈ l)))) H) :
    ACalls Tryd.prog 56 [.d (.sl 1 (l.map strRow)), .d (.s s)] H K := by
  refine ACalls_of Tryd.func56 rfl in_56 (Nat.le_of_ble_eq_true rfl) ?_
  intro F hF
  simp (dsimp := false) only [go_sem, Nat.reduceAdd, Nat.reduceBEq, Nat.reduceEqDiff, Nat.reduceLT, Nat.reduceLeDiff, Nat.reduceMul, Int.reduceToNat, reduceCtorEq, ↓reduceIte, Tryd.ntmps56, Tryd.results56, ks_56, mu_56, ti_hb66, in_56] at hF
  subst hF
  repeat' (first | with_reducible (first | refine And.intro ?_ ?_ | intro _ | refine AWp_seq ?_ | refine AWp_block ?_ | (refine hKv _ _ (AWp_nop ?_); clear hKv Kv) | (refine hKA ?_; clear hKA hKB KA KB) | (refine hKB ?_; clear hKA hKB KA KB) | refine AWp_skipN ?_ | refine AWp_exitO (by repeat (first | exact Out.hit | apply Out.thenA | apply Out.out rfl)) ?_) | ((first | with_reducible (first | (refine hKv _ _ ?_; clear hKv Kv) | ((first | refine AWp_regC mu_56 ks_56 ?_ | refine AWp_regE mu_56 ks_56 ?_); intro Kv hKv) | refine AWp_retR ?_) | refine index_A _ _ hlen _ _ ?_); try simp (dsimp := false) only [go_sem, Nat.reduceAdd, Nat.reduceBEq, Nat.reduceEqDiff, Nat.reduceLT, Nat.reduceLeDiff, Nat.reduceMul, Int.reduceToNat, reduceCtorEq, ↓reduceIte, Tryd.ntmps56, Tryd.results56, ks_56, mu_56, ti_hb66]) | (refine AWp_condC rfl ?_; intro KA KB hKA hKB; try simp only [onB_true, onB_false, onB_dec, onB_ndec, onB_not, onB_and, onB_or]) | (refine AWp_condA rfl ?_ ?_) | with_reducible (first | refine onB_of ?_ ?_ | rfl) | omega)
  exact keepD hk (by rw [txtAt_ge])

/- the live slots of pleacher/rel.names -/
def ks_37 : Nat → List Nat
  | 0 => [0]
  | 1 => [0, 7]
  | 2 => [2]
  | 3 => [0, 8, 9, 10]
  | 4 => [0, 8, 9, 10, 11]
  | 5 => [0, 3, 4, 8, 9, 10]
  | 6 => [0, 3, 4, 8, 9, 10, 21]
  | 7 => [2]
  | 8 => [0, 8, 9, 10, 26]
  | 9 => [2]
  | 10 => [0, 8, 9, 10]
  | 11 => [2]
  | _ => []
def mu_37 : List Nat := []
def in_37 : List Nat := [0]
theorem names_A (l : List (List UInt8)) (hlen : l.length ≤ 9223372036854775807) (hS : ∀ s, s ∈ l → s.length ≤ 9223372036854775807) (H : Heap) (K : V → Heap → Prop) (hk : K (.d (.i .i64 (colsFault l))) H) :
    ACalls Tryd.prog 37 [.d (.sl 1 (l.map strRow))] H K := by
  refine ACalls_of Tryd.func37 rfl in_37 (Nat.le_of_ble_eq_true rfl) ?_
  intro F hF
  simp (dsimp := false) only [go_sem, Nat.reduceAdd, Nat.reduceBEq, Nat.reduceEqDiff, Nat.reduceLT, Nat.reduceLeDiff, Nat.reduceMul, Int.reduceToNat, reduceCtorEq, ↓reduceIte, Tryd.ntmps37, Tryd.results37, ks_37, mu_37, ti_ag9, ti_hb56, ti_sb33, ti_sl33, ti_st9, ← List.map_take, in_37] at hF
  subst hF
  repeat' (first | with_reducible (first | refine And.intro ?_ ?_ | intro _ | refine AWp_seq ?_ | refine AWp_block ?_ | (refine hKv _ _ (AWp_nop ?_); clear hKv Kv) | (refine hKA ?_; clear hKA hKB KA KB) | (refine hKB ?_; clear hKA hKB KA KB) | refine AWp_skipN ?_ | refine AWp_exitO (by repeat (first | exact Out.hit | apply Out.thenA | apply Out.out rfl)) ?_) | (with_reducible (first | (refine hKv _ _ ?_; clear hKv Kv) | ((first | refine AWp_regC mu_37 ks_37 ?_ | refine AWp_regE mu_37 ks_37 ?_); intro Kv hKv) | refine AWp_retR ?_); try simp (dsimp := false) only [go_sem, Nat.reduceAdd, Nat.reduceBEq, Nat.reduceEqDiff, Nat.reduceLT, Nat.reduceLeDiff, Nat.reduceMul, Int.reduceToNat, reduceCtorEq, ↓reduceIte, Tryd.ntmps37, Tryd.results37, ks_37, mu_37, ti_ag9, ti_hb56, ti_sb33, ti_sl33, ti_st9, ← List.map_take]) | (refine AWp_condC rfl ?_; intro KA KB hKA hKB; try simp only [onB_true, onB_false, onB_dec, onB_ndec, onB_not, onB_and, onB_or]) | (refine AWp_condA rfl ?_ ?_) | with_reducible (first | refine onB_of ?_ ?_ | rfl) | omega)
  · exact keepD hk (by (simp only [V.d.injEq, D.i.injEq, D.b.injEq, D.s.injEq, true_and]; grind [colsFault]))
  rename_i hN
  refine AWp_while0 (fun i : Nat => i ≤ l.length ∧ colsGo (l.take i) (l.drop i) = colsGo [] l) (fun i => [(0, .d (.sl 1 (l.map strRow))), (8, .d (.sl 1 (l.map strRow))), (9, .d (.i .i64 l.length)), (10, .d (.i .i64 i))]) (fun i => l.length - i) 0 ⟨Nat.zero_le _, rfl⟩ ?_ ?_
  · simp (dsimp := false) only [go_sem, Nat.reduceAdd, Nat.reduceBEq, Nat.reduceEqDiff, Nat.reduceLT, Nat.reduceLeDiff, Nat.reduceMul, Int.reduceToNat, reduceCtorEq, ↓reduceIte, Tryd.ntmps37, Tryd.results37, ks_37, mu_37, ti_ag9, ti_hb56, ti_sb33, ti_sl33, ti_st9, ← List.map_take]
    first | done | simp
  rintro i ⟨hi, hv⟩
  repeat' (first | with_reducible (first | refine And.intro ?_ ?_ | intro _ | refine AWp_seq ?_ | refine AWp_block ?_ | (refine hKv _ _ (AWp_nop ?_); clear hKv Kv) | (refine hKA ?_; clear hKA hKB KA KB) | (refine hKB ?_; clear hKA hKB KA KB) | refine AWp_skipN ?_ | refine AWp_exitO (by repeat (first | exact Out.hit | apply Out.thenA | apply Out.out rfl)) ?_) | ((first | with_reducible (first | (refine hKv _ _ ?_; clear hKv Kv) | ((first | refine AWp_regC mu_37 ks_37 ?_ | refine AWp_regE mu_37 ks_37 ?_); intro Kv hKv) | refine AWp_retR ?_) | refine contains_A (l.take i) _ (by simp; omega) _ _ ?_); try simp (dsimp := false) only [go_sem, Nat.reduceAdd, Nat.reduceBEq, Nat.reduceEqDiff, Nat.reduceLT, Nat.reduceLeDiff, Nat.reduceMul, Int.reduceToNat, reduceCtorEq, ↓reduceIte, Tryd.ntmps37, Tryd.results37, ks_37, mu_37, ti_ag9, ti_hb56, ti_sb33, ti_sl33, ti_st9, ← List.map_take]) | (refine AWp_condC rfl ?_; intro KA KB hKA hKB; try simp only [onB_true, onB_false, onB_dec, onB_ndec, onB_not, onB_and, onB_or]) | (refine AWp_condA rfl ?_ ?_) | with_reducible (first | refine onB_of ?_ ?_ | rfl) | omega)
  · rename_i h1 x hx h
    rw [colsGo_next hx, if_pos (.inl h)] at hv
    exact keepD hk (by rw [colsFault, if_pos (by omega), ← hv])
  · rename_i h1 x hx h h2
    rw [colsGo_next hx, if_pos (.inr (by omega))] at hv
    exact keepD hk (by rw [colsFault, if_pos (by omega), ← hv])
  · rename_i h1 x hx h h2 h3
    rw [colsGo_next hx, if_neg (by rintro (q | q) <;> first | exact h q | omega), if_pos h3] at hv
    exact keepD hk (by rw [colsFault, if_pos (by omega), ← hv])
  · rename_i h1 x hx h h2 h3
    rw [colsGo_next hx, if_neg (by rintro (q | q) <;> first | exact h q | omega), if_neg h3] at hv
    exact ⟨i + 1, ⟨by omega, hv⟩, by omega, by omega⟩
  · have e : i = l.length := by omega
    subst e
    rw [List.drop_length] at hv
    exact keepD hk (by rw [colsFault, if_pos (by omega), ← hv]; rfl)
/- the live slots of pleacher/pleacherref.colsFault -/
def ks_40 : Nat → List Nat
  | 0 => [0]
  | 1 => [0, 7]
  | 2 => [2]
  | 3 => [0, 3]
  | 4 => [0, 3, 11]
  | 5 => [0, 3]
  | 6 => [0, 3, 20]
  | 7 => [2]
  | 8 => [0, 3, 4]
  | 9 => [0, 3, 4, 23]
  | 10 => [0, 3, 4]
  | 11 => [0, 3, 4, 34]
  | 12 => [2]
  | 13 => [2]
  | _ => []
def mu_40 : List Nat := []
def in_40 : List Nat := [0]
def nd_40 : Nat → Nat
  | 11 => 8
  | _ => 0
theorem colsFault_A (l : List (List UInt8)) (hlen : l.length ≤ 9223372036854775807) (hS : ∀ s, s ∈ l → s.length ≤ 9223372036854775807) (H : Heap) (K : V → Heap → Prop) (hk : K (.d (.i .i64 (colsFault l))) H) :
    ACalls Tryd.prog 40 [.d (.sl 1 (l.map strRow))] H K := by
  refine ACalls_of Tryd.func40 rfl in_40 (Nat.le_of_ble_eq_true rfl) ?_
  intro F hF
  simp (dsimp := false) only [go_sem, Nat.reduceAdd, Nat.reduceBEq, Nat.reduceEqDiff, Nat.reduceLT, Nat.reduceLeDiff, Nat.reduceMul, Int.reduceToNat, reduceCtorEq, ↓reduceIte, Tryd.ntmps40, Tryd.results40, ks_40, mu_40, nd_40, ti_ag9, ti_hb36, ti_sb33, ti_sl33, ti_st9, ← List.map_take, in_40] at hF
  subst hF
  repeat' (first | with_reducible (first | refine And.intro ?_ ?_ | intro _ | refine AWp_seq ?_ | refine AWp_block ?_ | (refine hKv _ _ (AWp_nop ?_); clear hKv Kv) | (refine hKA ?_; clear hKA hKB KA KB) | (refine hKB ?_; clear hKA hKB KA KB) | refine AWp_skipN ?_ | refine AWp_exitO (by repeat (first | exact Out.hit | apply Out.thenA | apply Out.out rfl)) ?_) | (with_reducible (first | (refine hKv _ _ ?_; clear hKv Kv) | ((first | refine AWp_regC mu_40 ks_40 ?_ | refine AWp_draw nd_40 mu_40 ks_40 ti_mixed (by kernel_rfl) ?_ | refine AWp_regE mu_40 ks_40 ?_ | refine AWp_drawE nd_40 mu_40 ks_40 ti_mixed (by kernel_rfl) ?_); intro Kv hKv) | refine AWp_retR ?_); try simp (dsimp := false) only [go_sem, Nat.reduceAdd, Nat.reduceBEq, Nat.reduceEqDiff, Nat.reduceLT, Nat.reduceLeDiff, Nat.reduceMul, Int.reduceToNat, reduceCtorEq, ↓reduceIte, Tryd.ntmps40, Tryd.results40, ks_40, mu_40, nd_40, ti_ag9, ti_hb36, ti_sb33, ti_sl33, ti_st9, ← List.map_take]) | (refine AWp_condC rfl ?_; intro KA KB hKA hKB; try simp only [onB_true, onB_false, onB_dec, onB_ndec, onB_not, onB_and, onB_or]) | (refine AWp_condA rfl ?_ ?_) | with_reducible (first | refine onB_of ?_ ?_ | rfl) | omega)
  · exact keepD hk (by (simp only [V.d.injEq, D.i.injEq, D.b.injEq, D.s.injEq, true_and]; grind [colsFault]))
  rename_i hN
  refine AWp_while0 (fun i : Nat => i ≤ l.length ∧ colsGo (l.take i) (l.drop i) = colsGo [] l) (fun i => [(0, .d (.sl 1 (l.map strRow))), (3, .d (.i .i64 i))]) (fun i => l.length - i) 0 ⟨Nat.zero_le _, rfl⟩ ?_ ?_
  · simp (dsimp := false) only [go_sem, Nat.reduceAdd, Nat.reduceBEq, Nat.reduceEqDiff, Nat.reduceLT, Nat.reduceLeDiff, Nat.reduceMul, Int.reduceToNat, reduceCtorEq, ↓reduceIte, Tryd.ntmps40, Tryd.results40, ks_40, mu_40, nd_40, ti_ag9, ti_hb36, ti_sb33, ti_sl33, ti_st9, ← List.map_take]
    first | done | simp
  rintro i ⟨hi, hv⟩
  repeat' (first | with_reducible (first | refine And.intro ?_ ?_ | intro _ | refine AWp_seq ?_ | refine AWp_block ?_ | (refine hKv _ _ (AWp_nop ?_); clear hKv Kv) | (refine hKA ?_; clear hKA hKB KA KB) | (refine hKB ?_; clear hKA hKB KA KB) | refine AWp_skipN ?_ | refine AWp_exitO (by repeat (first | exact Out.hit | apply Out.thenA | apply Out.out rfl)) ?_) | ((first | with_reducible (first | (refine hKv _ _ ?_; clear hKv Kv) | ((first | refine AWp_regC mu_40 ks_40 ?_ | refine AWp_draw nd_40 mu_40 ks_40 ti_mixed (by kernel_rfl) ?_ | refine AWp_regE mu_40 ks_40 ?_ | refine AWp_drawE nd_40 mu_40 ks_40 ti_mixed (by kernel_rfl) ?_); intro Kv hKv) | refine AWp_retR ?_) | refine in_A _ _ _ _ _ ?_ | refine QCall_of (in_A _ _ _ _ _ (Two_intro _ _)) ?_); try simp (dsimp := false) only [go_sem, Nat.reduceAdd, Nat.reduceBEq, Nat.reduceEqDiff, Nat.reduceLT, Nat.reduceLeDiff, Nat.reduceMul, Int.reduceToNat, reduceCtorEq, ↓reduceIte, Tryd.ntmps40, Tryd.results40, ks_40, mu_40, nd_40, ti_ag9, ti_hb36, ti_sb33, ti_sl33, ti_st9, ← List.map_take]) | (refine AWp_condC rfl ?_; intro KA KB hKA hKB; try simp only [onB_true, onB_false, onB_dec, onB_ndec, onB_not, onB_and, onB_or]) | (refine AWp_condA rfl ?_ ?_) | with_reducible (first | refine onB_of ?_ ?_ | rfl) | omega)
  · rename_i h1 x hx h2
    refine AWp_while0 (fun k : Nat => k ≤ i ∧ x ∉ l.take k) (fun k => [(0, .d (.sl 1 (l.map strRow))), (3, .d (.i .i64 i)), (4, .d (.i .i64 k))]) (fun k => i - k) 0 ⟨Nat.zero_le _, by simp⟩ ?_ ?_
    · simp (dsimp := false) only [go_sem, Nat.reduceAdd, Nat.reduceBEq, Nat.reduceEqDiff, Nat.reduceLT, Nat.reduceLeDiff, Nat.reduceMul, Int.reduceToNat, reduceCtorEq, ↓reduceIte, Tryd.ntmps40, Tryd.results40, ks_40, mu_40, nd_40, ti_ag9, ti_hb36, ti_sb33, ti_sl33, ti_st9, ← List.map_take]
      first | done | simp
    rintro k ⟨hk1, hk2⟩
    have hx' : l[(i : Int).toNat]? = some x := by simpa using hx
    repeat' (first | with_reducible (first | refine And.intro ?_ ?_ | intro _ | refine AWp_seq ?_ | refine AWp_block ?_ | (refine hKv _ _ (AWp_nop ?_); clear hKv Kv) | (refine hKA ?_; clear hKA hKB KA KB) | (refine hKB ?_; clear hKA hKB KA KB) | refine AWp_skipN ?_ | refine AWp_exitO (by repeat (first | exact Out.hit | apply Out.thenA | apply Out.out rfl)) ?_) | (with_reducible (first | (refine hKv _ _ ?_; clear hKv Kv) | ((first | refine AWp_regC mu_40 ks_40 ?_ | refine AWp_draw nd_40 mu_40 ks_40 ti_mixed (by kernel_rfl) ?_ | refine AWp_regE mu_40 ks_40 ?_ | refine AWp_drawE nd_40 mu_40 ks_40 ti_mixed (by kernel_rfl) ?_); intro Kv hKv) | refine AWp_retR ?_); try simp (dsimp := false) only [go_sem, Nat.reduceAdd, Nat.reduceBEq, Nat.reduceEqDiff, Nat.reduceLT, Nat.reduceLeDiff, Nat.reduceMul, Int.reduceToNat, reduceCtorEq, ↓reduceIte, Tryd.ntmps40, Tryd.results40, ks_40, mu_40, nd_40, ti_ag9, ti_hb36, ti_sb33, ti_sl33, ti_st9, ← List.map_take]) | (refine AWp_condC rfl ?_; intro KA KB hKA hKB; try simp only [onB_true, onB_false, onB_dec, onB_ndec, onB_not, onB_and, onB_or]) | (refine AWp_condA rfl ?_ ?_) | with_reducible (first | refine onB_of ?_ ?_ | rfl) | omega)
    · rename_i q1 y hy z hz q2
      rw [hx] at hz
      cases hz
      subst q2
      have : y ∈ l.take i := by
        rw [List.mem_take_iff_getElem]
        have := lt_of_get hy
        exact ⟨k, by omega, by rw [List.getElem?_eq_getElem this] at hy; exact Option.some.inj hy⟩
      rw [colsGo_next hx, if_neg (by rintro (q | q) <;> first | (subst q; simp at h2) | omega), if_pos this] at hv
      exact keepD hk (by rw [colsFault, if_pos (by omega), ← hv])
    · rename_i q1 y hy z hz q2
      rw [hx] at hz
      cases hz
      refine ⟨k + 1, ⟨by omega, ?_⟩, by omega, by omega⟩
      rw [take_of_get hy]
      simp only [List.mem_append, List.mem_singleton, not_or]
      exact ⟨hk2, fun e => q2 e.symm⟩
    · have e : k = i := by omega
      subst e
      rw [colsGo_next hx, if_neg (by rintro (q | q) <;> first | (subst q; simp at h2) | omega), if_neg hk2] at hv
      exact ⟨k + 1, ⟨by omega, hv⟩, by omega, by omega⟩
  · rename_i h1 x hx h2
    rw [colsGo_next hx, if_pos (by
      by_cases e : x = []
      · exact .inl e
      · have := List.length_pos_iff.2 e
        exact .inr (by omega))] at hv
    exact keepD hk (by rw [colsFault, if_pos (by omega), ← hv])
  · have e : i = l.length := by omega
    subst e
    rw [List.drop_length] at hv
    exact keepD hk (by rw [colsFault, if_pos (by omega), ← hv]; rfl)
end Go.Proofs.YtmalccaijjcepaaDoor
