/- Words, marks and quotes: what the program's and the reference's small functions find. No condition but that the tables of package unicode/utf8 are there. -/
import Derived.Test.YtmhabdopcbokoaaDoorR18
import Derived.Test.YtmhabdopcbokoaaDoorR21
set_option linter.all false
set_option linter.unusedSimpArgs false
set_option linter.unusedVariables false
namespace Go.Proofs.YtmhabdopcbokoaaDoor
open Go Go.Proofs.YtmhabdopcbokoaaDoor.Ab
variable [Glo]
set_option maxHeartbeats 4000000
set_option maxRecDepth 20000
theorem wordB_first (c : Int) : wordB c true = letterB c := by
  simp only [wordB, nameB, letterB]; grind
theorem wordB_rest (c : Int) : wordB c false = (letterB c || digB c || decide (c = 45)) := by
  simp only [wordB, nameB, letterB, digB]; grind
namespace FN32
def tks : Nat → List Nat | 0 => [0] | 1 => [2] | _ => []
def tmu : List Nat := []
def tin : List Nat := [0]
abbrev tfn := @Tryd.func32
end FN32
attribute [go_sem] FN32.tks FN32.tmu FN32.tin Tryd.ntmps32 Tryd.results32
open FN32 in
theorem start_A (c : Int) (H : Heap) (K : V → Heap → Prop) (hk : K (.d (.b (letterB c))) H) : ACalls Tryd.prog 32 [.d (.i .u8 c)] H K := by
  refine We ?_
  have us := eq_self (0 : Nat)
  (repeat' (first | with_reducible (first | refine And.intro ?_ ?_ | intro _ | (refine hKv _ _ (AWp_nop ?_); clear hKv Kv) | (refine hKA ?_; clear hKA hKB KA KB) | (refine hKB ?_; clear hKA hKB KA KB) | refine Wp ?_ | fail) | ((first | with_reducible (first | (refine hKv _ _ ?_; clear hKv Kv) | (refine Wr ?_; intro Kv hKv) | refine AWp_retR ?_ | fail) | refine Wc ?_ | fail); try simp (dsimp := false) only [go_sem, Nat.reduceAdd, Nat.reduceBEq, Nat.reduceEqDiff, Nat.reduceLT, Nat.reduceLeDiff, Nat.reduceMul, Int.reduceToNat, reduceCtorEq, ↓reduceIte, us]) | (refine AWp_condC rfl ?_; intro KA KB hKA hKB; try simp only [onB_true, onB_false, onB_dec, onB_ndec, onB_not, onB_and, onB_or]) | (refine AWp_condA rfl ?_ ?_) | with_reducible (first | refine onB_of ?_ ?_ | rfl) | omega))
  all_goals refine keepD hk ?_
  all_goals (simp only [letterB, V.d.injEq, D.b.injEq]; grind)
namespace FN41
def tks : Nat → List Nat | 0 => [0, 1] | 1 => [4] | _ => []
def tmu : List Nat := []
def tin : List Nat := [0, 1]
abbrev tfn := @Tryd.func41
end FN41
attribute [go_sem] FN41.tks FN41.tmu FN41.tin Tryd.ntmps41 Tryd.results41
open FN41 in
theorem wordByte_A (c : Int) (t : Bool) (H : Heap) (K : V → Heap → Prop) (hk : K (.d (.b (wordB c t))) H) : ACalls Tryd.prog 41 [.d (.i .u8 c), .d (.b t)] H K := by
  refine We ?_
  have us := eq_self (0 : Nat)
  (repeat' (first | with_reducible (first | refine And.intro ?_ ?_ | intro _ | (refine hKv _ _ (AWp_nop ?_); clear hKv Kv) | (refine hKA ?_; clear hKA hKB KA KB) | (refine hKB ?_; clear hKA hKB KA KB) | refine Wp ?_ | fail) | ((first | with_reducible (first | (refine hKv _ _ ?_; clear hKv Kv) | (refine Wr ?_; intro Kv hKv) | refine AWp_retR ?_ | fail) | refine Wc ?_ | refine nameByte_A _ _ _ _ ?_ | refine QCall_of (nameByte_A _ _ _ _ (Two_intro _ _)) ?_ | refine ECall_of (nameByte_A _ _ _ _ (Two_intro _ _)) ?_ | fail); try simp (dsimp := false) only [go_sem, Nat.reduceAdd, Nat.reduceBEq, Nat.reduceEqDiff, Nat.reduceLT, Nat.reduceLeDiff, Nat.reduceMul, Int.reduceToNat, reduceCtorEq, ↓reduceIte, us]) | (refine AWp_condC rfl ?_; intro KA KB hKA hKB; try simp only [onB_true, onB_false, onB_dec, onB_ndec, onB_not, onB_and, onB_or]) | (refine AWp_condA rfl ?_ ?_) | with_reducible (first | refine onB_of ?_ ?_ | rfl) | omega))
  all_goals refine keepD hk ?_
  all_goals (simp only [wordB, V.d.injEq, D.b.injEq]; grind)
namespace FN24
def tks : Nat → List Nat | 0 => [0, 1] | 1 => [0, 1, 5] | 2 => [0, 1, 5, 19] | 3 => [0, 1, 5] | 4 => [4] | _ => []
def tmu : List Nat := []
def tin : List Nat := [0, 1]
abbrev tfn := @Tryd.func24
end FN24
attribute [go_sem] FN24.tks FN24.tmu FN24.tin Tryd.ntmps24 Tryd.results24
open FN24 in
theorem wordTo_A (s : List UInt8) (a : Nat) (hs : s.length ≤ 9223372036854775807) (ha : a ≤ s.length) (H : Heap) (K : V → Heap → Prop) (hk : K (.d (.i .i64 (wEnd s a a))) H) : ACalls Tryd.prog 24 [.d (.s s), .d (.i .i64 a)] H K := by
  refine We ?_
  have us := eq_self (0 : Nat)
  refine W1 ?_
  refine AWp_while0 (fun j : Nat => a ≤ j ∧ j ≤ s.length ∧ wEnd s a a = wEnd s a j) (fun j => [(0, .d (.s s)), (1, .d (.i .i64 a)), (5, .d (.i .i64 j))]) (fun j => s.length - j) a ⟨Nat.le_refl _, ha, rfl⟩ ?_ ?_
  · simp (dsimp := false) only [go_sem, Nat.reduceAdd, Nat.reduceBEq, Nat.reduceEqDiff, Nat.reduceLT, Nat.reduceLeDiff, Nat.reduceMul, Int.reduceToNat, reduceCtorEq, ↓reduceIte]
    first | done | simp
  rintro j ⟨h1, h2, h3⟩
  by_cases hj : j < s.length
  · obtain ⟨c, hc⟩ : ∃ c, s[j]? = some c := ⟨s[j], List.getElem?_eq_getElem hj⟩
    have hd : decide ((j : Int) = (a : Int)) = decide (j = a) := by simp [Int.ofNat_inj]
    cases hw : wordB c.toNat (decide (j = a)) with
    | true =>
      have us := an hc (an hd hw)
      (repeat' (first | with_reducible (first | refine And.intro ?_ ?_ | intro _ | (refine hKv _ _ (AWp_nop ?_); clear hKv Kv) | (refine hKA ?_; clear hKA hKB KA KB) | (refine hKB ?_; clear hKA hKB KA KB) | refine Wp ?_ | fail) | ((first | with_reducible (first | (refine hKv _ _ ?_; clear hKv Kv) | (refine Wr ?_; intro Kv hKv) | refine AWp_retR ?_ | fail) | refine Wc ?_ | refine wordByte_A _ _ _ _ ?_ | refine QCall_of (wordByte_A _ _ _ _ (Two_intro _ _)) ?_ | refine ECall_of (wordByte_A _ _ _ _ (Two_intro _ _)) ?_ | fail); try simp (dsimp := false) only [go_sem, Nat.reduceAdd, Nat.reduceBEq, Nat.reduceEqDiff, Nat.reduceLT, Nat.reduceLeDiff, Nat.reduceMul, Int.reduceToNat, reduceCtorEq, ↓reduceIte, us]) | (refine AWp_condC rfl ?_; intro KA KB hKA hKB; try simp only [onB_true, onB_false, onB_dec, onB_ndec, onB_not, onB_and, onB_or]) | (refine AWp_condA rfl ?_ ?_) | with_reducible (first | refine onB_of ?_ ?_ | rfl) | omega))
      all_goals exact ⟨j + 1, ⟨by omega, by omega, by rw [h3, wEnd_next hc hw]⟩, by omega, by omega⟩
    | false =>
      have us := an hc (an hd hw)
      (repeat' (first | with_reducible (first | refine And.intro ?_ ?_ | intro _ | (refine hKv _ _ (AWp_nop ?_); clear hKv Kv) | (refine hKA ?_; clear hKA hKB KA KB) | (refine hKB ?_; clear hKA hKB KA KB) | refine Wp ?_ | fail) | ((first | with_reducible (first | (refine hKv _ _ ?_; clear hKv Kv) | (refine Wr ?_; intro Kv hKv) | refine AWp_retR ?_ | fail) | refine Wc ?_ | refine wordByte_A _ _ _ _ ?_ | refine QCall_of (wordByte_A _ _ _ _ (Two_intro _ _)) ?_ | refine ECall_of (wordByte_A _ _ _ _ (Two_intro _ _)) ?_ | fail); try simp (dsimp := false) only [go_sem, Nat.reduceAdd, Nat.reduceBEq, Nat.reduceEqDiff, Nat.reduceLT, Nat.reduceLeDiff, Nat.reduceMul, Int.reduceToNat, reduceCtorEq, ↓reduceIte, us]) | (refine AWp_condC rfl ?_; intro KA KB hKA hKB; try simp only [onB_true, onB_false, onB_dec, onB_ndec, onB_not, onB_and, onB_or]) | (refine AWp_condA rfl ?_ ?_) | with_reducible (first | refine onB_of ?_ ?_ | rfl) | omega))
      all_goals exact keepD hk (by rw [h3, wEnd_stop hc hw])
  ·
    have us := eq_self (0 : Nat)
    (repeat' (first | with_reducible (first | refine And.intro ?_ ?_ | intro _ | (refine hKv _ _ (AWp_nop ?_); clear hKv Kv) | (refine hKA ?_; clear hKA hKB KA KB) | (refine hKB ?_; clear hKA hKB KA KB) | refine Wp ?_ | fail) | ((first | with_reducible (first | (refine hKv _ _ ?_; clear hKv Kv) | (refine Wr ?_; intro Kv hKv) | refine AWp_retR ?_ | fail) | refine Wc ?_ | fail); try simp (dsimp := false) only [go_sem, Nat.reduceAdd, Nat.reduceBEq, Nat.reduceEqDiff, Nat.reduceLT, Nat.reduceLeDiff, Nat.reduceMul, Int.reduceToNat, reduceCtorEq, ↓reduceIte, us]) | (refine AWp_condC rfl ?_; intro KA KB hKA hKB; try simp only [onB_true, onB_false, onB_dec, onB_ndec, onB_not, onB_and, onB_or]) | (refine AWp_condA rfl ?_ ?_) | with_reducible (first | refine onB_of ?_ ?_ | rfl) | omega))
    all_goals exact keepD hk (by rw [h3, wEnd_end (by omega)])
def lexC (s : List UInt8) (p : Nat) (o : V) : Ob := .row 0 57 3 [[.d (.s s), .d (.i .i64 p), o]]
namespace FN15
def tks : Nat → List Nat | 0 => [0, 1] | 1 => [0, 1, 5] | 2 => [0, 1, 5, 15] | 3 => [0, 1, 5, 6] | 4 => [0, 1, 5, 6, 7] | 5 => [0, 1, 5, 43] | 6 => [0, 1, 5] | 7 => [4] | _ => []
def tmu : List Nat := []
def tin : List Nat := [0, 1]
abbrev tfn := @Tryd.func15
end FN15
attribute [go_sem] FN15.tks FN15.tmu FN15.tin Tryd.ntmps15 Tryd.results15
open FN15 in
theorem word_A (id : Nat) (s : List UInt8) (p a : Nat) (o : V) (hs : s.length ≤ 9223372036854775807) (ha : a ≤ s.length) (H : Heap) (K : V → Heap → Prop) (hr : H[id]? = some (lexC s p o)) (hk : K (.d (.i .i64 (wEnd s a a))) H) :
    ACalls Tryd.prog 15 [.pt id 0 0 0, .d (.i .i64 a)] H K := by
  have hid := (List.getElem?_eq_some_iff.1 hr).1
  have hr' : H[id]? = some (.row 0 57 3 [[.d (.s s), .d (.i .i64 p), o]]) := hr
  refine We ?_
  have us := hr'
  refine W2 ?_
  refine AWp_while0 (fun j : Nat => a ≤ j ∧ j ≤ s.length ∧ wEnd s a a = wEnd s a j) (fun j => [(0, .pt id 0 0 0), (1, .d (.i .i64 a)), (5, .d (.i .i64 j))]) (fun j => s.length - j) a ⟨Nat.le_refl _, ha, rfl⟩ ?_ ?_
  · simp (dsimp := false) only [go_sem, Nat.reduceAdd, Nat.reduceBEq, Nat.reduceEqDiff, Nat.reduceLT, Nat.reduceLeDiff, Nat.reduceMul, Int.reduceToNat, reduceCtorEq, ↓reduceIte, hr', hid]
    first | done | simp
  rintro j ⟨h1, h2, h3⟩
  by_cases hj : j < s.length
  · obtain ⟨c, hc⟩ : ∃ c, s[j]? = some c := ⟨s[j], List.getElem?_eq_getElem hj⟩
    have hwf : j = a → wordB c.toNat (decide (j = a)) = letterB c.toNat := fun e => by rw [decide_eq_true e, wordB_first]
    have hwr : j ≠ a → wordB c.toNat (decide (j = a)) = (letterB c.toNat || digB c.toNat || decide ((c.toNat : Int) = 45)) := fun e => by rw [decide_eq_false e, wordB_rest]
    have us := an hr' hc
    (repeat' (first | with_reducible (first | refine And.intro ?_ ?_ | intro _ | (refine hKv _ _ (AWp_nop ?_); clear hKv Kv) | (refine hKA ?_; clear hKA hKB KA KB) | (refine hKB ?_; clear hKA hKB KA KB) | refine Wp ?_ | fail) | ((first | with_reducible (first | (refine hKv _ _ ?_; clear hKv Kv) | (refine Wr ?_; intro Kv hKv) | refine AWp_retR ?_ | fail) | refine Wc ?_ | refine start_A _ _ _ ?_ | refine QCall_of (start_A _ _ _ (Two_intro _ _)) ?_ | refine ECall_of (start_A _ _ _ (Two_intro _ _)) ?_ | fail); try simp (dsimp := false) only [go_sem, Nat.reduceAdd, Nat.reduceBEq, Nat.reduceEqDiff, Nat.reduceLT, Nat.reduceLeDiff, Nat.reduceMul, Int.reduceToNat, reduceCtorEq, ↓reduceIte, us, hid]) | (refine AWp_condC rfl ?_; intro KA KB hKA hKB; try simp only [onB_true, onB_false, onB_dec, onB_ndec, onB_not, onB_and, onB_or]) | (refine AWp_condA rfl ?_ ?_) | with_reducible (first | refine onB_of ?_ ?_ | rfl) | omega))
    all_goals first
      | (have hw : wordB c.toNat (decide (j = a)) = true := by
           simp only [digB] at hwr
           grind
         exact ⟨j + 1, ⟨by omega, by omega, by rw [h3, wEnd_next hc hw]⟩, by omega, by omega⟩)
      | (have hw : wordB c.toNat (decide (j = a)) = false := by
           simp only [digB] at hwr
           grind
         exact keepD hk (by rw [h3, wEnd_stop hc hw]))
  ·
    have us := hr'
    (repeat' (first | with_reducible (first | refine And.intro ?_ ?_ | intro _ | (refine hKv _ _ (AWp_nop ?_); clear hKv Kv) | (refine hKA ?_; clear hKA hKB KA KB) | (refine hKB ?_; clear hKA hKB KA KB) | refine Wp ?_ | fail) | ((first | with_reducible (first | (refine hKv _ _ ?_; clear hKv Kv) | (refine Wr ?_; intro Kv hKv) | refine AWp_retR ?_ | fail) | refine Wc ?_ | refine start_A _ _ _ ?_ | refine QCall_of (start_A _ _ _ (Two_intro _ _)) ?_ | refine ECall_of (start_A _ _ _ (Two_intro _ _)) ?_ | fail); try simp (dsimp := false) only [go_sem, Nat.reduceAdd, Nat.reduceBEq, Nat.reduceEqDiff, Nat.reduceLT, Nat.reduceLeDiff, Nat.reduceMul, Int.reduceToNat, reduceCtorEq, ↓reduceIte, us, hid]) | (refine AWp_condC rfl ?_; intro KA KB hKA hKB; try simp only [onB_true, onB_false, onB_dec, onB_ndec, onB_not, onB_and, onB_or]) | (refine AWp_condA rfl ?_ ?_) | with_reducible (first | refine onB_of ?_ ?_ | rfl) | omega))
    all_goals exact keepD hk (by rw [h3, wEnd_end (by omega)])
namespace FN23
def tks : Nat → List Nat | 0 => [] | 1 => [0] | _ => []
def tmu : List Nat := []
def tin : List Nat := []
abbrev tfn := @Tryd.func23
end FN23
attribute [go_sem] FN23.tks FN23.tmu FN23.tin Tryd.ntmps23 Tryd.results23
open FN23 in
theorem allMarks_A (H : Heap) (K : V → Heap → Prop) (hk : K (.d (.sl 1 (marksL.map strRow))) H) : ACalls Tryd.prog 23 [] H K := by
  refine We ?_
  have us := eq_self (0 : Nat)
  exact W3
theorem indexByte_q (s : List UInt8) : ∀ (m j : Nat), s.length - j ≤ m → j ≤ s.length → Lib.indexByte (s.drop j) 34 = if qAt s j = s.length then -1 else (qAt s j : Int) - j
  | 0, j, h, hj => by
    have e : j = s.length := by omega
    subst e
    rw [List.drop_length, qAt_end (Nat.le_refl _), if_pos rfl]
    rfl
  | m + 1, j, h, hj => by
    by_cases hl : j < s.length
    · obtain ⟨c, hc⟩ : ∃ c, s[j]? = some c := ⟨s[j], List.getElem?_eq_getElem hl⟩
      have ih := indexByte_q s m (j + 1) (by omega) (by omega)
      have hle := qAt_le s m (j + 1) (by omega) (by omega)
      rw [drop_of_get hc, Lib.indexByte]
      by_cases h34 : c = 34
      · subst h34
        rw [qAt_hit hc rfl, if_pos (by rfl), if_neg (by omega)]
        simp
      · rw [qAt_next hc h34, if_neg (by simpa using h34), ih]
        split
        · simp
        · rw [if_neg (by simp; omega)]; omega
    · have e : j = s.length := by omega
      subst e
      rw [List.drop_length, qAt_end (Nat.le_refl _), if_pos rfl]
      rfl
end Go.Proofs.YtmhabdopcbokoaaDoor
namespace Go.Proofs.YtmhabdopcbokoaaDoor
open Go Go.Proofs.YtmhabdopcbokoaaDoor.Ab
def marksRow : List D := marksL.map D.s
class Mk [Glo] : Prop where
  marks : glob 0 = some marksRow
end Go.Proofs.YtmhabdopcbokoaaDoor
namespace Go.Proofs.YtmhabdopcbokoaaDoor
open Go Go.Proofs.YtmhabdopcbokoaaDoor.Ab
variable [Glo]
set_option maxHeartbeats 4000000
set_option maxRecDepth 20000
def fidxGo {α : Type} (p : α → Bool) : List α → Nat → Int
  | [], _ => -1
  | x :: l, k => if p x = true then k else fidxGo p l (k + 1)
def fidx {α : Type} (p : α → Bool) (l : List α) : Int := fidxGo p l 0
theorem fidxGo_next {α : Type} {p : α → Bool} {l : List α} {i : Nat} {x : α} (h : l[i]? = some x) : fidxGo p (l.drop i) i = if p x = true then (i : Int) else fidxGo p (l.drop (i + 1)) (i + 1) := by
  rw [drop_of_get h, fidxGo]
theorem fidxGo_end {α : Type} {p : α → Bool} (l : List α) (k : Nat) : fidxGo p (l.drop l.length) k = -1 := by rw [List.drop_length]; rfl
theorem fidxGo_spec {α : Type} {p : α → Bool} : ∀ (l : List α) (k : Nat), (fidxGo p l k = -1 ∧ ∀ x, x ∈ l → p x = false) ∨ ∃ (i : Nat) (x : α), l[i]? = some x ∧ p x = true ∧ fidxGo p l k = ((k + i : Nat) : Int)
  | [], k => .inl ⟨rfl, by simp⟩
  | x :: l, k => by
    rw [fidxGo]
    split
    · exact .inr ⟨0, x, rfl, by assumption, rfl⟩
    · rename_i hx
      rcases fidxGo_spec l (k + 1) with ⟨h1, h2⟩ | ⟨i, y, h1, h2, h3⟩
      · refine .inl ⟨h1, fun y hy => ?_⟩
        rcases List.mem_cons.1 hy with rfl | hy
        · simpa using hx
        · exact h2 y hy
      · exact .inr ⟨i + 1, y, by simpa using h1, h2, by rw [h3]; congr 1; omega⟩
theorem fidx_spec {α : Type} (p : α → Bool) (l : List α) : (fidx p l = -1 ∧ ∀ x, x ∈ l → p x = false) ∨ ∃ (i : Nat) (x : α), l[i]? = some x ∧ p x = true ∧ fidx p l = (i : Int) := by
  have := fidxGo_spec (p := p) l 0
  simpa [fidx] using this
theorem fidx_ge {α : Type} (p : α → Bool) (l : List α) : decide (0 ≤ fidx p l) = l.any p := by
  rcases fidx_spec p l with ⟨h1, h2⟩ | ⟨i, x, h1, h2, h3⟩
  · have : l.any p = false := by rw [List.any_eq_false]; intro x hx; simp [h2 x hx]
    rw [this, h1]; rfl
  · have : l.any p = true := List.any_eq_true.2 ⟨x, List.mem_of_getElem? h1, h2⟩
    rw [this, h3]; exact decide_eq_true (by omega)
theorem fidx_lt {α : Type} (p : α → Bool) (l : List α) : -1 ≤ fidx p l ∧ fidx p l < l.length := by
  rcases fidx_spec p l with ⟨h1, h2⟩ | ⟨i, x, h1, h2, h3⟩
  · omega
  · have := lt_of_get h1; omega
def txtAt (l : List (List UInt8)) (s : List UInt8) : Int := fidx (fun x => decide (s = x)) l
namespace FN31
def tks : Nat → List Nat | 0 => [0, 1] | 1 => [0, 1, 7, 8] | 2 => [0, 1, 7, 8, 9] | 3 => [0, 1, 5, 7, 8] | 4 => [0, 1, 5, 7, 8, 16] | 5 => [4] | 6 => [0, 1, 7, 8] | 7 => [4] | _ => []
def tmu : List Nat := []
def tin : List Nat := [0, 1]
abbrev tfn := @Tryd.func31
end FN31
attribute [go_sem] FN31.tks FN31.tmu FN31.tin Tryd.ntmps31 Tryd.results31
open FN31 in
theorem index_A (l : List (List UInt8)) (s : List UInt8) (hlen : l.length ≤ 9223372036854775807) (H : Heap) (K : V → Heap → Prop) (hk : K (.d (.i .i64 (txtAt l s))) H) :
    ACalls Tryd.prog 31 [.d (.sl 1 (l.map strRow)), .d (.s s)] H K := by
  refine We ?_
  have us := eq_self (0 : Nat)
  refine W1 ?_
  refine AWp_while0 (fun i : Nat => i ≤ l.length ∧ fidxGo (fun x => decide (s = x)) (l.drop i) i = txtAt l s) (fun i => [(0, .d (.sl 1 (l.map strRow))), (1, .d (.s s)), (7, .d (.i .i64 l.length)), (8, .d (.i .i64 i))]) (fun i => l.length - i) 0 ⟨Nat.zero_le _, rfl⟩ ?_ ?_
  · simp (dsimp := false) only [go_sem, Nat.reduceAdd, Nat.reduceBEq, Nat.reduceEqDiff, Nat.reduceLT, Nat.reduceLeDiff, Nat.reduceMul, Int.reduceToNat, reduceCtorEq, ↓reduceIte]
    first | done | simp
  rintro i ⟨hi, hv⟩
  have us := eq_self (0 : Nat)
  (repeat' (first | with_reducible (first | refine And.intro ?_ ?_ | intro _ | (refine hKv _ _ (AWp_nop ?_); clear hKv Kv) | (refine hKA ?_; clear hKA hKB KA KB) | (refine hKB ?_; clear hKA hKB KA KB) | refine Wp ?_ | fail) | ((first | with_reducible (first | (refine hKv _ _ ?_; clear hKv Kv) | (refine Wr ?_; intro Kv hKv) | refine AWp_retR ?_ | fail) | refine Wc ?_ | fail); try simp (dsimp := false) only [go_sem, Nat.reduceAdd, Nat.reduceBEq, Nat.reduceEqDiff, Nat.reduceLT, Nat.reduceLeDiff, Nat.reduceMul, Int.reduceToNat, reduceCtorEq, ↓reduceIte, us]) | (refine AWp_condC rfl ?_; intro KA KB hKA hKB; try simp only [onB_true, onB_false, onB_dec, onB_ndec, onB_not, onB_and, onB_or]) | (refine AWp_condA rfl ?_ ?_) | with_reducible (first | refine onB_of ?_ ?_ | rfl) | omega))
  · rename_i h1 x hx h
    rw [fidxGo_next hx, if_pos (by simpa using h)] at hv
    exact keepD hk (by rw [hv])
  · rename_i h1 x hx h
    rw [fidxGo_next hx, if_neg (by simpa using h)] at hv
    exact ⟨i + 1, ⟨by omega, hv⟩, by omega, by omega⟩
  · have e : i = l.length := by omega
    subst e
    rw [fidxGo_end] at hv
    exact keepD hk (by rw [hv])
theorem txtAt_ge (l : List (List UInt8)) (s : List UInt8) : decide (0 ≤ txtAt l s) = decide (s ∈ l) := by
  unfold txtAt
  rw [fidx_ge, Bool.eq_iff_iff, List.any_eq_true]
  simp
namespace FN14
def tks : Nat → List Nat | 0 => [0, 1] | 1 => [4] | _ => []
def tmu : List Nat := []
def tin : List Nat := [0, 1]
abbrev tfn := @Tryd.func14
end FN14
attribute [go_sem] FN14.tks FN14.tmu FN14.tin Tryd.ntmps14 Tryd.results14
open FN14 in
theorem contains_A (l : List (List UInt8)) (s : List UInt8) (hlen : l.length ≤ 9223372036854775807) (H : Heap) (K : V → Heap → Prop) (hk : K (.d (.b (decide (s ∈ l)))) H) :
    ACalls Tryd.prog 14 [.d (.sl 1 (l.map strRow)), .d (.s s)] H K := by
  refine We ?_
  have us := eq_self (0 : Nat)
  (repeat' (first | with_reducible (first | refine And.intro ?_ ?_ | intro _ | (refine hKv _ _ (AWp_nop ?_); clear hKv Kv) | (refine hKA ?_; clear hKA hKB KA KB) | (refine hKB ?_; clear hKA hKB KA KB) | refine Wp ?_ | fail) | ((first | with_reducible (first | (refine hKv _ _ ?_; clear hKv Kv) | (refine Wr ?_; intro Kv hKv) | refine AWp_retR ?_ | fail) | refine Wc ?_ | refine index_A _ _ hlen _ _ ?_ | refine QCall_of (index_A _ _ hlen _ _ (Two_intro _ _)) ?_ | refine ECall_of (index_A _ _ hlen _ _ (Two_intro _ _)) ?_ | fail); try simp (dsimp := false) only [go_sem, Nat.reduceAdd, Nat.reduceBEq, Nat.reduceEqDiff, Nat.reduceLT, Nat.reduceLeDiff, Nat.reduceMul, Int.reduceToNat, reduceCtorEq, ↓reduceIte, us]) | (refine AWp_condC rfl ?_; intro KA KB hKA hKB; try simp only [onB_true, onB_false, onB_dec, onB_ndec, onB_not, onB_and, onB_or]) | (refine AWp_condA rfl ?_ ?_) | with_reducible (first | refine onB_of ?_ ?_ | rfl) | omega))
  exact keepD hk (by rw [txtAt_ge])
end Go.Proofs.YtmhabdopcbokoaaDoor
