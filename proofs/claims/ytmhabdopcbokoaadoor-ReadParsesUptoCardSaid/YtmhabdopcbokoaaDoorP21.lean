/- Texts: what the reference and the program check of them. No condition but that the tables of package unicode/utf8 are there. -/
import Derived.Test.YtmhabdopcbokoaaDoorP18
import Derived.Test.YtmhabdopcbokoaaDoorP20
import Derived.Test.YtmhabdopcbokoaaDoorP19
set_option linter.all false
set_option linter.unusedSimpArgs false
set_option linter.unusedVariables false
namespace Go.Proofs.YtmhabdopcbokoaaDoor
open Go Go.Proofs.YtmhabdopcbokoaaDoor.Ab
variable [Glo] [U8]
set_option maxHeartbeats 1000000
set_option maxRecDepth 20000
def okByte (c : Int) : Bool := decide (32 ≤ c ∨ c = 9 ∨ c = 10)
def okBytes (l : List UInt8) : Bool := l.all fun c => okByte c.toNat
def textFault (l : List UInt8) : Int := if l.length ≤ 20000 then (if (Lib.validD l && okBytes l) = true then 0 else 4) else 1
theorem okBytes_drop {l : List UInt8} {i : Nat} {c : UInt8} (h : l[i]? = some c) : okBytes (l.drop i) = (okByte c.toNat && okBytes (l.drop (i + 1))) := all_drop _ h
namespace FN13
def tks : Nat → List Nat | 0 => [0] | 1 => [0, 6] | 2 => [2] | 3 => [0, 9] | 4 => [2] | 5 => [0, 11, 12] | 6 => [0, 11, 12, 13] | 7 => [0, 3, 11, 12] | 8 => [0, 11, 12, 30] | 9 => [2] | 10 => [0, 11, 12] | 11 => [2] | _ => []
def tmu : List Nat := []
def tin : List Nat := [0]
abbrev tfn := @Tryd.func13
end FN13
attribute [go_sem] FN13.tks FN13.tmu FN13.tin Tryd.ntmps13 Tryd.results13
open FN13 in
theorem checkText_A (l : List UInt8) (hlen : l.length ≤ 9223372036854775807) (H : Heap) (K : V → Heap → Prop) (hk : K (.d (.i .i64 (textFault l))) H) : ACalls Tryd.prog 13 [.d (.s l)] H K := by
  refine We ?_
  have us := eq_self (0 : Nat)
  (repeat' (first | with_reducible (first | refine And.intro ?_ ?_ | intro _ | (refine hKv _ _ (AWp_nop ?_); clear hKv Kv) | (refine hKA ?_; clear hKA hKB KA KB) | (refine hKB ?_; clear hKA hKB KA KB) | refine Wp ?_ | fail) | ((first | with_reducible (first | (refine hKv _ _ ?_; clear hKv Kv) | (refine Wr ?_; intro Kv hKv) | refine AWp_retR ?_ | fail) | refine Wc ?_ | refine valid_A _ hlen _ _ ?_ | refine QCall_of (valid_A _ hlen _ _ (Two_intro _ _)) ?_ | refine ECall_of (valid_A _ hlen _ _ (Two_intro _ _)) ?_ | fail); try simp (dsimp := false) only [go_sem, Nat.reduceAdd, Nat.reduceBEq, Nat.reduceEqDiff, Nat.reduceLT, Nat.reduceLeDiff, Nat.reduceMul, Int.reduceToNat, reduceCtorEq, ↓reduceIte, us]) | (refine AWp_condC rfl ?_; intro KA KB hKA hKB; try simp only [onB_true, onB_false, onB_dec, onB_ndec, onB_not, onB_and, onB_or]) | (refine AWp_condA rfl ?_ ?_) | with_reducible (first | refine onB_of ?_ ?_ | rfl) | omega))
  all_goals try exact keepD hk (by (simp only [V.d.injEq, D.i.injEq, D.b.injEq, D.s.injEq, true_and]; grind [textFault]))
  rename_i h1 h2
  have h1 : l.length ≤ 20000 := by omega
  have h2 : Lib.validD l = true := by simpa using h2
  refine AWp_while0 (fun i : Nat => i ≤ l.length ∧ okBytes l = okBytes (l.drop i)) (fun i => [(0, .d (.s l)), (11, .d (.i .i64 l.length)), (12, .d (.i .i64 i))]) (fun i => l.length - i) 0 ?_ ?_ ?_
  · simp
  · simp (dsimp := false) only [go_sem, Nat.reduceAdd, Nat.reduceBEq, Nat.reduceEqDiff, Nat.reduceLT, Nat.reduceLeDiff, Nat.reduceMul, Int.reduceToNat, reduceCtorEq, ↓reduceIte]
    omega
  rintro i ⟨hi, hall⟩
  have us := eq_self (0 : Nat)
  (repeat' (first | with_reducible (first | refine And.intro ?_ ?_ | intro _ | (refine hKv _ _ (AWp_nop ?_); clear hKv Kv) | (refine hKA ?_; clear hKA hKB KA KB) | (refine hKB ?_; clear hKA hKB KA KB) | refine Wp ?_ | fail) | ((first | with_reducible (first | (refine hKv _ _ ?_; clear hKv Kv) | (refine Wr ?_; intro Kv hKv) | refine AWp_retR ?_ | fail) | refine Wc ?_ | fail); try simp (dsimp := false) only [go_sem, Nat.reduceAdd, Nat.reduceBEq, Nat.reduceEqDiff, Nat.reduceLT, Nat.reduceLeDiff, Nat.reduceMul, Int.reduceToNat, reduceCtorEq, ↓reduceIte, us]) | (refine AWp_condC rfl ?_; intro KA KB hKA hKB; try simp only [onB_true, onB_false, onB_dec, onB_ndec, onB_not, onB_and, onB_or]) | (refine AWp_condA rfl ?_ ?_) | with_reducible (first | refine onB_of ?_ ?_ | rfl) | omega))
  all_goals try have hst := okBytes_drop ‹l[i]? = some _›
  all_goals try (refine ⟨i + 1, ⟨by omega, ?_⟩, by omega, by omega⟩)
  all_goals try refine keepD hk ?_
  all_goals try simp only [V.d.injEq, D.i.injEq, true_and, textFault, if_pos h1, h2]
  all_goals rw [hall]
  all_goals try rw [hst]
  all_goals first
    | (have : i = l.length := by omega
       subst this; simp [okBytes])
    | grind [okByte]
namespace FN21
def tks : Nat → List Nat | 0 => [0] | 1 => [0, 7] | 2 => [2] | 3 => [0, 3] | 4 => [0, 3, 4] | 5 => [0, 3, 4, 13] | 6 => [0, 3, 4] | 7 => [0, 3, 4] | 8 => [36] | 9 => [2] | 10 => [2] | _ => []
def tmu : List Nat := []
def tin : List Nat := [0]
abbrev tfn := @Tryd.func21
end FN21
attribute [go_sem] FN21.tks FN21.tmu FN21.tin Tryd.ntmps21 Tryd.results21
open FN21 in
theorem valueFault_A (l : List UInt8) (hlen : l.length ≤ 9223372036854775807) (H : Heap) (K : V → Heap → Prop) (hk : K (.d (.i .i64 (textFault l))) H) : ACalls Tryd.prog 21 [.d (.s l)] H K := by
  refine We ?_
  have us := eq_self (0 : Nat)
  (repeat' (first | with_reducible (first | refine And.intro ?_ ?_ | intro _ | (refine hKv _ _ (AWp_nop ?_); clear hKv Kv) | (refine hKA ?_; clear hKA hKB KA KB) | (refine hKB ?_; clear hKA hKB KA KB) | refine Wp ?_ | fail) | ((first | with_reducible (first | (refine hKv _ _ ?_; clear hKv Kv) | (refine Wr ?_; intro Kv hKv) | refine AWp_retR ?_ | fail) | refine Wc ?_ | refine valid_A _ hlen _ _ ?_ | refine QCall_of (valid_A _ hlen _ _ (Two_intro _ _)) ?_ | refine ECall_of (valid_A _ hlen _ _ (Two_intro _ _)) ?_ | fail); try simp (dsimp := false) only [go_sem, Nat.reduceAdd, Nat.reduceBEq, Nat.reduceEqDiff, Nat.reduceLT, Nat.reduceLeDiff, Nat.reduceMul, Int.reduceToNat, reduceCtorEq, ↓reduceIte, us]) | (refine AWp_condC rfl ?_; intro KA KB hKA hKB; try simp only [onB_true, onB_false, onB_dec, onB_ndec, onB_not, onB_and, onB_or]) | (refine AWp_condA rfl ?_ ?_) | with_reducible (first | refine onB_of ?_ ?_ | rfl) | omega))
  all_goals try exact keepD hk (by (simp only [V.d.injEq, D.i.injEq, D.b.injEq, D.s.injEq, true_and]; grind [textFault]))
  rename_i h1
  have h1 : l.length ≤ 20000 := by omega
  refine AWp_while0 (fun x : Nat × Bool => x.1 ≤ l.length ∧ (Lib.validD l && okBytes l) = (x.2 && okBytes (l.drop x.1))) (fun x => [(0, .d (.s l)), (3, .d (.b x.2)), (4, .d (.i .i64 x.1))]) (fun x => l.length - x.1) (0, Lib.validD l) ?_ ?_ ?_
  · simp
  · simp (dsimp := false) only [go_sem, Nat.reduceAdd, Nat.reduceBEq, Nat.reduceEqDiff, Nat.reduceLT, Nat.reduceLeDiff, Nat.reduceMul, Int.reduceToNat, reduceCtorEq, ↓reduceIte]
    first | done | omega
  rintro ⟨i, ok⟩ ⟨hi, hall⟩
  simp only [] at hi hall
  have us := eq_self (0 : Nat)
  (repeat' (first | with_reducible (first | refine And.intro ?_ ?_ | intro _ | (refine hKv _ _ (AWp_nop ?_); clear hKv Kv) | (refine hKA ?_; clear hKA hKB KA KB) | (refine hKB ?_; clear hKA hKB KA KB) | refine Wp ?_ | fail) | ((first | with_reducible (first | (refine hKv _ _ ?_; clear hKv Kv) | (refine Wr ?_; intro Kv hKv) | refine AWp_retR ?_ | fail) | refine Wc ?_ | fail); try simp (dsimp := false) only [go_sem, Nat.reduceAdd, Nat.reduceBEq, Nat.reduceEqDiff, Nat.reduceLT, Nat.reduceLeDiff, Nat.reduceMul, Int.reduceToNat, reduceCtorEq, ↓reduceIte, us]) | (refine AWp_condC rfl ?_; intro KA KB hKA hKB; try simp only [onB_true, onB_false, onB_dec, onB_ndec, onB_not, onB_and, onB_or]) | (refine AWp_condA rfl ?_ ?_) | with_reducible (first | refine onB_of ?_ ?_ | rfl) | omega))
  all_goals try have hst := okBytes_drop ‹l[i]? = some _›
  all_goals try (apply Exists.intro (i + 1, _); dsimp only; refine ⟨⟨by omega, ?_⟩, by omega, rfl, by omega⟩)
  all_goals try refine keepD hk ?_
  all_goals try simp only [V.d.injEq, D.i.injEq, true_and, textFault, if_pos h1]
  all_goals rw [hall]
  all_goals try rw [hst]
  all_goals first
    | grind [okByte]
    | (have : i = l.length := by omega
       subst this; simp_all [okBytes])
end Go.Proofs.YtmhabdopcbokoaaDoor
namespace Go.Proofs.YtmhabdopcbokoaaDoor
open Go Go.Proofs.YtmhabdopcbokoaaDoor.Ab
variable [Glo]
structure It where
  k : Int
  n : Int
  s : List UInt8
  deriving DecidableEq
structure Tk where
  k : Int
  s : List UInt8
  n : Int
  deriving DecidableEq
def tkD (x : Tk) : List D := [.i .i64 x.k, .s x.s, .i .i64 x.n]
def tkV (x : Tk) : V := .ag [.d (.i .i64 x.k), .d (.s x.s), .d (.i .i64 x.n)]
abbrev tyTk : Ty := .cons (.i .i64) (.cons .s (.cons (.i .i64) .nil))
theorem typed_tk {ds : List D} {m : Nat} (h : Typed tyTk ds m) : ∃ x : Tk, ds = tkD x ∧ x.s.length + 3 ≤ m ∧ inR .i64 x.k ∧ inR .i64 x.n := by
  obtain ⟨_, _, _, _, rfl, e1, h1, g1⟩ := typed_cons h
  obtain ⟨_, _, _, _, rfl, e2, h2, g2⟩ := typed_cons g1
  obtain ⟨_, _, _, _, rfl, e3, h3, g3⟩ := typed_cons g2
  obtain ⟨a, rfl, ra, la⟩ := typed_i h1
  obtain ⟨b, rfl, lb⟩ := typed_s h2
  obtain ⟨s, rfl, rs, ls⟩ := typed_i h3
  obtain rfl := typed_nil g3
  exact ⟨⟨a, b, s⟩, rfl, by simp only []; omega, ra, rs⟩
theorem typed_list {α : Type} {E : Ty} {f : α → List D} {p : α → Nat → Prop} (hE : ∀ ds m, Typed E ds m → ∃ x, ds = f x ∧ p x m) {ds : List D} {m : Nat} (h : Typed (.sl E) ds m) :
    ∃ (xs : List α) (ws : List Nat), ds = [.sl E.size (xs.map f)] ∧ ws.length = xs.length ∧ ws.sum + 1 ≤ m ∧ ∀ (i : Nat) (x : α) (w : Nat), xs[i]? = some x → ws[i]? = some w → p x w := by
  obtain ⟨rows, rfl, ws, h1, h2, h3⟩ := typed_sl h
  have : ∀ (rows : List (List D)) (ws : List Nat), ws.length = rows.length → (∀ (i : Nat) (row : List D) (w : Nat), rows[i]? = some row → ws[i]? = some w → Typed E row w) → ∃ xs : List α, rows = xs.map f ∧ ∀ (i : Nat) (x : α) (w : Nat), xs[i]? = some x → ws[i]? = some w → p x w := by
    intro rows
    induction rows with
    | nil => intro ws _ _; exact ⟨[], rfl, by simp⟩
    | cons r rows ih =>
      intro ws hl hw
      cases ws with
      | nil => simp at hl
      | cons w ws =>
        obtain ⟨x, rfl, hx⟩ := hE r w (hw 0 r w rfl rfl)
        obtain ⟨xs, rfl, hxs⟩ := ih ws (by simpa using hl) (fun i row w' h1 h2 => hw (i + 1) row w' (by simpa using h1) (by simpa using h2))
        refine ⟨x :: xs, rfl, fun i y w' h1 h2 => ?_⟩
        cases i with
        | zero => simp at h1 h2; subst h1 h2; exact hx
        | succ i => exact hxs i y w' (by simpa using h1) (by simpa using h2)
  obtain ⟨xs, rfl, hxs⟩ := this rows ws h1 h3
  exact ⟨xs, ws, rfl, by simpa using h1, h2, hxs⟩
theorem le_sum : ∀ {ws : List Nat} {i w : Nat}, ws[i]? = some w → w ≤ ws.sum
  | [], i, w, h => by simp at h
  | x :: ws, 0, w, h => by simp at h; subst h; simp
  | x :: ws, i + 1, w, h => by
    have := le_sum (ws := ws) (i := i) (w := w) (by simpa using h)
    simp only [List.sum_cons]
    omega
theorem len_sum {ws : List Nat} (c : Nat) (h : ∀ (i w : Nat), ws[i]? = some w → c ≤ w) : c * ws.length ≤ ws.sum := by
  induction ws with
  | nil => simp
  | cons x ws ih =>
    have h1 := h 0 x rfl
    have h2 := ih fun i w hw => h (i + 1) w (by simpa using hw)
    simp only [List.length_cons, List.sum_cons, Nat.mul_add]
    omega
end Go.Proofs.YtmhabdopcbokoaaDoor
namespace Go.Proofs.YtmhabdopcbokoaaDoor
open Go Go.Proofs.YtmhabdopcbokoaaDoor.Ab
variable [Glo]
def wordB (c : Int) (first : Bool) : Bool := !decide (c = 46) && nameB c first
def wEnd (s : List UInt8) (a j : Nat) : Nat :=
  if h : j < s.length then (if wordB (s[j]).toNat (decide (j = a)) = true then wEnd s a (j + 1) else j) else j
termination_by s.length - j
theorem wEnd_next {s : List UInt8} {a j : Nat} {c : UInt8} (h : s[j]? = some c) (hw : wordB c.toNat (decide (j = a)) = true) : wEnd s a j = wEnd s a (j + 1) := by
  obtain ⟨hj, rfl⟩ := List.getElem?_eq_some_iff.1 h
  rw [wEnd, dif_pos hj, if_pos hw]
theorem wEnd_stop {s : List UInt8} {a j : Nat} {c : UInt8} (h : s[j]? = some c) (hw : wordB c.toNat (decide (j = a)) = false) : wEnd s a j = j := by
  obtain ⟨hj, rfl⟩ := List.getElem?_eq_some_iff.1 h
  rw [wEnd, dif_pos hj, if_neg (by rw [hw]; decide)]
theorem wEnd_end {s : List UInt8} {a j : Nat} (h : s.length ≤ j) : wEnd s a j = j := by rw [wEnd, dif_neg (by omega)]
theorem wEnd_le (s : List UInt8) (a : Nat) : ∀ (m j : Nat), s.length - j ≤ m → j ≤ s.length → j ≤ wEnd s a j ∧ wEnd s a j ≤ s.length
  | 0, j, h, hj => by rw [wEnd_end (by omega)]; omega
  | m + 1, j, h, hj => by
    by_cases hl : j < s.length
    · rw [wEnd, dif_pos hl]
      split
      · have := wEnd_le s a m (j + 1) (by omega) (by omega); omega
      · omega
    · rw [wEnd_end (by omega)]; omega
def digB (c : Int) : Bool := decide (48 ≤ c ∧ c ≤ 57)
def qAt (s : List UInt8) (j : Nat) : Nat :=
  if h : j < s.length then (if s[j] = 34 then j else qAt s (j + 1)) else s.length
termination_by s.length - j
theorem qAt_hit {s : List UInt8} {j : Nat} {c : UInt8} (h : s[j]? = some c) (hc : c = 34) : qAt s j = j := by
  obtain ⟨hj, rfl⟩ := List.getElem?_eq_some_iff.1 h
  rw [qAt, dif_pos hj, if_pos hc]
theorem qAt_next {s : List UInt8} {j : Nat} {c : UInt8} (h : s[j]? = some c) (hc : c ≠ 34) : qAt s j = qAt s (j + 1) := by
  obtain ⟨hj, rfl⟩ := List.getElem?_eq_some_iff.1 h
  rw [qAt, dif_pos hj, if_neg hc]
theorem qAt_end {s : List UInt8} {j : Nat} (h : s.length ≤ j) : qAt s j = s.length := by rw [qAt, dif_neg (by omega)]
theorem qAt_le (s : List UInt8) : ∀ (m j : Nat), s.length - j ≤ m → j ≤ s.length → j ≤ qAt s j ∧ qAt s j ≤ s.length
  | 0, j, h, hj => by rw [qAt_end (by omega)]; omega
  | m + 1, j, h, hj => by
    by_cases hl : j < s.length
    · rw [qAt, dif_pos hl]
      split
      · omega
      · have := qAt_le s m (j + 1) (by omega) (by omega); omega
    · rw [qAt_end (by omega)]; omega
def marksL : List (List UInt8) := [[58, 58], [47, 47], [46, 46], [58, 61], [33, 61], [60, 61], [62, 61], [60, 60], [62, 62], [47], [40], [41], [91], [93], [123], [125], [44], [46], [64], [42], [61], [60], [62], [43], [45], [124]]
end Go.Proofs.YtmhabdopcbokoaaDoor
namespace Go.Proofs.YtmhabdopcbokoaaDoor
open Go Go.Proofs.YtmhabdopcbokoaaDoor.Ab
variable [Glo]
set_option maxHeartbeats 4000000
set_option maxRecDepth 20000
theorem wordB_first (c : Int) : wordB c true = letterB c := by
  simp only [wordB, nameB, letterB]; grind
theorem wordB_rest (c : Int) : wordB c false = (letterB c || digB c || decide (c = 45)) := by
  simp only [wordB, nameB, letterB, digB]; grind
namespace FN32
def tks : Nat → List Nat | 0 => [0] | 1 => [2] | _ => []
def tmu : List Nat := []
def tin : List Nat := [0]
abbrev tfn := @Tryd.func32
end FN32
attribute [go_sem] FN32.tks FN32.tmu FN32.tin Tryd.ntmps32 Tryd.results32
open FN32 in
theorem start_A (c : Int) (H : Heap) (K : V → Heap → Prop) (hk : K (.d (.b (letterB c))) H) : ACalls Tryd.prog 32 [.d (.i .u8 c)] H K := by
  refine We ?_
  have us := eq_self (0 : Nat)
  (repeat' (first | with_reducible (first | refine And.intro ?_ ?_ | intro _ | (refine hKv _ _ (AWp_nop ?_); clear hKv Kv) | (refine hKA ?_; clear hKA hKB KA KB) | (refine hKB ?_; clear hKA hKB KA KB) | refine Wp ?_ | fail) | ((first | with_reducible (first | (refine hKv _ _ ?_; clear hKv Kv) | (refine Wr ?_; intro Kv hKv) | refine AWp_retR ?_ | fail) | refine Wc ?_ | fail); try simp (dsimp := false) only [go_sem, Nat.reduceAdd, Nat.reduceBEq, Nat.reduceEqDiff, Nat.reduceLT, Nat.reduceLeDiff, Nat.reduceMul, Int.reduceToNat, reduceCtorEq, ↓reduceIte, us]) | (refine AWp_condC rfl ?_; intro KA KB hKA hKB; try simp only [onB_true, onB_false, onB_dec, onB_ndec, onB_not, onB_and, onB_or]) | (refine AWp_condA rfl ?_ ?_) | with_reducible (first | refine onB_of ?_ ?_ | rfl) | omega))
  all_goals refine keepD hk ?_
  all_goals (simp only [letterB, V.d.injEq, D.b.injEq]; grind)
namespace FN41
def tks : Nat → List Nat | 0 => [0, 1] | 1 => [4] | _ => []
def tmu : List Nat := []
def tin : List Nat := [0, 1]
abbrev tfn := @Tryd.func41
end FN41
attribute [go_sem] FN41.tks FN41.tmu FN41.tin Tryd.ntmps41 Tryd.results41
open FN41 in
theorem wordByte_A (c : Int) (t : Bool) (H : Heap) (K : V → Heap → Prop) (hk : K (.d (.b (wordB c t))) H) : ACalls Tryd.prog 41 [.d (.i .u8 c), .d (.b t)] H K := by
  refine We ?_
  have us := eq_self (0 : Nat)
  (repeat' (first | with_reducible (first | refine And.intro ?_ ?_ | intro _ | (refine hKv _ _ (AWp_nop ?_); clear hKv Kv) | (refine hKA ?_; clear hKA hKB KA KB) | (refine hKB ?_; clear hKA hKB KA KB) | refine Wp ?_ | fail) | ((first | with_reducible (first | (refine hKv _ _ ?_; clear hKv Kv) | (refine Wr ?_; intro Kv hKv) | refine AWp_retR ?_ | fail) | refine Wc ?_ | refine nameByte_A _ _ _ _ ?_ | refine QCall_of (nameByte_A _ _ _ _ (Two_intro _ _)) ?_ | refine ECall_of (nameByte_A _ _ _ _ (Two_intro _ _)) ?_ | fail); try simp (dsimp := false) only [go_sem, Nat.reduceAdd, Nat.reduceBEq, Nat.reduceEqDiff, Nat.reduceLT, Nat.reduceLeDiff, Nat.reduceMul, Int.reduceToNat, reduceCtorEq, ↓reduceIte, us]) | (refine AWp_condC rfl ?_; intro KA KB hKA hKB; try simp only [onB_true, onB_false, onB_dec, onB_ndec, onB_not, onB_and, onB_or]) | (refine AWp_condA rfl ?_ ?_) | with_reducible (first | refine onB_of ?_ ?_ | rfl) | omega))
  all_goals refine keepD hk ?_
  all_goals (simp only [wordB, V.d.injEq, D.b.injEq]; grind)
namespace FN24
def tks : Nat → List Nat | 0 => [0, 1] | 1 => [0, 1, 5] | 2 => [0, 1, 5, 19] | 3 => [0, 1, 5] | 4 => [4] | _ => []
def tmu : List Nat := []
def tin : List Nat := [0, 1]
abbrev tfn := @Tryd.func24
end FN24
attribute [go_sem] FN24.tks FN24.tmu FN24.tin Tryd.ntmps24 Tryd.results24
open FN24 in
theorem wordTo_A (s : List UInt8) (a : Nat) (hs : s.length ≤ 1048576) (ha : a ≤ s.length) (H : Heap) (K : V → Heap → Prop) (hk : K (.d (.i .i64 (wEnd s a a))) H) : ACalls Tryd.prog 24 [.d (.s s), .d (.i .i64 a)] H K := by
  refine We ?_
  have us := eq_self (0 : Nat)
  refine W1 ?_
  refine AWp_while0 (fun j : Nat => a ≤ j ∧ j ≤ s.length ∧ wEnd s a a = wEnd s a j) (fun j => [(0, .d (.s s)), (1, .d (.i .i64 a)), (5, .d (.i .i64 j))]) (fun j => s.length - j) a ⟨Nat.le_refl _, ha, rfl⟩ ?_ ?_
  · simp (dsimp := false) only [go_sem, Nat.reduceAdd, Nat.reduceBEq, Nat.reduceEqDiff, Nat.reduceLT, Nat.reduceLeDiff, Nat.reduceMul, Int.reduceToNat, reduceCtorEq, ↓reduceIte]
    first | done | simp
  rintro j ⟨h1, h2, h3⟩
  by_cases hj : j < s.length
  · obtain ⟨c, hc⟩ : ∃ c, s[j]? = some c := ⟨s[j], List.getElem?_eq_getElem hj⟩
    have hd : decide ((j : Int) = (a : Int)) = decide (j = a) := by simp [Int.ofNat_inj]
    cases hw : wordB c.toNat (decide (j = a)) with
    | true =>
      have us := an hc (an hd hw)
      (repeat' (first | with_reducible (first | refine And.intro ?_ ?_ | intro _ | (refine hKv _ _ (AWp_nop ?_); clear hKv Kv) | (refine hKA ?_; clear hKA hKB KA KB) | (refine hKB ?_; clear hKA hKB KA KB) | refine Wp ?_ | fail) | ((first | with_reducible (first | (refine hKv _ _ ?_; clear hKv Kv) | (refine Wr ?_; intro Kv hKv) | refine AWp_retR ?_ | fail) | refine Wc ?_ | refine wordByte_A _ _ _ _ ?_ | refine QCall_of (wordByte_A _ _ _ _ (Two_intro _ _)) ?_ | refine ECall_of (wordByte_A _ _ _ _ (Two_intro _ _)) ?_ | fail); try simp (dsimp := false) only [go_sem, Nat.reduceAdd, Nat.reduceBEq, Nat.reduceEqDiff, Nat.reduceLT, Nat.reduceLeDiff, Nat.reduceMul, Int.reduceToNat, reduceCtorEq, ↓reduceIte, us]) | (refine AWp_condC rfl ?_; intro KA KB hKA hKB; try simp only [onB_true, onB_false, onB_dec, onB_ndec, onB_not, onB_and, onB_or]) | (refine AWp_condA rfl ?_ ?_) | with_reducible (first | refine onB_of ?_ ?_ | rfl) | omega))
      all_goals exact ⟨j + 1, ⟨by omega, by omega, by rw [h3, wEnd_next hc hw]⟩, by omega, by omega⟩
    | false =>
      have us := an hc (an hd hw)
      (repeat' (first | with_reducible (first | refine And.intro ?_ ?_ | intro _ | (refine hKv _ _ (AWp_nop ?_); clear hKv Kv) | (refine hKA ?_; clear hKA hKB KA KB) | (refine hKB ?_; clear hKA hKB KA KB) | refine Wp ?_ | fail) | ((first | with_reducible (first | (refine hKv _ _ ?_; clear hKv Kv) | (refine Wr ?_; intro Kv hKv) | refine AWp_retR ?_ | fail) | refine Wc ?_ | refine wordByte_A _ _ _ _ ?_ | refine QCall_of (wordByte_A _ _ _ _ (Two_intro _ _)) ?_ | refine ECall_of (wordByte_A _ _ _ _ (Two_intro _ _)) ?_ | fail); try simp (dsimp := false) only [go_sem, Nat.reduceAdd, Nat.reduceBEq, Nat.reduceEqDiff, Nat.reduceLT, Nat.reduceLeDiff, Nat.reduceMul, Int.reduceToNat, reduceCtorEq, ↓reduceIte, us]) | (refine AWp_condC rfl ?_; intro KA KB hKA hKB; try simp only [onB_true, onB_false, onB_dec, onB_ndec, onB_not, onB_and, onB_or]) | (refine AWp_condA rfl ?_ ?_) | with_reducible (first | refine onB_of ?_ ?_ | rfl) | omega))
      all_goals exact keepD hk (by rw [h3, wEnd_stop hc hw])
  ·
    have us := eq_self (0 : Nat)
    (repeat' (first | with_reducible (first | refine And.intro ?_ ?_ | intro _ | (refine hKv _ _ (AWp_nop ?_); clear hKv Kv) | (refine hKA ?_; clear hKA hKB KA KB) | (refine hKB ?_; clear hKA hKB KA KB) | refine Wp ?_ | fail) | ((first | with_reducible (first | (refine hKv _ _ ?_; clear hKv Kv) | (refine Wr ?_; intro Kv hKv) | refine AWp_retR ?_ | fail) | refine Wc ?_ | fail); try simp (dsimp := false) only [go_sem, Nat.reduceAdd, Nat.reduceBEq, Nat.reduceEqDiff, Nat.reduceLT, Nat.reduceLeDiff, Nat.reduceMul, Int.reduceToNat, reduceCtorEq, ↓reduceIte, us]) | (refine AWp_condC rfl ?_; intro KA KB hKA hKB; try simp only [onB_true, onB_false, onB_dec, onB_ndec, onB_not, onB_and, onB_or]) | (refine AWp_condA rfl ?_ ?_) | with_reducible (first | refine onB_of ?_ ?_ | rfl) | omega))
    all_goals exact keepD hk (by rw [h3, wEnd_end (by omega)])
def lexC (s : List UInt8) (p : Nat) (o : V) : Ob := .row 0 57 3 [[.d (.s s), .d (.i .i64 p), o]]
namespace FN15
def tks : Nat → List Nat | 0 => [0, 1] | 1 => [0, 1, 5] | 2 => [0, 1, 5, 15] | 3 => [0, 1, 5, 6] | 4 => [0, 1, 5, 6, 7] | 5 => [0, 1, 5, 43] | 6 => [0, 1, 5] | 7 => [4] | _ => []
def tmu : List Nat := []
def tin : List Nat := [0, 1]
abbrev tfn := @Tryd.func15
end FN15
attribute [go_sem] FN15.tks FN15.tmu FN15.tin Tryd.ntmps15 Tryd.results15
open FN15 in
theorem word_A (id : Nat) (s : List UInt8) (p a : Nat) (o : V) (hs : s.length ≤ 1048576) (ha : a ≤ s.length) (H : Heap) (K : V → Heap → Prop) (hr : H[id]? = some (lexC s p o)) (hk : K (.d (.i .i64 (wEnd s a a))) H) :
    ACalls Tryd.prog 15 [.pt id 0 0 0, .d (.i .i64 a)] H K := by
  have hid := (List.getElem?_eq_some_iff.1 hr).1
  have hr' : H[id]? = some (.row 0 57 3 [[.d (.s s), .d (.i .i64 p), o]]) := hr
  refine We ?_
  have us := hr'
  refine W2 ?_
  refine AWp_while0 (fun j : Nat => a ≤ j ∧ j ≤ s.length ∧ wEnd s a a = wEnd s a j) (fun j => [(0, .pt id 0 0 0), (1, .d (.i .i64 a)), (5, .d (.i .i64 j))]) (fun j => s.length - j) a ⟨Nat.le_refl _, ha, rfl⟩ ?_ ?_
  · simp (dsimp := false) only [go_sem, Nat.reduceAdd, Nat.reduceBEq, Nat.reduceEqDiff, Nat.reduceLT, Nat.reduceLeDiff, Nat.reduceMul, Int.reduceToNat, reduceCtorEq, ↓reduceIte, hr', hid]
    first | done | simp
  rintro j ⟨h1, h2, h3⟩
  by_cases hj : j < s.length
  · obtain ⟨c, hc⟩ : ∃ c, s[j]? = some c := ⟨s[j], List.getElem?_eq_getElem hj⟩
    have hwf : j = a → wordB c.toNat (decide (j = a)) = letterB c.toNat := fun e => by rw [decide_eq_true e, wordB_first]
    have hwr : j ≠ a → wordB c.toNat (decide (j = a)) = (letterB c.toNat || digB c.toNat || decide ((c.toNat : Int) = 45)) := fun e => by rw [decide_eq_false e, wordB_rest]
    have us := an hr' hc
    (repeat' (first | with_reducible (first | refine And.intro ?_ ?_ | intro _ | (refine hKv _ _ (AWp_nop ?_); clear hKv Kv) | (refine hKA ?_; clear hKA hKB KA KB) | (refine hKB ?_; clear hKA hKB KA KB) | refine Wp ?_ | fail) | ((first | with_reducible (first | (refine hKv _ _ ?_; clear hKv Kv) | (refine Wr ?_; intro Kv hKv) | refine AWp_retR ?_ | fail) | refine Wc ?_ | refine start_A _ _ _ ?_ | refine QCall_of (start_A _ _ _ (Two_intro _ _)) ?_ | refine ECall_of (start_A _ _ _ (Two_intro _ _)) ?_ | fail); try simp (dsimp := false) only [go_sem, Nat.reduceAdd, Nat.reduceBEq, Nat.reduceEqDiff, Nat.reduceLT, Nat.reduceLeDiff, Nat.reduceMul, Int.reduceToNat, reduceCtorEq, ↓reduceIte, us, hid]) | (refine AWp_condC rfl ?_; intro KA KB hKA hKB; try simp only [onB_true, onB_false, onB_dec, onB_ndec, onB_not, onB_and, onB_or]) | (refine AWp_condA rfl ?_ ?_) | with_reducible (first | refine onB_of ?_ ?_ | rfl) | omega))
    all_goals first
      | (have hw : wordB c.toNat (decide (j = a)) = true := by
           simp only [digB] at hwr
           grind
         exact ⟨j + 1, ⟨by omega, by omega, by rw [h3, wEnd_next hc hw]⟩, by omega, by omega⟩)
      | (have hw : wordB c.toNat (decide (j = a)) = false := by
           simp only [digB] at hwr
           grind
         exact keepD hk (by rw [h3, wEnd_stop hc hw]))
  ·
    have us := hr'
    (repeat' (first | with_reducible (first | refine And.intro ?_ ?_ | intro _ | (refine hKv _ _ (AWp_nop ?_); clear hKv Kv) | (refine hKA ?_; clear hKA hKB KA KB) | (refine hKB ?_; clear hKA hKB KA KB) | refine Wp ?_ | fail) | ((first | with_reducible (first | (refine hKv _ _ ?_; clear hKv Kv) | (refine Wr ?_; intro Kv hKv) | refine AWp_retR ?_ | fail) | refine Wc ?_ | refine start_A _ _ _ ?_ | refine QCall_of (start_A _ _ _ (Two_intro _ _)) ?_ | refine ECall_of (start_A _ _ _ (Two_intro _ _)) ?_ | fail); try simp (dsimp := false) only [go_sem, Nat.reduceAdd, Nat.reduceBEq, Nat.reduceEqDiff, Nat.reduceLT, Nat.reduceLeDiff, Nat.reduceMul, Int.reduceToNat, reduceCtorEq, ↓reduceIte, us, hid]) | (refine AWp_condC rfl ?_; intro KA KB hKA hKB; try simp only [onB_true, onB_false, onB_dec, onB_ndec, onB_not, onB_and, onB_or]) | (refine AWp_condA rfl ?_ ?_) | with_reducible (first | refine onB_of ?_ ?_ | rfl) | omega))
    all_goals exact keepD hk (by rw [h3, wEnd_end (by omega)])
namespace FN23
def tks : Nat → List Nat | 0 => [] | 1 => [0] | _ => []
def tmu : List Nat := []
def tin : List Nat := []
abbrev tfn := @Tryd.func23
end FN23
attribute [go_sem] FN23.tks FN23.tmu FN23.tin Tryd.ntmps23 Tryd.results23
open FN23 in
theorem allMarks_A (H : Heap) (K : V → Heap → Prop) (hk : K (.d (.sl 1 (marksL.map strRow))) H) : ACalls Tryd.prog 23 [] H K := by
  refine We ?_
  have us := eq_self (0 : Nat)
  exact W3
theorem indexByte_q (s : List UInt8) : ∀ (m j : Nat), s.length - j ≤ m → j ≤ s.length → Lib.indexByte (s.drop j) 34 = if qAt s j = s.length then -1 else (qAt s j : Int) - j
  | 0, j, h, hj => by
    have e : j = s.length := by omega
    subst e
    rw [List.drop_length, qAt_end (Nat.le_refl _), if_pos rfl]
    rfl
  | m + 1, j, h, hj => by
    by_cases hl : j < s.length
    · obtain ⟨c, hc⟩ : ∃ c, s[j]? = some c := ⟨s[j], List.getElem?_eq_getElem hl⟩
      have ih := indexByte_q s m (j + 1) (by omega) (by omega)
      have hle := qAt_le s m (j + 1) (by omega) (by omega)
      rw [drop_of_get hc, Lib.indexByte]
      by_cases h34 : c = 34
      · subst h34
        rw [qAt_hit hc rfl, if_pos (by rfl), if_neg (by omega)]
        simp
      · rw [qAt_next hc h34, if_neg (by simpa using h34), ih]
        split
        · simp
        · rw [if_neg (by simp; omega)]; omega
    · have e : j = s.length := by omega
      subst e
      rw [List.drop_length, qAt_end (Nat.le_refl _), if_pos rfl]
      rfl
end Go.Proofs.YtmhabdopcbokoaaDoor
namespace Go.Proofs.YtmhabdopcbokoaaDoor
open Go Go.Proofs.YtmhabdopcbokoaaDoor.Ab
def marksRow : List D := marksL.map D.s
class Mk [Glo] : Prop where
  marks : glob 0 = some marksRow
end Go.Proofs.YtmhabdopcbokoaaDoor
namespace Go.Proofs.YtmhabdopcbokoaaDoor
open Go Go.Proofs.YtmhabdopcbokoaaDoor.Ab
variable [Glo]
set_option maxHeartbeats 4000000
set_option maxRecDepth 20000
def fidxGo {α : Type} (p : α → Bool) : List α → Nat → Int
  | [], _ => -1
  | x :: l, k => if p x = true then k else fidxGo p l (k + 1)
def fidx {α : Type} (p : α → Bool) (l : List α) : Int := fidxGo p l 0
theorem fidxGo_next {α : Type} {p : α → Bool} {l : List α} {i : Nat} {x : α} (h : l[i]? = some x) : fidxGo p (l.drop i) i = if p x = true then (i : Int) else fidxGo p (l.drop (i + 1)) (i + 1) := by
  rw [drop_of_get h, fidxGo]
theorem fidxGo_end {α : Type} {p : α → Bool} (l : List α) (k : Nat) : fidxGo p (l.drop l.length) k = -1 := by rw [List.drop_length]; rfl
theorem fidxGo_spec {α : Type} {p : α → Bool} : ∀ (l : List α) (k : Nat), (fidxGo p l k = -1 ∧ ∀ x, x ∈ l → p x = false) ∨ ∃ (i : Nat) (x : α), l[i]? = some x ∧ p x = true ∧ fidxGo p l k = ((k + i : Nat) : Int)
  | [], k => .inl ⟨rfl, by simp⟩
  | x :: l, k => by
    rw [fidxGo]
    split
    · exact .inr ⟨0, x, rfl, by assumption, rfl⟩
    · rename_i hx
      rcases fidxGo_spec l (k + 1) with ⟨h1, h2⟩ | ⟨i, y, h1, h2, h3⟩
      · refine .inl ⟨h1, fun y hy => ?_⟩
        rcases List.mem_cons.1 hy with rfl | hy
        · simpa using hx
        · exact h2 y hy
      · exact .inr ⟨i + 1, y, by simpa using h1, h2, by rw [h3]; congr 1; omega⟩
theorem fidx_spec {α : Type} (p : α → Bool) (l : List α) : (fidx p l = -1 ∧ ∀ x, x ∈ l → p x = false) ∨ ∃ (i : Nat) (x : α), l[i]? = some x ∧ p x = true ∧ fidx p l = (i : Int) := by
  have := fidxGo_spec (p := p) l 0
  simpa [fidx] using this
theorem fidx_ge {α : Type} (p : α → Bool) (l : List α) : decide (0 ≤ fidx p l) = l.any p := by
  rcases fidx_spec p l with ⟨h1, h2⟩ | ⟨i, x, h1, h2, h3⟩
  · have : l.any p = false := by rw [List.any_eq_false]; intro x hx; simp [h2 x hx]
    rw [this, h1]; rfl
  · have : l.any p = true := List.any_eq_true.2 ⟨x, List.mem_of_getElem? h1, h2⟩
    rw [this, h3]; exact decide_eq_true (by omega)
theorem fidx_lt {α : Type} (p : α → Bool) (l : List α) : -1 ≤ fidx p l ∧ fidx p l < l.length := by
  rcases fidx_spec p l with ⟨h1, h2⟩ | ⟨i, x, h1, h2, h3⟩
  · omega
  · have := lt_of_get h1; omega
def txtAt (l : List (List UInt8)) (s : List UInt8) : Int := fidx (fun x => decide (s = x)) l
namespace FN31
def tks : Nat → List Nat | 0 => [0, 1] | 1 => [0, 1, 7, 8] | 2 => [0, 1, 7, 8, 9] | 3 => [0, 1, 5, 7, 8] | 4 => [0, 1, 5, 7, 8, 16] | 5 => [4] | 6 => [0, 1, 7, 8] | 7 => [4] | _ => []
def tmu : List Nat := []
def tin : List Nat := [0, 1]
abbrev tfn := @Tryd.func31
end FN31
attribute [go_sem] FN31.tks FN31.tmu FN31.tin Tryd.ntmps31 Tryd.results31
open FN31 in
theorem index_A (l : List (List UInt8)) (s : List UInt8) (hlen : l.length ≤ 9223372036854775807) (H : Heap) (K : V → Heap → Prop) (hk : K (.d (.i .i64 (txtAt l s))) H) :
    ACalls Tryd.prog 31 [.d (.sl 1 (l.map strRow)), .d (.s s)] H K := by
  refine We ?_
  have us := eq_self (0 : Nat)
  refine W1 ?_
  refine AWp_while0 (fun i : Nat => i ≤ l.length ∧ fidxGo (fun x => decide (s = x)) (l.drop i) i = txtAt l s) (fun i => [(0, .d (.sl 1 (l.map strRow))), (1, .d (.s s)), (7, .d (.i .i64 l.length)), (8, .d (.i .i64 i))]) (fun i => l.length - i) 0 ⟨Nat.zero_le _, rfl⟩ ?_ ?_
  · simp (dsimp := false) only [go_sem, Nat.reduceAdd, Nat.reduceBEq, Nat.reduceEqDiff, Nat.reduceLT, Nat.reduceLeDiff, Nat.reduceMul, Int.reduceToNat, reduceCtorEq, ↓reduceIte]
    first | done | simp
  rintro i ⟨hi, hv⟩
  have us := eq_self (0 : Nat)
  (repeat' (first | with_reducible (first | refine And.intro ?_ ?_ | intro _ | (refine hKv _ _ (AWp_nop ?_); clear hKv Kv) | (refine hKA ?_; clear hKA hKB KA KB) | (refine hKB ?_; clear hKA hKB KA KB) | refine Wp ?_ | fail) | ((first | with_reducible (first | (refine hKv _ _ ?_; clear hKv Kv) | (refine Wr ?_; intro Kv hKv) | refine AWp_retR ?_ | fail) | refine Wc ?_ | fail); try simp (dsimp := false) only [go_sem, Nat.reduceAdd, Nat.reduceBEq, Nat.reduceEqDiff, Nat.reduceLT, Nat.reduceLeDiff, Nat.reduceMul, Int.reduceToNat, reduceCtorEq, ↓reduceIte, us]) | (refine AWp_condC rfl ?_; intro KA KB hKA hKB; try simp only [onB_true, onB_false, onB_dec, onB_ndec, onB_not, onB_and, onB_or]) | (refine AWp_condA rfl ?_ ?_) | with_reducible (first | refine onB_of ?_ ?_ | rfl) | omega))
  · rename_i h1 x hx h
    rw [fidxGo_next hx, if_pos (by simpa using h)] at hv
    exact keepD hk (by rw [hv])
  · rename_i h1 x hx h
    rw [fidxGo_next hx, if_neg (by simpa using h)] at hv
    exact ⟨i + 1, ⟨by omega, hv⟩, by omega, by omega⟩
  · have e : i = l.length := by omega
    subst e
    rw [fidxGo_end] at hv
    exact keepD hk (by rw [hv])
theorem txtAt_ge (l : List (List UInt8)) (s : List UInt8) : decide (0 ≤ txtAt l s) = decide (s ∈ l) := by
  unfold txtAt
  rw [fidx_ge, Bool.eq_iff_iff, List.any_eq_true]
  simp
namespace FN14
def tks : Nat → List Nat | 0 => [0, 1] | 1 => [4] | _ => []
def tmu : List Nat := []
def tin : List Nat := [0, 1]
abbrev tfn := @Tryd.func14
end FN14
attribute [go_sem] FN14.tks FN14.tmu FN14.tin Tryd.ntmps14 Tryd.results14
open FN14 in
theorem contains_A (l : List (List UInt8)) (s : List UInt8) (hlen : l.length ≤ 9223372036854775807) (H : Heap) (K : V → Heap → Prop) (hk : K (.d (.b (decide (s ∈ l)))) H) :
    ACalls Tryd.prog 14 [.d (.sl 1 (l.map strRow)), .d (.s s)] H K := by
  refine We ?_
  have us := eq_self (0 : Nat)
  (repeat' (first | with_reducible (first | refine And.intro ?_ ?_ | intro _ | (refine hKv _ _ (AWp_nop ?_); clear hKv Kv) | (refine hKA ?_; clear hKA hKB KA KB) | (refine hKB ?_; clear hKA hKB KA KB) | refine Wp ?_ | fail) | ((first | with_reducible (first | (refine hKv _ _ ?_; clear hKv Kv) | (refine Wr ?_; intro Kv hKv) | refine AWp_retR ?_ | fail) | refine Wc ?_ | refine index_A _ _ hlen _ _ ?_ | refine QCall_of (index_A _ _ hlen _ _ (Two_intro _ _)) ?_ | refine ECall_of (index_A _ _ hlen _ _ (Two_intro _ _)) ?_ | fail); try simp (dsimp := false) only [go_sem, Nat.reduceAdd, Nat.reduceBEq, Nat.reduceEqDiff, Nat.reduceLT, Nat.reduceLeDiff, Nat.reduceMul, Int.reduceToNat, reduceCtorEq, ↓reduceIte, us]) | (refine AWp_condC rfl ?_; intro KA KB hKA hKB; try simp only [onB_true, onB_false, onB_dec, onB_ndec, onB_not, onB_and, onB_or]) | (refine AWp_condA rfl ?_ ?_) | with_reducible (first | refine onB_of ?_ ?_ | rfl) | omega))
  exact keepD hk (by rw [txtAt_ge])
end Go.Proofs.YtmhabdopcbokoaaDoor
