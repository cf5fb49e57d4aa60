/- Texts: what the reference and the program check of them. No condition but that the tables of package unicode/utf8 are there. -/
import Derived.Test.YtjghnaohlfgloaaDoorJ18
import Derived.Test.YtjghnaohlfgloaaDoorJ17
import Derived.Ground.NamesProg
import Derived.Shelf.Strings.Search3
import Derived.Shelf.LaysM
import Derived.Test.YtjghnaohlfgloaaDoorProg
import Derived.Test.YtjghnaohlfgloaaDoorJ16
set_option linter.all false
set_option linter.unusedSimpArgs false
set_option linter.unusedVariables false
namespace Go.Proofs.YtjghnaohlfgloaaDoor
open Go Go.Proofs.YtjghnaohlfgloaaDoor.Ab
variable [Glo] [U8]
set_option maxHeartbeats 1000000
set_option maxRecDepth 20000
def okByte (c : Int) : Bool := decide (32 ≤ c ∨ c = 9 ∨ c = 10)
def okBytes (l : List UInt8) : Bool := l.all fun c => okByte c.toNat
def textFault (l : List UInt8) : Int := if l.length ≤ 20000 then (if (Lib.validD l && okBytes l) = true then 0 else 4) else 1
theorem okBytes_drop {l : List UInt8} {i : Nat} {c : UInt8} (h : l[i]? = some c) : okBytes (l.drop i) = (okByte c.toNat && okBytes (l.drop (i + 1))) := all_drop _ h
def ks_132 : Nat → List Nat
  | 0 => [0]
  | 1 => [0, 6]
  | 2 => [2]
  | 3 => [0, 9]
  | 4 => [2]
  | 5 => [0, 11, 12]
  | 6 => [0, 11, 12, 13]
  | 7 => [0, 3, 11, 12]
  | 8 => [0, 11, 12, 30]
  | 9 => [2]
  | 10 => [0, 11, 12]
  | 11 => [2]
  | _ => []
def mu_132 : List Nat := []
def in_132 : List Nat := [0]
theorem checkText_A (l : List UInt8) (hlen : l.length ≤ 9223372036854775807) (H : Heap) (K : V → Heap → Prop) (hk : K (.d (.i .i64 (textFault l))) H) : ACalls Tryd.prog 132 [.d (.s l)] H K := by
  refine ACalls_of Tryd.func132 rfl in_132 (Nat.le_of_ble_eq_true rfl) ?_
  intro F hF
  simp (dsimp := false) only [go_sem, Nat.reduceAdd, Nat.reduceBEq, Nat.reduceEqDiff, Nat.reduceLT, Nat.reduceLeDiff, Nat.reduceMul, Int.reduceToNat, reduceCtorEq, ↓reduceIte, Tryd.ntmps132, Tryd.results132, ks_132, mu_132, ti_hb147, ti_st9, in_132] at hF
  subst hF
  repeat' (first | with_reducible (first | refine And.intro ?_ ?_ | intro _ | refine AWp_seq ?_ | refine AWp_block ?_ | (refine hKv _ _ (AWp_nop ?_); clear hKv Kv) | (refine hKA ?_; clear hKA hKB KA KB) | (refine hKB ?_; clear hKA hKB KA KB) | refine AWp_skipN ?_ | refine AWp_exitO (by repeat (first | exact Out.hit | apply Out.thenA | apply Out.out rfl)) ?_) | ((first | with_reducible (first | (refine hKv _ _ ?_; clear hKv Kv) | ((first | refine AWp_regC mu_132 ks_132 ?_ | refine AWp_regE mu_132 ks_132 ?_); intro Kv hKv) | refine AWp_retR ?_) | refine valid_A _ hlen _ _ ?_); try simp (dsimp := false) only [go_sem, Nat.reduceAdd, Nat.reduceBEq, Nat.reduceEqDiff, Nat.reduceLT, Nat.reduceLeDiff, Nat.reduceMul, Int.reduceToNat, reduceCtorEq, ↓reduceIte, Tryd.ntmps132, Tryd.results132, ks_132, mu_132, ti_hb147, ti_st9]) | (refine AWp_condC rfl ?_; intro KA KB hKA hKB; try simp only [onB_true, onB_false, onB_dec, onB_ndec, onB_not, onB_and, onB_or]) | (refine AWp_condA rfl ?_ ?_) | with_reducible (first | refine onB_of ?_ ?_ | rfl) | omega)
  all_goals try exact keepD hk (by (simp only [V.d.injEq, D.i.injEq, D.b.injEq, D.s.injEq, true_and]; grind [textFault]))
  rename_i h1 h2
  have h1 : l.length ≤ 20000 := by omega
  have h2 : Lib.validD l = true := by simpa using h2
  refine AWp_while0 (fun i : Nat => i ≤ l.length ∧ okBytes l = okBytes (l.drop i)) (fun i => [(0, .d (.s l)), (11, .d (.i .i64 l.length)), (12, .d (.i .i64 i))]) (fun i => l.length - i) 0 ?_ ?_ ?_
  · simp
  · simp (dsimp := false) only [go_sem, Nat.reduceAdd, Nat.reduceBEq, Nat.reduceEqDiff, Nat.reduceLT, Nat.reduceLeDiff, Nat.reduceMul, Int.reduceToNat, reduceCtorEq, ↓reduceIte, Tryd.ntmps132, Tryd.results132, ks_132, mu_132, ti_hb147, ti_st9]
    omega
  rintro i ⟨hi, hall⟩
  repeat' (first | with_reducible (first | refine And.intro ?_ ?_ | intro _ | refine AWp_seq ?_ | refine AWp_block ?_ | (refine hKv _ _ (AWp_nop ?_); clear hKv Kv) | (refine hKA ?_; clear hKA hKB KA KB) | (refine hKB ?_; clear hKA hKB KA KB) | refine AWp_skipN ?_ | refine AWp_exitO (by repeat (first | exact Out.hit | apply Out.thenA | apply Out.out rfl)) ?_) | (with_reducible (first | (refine hKv _ _ ?_; clear hKv Kv) | ((first | refine AWp_regC mu_132 ks_132 ?_ | refine AWp_regE mu_132 ks_132 ?_); intro Kv hKv) | refine AWp_retR ?_); try simp (dsimp := false) only [go_sem, Nat.reduceAdd, Nat.reduceBEq, Nat.reduceEqDiff, Nat.reduceLT, Nat.reduceLeDiff, Nat.reduceMul, Int.reduceToNat, reduceCtorEq, ↓reduceIte, Tryd.ntmps132, Tryd.results132, ks_132, mu_132, ti_hb147, ti_st9]) | (refine AWp_condC rfl ?_; intro KA KB hKA hKB; try simp only [onB_true, onB_false, onB_dec, onB_ndec, onB_not, onB_and, onB_or]) | (refine AWp_condA rfl ?_ ?_) | with_reducible (first | refine onB_of ?_ ?_ | rfl) | omega)
  all_goals try have hst := okBytes_drop ‹l[i]? = some _›
  all_goals try (refine ⟨i + 1, ⟨by omega, ?_⟩, by omega, by omega⟩)
  all_goals try refine keepD hk ?_
  all_goals try simp only [V.d.injEq, D.i.injEq, true_and, textFault, if_pos h1, h2]
  all_goals rw [hall]
  all_goals try rw [hst]
  all_goals first
    | (have : i = l.length := by omega
       subst this; simp [okBytes])
    | grind [okByte]
def ks_115 : Nat → List Nat
  | 0 => [0]
  | 1 => [0, 7]
  | 2 => [2]
  | 3 => [0, 3]
  | 4 => [0, 3, 4]
  | 5 => [0, 3, 4, 13]
  | 6 => [0, 3, 4]
  | 7 => [0, 3, 4]
  | 8 => [36]
  | 9 => [2]
  | 10 => [2]
  | _ => []
def mu_115 : List Nat := []
def in_115 : List Nat := [0]
theorem valueFault_A (l : List UInt8) (hlen : l.length ≤ 9223372036854775807) (H : Heap) (K : V → Heap → Prop) (hk : K (.d (.i .i64 (textFault l))) H) : ACalls Tryd.prog 115 [.d (.s l)] H K := by
  refine ACalls_of Tryd.func115 rfl in_115 (Nat.le_of_ble_eq_true rfl) ?_
  intro F hF
  simp (dsimp := false) only [go_sem, Nat.reduceAdd, Nat.reduceBEq, Nat.reduceEqDiff, Nat.reduceLT, Nat.reduceLeDiff, Nat.reduceMul, Int.reduceToNat, reduceCtorEq, ↓reduceIte, Tryd.ntmps115, Tryd.results115, ks_115, mu_115, ti_hb147, ti_st9, in_115] at hF
  subst hF
  repeat' (first | with_reducible (first | refine And.intro ?_ ?_ | intro _ | refine AWp_seq ?_ | refine AWp_block ?_ | (refine hKv _ _ (AWp_nop ?_); clear hKv Kv) | (refine hKA ?_; clear hKA hKB KA KB) | (refine hKB ?_; clear hKA hKB KA KB) | refine AWp_skipN ?_ | refine AWp_exitO (by repeat (first | exact Out.hit | apply Out.thenA | apply Out.out rfl)) ?_) | ((first | with_reducible (first | (refine hKv _ _ ?_; clear hKv Kv) | ((first | refine AWp_regC mu_115 ks_115 ?_ | refine AWp_regE mu_115 ks_115 ?_); intro Kv hKv) | refine AWp_retR ?_) | refine valid_A _ hlen _ _ ?_); try simp (dsimp := false) only [go_sem, Nat.reduceAdd, Nat.reduceBEq, Nat.reduceEqDiff, Nat.reduceLT, Nat.reduceLeDiff, Nat.reduceMul, Int.reduceToNat, reduceCtorEq, ↓reduceIte, Tryd.ntmps115, Tryd.results115, ks_115, mu_115, ti_hb147, ti_st9]) | (refine AWp_condC rfl ?_; intro KA KB hKA hKB; try simp only [onB_true, onB_false, onB_dec, onB_ndec, onB_not, onB_and, onB_or]) | (refine AWp_condA rfl ?_ ?_) | with_reducible (first | refine onB_of ?_ ?_ | rfl) | omega)
  all_goals try exact keepD hk (by (simp only [V.d.injEq, D.i.injEq, D.b.injEq, D.s.injEq, true_and]; grind [textFault]))
  rename_i h1
  have h1 : l.length ≤ 20000 := by omega
  refine AWp_while0 (fun x : Nat × Bool => x.1 ≤ l.length ∧ (Lib.validD l && okBytes l) = (x.2 && okBytes (l.drop x.1))) (fun x => [(0, .d (.s l)), (3, .d (.b x.2)), (4, .d (.i .i64 x.1))]) (fun x => l.length - x.1) (0, Lib.validD l) ?_ ?_ ?_
  · simp
  · simp (dsimp := false) only [go_sem, Nat.reduceAdd, Nat.reduceBEq, Nat.reduceEqDiff, Nat.reduceLT, Nat.reduceLeDiff, Nat.reduceMul, Int.reduceToNat, reduceCtorEq, ↓reduceIte, Tryd.ntmps115, Tryd.results115, ks_115, mu_115, ti_hb147, ti_st9]
    first | done | omega
  rintro ⟨i, ok⟩ ⟨hi, hall⟩
  simp only [] at hi hall
  repeat' (first | with_reducible (first | refine And.intro ?_ ?_ | intro _ | refine AWp_seq ?_ | refine AWp_block ?_ | (refine hKv _ _ (AWp_nop ?_); clear hKv Kv) | (refine hKA ?_; clear hKA hKB KA KB) | (refine hKB ?_; clear hKA hKB KA KB) | refine AWp_skipN ?_ | refine AWp_exitO (by repeat (first | exact Out.hit | apply Out.thenA | apply Out.out rfl)) ?_) | (with_reducible (first | (refine hKv _ _ ?_; clear hKv Kv) | ((first | refine AWp_regC mu_115 ks_115 ?_ | refine AWp_regE mu_115 ks_115 ?_); intro Kv hKv) | refine AWp_retR ?_); try simp (dsimp := false) only [go_sem, Nat.reduceAdd, Nat.reduceBEq, Nat.reduceEqDiff, Nat.reduceLT, Nat.reduceLeDiff, Nat.reduceMul, Int.reduceToNat, reduceCtorEq, ↓reduceIte, Tryd.ntmps115, Tryd.results115, ks_115, mu_115, ti_hb147, ti_st9]) | (refine AWp_condC rfl ?_; intro KA KB hKA hKB; try simp only [onB_true, onB_false, onB_dec, onB_ndec, onB_not, onB_and, onB_or]) | (refine AWp_condA rfl ?_ ?_) | with_reducible (first | refine onB_of ?_ ?_ | rfl) | omega)
  all_goals try have hst := okBytes_drop ‹l[i]? = some _›
  all_goals try (apply Exists.intro (i + 1, _); dsimp only; refine ⟨⟨by omega, ?_⟩, by omega, rfl, by omega⟩)
  all_goals try refine keepD hk ?_
  all_goals try simp only [V.d.injEq, D.i.injEq, true_and, textFault, if_pos h1]
  all_goals rw [hall]
  all_goals try rw [hst]
  all_goals first
    | grind [okByte]
    | (have : i = l.length := by omega
       subst this; simp_all [okBytes])
    | trace_state
end Go.Proofs.YtjghnaohlfgloaaDoor
namespace Go.Proofs.YtjghnaohlfgloaaDoor
open Go Go.Proofs.YtjghnaohlfgloaaDoor.Ab
variable [Glo]
structure It where
  k : Int
  n : Int
  s : List UInt8
  deriving DecidableEq
def itD (x : It) : List D := [.i .i64 x.k, .i .i64 x.n, .s x.s]
def itV (x : It) : V := .ag [.d (.i .i64 x.k), .d (.i .i64 x.n), .d (.s x.s)]
structure Nd where
  k : Int
  nm : List UInt8
  vl : List UInt8
  sz : Int
  lv : Int
  up : Int
  deriving DecidableEq
def ndD (x : Nd) : List D := [.i .i64 x.k, .s x.nm, .s x.vl, .i .i64 x.sz, .i .i64 x.lv, .i .i64 x.up]
def ndV (x : Nd) : V := .ag [.d (.i .i64 x.k), .d (.s x.nm), .d (.s x.vl), .d (.i .i64 x.sz), .d (.i .i64 x.lv), .d (.i .i64 x.up)]
structure Ev where
  k : Int
  nm : List UInt8
  vl : List UInt8
  deriving DecidableEq
def evD (x : Ev) : List D := [.i .i64 x.k, .s x.nm, .s x.vl]
def evV (x : Ev) : V := .ag [.d (.i .i64 x.k), .d (.s x.nm), .d (.s x.vl)]
structure Tk where
  k : Int
  s : List UInt8
  n : Int
  deriving DecidableEq
def tkD (x : Tk) : List D := [.i .i64 x.k, .s x.s, .i .i64 x.n]
def tkV (x : Tk) : V := .ag [.d (.i .i64 x.k), .d (.s x.s), .d (.i .i64 x.n)]
abbrev tyIt : Ty := .cons (.i .i64) (.cons (.i .i64) (.cons .s .nil))
abbrev tyNd : Ty := .cons (.i .i64) (.cons .s (.cons .s (.cons (.i .i64) (.cons (.i .i64) (.cons (.i .i64) .nil)))))
abbrev tyEv : Ty := .cons (.i .i64) (.cons .s (.cons .s .nil))
abbrev tyTk : Ty := .cons (.i .i64) (.cons .s (.cons (.i .i64) .nil))
theorem inR_le {n : Int} (h : inR .i64 n) : -9223372036854775808 ≤ n ∧ n ≤ 9223372036854775807 := by rwa [inR_i64] at h
theorem typed_it {ds : List D} {m : Nat} (h : Typed tyIt ds m) : ∃ x : It, ds = itD x ∧ x.s.length + 3 ≤ m ∧ inR .i64 x.n ∧ inR .i64 x.k := by
  obtain ⟨_, _, _, _, rfl, e1, h1, g1⟩ := typed_cons h
  obtain ⟨_, _, _, _, rfl, e2, h2, g2⟩ := typed_cons g1
  obtain ⟨_, _, _, _, rfl, e3, h3, g3⟩ := typed_cons g2
  obtain ⟨a, rfl, ra, la⟩ := typed_i h1
  obtain ⟨b, rfl, rb, lb⟩ := typed_i h2
  obtain ⟨s, rfl, ls⟩ := typed_s h3
  obtain rfl := typed_nil g3
  exact ⟨⟨a, b, s⟩, rfl, by simp only []; omega, rb, ra⟩
theorem typed_nd {ds : List D} {m : Nat} (h : Typed tyNd ds m) : ∃ x : Nd, ds = ndD x ∧ x.nm.length + x.vl.length + 6 ≤ m ∧ inR .i64 x.k ∧ inR .i64 x.sz ∧ inR .i64 x.lv ∧ inR .i64 x.up := by
  obtain ⟨_, _, _, _, rfl, e1, h1, g1⟩ := typed_cons h
  obtain ⟨_, _, _, _, rfl, e2, h2, g2⟩ := typed_cons g1
  obtain ⟨_, _, _, _, rfl, e3, h3, g3⟩ := typed_cons g2
  obtain ⟨_, _, _, _, rfl, e4, h4, g4⟩ := typed_cons g3
  obtain ⟨_, _, _, _, rfl, e5, h5, g5⟩ := typed_cons g4
  obtain ⟨_, _, _, _, rfl, e6, h6, g6⟩ := typed_cons g5
  obtain ⟨a, rfl, ra, la⟩ := typed_i h1
  obtain ⟨b, rfl, lb⟩ := typed_s h2
  obtain ⟨c, rfl, lc⟩ := typed_s h3
  obtain ⟨d, rfl, rd, ld⟩ := typed_i h4
  obtain ⟨e, rfl, re, le⟩ := typed_i h5
  obtain ⟨f, rfl, rf, lf⟩ := typed_i h6
  obtain rfl := typed_nil g6
  exact ⟨⟨a, b, c, d, e, f⟩, rfl, by simp only []; omega, ra, rd, re, rf⟩
theorem typed_ev {ds : List D} {m : Nat} (h : Typed tyEv ds m) : ∃ x : Ev, ds = evD x ∧ x.nm.length + x.vl.length + 3 ≤ m ∧ inR .i64 x.k := by
  obtain ⟨_, _, _, _, rfl, e1, h1, g1⟩ := typed_cons h
  obtain ⟨_, _, _, _, rfl, e2, h2, g2⟩ := typed_cons g1
  obtain ⟨_, _, _, _, rfl, e3, h3, g3⟩ := typed_cons g2
  obtain ⟨a, rfl, ra, la⟩ := typed_i h1
  obtain ⟨b, rfl, lb⟩ := typed_s h2
  obtain ⟨s, rfl, ls⟩ := typed_s h3
  obtain rfl := typed_nil g3
  exact ⟨⟨a, b, s⟩, rfl, by simp only []; omega, ra⟩
theorem typed_tk {ds : List D} {m : Nat} (h : Typed tyTk ds m) : ∃ x : Tk, ds = tkD x ∧ x.s.length + 3 ≤ m ∧ inR .i64 x.k ∧ inR .i64 x.n := by
  obtain ⟨_, _, _, _, rfl, e1, h1, g1⟩ := typed_cons h
  obtain ⟨_, _, _, _, rfl, e2, h2, g2⟩ := typed_cons g1
  obtain ⟨_, _, _, _, rfl, e3, h3, g3⟩ := typed_cons g2
  obtain ⟨a, rfl, ra, la⟩ := typed_i h1
  obtain ⟨b, rfl, lb⟩ := typed_s h2
  obtain ⟨s, rfl, rs, ls⟩ := typed_i h3
  obtain rfl := typed_nil g3
  exact ⟨⟨a, b, s⟩, rfl, by simp only []; omega, ra, rs⟩
theorem typed_list {α : Type} {E : Ty} {f : α → List D} {p : α → Nat → Prop} (hE : ∀ ds m, Typed E ds m → ∃ x, ds = f x ∧ p x m) {ds : List D} {m : Nat} (h : Typed (.sl E) ds m) :
    ∃ (xs : List α) (ws : List Nat), ds = [.sl E.size (xs.map f)] ∧ ws.length = xs.length ∧ ws.sum + 1 ≤ m ∧ ∀ (i : Nat) (x : α) (w : Nat), xs[i]? = some x → ws[i]? = some w → p x w := by
  obtain ⟨rows, rfl, ws, h1, h2, h3⟩ := typed_sl h
  have : ∀ (rows : List (List D)) (ws : List Nat), ws.length = rows.length → (∀ (i : Nat) (row : List D) (w : Nat), rows[i]? = some row → ws[i]? = some w → Typed E row w) → ∃ xs : List α, rows = xs.map f ∧ ∀ (i : Nat) (x : α) (w : Nat), xs[i]? = some x → ws[i]? = some w → p x w := by
    intro rows
    induction rows with
    | nil => intro ws _ _; exact ⟨[], rfl, by simp⟩
    | cons r rows ih =>
      intro ws hl hw
      cases ws with
      | nil => simp at hl
      | cons w ws =>
        obtain ⟨x, rfl, hx⟩ := hE r w (hw 0 r w rfl rfl)
        obtain ⟨xs, rfl, hxs⟩ := ih ws (by simpa using hl) (fun i row w' h1 h2 => hw (i + 1) row w' (by simpa using h1) (by simpa using h2))
        refine ⟨x :: xs, rfl, fun i y w' h1 h2 => ?_⟩
        cases i with
        | zero => simp at h1 h2; subst h1 h2; exact hx
        | succ i => exact hxs i y w' (by simpa using h1) (by simpa using h2)
  obtain ⟨xs, rfl, hxs⟩ := this rows ws h1 h3
  exact ⟨xs, ws, rfl, by simpa using h1, h2, hxs⟩
theorem le_sum : ∀ {ws : List Nat} {i w : Nat}, ws[i]? = some w → w ≤ ws.sum
  | [], i, w, h => by simp at h
  | x :: ws, 0, w, h => by simp at h; subst h; simp
  | x :: ws, i + 1, w, h => by
    have := le_sum (ws := ws) (i := i) (w := w) (by simpa using h)
    simp only [List.sum_cons]
    omega
theorem len_sum {ws : List Nat} (c : Nat) (h : ∀ (i w : Nat), ws[i]? = some w → c ≤ w) : c * ws.length ≤ ws.sum := by
  induction ws with
  | nil => simp
  | cons x ws ih =>
    have h1 := h 0 x rfl
    have h2 := ih fun i w hw => h (i + 1) w (by simpa using hw)
    simp only [List.length_cons, List.sum_cons, Nat.mul_add]
    omega
end Go.Proofs.YtjghnaohlfgloaaDoor
namespace Go.Proofs.YtjghnaohlfgloaaDoor
open Go Go.Proofs.YtjghnaohlfgloaaDoor.Ab
variable [Glo]
structure Es where
  n : Nat
  at_ : List (List UInt8)
  ins : Bool
  txt : Bool
def dashB : List UInt8 → Bool
  | [] => false
  | [a] => decide (a = 45)
  | a :: b :: l => (decide (a = 45) && decide (b = 45)) || dashB (b :: l)
def evKind (s : Es) (e : Ev) : Int :=
  if e.k = 1 then (if s.n = 20 then 8 else 0)
  else if e.k = 2 then (if s.ins = true then 4 else if e.nm ∈ s.at_ then 7 else 0)
  else if e.k = 3 then (if e.vl = [] ∨ s.txt = true then 4 else 0)
  else if e.k = 4 then (if dashB e.vl = true then 4 else 0)
  else 0
def evVal (e : Ev) : Int := if e.k = 1 ∨ e.k = 5 then (if e.vl = [] then 0 else 4) else textFault e.vl
def evNam (e : Ev) : Int := if e.k = 1 ∨ e.k = 2 then nameFault e.nm else (if e.nm = [] then 0 else 4)
def evF1 (s : Es) (e : Ev) (first : Bool) : Int :=
  if s.n = 0 ∧ (e.k ≠ 1 ∨ first = false) then 4
  else if evNam e = 0 then (if evVal e = 0 then evKind s e else evVal e) else evNam e
def evS (s : Es) (e : Ev) : Es :=
  if e.k = 1 then ⟨s.n + 1, [], false, false⟩
  else if e.k = 2 then ⟨s.n, s.at_ ++ [e.nm], false, false⟩
  else if e.k = 3 then ⟨s.n, s.at_, true, true⟩
  else if e.k = 4 then ⟨s.n, s.at_, true, false⟩
  else ⟨s.n - 1, [], true, false⟩
def evGo : List Ev → Es → Bool → Int
  | [], s, first => if first = true ∨ 0 < s.n then 5 else 0
  | e :: l, s, first => if e.k < 1 ∨ 5 < e.k then 3 else if evF1 s e first = 0 then evGo l (evS s e) false else evF1 s e first
def evSt : Es := ⟨0, [], true, false⟩
def eventsFault (l : List Ev) : Int := if l.length ≤ 400 then evGo l evSt true else 1
theorem evGo_step {l : List Ev} {i : Nat} {x : Ev} {s : Es} (h : l[i]? = some x) : evGo (l.drop i) s (decide (i = 0)) = if x.k < 1 ∨ 5 < x.k then 3 else if evF1 s x (decide (i = 0)) = 0 then evGo (l.drop (i + 1)) (evS s x) (decide (i + 1 = 0)) else evF1 s x (decide (i = 0)) := by
  rw [drop_of_get h, evGo, decide_eq_false (by omega : ¬ i + 1 = 0)]
theorem evS_n {s : Es} {e : Ev} {first : Bool} (h : s.n ≤ 20) (hf : evF1 s e first = 0) : (evS s e).n ≤ 20 := by
  unfold evS
  by_cases h1 : e.k = 1
  · rw [if_pos h1]
    show s.n + 1 ≤ 20
    unfold evF1 at hf
    split at hf
    · cases hf
    · split at hf
      · split at hf
        · rw [evKind, if_pos h1] at hf
          split at hf
          · cases hf
          · omega
        · omega
      · omega
  · rw [if_neg h1]
    split
    · exact h
    · split
      · exact h
      · split
        · exact h
        · show s.n - 1 ≤ 20
          omega
structure EvInv (l : List Ev) (i : Nat) (s : Es) (os : List Nat) : Prop where
  len : os.length = s.n
  lt : ∀ o, o ∈ os → o < i
  no : s.ins = false → s.txt = false
  top : ∀ r o, os = r ++ [o] → ∃ x, l[i - 1]? = some x ∧ (s.ins = false → s.at_ = ((l.take i).drop (o + 1)).map (·.nm) ∧ (x.k = 1 ∨ x.k = 2)) ∧ (s.ins = true → ¬ (x.k = 1 ∨ x.k = 2)) ∧ (s.txt = true ↔ x.k = 3)
theorem EvInv.zero (l : List Ev) : EvInv l 0 evSt [] := ⟨rfl, by simp, by simp [evSt], fun r o h => by simp at h⟩
theorem app_inj1 {α : Type} {r r' : List α} {a b : α} (h : r ++ [a] = r' ++ [b]) : r = r' ∧ a = b := by
  have := List.append_inj' h rfl
  simpa using this
theorem EvInv.start {l : List Ev} {i : Nat} {s : Es} {os : List Nat} {x : Ev} (h : EvInv l i s os) (hx : l[i]? = some x) (hk : x.k = 1) : EvInv l (i + 1) (evS s x) (os ++ [i]) := by
  rw [evS, if_pos hk]
  refine ⟨by simp [h.len], fun o ho => ?_, fun _ => rfl, fun r o he => ?_⟩
  · rcases List.mem_append.1 ho with ho | ho
    · have := h.lt o ho; omega
    · simp at ho; omega
  · obtain ⟨_, rfl⟩ := app_inj1 he
    refine ⟨x, hx, fun _ => ⟨?_, .inl hk⟩, fun h => by simp at h, ?_⟩
    · rw [List.drop_eq_nil_of_le (by simp; omega)]; rfl
    · simp [hk]
theorem EvInv.attr {l : List Ev} {i : Nat} {s : Es} {os : List Nat} {x : Ev} (h : EvInv l i s os) (hx : l[i]? = some x) (hk : x.k = 2) (hi : s.ins = false) : EvInv l (i + 1) (evS s x) os := by
  rw [evS, if_neg (by omega), if_pos hk]
  refine ⟨h.len, fun o ho => by have := h.lt o ho; omega, fun _ => rfl, fun r o he => ?_⟩
  obtain ⟨y, h1, h2, h3, h4⟩ := h.top r o he
  have ho := h.lt o (by rw [he]; simp)
  have hl := lt_of_get hx
  refine ⟨x, hx, fun _ => ⟨?_, .inr hk⟩, fun h => by simp at h, by simp [hk]⟩
  show s.at_ ++ [x.nm] = _
  rw [take_of_get hx, List.drop_append_of_le_length (by rw [List.length_take]; omega), List.map_append, (h2 hi).1]
  rfl
theorem EvInv.text {l : List Ev} {i : Nat} {s : Es} {os : List Nat} {x : Ev} (h : EvInv l i s os) (hx : l[i]? = some x) (hk : x.k = 3) : EvInv l (i + 1) (evS s x) os := by
  rw [evS, if_neg (by omega), if_neg (by omega), if_pos hk]
  exact ⟨h.len, fun o ho => by have := h.lt o ho; omega, fun h => by simp at h, fun r o he => ⟨x, hx, fun h => by simp at h, fun _ => by omega, by simp [hk]⟩⟩
theorem EvInv.comment {l : List Ev} {i : Nat} {s : Es} {os : List Nat} {x : Ev} (h : EvInv l i s os) (hx : l[i]? = some x) (hk : x.k = 4) : EvInv l (i + 1) (evS s x) os := by
  rw [evS, if_neg (by omega), if_neg (by omega), if_neg (by omega), if_pos hk]
  exact ⟨h.len, fun o ho => by have := h.lt o ho; omega, fun h => by simp at h, fun r o he => ⟨x, hx, fun h => by simp at h, fun _ => by omega, by simp [hk]⟩⟩
theorem EvInv.end_ {l : List Ev} {i : Nat} {s : Es} {os : List Nat} {x : Ev} {o : Nat} (h : EvInv l i s (os ++ [o])) (hx : l[i]? = some x) (hk : x.k = 5) : EvInv l (i + 1) (evS s x) os := by
  rw [evS, if_neg (by omega), if_neg (by omega), if_neg (by omega), if_neg (by omega)]
  have := h.len
  rw [List.length_append] at this
  exact ⟨by show os.length = s.n - 1; simp at this; omega, fun o ho => by have := h.lt o (List.mem_append_left _ ho); omega, fun h => by simp at h, fun r o he => ⟨x, hx, fun h => by simp at h, fun _ => by omega, by simp [hk]⟩⟩
theorem dashB_step {l : List UInt8} {k : Nat} {c : UInt8} (h : l[k]? = some c) : dashB (l.drop k) = ((decide (c = 45) && (decide (k = l.length - 1) || decide (l[k + 1]? = some 45))) || dashB (l.drop (k + 1))) := by
  have hk := lt_of_get h
  rw [drop_of_get h]
  cases hd : l.drop (k + 1) with
  | nil =>
    have hl := congrArg List.length hd
    rw [List.length_drop, List.length_nil] at hl
    rw [dashB, decide_eq_true (by omega : k = l.length - 1)]
    simp [dashB]
  | cons b r =>
    have hl := congrArg List.length hd
    rw [List.length_drop, List.length_cons] at hl
    have hb : l[k + 1]? = some b := by
      have := congrArg (·[0]?) hd
      simpa using this
    rw [dashB, decide_eq_false (by omega : ¬ k = l.length - 1), hb]
    simp
end Go.Proofs.YtjghnaohlfgloaaDoor
namespace Go.Proofs
open Go.Shelf
def Tryd.lays144_ren : Go.Shelf.Ren := ⟨fun | 144 => 143 | 143 => 109 | 219 => 144 | 217 => 166 | 225 => 167 | 224 => 168 | 267 => 169 | 266 => 180 | 314 => 181 | n => n, fun | 9 => 9 | 4 => 4 | 3 => 3 | 5 => 5 | 46 => 158 | 146 => 206 | 51 => 187 | n => n, fun | 1 => 2 | n => n⟩
theorem Tryd.lays144 : Go.Proofs.Lays.n144 Tryd.prog Tryd.lays144_ren := {
  mixed := by kernel_rfl
  f143 := Tryd.func109.trans (congrArg some (by kernel_rfl))
  f144 := Tryd.func143.trans (congrArg some (by kernel_rfl))
  f217 := Tryd.func166.trans (congrArg some (by kernel_rfl))
  f219 := Tryd.func144.trans (congrArg some (by kernel_rfl))
  f224 := Tryd.func168.trans (congrArg some (by kernel_rfl))
  f225 := Tryd.func167.trans (congrArg some (by kernel_rfl))
  f266 := Tryd.func180.trans (congrArg some (by kernel_rfl))
  f267 := Tryd.func169.trans (congrArg some (by kernel_rfl))
  f314 := Tryd.func181.trans (congrArg some (by kernel_rfl))
  t3 := Tryd.underlying3
  a3 := Tryd.isAgg3
  z3 := Tryd.sizeOf3
  v3 := Tryd.zeroValue3
  t4 := Tryd.underlying4
  a4 := Tryd.isAgg4
  z4 := Tryd.sizeOf4
  v4 := Tryd.zeroValue4
  t5 := Tryd.underlying5
  a5 := Tryd.isAgg5
  z5 := Tryd.sizeOf5
  v5 := Tryd.zeroValue5
  t9 := Tryd.underlying9
  a9 := Tryd.isAgg9
  z9 := Tryd.sizeOf9
  v9 := Tryd.zeroValue9
  t46 := Tryd.underlying158
  a46 := Tryd.isAgg158
  z46 := Tryd.sizeOf158
  v46 := Tryd.zeroValue158
  t51 := Tryd.underlying187
  a51 := Tryd.isAgg187
  z51 := Tryd.sizeOf187
  v51 := Tryd.zeroValue187
  t146 := Tryd.underlying206
  a146 := Tryd.isAgg206
  z146 := Tryd.sizeOf206
  v146 := Tryd.zeroValue206
  g1 := by kernel_rfl }
def Tryd.lays143_ren : Go.Shelf.Ren := ⟨fun | 143 => 109 | 219 => 144 | 217 => 166 | 225 => 167 | 224 => 168 | 267 => 169 | 266 => 180 | 314 => 181 | n => n, fun | 9 => 9 | 3 => 3 | 4 => 4 | 5 => 5 | 46 => 158 | 146 => 206 | 51 => 187 | n => n, fun | 1 => 2 | n => n⟩
theorem Tryd.lays143 : Go.Proofs.Lays.n143 Tryd.prog Tryd.lays143_ren := {
  mixed := by kernel_rfl
  f143 := Tryd.func109.trans (congrArg some (by kernel_rfl))
  f217 := Tryd.func166.trans (congrArg some (by kernel_rfl))
  f219 := Tryd.func144.trans (congrArg some (by kernel_rfl))
  f224 := Tryd.func168.trans (congrArg some (by kernel_rfl))
  f225 := Tryd.func167.trans (congrArg some (by kernel_rfl))
  f266 := Tryd.func180.trans (congrArg some (by kernel_rfl))
  f267 := Tryd.func169.trans (congrArg some (by kernel_rfl))
  f314 := Tryd.func181.trans (congrArg some (by kernel_rfl))
  t3 := Tryd.underlying3
  a3 := Tryd.isAgg3
  z3 := Tryd.sizeOf3
  v3 := Tryd.zeroValue3
  t4 := Tryd.underlying4
  a4 := Tryd.isAgg4
  z4 := Tryd.sizeOf4
  v4 := Tryd.zeroValue4
  t5 := Tryd.underlying5
  a5 := Tryd.isAgg5
  z5 := Tryd.sizeOf5
  v5 := Tryd.zeroValue5
  t9 := Tryd.underlying9
  a9 := Tryd.isAgg9
  z9 := Tryd.sizeOf9
  v9 := Tryd.zeroValue9
  t46 := Tryd.underlying158
  a46 := Tryd.isAgg158
  z46 := Tryd.sizeOf158
  v46 := Tryd.zeroValue158
  t51 := Tryd.underlying187
  a51 := Tryd.isAgg187
  z51 := Tryd.sizeOf187
  v51 := Tryd.zeroValue187
  t146 := Tryd.underlying206
  a146 := Tryd.isAgg206
  z146 := Tryd.sizeOf206
  v146 := Tryd.zeroValue206
  g1 := by kernel_rfl }
def Tryd.laysM144_ren : Go.Shelf.Ren := ⟨fun | 144 => 143 | 143 => 109 | 219 => 144 | 217 => 166 | 225 => 167 | 224 => 168 | 267 => 169 | 266 => 180 | 314 => 181 | n => n, fun | 9 => 9 | 4 => 4 | 3 => 3 | 5 => 5 | 46 => 158 | 146 => 206 | 51 => 187 | n => n, fun | 1 => 2 | n => n⟩
theorem Tryd.laysM144 : Go.Proofs.LaysM.n144 Tryd.prog Tryd.laysM144_ren := {
  mixed := by kernel_rfl
  f143 := Tryd.func109.trans (congrArg some (by kernel_rfl))
  f144 := Tryd.func143.trans (congrArg some (by kernel_rfl))
  f217 := Tryd.func166.trans (congrArg some (by kernel_rfl))
  f219 := Tryd.func144.trans (congrArg some (by kernel_rfl))
  f224 := Tryd.func168.trans (congrArg some (by kernel_rfl))
  f225 := Tryd.func167.trans (congrArg some (by kernel_rfl))
  f266 := Tryd.func180.trans (congrArg some (by kernel_rfl))
  f267 := Tryd.func169.trans (congrArg some (by kernel_rfl))
  f314 := Tryd.func181.trans (congrArg some (by kernel_rfl))
  t3 := Tryd.underlying3
  a3 := Tryd.isAgg3
  z3 := Tryd.sizeOf3
  v3 := Tryd.zeroValue3
  t4 := Tryd.underlying4
  a4 := Tryd.isAgg4
  z4 := Tryd.sizeOf4
  v4 := Tryd.zeroValue4
  t5 := Tryd.underlying5
  a5 := Tryd.isAgg5
  z5 := Tryd.sizeOf5
  v5 := Tryd.zeroValue5
  t9 := Tryd.underlying9
  a9 := Tryd.isAgg9
  z9 := Tryd.sizeOf9
  v9 := Tryd.zeroValue9
  t46 := Tryd.underlying158
  a46 := Tryd.isAgg158
  z46 := Tryd.sizeOf158
  v46 := Tryd.zeroValue158
  t51 := Tryd.underlying187
  a51 := Tryd.isAgg187
  z51 := Tryd.sizeOf187
  v51 := Tryd.zeroValue187
  t146 := Tryd.underlying206
  a146 := Tryd.isAgg206
  z146 := Tryd.sizeOf206
  v146 := Tryd.zeroValue206
  g1 := by kernel_rfl
  i3 := by kernel_rfl
  i4 := by kernel_rfl
  i5 := by kernel_rfl
  i9 := by kernel_rfl
  i46 := by kernel_rfl
  i51 := by kernel_rfl
  i146 := by kernel_rfl
  m1 := by kernel_rfl
  s1_3 := fun w h => Go.Proofs.cell_of_shapedOpen_int (zero := #[.int .i64 0]) (t := 3) h (of_decide_eq_true (by kernel_rfl)) (by kernel_rfl) rfl (by kernel_rfl) (by kernel_rfl) Tryd.underlying3 }
end Go.Proofs
namespace Go.Proofs.YtjghnaohlfgloaaDoor
open Go Go.Proofs.YtjghnaohlfgloaaDoor.Ab
variable [Glo]
class Ml [Glo] : Prop where
  maxl : ∃ m, glob 2 = some [D.i .i64 m]
end Go.Proofs.YtjghnaohlfgloaaDoor
