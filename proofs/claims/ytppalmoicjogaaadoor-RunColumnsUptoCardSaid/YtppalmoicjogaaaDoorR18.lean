/- Texts: what the reference and the program check of them. No condition but that the tables of package unicode/utf8 are there. -/
import Derived.Test.YtppalmoicjogaaaDoorR17
import Derived.Test.YtppalmoicjogaaaDoorR16
set_option linter.all false
set_option linter.unusedSimpArgs false
set_option linter.unusedVariables false
namespace Go.Proofs.YtppalmoicjogaaaDoor
open Go Go.Proofs.YtppalmoicjogaaaDoor.Ab
variable [Glo] [U8]
set_option maxHeartbeats 1000000
set_option maxRecDepth 20000
def okByte (c : Int) : Bool := decide (32 ≤ c ∨ c = 9 ∨ c = 10)
def okBytes (l : List UInt8) : Bool := l.all fun c => okByte c.toNat
def textFault (l : List UInt8) : Int := if l.length ≤ 20000 then (if (Lib.validD l && okBytes l) = true then 0 else 4) else 1
theorem okBytes_drop {l : List UInt8} {i : Nat} {c : UInt8} (h : l[i]? = some c) : okBytes (l.drop i) = (okByte c.toNat && okBytes (l.drop (i + 1))) := all_drop _ h
def ks_100 : Nat → List Nat
  | 0 => [0]
  | 1 => [0, 6]
  | 2 => [2]
  | 3 => [0, 9]
  | 4 => [2]
  | 5 => [0, 11, 12]
  | 6 => [0, 11, 12, 13]
  | 7 => [0, 3, 11, 12]
  | 8 => [0, 11, 12, 30]
  | 9 => [2]
  | 10 => [0, 11, 12]
  | 11 => [2]
  | _ => []
def mu_100 : List Nat := []
def in_100 : List Nat := [0]
theorem checkText_A (l : List UInt8) (hlen : l.length ≤ 9223372036854775807) (H : Heap) (K : V → Heap → Prop) (hk : K (.d (.i .i64 (textFault l))) H) : ACalls Tryd.prog 100 [.d (.s l)] H K := by
  refine ACalls_of Tryd.func100 rfl in_100 (Nat.le_of_ble_eq_true rfl) ?_
  intro F hF
  simp (dsimp := false) only [go_sem, Nat.reduceAdd, Nat.reduceBEq, Nat.reduceEqDiff, Nat.reduceLT, Nat.reduceLeDiff, Nat.reduceMul, Int.reduceToNat, reduceCtorEq, ↓reduceIte, Tryd.ntmps100, Tryd.results100, ks_100, mu_100, ti_hb102, ti_st9, in_100] at hF
  subst hF
  repeat' (first | with_reducible (first | refine And.intro ?_ ?_ | intro _ | refine AWp_seq ?_ | refine AWp_block ?_ | (refine hKv _ _ (AWp_nop ?_); clear hKv Kv) | (refine hKA ?_; clear hKA hKB KA KB) | (refine hKB ?_; clear hKA hKB KA KB) | refine AWp_skipN ?_ | refine AWp_exitO (by repeat (first | exact Out.hit | apply Out.thenA | apply Out.out rfl)) ?_) | ((first | with_reducible (first | (refine hKv _ _ ?_; clear hKv Kv) | ((first | refine AWp_regC mu_100 ks_100 ?_ | refine AWp_regE mu_100 ks_100 ?_); intro Kv hKv) | refine AWp_retR ?_) | refine valid_A _ hlen _ _ ?_); try simp (dsimp := false) only [go_sem, Nat.reduceAdd, Nat.reduceBEq, Nat.reduceEqDiff, Nat.reduceLT, Nat.reduceLeDiff, Nat.reduceMul, Int.reduceToNat, reduceCtorEq, ↓reduceIte, Tryd.ntmps100, Tryd.results100, ks_100, mu_100, ti_hb102, ti_st9]) | (refine AWp_condC rfl ?_; intro KA KB hKA hKB; try simp only [onB_true, onB_false, onB_dec, onB_ndec, onB_not, onB_and, onB_or]) | (refine AWp_condA rfl ?_ ?_) | with_reducible (first | refine onB_of ?_ ?_ | rfl) | omega)
  all_goals try exact keepD hk (by (simp only [V.d.injEq, D.i.injEq, D.b.injEq, D.s.injEq, true_and]; grind [textFault]))
  rename_i h1 h2
  have h1 : l.length ≤ 20000 := by omega
  have h2 : Lib.validD l = true := by simpa using h2
  refine AWp_while0 (fun i : Nat => i ≤ l.length ∧ okBytes l = okBytes (l.drop i)) (fun i => [(0, .d (.s l)), (11, .d (.i .i64 l.length)), (12, .d (.i .i64 i))]) (fun i => l.length - i) 0 ?_ ?_ ?_
  · simp
  · simp (dsimp := false) only [go_sem, Nat.reduceAdd, Nat.reduceBEq, Nat.reduceEqDiff, Nat.reduceLT, Nat.reduceLeDiff, Nat.reduceMul, Int.reduceToNat, reduceCtorEq, ↓reduceIte, Tryd.ntmps100, Tryd.results100, ks_100, mu_100, ti_hb102, ti_st9]
    omega
  rintro i ⟨hi, hall⟩
  repeat' (first | with_reducible (first | refine And.intro ?_ ?_ | intro _ | refine AWp_seq ?_ | refine AWp_block ?_ | (refine hKv _ _ (AWp_nop ?_); clear hKv Kv) | (refine hKA ?_; clear hKA hKB KA KB) | (refine hKB ?_; clear hKA hKB KA KB) | refine AWp_skipN ?_ | refine AWp_exitO (by repeat (first | exact Out.hit | apply Out.thenA | apply Out.out rfl)) ?_) | (with_reducible (first | (refine hKv _ _ ?_; clear hKv Kv) | ((first | refine AWp_regC mu_100 ks_100 ?_ | refine AWp_regE mu_100 ks_100 ?_); intro Kv hKv) | refine AWp_retR ?_); try simp (dsimp := false) only [go_sem, Nat.reduceAdd, Nat.reduceBEq, Nat.reduceEqDiff, Nat.reduceLT, Nat.reduceLeDiff, Nat.reduceMul, Int.reduceToNat, reduceCtorEq, ↓reduceIte, Tryd.ntmps100, Tryd.results100, ks_100, mu_100, ti_hb102, ti_st9]) | (refine AWp_condC rfl ?_; intro KA KB hKA hKB; try simp only [onB_true, onB_false, onB_dec, onB_ndec, onB_not, onB_and, onB_or]) | (refine AWp_condA rfl ?_ ?_) | with_reducible (first | refine onB_of ?_ ?_ | rfl) | omega)
  all_goals try have hst := okBytes_drop ‹l[i]? = some _›
  all_goals try (refine ⟨i + 1, ⟨by omega, ?_⟩, by omega, by omega⟩)
  all_goals try refine keepD hk ?_
  all_goals try simp only [V.d.injEq, D.i.injEq, true_and, textFault, if_pos h1, h2]
  all_goals rw [hall]
  all_goals try rw [hst]
  all_goals first
    | (have : i = l.length := by omega
       subst this; simp [okBytes])
    | grind [okByte]
def ks_87 : Nat → List Nat
  | 0 => [0]
  | 1 => [0, 7]
  | 2 => [2]
  | 3 => [0, 3]
  | 4 => [0, 3, 4]
  | 5 => [0, 3, 4, 13]
  | 6 => [0, 3, 4]
  | 7 => [0, 3, 4]
  | 8 => [36]
  | 9 => [2]
  | 10 => [2]
  | _ => []
def mu_87 : List Nat := []
def in_87 : List Nat := [0]
theorem valueFault_A (l : List UInt8) (hlen : l.length ≤ 9223372036854775807) (H : Heap) (K : V → Heap → Prop) (hk : K (.d (.i .i64 (textFault l))) H) : ACalls Tryd.prog 87 [.d (.s l)] H K := by
  refine ACalls_of Tryd.func87 rfl in_87 (Nat.le_of_ble_eq_true rfl) ?_
  intro F hF
  simp (dsimp := false) only [go_sem, Nat.reduceAdd, Nat.reduceBEq, Nat.reduceEqDiff, Nat.reduceLT, Nat.reduceLeDiff, Nat.reduceMul, Int.reduceToNat, reduceCtorEq, ↓reduceIte, Tryd.ntmps87, Tryd.results87, ks_87, mu_87, ti_hb102, ti_st9, in_87] at hF
  subst hF
  repeat' (first | with_reducible (first | refine And.intro ?_ ?_ | intro _ | refine AWp_seq ?_ | refine AWp_block ?_ | (refine hKv _ _ (AWp_nop ?_); clear hKv Kv) | (refine hKA ?_; clear hKA hKB KA KB) | (refine hKB ?_; clear hKA hKB KA KB) | refine AWp_skipN ?_ | refine AWp_exitO (by repeat (first | exact Out.hit | apply Out.thenA | apply Out.out rfl)) ?_) | ((first | with_reducible (first | (refine hKv _ _ ?_; clear hKv Kv) | ((first | refine AWp_regC mu_87 ks_87 ?_ | refine AWp_regE mu_87 ks_87 ?_); intro Kv hKv) | refine AWp_retR ?_) | refine valid_A _ hlen _ _ ?_); try simp (dsimp := false) only [go_sem, Nat.reduceAdd, Nat.reduceBEq, Nat.reduceEqDiff, Nat.reduceLT, Nat.reduceLeDiff, Nat.reduceMul, Int.reduceToNat, reduceCtorEq, ↓reduceIte, Tryd.ntmps87, Tryd.results87, ks_87, mu_87, ti_hb102, ti_st9]) | (refine AWp_condC rfl ?_; intro KA KB hKA hKB; try simp only [onB_true, onB_false, onB_dec, onB_ndec, onB_not, onB_and, onB_or]) | (refine AWp_condA rfl ?_ ?_) | with_reducible (first | refine onB_of ?_ ?_ | rfl) | omega)
  all_goals try exact keepD hk (by (simp only [V.d.injEq, D.i.injEq, D.b.injEq, D.s.injEq, true_and]; grind [textFault]))
  rename_i h1
  have h1 : l.length ≤ 20000 := by omega
  refine AWp_while0 (fun x : Nat × Bool => x.1 ≤ l.length ∧ (Lib.validD l && okBytes l) = (x.2 && okBytes (l.drop x.1))) (fun x => [(0, .d (.s l)), (3, .d (.b x.2)), (4, .d (.i .i64 x.1))]) (fun x => l.length - x.1) (0, Lib.validD l) ?_ ?_ ?_
  · simp
  · simp (dsimp := false) only [go_sem, Nat.reduceAdd, Nat.reduceBEq, Nat.reduceEqDiff, Nat.reduceLT, Nat.reduceLeDiff, Nat.reduceMul, Int.reduceToNat, reduceCtorEq, ↓reduceIte, Tryd.ntmps87, Tryd.results87, ks_87, mu_87, ti_hb102, ti_st9]
    first | done | omega
  rintro ⟨i, ok⟩ ⟨hi, hall⟩
  simp only [] at hi hall
  repeat' (first | with_reducible (first | refine And.intro ?_ ?_ | intro _ | refine AWp_seq ?_ | refine AWp_block ?_ | (refine hKv _ _ (AWp_nop ?_); clear hKv Kv) | (refine hKA ?_; clear hKA hKB KA KB) | (refine hKB ?_; clear hKA hKB KA KB) | refine AWp_skipN ?_ | refine AWp_exitO (by repeat (first | exact Out.hit | apply Out.thenA | apply Out.out rfl)) ?_) | (with_reducible (first | (refine hKv _ _ ?_; clear hKv Kv) | ((first | refine AWp_regC mu_87 ks_87 ?_ | refine AWp_regE mu_87 ks_87 ?_); intro Kv hKv) | refine AWp_retR ?_); try simp (dsimp := false) only [go_sem, Nat.reduceAdd, Nat.reduceBEq, Nat.reduceEqDiff, Nat.reduceLT, Nat.reduceLeDiff, Nat.reduceMul, Int.reduceToNat, reduceCtorEq, ↓reduceIte, Tryd.ntmps87, Tryd.results87, ks_87, mu_87, ti_hb102, ti_st9]) | (refine AWp_condC rfl ?_; intro KA KB hKA hKB; try simp only [onB_true, onB_false, onB_dec, onB_ndec, onB_not, onB_and, onB_or]) | (refine AWp_condA rfl ?_ ?_) | with_reducible (first | refine onB_of ?_ ?_ | rfl) | omega)
  all_goals try have hst := okBytes_drop ‹l[i]? = some _›
  all_goals try (apply Exists.intro (i + 1, _); dsimp only; refine ⟨⟨by omega, ?_⟩, by omega, rfl, by omega⟩)
  all_goals try refine keepD hk ?_
  all_goals try simp only [V.d.injEq, D.i.injEq, true_and, textFault, if_pos h1]
  all_goals rw [hall]
  all_goals try rw [hst]
  all_goals first
    | grind [okByte]
    | (have : i = l.length := by omega
       subst this; simp_all [okBytes])
    | trace_state
end Go.Proofs.YtppalmoicjogaaaDoor
namespace Go.Proofs.YtppalmoicjogaaaDoor
open Go Go.Proofs.YtppalmoicjogaaaDoor.Ab
variable [Glo]
set_option maxHeartbeats 1000000
set_option maxRecDepth 20000
def ks_17 : Nat → List Nat
  | 0 => [0, 1, 2]
  | 1 => [6]
  | _ => []
def mu_17 : List Nat := []
def in_17 : List Nat := [0, 1, 2]
theorem in_A (n l h : Int) (H : Heap) (K : V → Heap → Prop) (hk : K (.d (.b (decide (l ≤ n ∧ n ≤ h)))) H) : ACalls Tryd.prog 17 [.d (.i .i64 n), .d (.i .i64 l), .d (.i .i64 h)] H K := by
  refine ACalls_of Tryd.func17 rfl in_17 (Nat.le_of_ble_eq_true rfl) ?_
  intro F hF
  simp (dsimp := false) only [go_sem, Nat.reduceAdd, Nat.reduceBEq, Nat.reduceEqDiff, Nat.reduceLT, Nat.reduceLeDiff, Nat.reduceMul, Int.reduceToNat, reduceCtorEq, ↓reduceIte, Tryd.ntmps17, Tryd.results17, ks_17, mu_17, in_17] at hF
  subst hF
  repeat' (first | with_reducible (first | refine And.intro ?_ ?_ | intro _ | refine AWp_seq ?_ | refine AWp_block ?_ | (refine hKv _ _ (AWp_nop ?_); clear hKv Kv) | (refine hKA ?_; clear hKA hKB KA KB) | (refine hKB ?_; clear hKA hKB KA KB) | refine AWp_skipN ?_ | refine AWp_exitO (by repeat (first | exact Out.hit | apply Out.thenA | apply Out.out rfl)) ?_) | (with_reducible (first | (refine hKv _ _ ?_; clear hKv Kv) | ((first | refine AWp_regC mu_17 ks_17 ?_ | refine AWp_regE mu_17 ks_17 ?_); intro Kv hKv) | refine AWp_retR ?_); try simp (dsimp := false) only [go_sem, Nat.reduceAdd, Nat.reduceBEq, Nat.reduceEqDiff, Nat.reduceLT, Nat.reduceLeDiff, Nat.reduceMul, Int.reduceToNat, reduceCtorEq, ↓reduceIte, Tryd.ntmps17, Tryd.results17, ks_17, mu_17]) | (refine AWp_condC rfl ?_; intro KA KB hKA hKB; try simp only [onB_true, onB_false, onB_dec, onB_ndec, onB_not, onB_and, onB_or]) | (refine AWp_condA rfl ?_ ?_) | with_reducible (first | refine onB_of ?_ ?_ | rfl) | omega)
  all_goals refine keepD hk ?_
  all_goals simp [*]
end Go.Proofs.YtppalmoicjogaaaDoor
namespace Go.Proofs.YtppalmoicjogaaaDoor
open Go Go.Proofs.YtppalmoicjogaaaDoor.Ab
variable [Glo]
structure It where
  k : Int
  n : Int
  s : List UInt8
  deriving DecidableEq
def itD (x : It) : List D := [.i .i64 x.k, .i .i64 x.n, .s x.s]
def itV (x : It) : V := .ag [.d (.i .i64 x.k), .d (.i .i64 x.n), .d (.s x.s)]
structure Nd where
  k : Int
  nm : List UInt8
  vl : List UInt8
  sz : Int
  lv : Int
  up : Int
  deriving DecidableEq
def ndD (x : Nd) : List D := [.i .i64 x.k, .s x.nm, .s x.vl, .i .i64 x.sz, .i .i64 x.lv, .i .i64 x.up]
def ndV (x : Nd) : V := .ag [.d (.i .i64 x.k), .d (.s x.nm), .d (.s x.vl), .d (.i .i64 x.sz), .d (.i .i64 x.lv), .d (.i .i64 x.up)]
structure Ev where
  k : Int
  nm : List UInt8
  vl : List UInt8
  deriving DecidableEq
def evD (x : Ev) : List D := [.i .i64 x.k, .s x.nm, .s x.vl]
def evV (x : Ev) : V := .ag [.d (.i .i64 x.k), .d (.s x.nm), .d (.s x.vl)]
structure Tk where
  k : Int
  s : List UInt8
  n : Int
  deriving DecidableEq
def tkD (x : Tk) : List D := [.i .i64 x.k, .s x.s, .i .i64 x.n]
def tkV (x : Tk) : V := .ag [.d (.i .i64 x.k), .d (.s x.s), .d (.i .i64 x.n)]
abbrev tyIt : Ty := .cons (.i .i64) (.cons (.i .i64) (.cons .s .nil))
abbrev tyNd : Ty := .cons (.i .i64) (.cons .s (.cons .s (.cons (.i .i64) (.cons (.i .i64) (.cons (.i .i64) .nil)))))
abbrev tyEv : Ty := .cons (.i .i64) (.cons .s (.cons .s .nil))
abbrev tyTk : Ty := .cons (.i .i64) (.cons .s (.cons (.i .i64) .nil))
theorem inR_le {n : Int} (h : inR .i64 n) : -9223372036854775808 ≤ n ∧ n ≤ 9223372036854775807 := by rwa [inR_i64] at h
theorem typed_it {ds : List D} {m : Nat} (h : Typed tyIt ds m) : ∃ x : It, ds = itD x ∧ x.s.length + 3 ≤ m ∧ inR .i64 x.n ∧ inR .i64 x.k := by
  obtain ⟨_, _, _, _, rfl, e1, h1, g1⟩ := typed_cons h
  obtain ⟨_, _, _, _, rfl, e2, h2, g2⟩ := typed_cons g1
  obtain ⟨_, _, _, _, rfl, e3, h3, g3⟩ := typed_cons g2
  obtain ⟨a, rfl, ra, la⟩ := typed_i h1
  obtain ⟨b, rfl, rb, lb⟩ := typed_i h2
  obtain ⟨s, rfl, ls⟩ := typed_s h3
  obtain rfl := typed_nil g3
  exact ⟨⟨a, b, s⟩, rfl, by simp only []; omega, rb, ra⟩
theorem typed_nd {ds : List D} {m : Nat} (h : Typed tyNd ds m) : ∃ x : Nd, ds = ndD x ∧ x.nm.length + x.vl.length + 6 ≤ m ∧ inR .i64 x.k ∧ inR .i64 x.sz ∧ inR .i64 x.lv ∧ inR .i64 x.up := by
  obtain ⟨_, _, _, _, rfl, e1, h1, g1⟩ := typed_cons h
  obtain ⟨_, _, _, _, rfl, e2, h2, g2⟩ := typed_cons g1
  obtain ⟨_, _, _, _, rfl, e3, h3, g3⟩ := typed_cons g2
  obtain ⟨_, _, _, _, rfl, e4, h4, g4⟩ := typed_cons g3
  obtain ⟨_, _, _, _, rfl, e5, h5, g5⟩ := typed_cons g4
  obtain ⟨_, _, _, _, rfl, e6, h6, g6⟩ := typed_cons g5
  obtain ⟨a, rfl, ra, la⟩ := typed_i h1
  obtain ⟨b, rfl, lb⟩ := typed_s h2
  obtain ⟨c, rfl, lc⟩ := typed_s h3
  obtain ⟨d, rfl, rd, ld⟩ := typed_i h4
  obtain ⟨e, rfl, re, le⟩ := typed_i h5
  obtain ⟨f, rfl, rf, lf⟩ := typed_i h6
  obtain rfl := typed_nil g6
  exact ⟨⟨a, b, c, d, e, f⟩, rfl, by simp only []; omega, ra, rd, re, rf⟩
theorem typed_ev {ds : List D} {m : Nat} (h : Typed tyEv ds m) : ∃ x : Ev, ds = evD x ∧ x.nm.length + x.vl.length + 3 ≤ m ∧ inR .i64 x.k := by
  obtain ⟨_, _, _, _, rfl, e1, h1, g1⟩ := typed_cons h
  obtain ⟨_, _, _, _, rfl, e2, h2, g2⟩ := typed_cons g1
  obtain ⟨_, _, _, _, rfl, e3, h3, g3⟩ := typed_cons g2
  obtain ⟨a, rfl, ra, la⟩ := typed_i h1
  obtain ⟨b, rfl, lb⟩ := typed_s h2
  obtain ⟨s, rfl, ls⟩ := typed_s h3
  obtain rfl := typed_nil g3
  exact ⟨⟨a, b, s⟩, rfl, by simp only []; omega, ra⟩
theorem typed_tk {ds : List D} {m : Nat} (h : Typed tyTk ds m) : ∃ x : Tk, ds = tkD x ∧ x.s.length + 3 ≤ m ∧ inR .i64 x.k ∧ inR .i64 x.n := by
  obtain ⟨_, _, _, _, rfl, e1, h1, g1⟩ := typed_cons h
  obtain ⟨_, _, _, _, rfl, e2, h2, g2⟩ := typed_cons g1
  obtain ⟨_, _, _, _, rfl, e3, h3, g3⟩ := typed_cons g2
  obtain ⟨a, rfl, ra, la⟩ := typed_i h1
  obtain ⟨b, rfl, lb⟩ := typed_s h2
  obtain ⟨s, rfl, rs, ls⟩ := typed_i h3
  obtain rfl := typed_nil g3
  exact ⟨⟨a, b, s⟩, rfl, by simp only []; omega, ra, rs⟩
theorem typed_list {α : Type} {E : Ty} {f : α → List D} {p : α → Nat → Prop} (hE : ∀ ds m, Typed E ds m → ∃ x, ds = f x ∧ p x m) {ds : List D} {m : Nat} (h : Typed (.sl E) ds m) :
    ∃ (xs : List α) (ws : List Nat), ds = [.sl E.size (xs.map f)] ∧ ws.length = xs.length ∧ ws.sum + 1 ≤ m ∧ ∀ (i : Nat) (x : α) (w : Nat), xs[i]? = some x → ws[i]? = some w → p x w := by
  obtain ⟨rows, rfl, ws, h1, h2, h3⟩ := typed_sl h
  have : ∀ (rows : List (List D)) (ws : List Nat), ws.length = rows.length → (∀ (i : Nat) (row : List D) (w : Nat), rows[i]? = some row → ws[i]? = some w → Typed E row w) → ∃ xs : List α, rows = xs.map f ∧ ∀ (i : Nat) (x : α) (w : Nat), xs[i]? = some x → ws[i]? = some w → p x w := by
    intro rows
    induction rows with
    | nil => intro ws _ _; exact ⟨[], rfl, by simp⟩
    | cons r rows ih =>
      intro ws hl hw
      cases ws with
      | nil => simp at hl
      | cons w ws =>
        obtain ⟨x, rfl, hx⟩ := hE r w (hw 0 r w rfl rfl)
        obtain ⟨xs, rfl, hxs⟩ := ih ws (by simpa using hl) (fun i row w' h1 h2 => hw (i + 1) row w' (by simpa using h1) (by simpa using h2))
        refine ⟨x :: xs, rfl, fun i y w' h1 h2 => ?_⟩
        cases i with
        | zero => simp at h1 h2; subst h1 h2; exact hx
        | succ i => exact hxs i y w' (by simpa using h1) (by simpa using h2)
  obtain ⟨xs, rfl, hxs⟩ := this rows ws h1 h3
  exact ⟨xs, ws, rfl, by simpa using h1, h2, hxs⟩
theorem le_sum : ∀ {ws : List Nat} {i w : Nat}, ws[i]? = some w → w ≤ ws.sum
  | [], i, w, h => by simp at h
  | x :: ws, 0, w, h => by simp at h; subst h; simp
  | x :: ws, i + 1, w, h => by
    have := le_sum (ws := ws) (i := i) (w := w) (by simpa using h)
    simp only [List.sum_cons]
    omega
theorem len_sum {ws : List Nat} (c : Nat) (h : ∀ (i w : Nat), ws[i]? = some w → c ≤ w) : c * ws.length ≤ ws.sum := by
  induction ws with
  | nil => simp
  | cons x ws ih =>
    have h1 := h 0 x rfl
    have h2 := ih fun i w hw => h (i + 1) w (by simpa using hw)
    simp only [List.length_cons, List.sum_cons, Nat.mul_add]
    omega
end Go.Proofs.YtppalmoicjogaaaDoor
namespace Go.Proofs.YtppalmoicjogaaaDoor
open Go Go.Proofs.YtppalmoicjogaaaDoor.Ab
variable [Glo] [U8]
set_option maxHeartbeats 1000000
set_option maxRecDepth 20000
def itemB (x : It) : Bool :=
  if x.k = 1 then decide (0 ≤ x.n ∧ x.n < 100000 ∧ x.s = [])
  else if x.k = 2 then decide (-1099511627776 ≤ x.n ∧ x.n ≤ 1099511627776 ∧ x.s = [])
  else if x.k = 3 then decide (x.n = 0 ∧ textFault x.s = 0)
  else if x.k = 4 then decide ((x.n = 0 ∨ x.n = 1) ∧ x.s = [])
  else false
def itemFault (x : It) : Int := if itemB x = true then 0 else 12
def ks_78 : Nat → List Nat
  | 0 => [1]
  | 1 => [1, 4]
  | 2 => [1, 4, 5]
  | 3 => [2]
  | 4 => [1, 4, 20]
  | 5 => [2]
  | 6 => [1, 4, 35]
  | 7 => [2]
  | 8 => [1, 46]
  | 9 => [2]
  | 10 => [2]
  | _ => []
def mu_78 : List Nat := []
def in_78 : List Nat := [0]
theorem item_A (x : It) (hs : x.s.length ≤ 9223372036854775807) (H : Heap) (K : V → Heap → Prop) (hk : K (.d (.b (itemB x))) H) : ACalls Tryd.prog 78 [itV x] H K := by
  refine ACalls_of Tryd.func78 rfl in_78 (Nat.le_of_ble_eq_true rfl) ?_
  intro F hF
  simp (dsimp := false) only [go_sem, Nat.reduceAdd, Nat.reduceBEq, Nat.reduceEqDiff, Nat.reduceLT, Nat.reduceLeDiff, Nat.reduceMul, Int.reduceToNat, reduceCtorEq, ↓reduceIte, Tryd.ntmps78, Tryd.results78, ks_78, mu_78, ti_ag3, ti_ag9, ti_fl31_0, ti_fl31_1, ti_fl31_2, ti_hb100, itD, itV, in_78] at hF
  subst hF
  repeat' (first | with_reducible (first | refine And.intro ?_ ?_ | intro _ | refine AWp_seq ?_ | refine AWp_block ?_ | (refine hKv _ _ (AWp_nop ?_); clear hKv Kv) | (refine hKA ?_; clear hKA hKB KA KB) | (refine hKB ?_; clear hKA hKB KA KB) | refine AWp_skipN ?_ | refine AWp_exitO (by repeat (first | exact Out.hit | apply Out.thenA | apply Out.out rfl)) ?_) | ((first | with_reducible (first | (refine hKv _ _ ?_; clear hKv Kv) | ((first | refine AWp_regC mu_78 ks_78 ?_ | refine AWp_regE mu_78 ks_78 ?_); intro Kv hKv) | refine AWp_retR ?_) | refine checkText_A _ hs _ _ ?_); try simp (dsimp := false) only [go_sem, Nat.reduceAdd, Nat.reduceBEq, Nat.reduceEqDiff, Nat.reduceLT, Nat.reduceLeDiff, Nat.reduceMul, Int.reduceToNat, reduceCtorEq, ↓reduceIte, Tryd.ntmps78, Tryd.results78, ks_78, mu_78, ti_ag3, ti_ag9, ti_fl31_0, ti_fl31_1, ti_fl31_2, ti_hb100, itD, itV]) | (refine AWp_condC rfl ?_; intro KA KB hKA hKB; try simp only [onB_true, onB_false, onB_dec, onB_ndec, onB_not, onB_and, onB_or]) | (refine AWp_condA rfl ?_ ?_) | with_reducible (first | refine onB_of ?_ ?_ | rfl) | omega)
  all_goals exact keepD hk (by (simp only [V.d.injEq, D.i.injEq, D.b.injEq, D.s.injEq, true_and]; grind [itemB]))
def ks_55 : Nat → List Nat
  | 0 => [1]
  | 1 => [5]
  | 2 => [2]
  | 3 => [2]
  | _ => []
def mu_55 : List Nat := []
def in_55 : List Nat := [0]
theorem checkItem_A (x : It) (hs : x.s.length ≤ 9223372036854775807) (H : Heap) (K : V → Heap → Prop) (hk : K (.d (.i .i64 (itemFault x))) H) : ACalls Tryd.prog 55 [itV x] H K := by
  refine ACalls_of Tryd.func55 rfl in_55 (Nat.le_of_ble_eq_true rfl) ?_
  intro F hF
  simp (dsimp := false) only [go_sem, Nat.reduceAdd, Nat.reduceBEq, Nat.reduceEqDiff, Nat.reduceLT, Nat.reduceLeDiff, Nat.reduceMul, Int.reduceToNat, reduceCtorEq, ↓reduceIte, Tryd.ntmps55, Tryd.results55, ks_55, mu_55, ti_ag31, ti_hb78, ti_sz31, itD, itV, in_55] at hF
  subst hF
  repeat' (first | with_reducible (first | refine And.intro ?_ ?_ | intro _ | refine AWp_seq ?_ | refine AWp_block ?_ | (refine hKv _ _ (AWp_nop ?_); clear hKv Kv) | (refine hKA ?_; clear hKA hKB KA KB) | (refine hKB ?_; clear hKA hKB KA KB) | refine AWp_skipN ?_ | refine AWp_exitO (by repeat (first | exact Out.hit | apply Out.thenA | apply Out.out rfl)) ?_) | ((first | with_reducible (first | (refine hKv _ _ ?_; clear hKv Kv) | ((first | refine AWp_regC mu_55 ks_55 ?_ | refine AWp_regE mu_55 ks_55 ?_); intro Kv hKv) | refine AWp_retR ?_) | refine item_A _ hs _ _ ?_); try simp (dsimp := false) only [go_sem, Nat.reduceAdd, Nat.reduceBEq, Nat.reduceEqDiff, Nat.reduceLT, Nat.reduceLeDiff, Nat.reduceMul, Int.reduceToNat, reduceCtorEq, ↓reduceIte, Tryd.ntmps55, Tryd.results55, ks_55, mu_55, ti_ag31, ti_hb78, ti_sz31, itD, itV]) | (refine AWp_condC rfl ?_; intro KA KB hKA hKB; try simp only [onB_true, onB_false, onB_dec, onB_ndec, onB_not, onB_and, onB_or]) | (refine AWp_condA rfl ?_ ?_) | with_reducible (first | refine onB_of ?_ ?_ | rfl) | omega)
  all_goals exact keepD hk (by (simp only [V.d.injEq, D.i.injEq, D.b.injEq, D.s.injEq, true_and]; grind [itemFault]))
def ks_48 : Nat → List Nat
  | 0 => [1]
  | 1 => [1, 4]
  | 2 => [1, 4, 5]
  | 3 => [2]
  | 4 => [1, 4, 15]
  | 5 => [2]
  | 6 => [1, 4, 25]
  | 7 => [2]
  | 8 => [1, 36]
  | 9 => [2]
  | 10 => [2]
  | _ => []
def mu_48 : List Nat := []
def in_48 : List Nat := [0]
theorem itemMay_A (x : It) (hs : x.s.length ≤ 9223372036854775807) (H : Heap) (K : V → Heap → Prop) (hk : K (.d (.b (itemB x))) H) : ACalls Tryd.prog 48 [itV x] H K := by
  refine ACalls_of Tryd.func48 rfl in_48 (Nat.le_of_ble_eq_true rfl) ?_
  intro F hF
  simp (dsimp := false) only [go_sem, Nat.reduceAdd, Nat.reduceBEq, Nat.reduceEqDiff, Nat.reduceLT, Nat.reduceLeDiff, Nat.reduceMul, Int.reduceToNat, reduceCtorEq, ↓reduceIte, Tryd.ntmps48, Tryd.results48, ks_48, mu_48, ti_ag3, ti_ag9, ti_fl31_0, ti_fl31_1, ti_fl31_2, ti_hb17, ti_hb87, itD, itV, in_48] at hF
  subst hF
  repeat' (first | with_reducible (first | refine And.intro ?_ ?_ | intro _ | refine AWp_seq ?_ | refine AWp_block ?_ | (refine hKv _ _ (AWp_nop ?_); clear hKv Kv) | (refine hKA ?_; clear hKA hKB KA KB) | (refine hKB ?_; clear hKA hKB KA KB) | refine AWp_skipN ?_ | refine AWp_exitO (by repeat (first | exact Out.hit | apply Out.thenA | apply Out.out rfl)) ?_) | ((first | with_reducible (first | (refine hKv _ _ ?_; clear hKv Kv) | ((first | refine AWp_regC mu_48 ks_48 ?_ | refine AWp_regE mu_48 ks_48 ?_); intro Kv hKv) | refine AWp_retR ?_) | refine valueFault_A _ hs _ _ ?_ | refine in_A _ _ _ _ _ ?_); try simp (dsimp := false) only [go_sem, Nat.reduceAdd, Nat.reduceBEq, Nat.reduceEqDiff, Nat.reduceLT, Nat.reduceLeDiff, Nat.reduceMul, Int.reduceToNat, reduceCtorEq, ↓reduceIte, Tryd.ntmps48, Tryd.results48, ks_48, mu_48, ti_ag3, ti_ag9, ti_fl31_0, ti_fl31_1, ti_fl31_2, ti_hb17, ti_hb87, itD, itV]) | (refine AWp_condC rfl ?_; intro KA KB hKA hKB; try simp only [onB_true, onB_false, onB_dec, onB_ndec, onB_not, onB_and, onB_or]) | (refine AWp_condA rfl ?_ ?_) | with_reducible (first | refine onB_of ?_ ?_ | rfl) | omega)
  all_goals exact keepD hk (by (simp only [V.d.injEq, D.i.injEq, D.b.injEq, D.s.injEq, true_and]; grind [itemB]))
end Go.Proofs.YtppalmoicjogaaaDoor
