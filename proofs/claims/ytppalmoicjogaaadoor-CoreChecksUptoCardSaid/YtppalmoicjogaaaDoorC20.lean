/- Expressions of the core, as data; what is wrong with one: in plain words. No condition. -/
import Derived.Test.YtppalmoicjogaaaDoorC18
import Derived.Test.YtppalmoicjogaaaDoorC19
import Derived.Test.YtppalmoicjogaaaDoorC17
set_option linter.all false
set_option linter.unusedSimpArgs false
set_option linter.unusedVariables false
namespace Go.Proofs.YtppalmoicjogaaaDoor
open Go Go.Proofs.YtppalmoicjogaaaDoor.Ab
variable [Glo]
structure Xh where
  k : Int
  it : It
  nm : List UInt8
  at_ : List UInt8
  n : Int
  ax : Int
  tk : Int
  tn : List UInt8
inductive Ex where
  | mk (h : Xh) (args : List Ex)
def Ex.h : Ex → Xh | .mk h _ => h
def Ex.args : Ex → List Ex | .mk _ l => l
def xhD (h : Xh) : List D := [.i .i64 h.k, .i .i64 h.it.k, .i .i64 h.it.n, .s h.it.s, .s h.nm, .s h.at_, .i .i64 h.n, .i .i64 h.ax, .i .i64 h.tk, .s h.tn]
mutual
def exD : Ex → List D
  | .mk h l => xhD h ++ [.sl 11 (exDs l)]
def exDs : List Ex → List (List D)
  | [] => []
  | x :: l => exD x :: exDs l
end
theorem exDs_map : ∀ l : List Ex, exDs l = l.map exD
  | [] => rfl
  | x :: l => by rw [exDs, exDs_map l, List.map_cons]
theorem exD_eq (x : Ex) : exD x = xhD x.h ++ [.sl 11 (x.args.map exD)] := by
  cases x with | mk h l => rw [exD, exDs_map]; rfl
mutual
def exN : Ex → Nat
  | .mk _ l => exNs l + 1
def exNs : List Ex → Nat
  | [] => 0
  | x :: l => exN x + exNs l
end
mutual
def exHow (a b : Int) : Ex → Nat
  | .mk h l => (if h.k = a ∨ h.k = b then 1 else 0) + exHows a b l
def exHows (a b : Int) : List Ex → Nat
  | [] => 0
  | x :: l => exHow a b x + exHows a b l
end
theorem exN_eq (x : Ex) : exN x = exNs x.args + 1 := by cases x with | mk h l => rw [exN]; rfl
theorem exHow_eq (a b : Int) (x : Ex) : exHow a b x = (if x.h.k = a ∨ x.h.k = b then 1 else 0) + exHows a b x.args := by cases x with | mk h l => rw [exHow]; rfl
theorem exNs_mem {x : Ex} : ∀ {l : List Ex}, x ∈ l → exN x ≤ exNs l
  | [], h => by cases h
  | y :: l, h => by
    rw [exNs]
    rcases List.mem_cons.1 h with rfl | h
    · omega
    · have := exNs_mem h; omega
theorem exN_lt {x y : Ex} (h : y ∈ x.args) : exN y < exN x := by
  rw [exN_eq x]
  have := exNs_mem h
  omega
mutual
theorem exHow_le (a b : Int) : ∀ x : Ex, exHow a b x ≤ exN x
  | .mk h l => by
    rw [exHow, exN]
    have := exHows_le a b l
    split <;> omega
theorem exHows_le (a b : Int) : ∀ l : List Ex, exHows a b l ≤ exNs l
  | [] => by rw [exHows, exNs]; omega
  | x :: l => by
    rw [exHows, exNs]
    have := exHow_le a b x
    have := exHows_le a b l
    omega
end
theorem exNs_take {l : List Ex} {i : Nat} {x : Ex} (h : l[i]? = some x) : exNs (l.take (i + 1)) = exNs (l.take i) + exN x := by
  induction l generalizing i with
  | nil => simp at h
  | cons y l ih =>
    cases i with
    | zero => simp at h; subst h; simp [exNs]
    | succ i =>
      have := ih (i := i) (by simpa using h)
      rw [List.take_succ_cons, exNs, this, List.take_succ_cons, exNs]; omega
theorem exHows_take {a b : Int} {l : List Ex} {i : Nat} {x : Ex} (h : l[i]? = some x) : exHows a b (l.take (i + 1)) = exHows a b (l.take i) + exHow a b x := by
  induction l generalizing i with
  | nil => simp at h
  | cons y l ih =>
    cases i with
    | zero => simp at h; subst h; simp [exHows]
    | succ i =>
      have := ih (i := i) (by simpa using h)
      rw [List.take_succ_cons, exHows, this, List.take_succ_cons, exHows]; omega
theorem exNs_le_take : ∀ (l : List Ex) (i : Nat), exNs (l.take i) ≤ exNs l
  | [], i => by simp
  | x :: l, 0 => by simp [exNs]
  | x :: l, i + 1 => by rw [List.take_succ_cons, exNs, exNs]; have := exNs_le_take l i; omega
theorem exNs_len : ∀ l : List Ex, l.length ≤ exNs l
  | [] => by simp [exNs]
  | x :: l => by rw [exNs, List.length_cons]; have := exNs_len l; have := exN_eq x; omega
inductive ExOk : Ex → Prop where
  | mk (h : Xh) (l : List Ex) : h.it.s.length ≤ 1048576 → h.nm.length ≤ 1048576 → h.at_.length ≤ 1048576 → h.tn.length ≤ 1048576 → l.length ≤ 1048576 → (∀ x, x ∈ l → ExOk x) → ExOk (.mk h l)
abbrev tyEx : TyR := .cons (.i .i64) (.cons (.cons (.i .i64) (.cons (.i .i64) (.cons .s .nil))) (.cons .s (.cons .s (.cons (.i .i64) (.cons (.i .i64) (.cons (.cons (.i .i64) (.cons .s .nil)) (.cons (.sl (.rf 36 11)) .nil)))))))
theorem typedR_list {α : Type} {env : TypeId → Option TyR} {E : TyR} {f : α → List D} {p : α → Nat → Prop} {rows : List (List D)} {ws : List Nat} (hl : ws.length = rows.length)
    (hE : ∀ (i : Nat) (row : List D) (w : Nat), rows[i]? = some row → ws[i]? = some w → ∃ x, row = f x ∧ p x w) : ∃ xs : List α, rows = xs.map f ∧ ∀ (i : Nat) (x : α) (w : Nat), xs[i]? = some x → ws[i]? = some w → p x w := by
  induction rows generalizing ws with
  | nil => exact ⟨[], rfl, by simp⟩
  | cons r rows ih =>
    cases ws with
    | nil => simp at hl
    | cons w ws =>
      obtain ⟨x, rfl, hx⟩ := hE 0 r w rfl rfl
      obtain ⟨xs, rfl, hxs⟩ := ih (by simpa using hl) (fun i row w' h1 h2 => hE (i + 1) row w' (by simpa using h1) (by simpa using h2))
      refine ⟨x :: xs, rfl, fun i y w' h1 h2 => ?_⟩
      cases i with
      | zero => simp at h1 h2; subst h1 h2; exact hx
      | succ i => exact hxs i y w' (by simpa using h1) (by simpa using h2)
theorem exNs_sum : ∀ {xs : List Ex} {ws : List Nat}, ws.length = xs.length → (∀ (i : Nat) (x : Ex) (w : Nat), xs[i]? = some x → ws[i]? = some w → 11 * exN x ≤ w) → 11 * exNs xs ≤ ws.sum
  | [], ws, _, _ => by simp [exNs]
  | x :: xs, [], h, _ => by simp at h
  | x :: xs, w :: ws, h, hw => by
    have h0 := hw 0 x w rfl rfl
    have h1 := exNs_sum (xs := xs) (ws := ws) (by simpa using h) fun i x w h1 h2 => hw (i + 1) x w (by simpa using h1) (by simpa using h2)
    rw [exNs, List.sum_cons]
    omega
theorem typed_ex {env : TypeId → Option TyR} (he : env 36 = some tyEx) : ∀ (m : Nat) (ds : List D), m ≤ 1048576 → TypedR env tyEx ds m → ∃ x, ds = exD x ∧ ExOk x ∧ 11 * exN x ≤ m := by
  intro m
  induction m using Nat.strongRecOn with
  | ind m ih =>
  intro ds hm h
  obtain ⟨_, _, _, _, rfl, e1, h1, g1⟩ := typedR_cons h
  obtain ⟨_, _, _, _, rfl, e2, h2, g2⟩ := typedR_cons g1
  obtain ⟨_, _, _, _, rfl, e3, h3, g3⟩ := typedR_cons g2
  obtain ⟨_, _, _, _, rfl, e4, h4, g4⟩ := typedR_cons g3
  obtain ⟨_, _, _, _, rfl, e5, h5, g5⟩ := typedR_cons g4
  obtain ⟨_, _, _, _, rfl, e6, h6, g6⟩ := typedR_cons g5
  obtain ⟨_, _, _, _, rfl, e7, h7, g7⟩ := typedR_cons g6
  obtain ⟨_, _, _, _, rfl, e8, h8, g8⟩ := typedR_cons g7
  obtain rfl := typedR_nil g8
  obtain ⟨_, _, _, _, rfl, f1, i1, j1⟩ := typedR_cons h2
  obtain ⟨_, _, _, _, rfl, f2, i2, j2⟩ := typedR_cons j1
  obtain ⟨_, _, _, _, rfl, f3, i3, j3⟩ := typedR_cons j2
  obtain rfl := typedR_nil j3
  obtain ⟨_, _, _, _, rfl, q1, u1, v1⟩ := typedR_cons h7
  obtain ⟨_, _, _, _, rfl, q2, u2, v2⟩ := typedR_cons v1
  obtain rfl := typedR_nil v2
  obtain ⟨k, rfl, rk, lk⟩ := typedR_i h1
  obtain ⟨ik, rfl, rik, lik⟩ := typedR_i i1
  obtain ⟨in_, rfl, rin, lin⟩ := typedR_i i2
  obtain ⟨is_, rfl, lis⟩ := typedR_s i3
  obtain ⟨nm, rfl, lnm⟩ := typedR_s h3
  obtain ⟨at_, rfl, lat⟩ := typedR_s h4
  obtain ⟨n, rfl, rn, ln⟩ := typedR_i h5
  obtain ⟨ax, rfl, rax, lax⟩ := typedR_i h6
  obtain ⟨tk, rfl, rtk, ltk⟩ := typedR_i u1
  obtain ⟨tn, rfl, ltn⟩ := typedR_s u2
  obtain ⟨rows, rfl, ws, w1, w2, w3⟩ := typedR_sl h8
  obtain ⟨xs, rfl, hxs⟩ := typedR_list (env := env) (E := tyEx) (f := exD) (p := fun x w => ExOk x ∧ 11 * exN x ≤ w) w1 fun i row w hr hw => by
    have hle := le_sum hw
    obtain ⟨T, hT, _, h9⟩ := typedR_rf (w3 i row w hr hw)
    obtain rfl := Option.some.inj (hT.symm.trans he)
    obtain ⟨x, hx, o1, o2⟩ := ih w (by omega) row (by omega) h9
    exact ⟨x, hx, o1, o2⟩
  have w1 : ws.length = xs.length := by simpa using w1
  have hsum := exNs_sum w1 fun i x w h1 h2 => (hxs i x w h1 h2).2
  have hlen := exNs_len xs
  refine ⟨.mk ⟨k, ⟨ik, in_, is_⟩, nm, at_, n, ax, tk, tn⟩ xs, ?_, .mk _ _ (by simp only []; omega) (by simp only []; omega) (by simp only []; omega) (by simp only []; omega) (by omega) fun x hx => ?_, by rw [exN]; omega⟩
  · rw [exD_eq]; rfl
  · obtain ⟨i, hi, rfl⟩ := List.mem_iff_getElem.1 hx
    obtain ⟨w, hw⟩ : ∃ w, ws[i]? = some w := ⟨ws[i]'(by omega), List.getElem?_eq_getElem (by omega)⟩
    exact (hxs i _ w (List.getElem?_eq_getElem hi) hw).1
def coreArE : List (List UInt8 × Int) := [([33, 61], 2), ([42], 2), ([43], 2), ([45], 2), ([60], 2), ([60, 60], 2), ([60, 61], 2), ([61], 2), ([62], 2), ([62, 61], 2), ([62, 62], 2), ([97, 110, 100], 2), ([98, 111, 111, 108, 101, 97, 110], 1), ([99, 111, 110, 99, 97, 116], 2), ([99, 111, 110, 116, 97, 105, 110, 115], 2), ([99, 111, 117, 110, 116], 1), ([100, 97, 116, 97], 1), ([100, 100, 111], 1), ([100, 105, 115, 116, 105, 110, 99, 116], 1), ([100, 105, 118], 2), ([101, 109, 112, 116, 121], 1), ([101, 120, 99, 101, 112, 116], 2), ([101, 120, 105, 115, 116, 115], 1), ([104, 111, 108, 100, 115], 2), ([105, 110, 116, 101, 103, 101, 114], 1), ([105, 110, 116, 101, 114, 115, 101, 99, 116], 2), ([105, 115], 2), ([108, 101, 110, 103, 116, 104], 1), ([109, 97, 120], 1), ([109, 105, 110], 1), ([109, 111, 100], 2), ([110, 97, 109, 101], 1), ([110, 101, 103], 1), ([110, 111, 116], 1), ([111, 114], 2), ([114, 101, 118, 101, 114, 115, 101], 1), ([115, 116, 97, 114, 116, 115], 2), ([115, 116, 114, 105, 110, 103], 1), ([115, 117, 98, 115, 116, 114, 105, 110, 103], 3), ([115, 117, 109], 1), ([116, 111], 2), ([117, 110, 105, 111, 110], 2)]
def coreOnes : List (List UInt8) := [[98, 111, 111, 108, 101, 97, 110], [99, 111, 117, 110, 116], [100, 97, 116, 97], [100, 100, 111], [100, 105, 115, 116, 105, 110, 99, 116], [101, 109, 112, 116, 121], [101, 120, 105, 115, 116, 115], [105, 110, 116, 101, 103, 101, 114], [108, 101, 110, 103, 116, 104], [109, 97, 120], [109, 105, 110], [110, 97, 109, 101], [110, 101, 103], [110, 111, 116], [114, 101, 118, 101, 114, 115, 101], [115, 116, 114, 105, 110, 103], [115, 117, 109]]
def coreTwos : List (List UInt8) := [[33, 61], [42], [43], [45], [60], [60, 60], [60, 61], [61], [62], [62, 61], [62, 62], [97, 110, 100], [99, 111, 110, 99, 97, 116], [99, 111, 110, 116, 97, 105, 110, 115], [100, 105, 118], [101, 120, 99, 101, 112, 116], [104, 111, 108, 100, 115], [105, 110, 116, 101, 114, 115, 101, 99, 116], [105, 115], [109, 111, 100], [111, 114], [115, 116, 97, 114, 116, 115], [116, 111], [117, 110, 105, 111, 110]]
def coreThrees : List (List UInt8) := [[115, 117, 98, 115, 116, 114, 105, 110, 103]]
theorem coreArE_nodup : (coreArE.map (·.1)).Nodup := by decide
theorem coreArE_in : ∀ p, p ∈ coreArE → (p.1 ∈ coreOnes ∧ p.2 = 1) ∨ (p.1 ∈ coreTwos ∧ p.2 = 2) ∨ (p.1 ∈ coreThrees ∧ p.2 = 3) := by decide
theorem coreOnes_in : ∀ s, s ∈ coreOnes → (s, 1) ∈ coreArE := by decide
theorem coreTwos_in : ∀ s, s ∈ coreTwos → (s, 2) ∈ coreArE := by decide
theorem coreThrees_in : ∀ s, s ∈ coreThrees → (s, 3) ∈ coreArE := by decide
def argsQ (s : List UInt8) : Int := match lookE coreArE s with | some n => n | none => -1
theorem argsQ_eq (s : List UInt8) : argsQ s = if s ∈ coreOnes then 1 else if s ∈ coreTwos then 2 else if s ∈ coreThrees then 3 else -1 := by
  by_cases h1 : s ∈ coreOnes
  · rw [if_pos h1, argsQ, (lookE_iff coreArE_nodup).2 (coreOnes_in s h1)]
  by_cases h2 : s ∈ coreTwos
  · rw [if_neg h1, if_pos h2, argsQ, (lookE_iff coreArE_nodup).2 (coreTwos_in s h2)]
  by_cases h3 : s ∈ coreThrees
  · rw [if_neg h1, if_neg h2, if_pos h3, argsQ, (lookE_iff coreArE_nodup).2 (coreThrees_in s h3)]
  rw [if_neg h1, if_neg h2, if_neg h3]
  have : lookE coreArE s = none := by
    cases hl : lookE coreArE s with
    | none => rfl
    | some n =>
      rcases coreArE_in _ ((lookE_iff coreArE_nodup).1 hl) with h | h | h
      · exact absurd h.1 h1
      · exact absurd h.1 h2
      · exact absurd h.1 h3
  rw [argsQ, this]
end Go.Proofs.YtppalmoicjogaaaDoor
namespace Go.Proofs.YtppalmoicjogaaaDoor
open Go Go.Proofs.YtppalmoicjogaaaDoor.Ab
variable [Glo]
set_option maxHeartbeats 4000000
set_option maxRecDepth 20000
def colsGo : List (List UInt8) → List (List UInt8) → Int
  | _, [] => 0
  | done, s :: rest => if s = [] ∨ 20 < s.length then 10 else if s ∈ done then 7 else colsGo (done ++ [s]) rest
def colsFault (l : List (List UInt8)) : Int := if l.length ≤ 8 then colsGo [] l else 1
theorem colsGo_next {l : List (List UInt8)} {i : Nat} {s : List UInt8} (h : l[i]? = some s) : colsGo (l.take i) (l.drop i) = if s = [] ∨ 20 < s.length then 10 else if s ∈ l.take i then 7 else colsGo (l.take (i + 1)) (l.drop (i + 1)) := by
  rw [drop_of_get h, colsGo, take_of_get h]
theorem colsGo_rng : ∀ (r d : List (List UInt8)), colsGo d r = 0 ∨ colsGo d r = 7 ∨ colsGo d r = 10
  | [], d => .inl rfl
  | s :: r, d => by
    rw [colsGo]
    split
    · exact .inr (.inr rfl)
    · split
      · exact .inr (.inl rfl)
      · exact colsGo_rng r _
def fidxGo {α : Type} (p : α → Bool) : List α → Nat → Int
  | [], _ => -1
  | x :: l, k => if p x = true then k else fidxGo p l (k + 1)
def fidx {α : Type} (p : α → Bool) (l : List α) : Int := fidxGo p l 0
theorem fidxGo_next {α : Type} {p : α → Bool} {l : List α} {i : Nat} {x : α} (h : l[i]? = some x) : fidxGo p (l.drop i) i = if p x = true then (i : Int) else fidxGo p (l.drop (i + 1)) (i + 1) := by
  rw [drop_of_get h, fidxGo]
theorem fidxGo_end {α : Type} {p : α → Bool} (l : List α) (k : Nat) : fidxGo p (l.drop l.length) k = -1 := by rw [List.drop_length]; rfl
theorem fidxGo_spec {α : Type} {p : α → Bool} : ∀ (l : List α) (k : Nat), (fidxGo p l k = -1 ∧ ∀ x, x ∈ l → p x = false) ∨ ∃ (i : Nat) (x : α), l[i]? = some x ∧ p x = true ∧ fidxGo p l k = ((k + i : Nat) : Int)
  | [], k => .inl ⟨rfl, by simp⟩
  | x :: l, k => by
    rw [fidxGo]
    split
    · exact .inr ⟨0, x, rfl, by assumption, rfl⟩
    · rename_i hx
      rcases fidxGo_spec l (k + 1) with ⟨h1, h2⟩ | ⟨i, y, h1, h2, h3⟩
      · refine .inl ⟨h1, fun y hy => ?_⟩
        rcases List.mem_cons.1 hy with rfl | hy
        · simpa using hx
        · exact h2 y hy
      · exact .inr ⟨i + 1, y, by simpa using h1, h2, by rw [h3]; congr 1; omega⟩
theorem fidx_spec {α : Type} (p : α → Bool) (l : List α) : (fidx p l = -1 ∧ ∀ x, x ∈ l → p x = false) ∨ ∃ (i : Nat) (x : α), l[i]? = some x ∧ p x = true ∧ fidx p l = (i : Int) := by
  have := fidxGo_spec (p := p) l 0
  simpa [fidx] using this
theorem fidx_ge {α : Type} (p : α → Bool) (l : List α) : decide (0 ≤ fidx p l) = l.any p := by
  rcases fidx_spec p l with ⟨h1, h2⟩ | ⟨i, x, h1, h2, h3⟩
  · have : l.any p = false := by rw [List.any_eq_false]; intro x hx; simp [h2 x hx]
    rw [this, h1]; rfl
  · have : l.any p = true := List.any_eq_true.2 ⟨x, List.mem_of_getElem? h1, h2⟩
    rw [this, h3]; exact decide_eq_true (by omega)
theorem fidx_lt {α : Type} (p : α → Bool) (l : List α) : -1 ≤ fidx p l ∧ fidx p l < l.length := by
  rcases fidx_spec p l with ⟨h1, h2⟩ | ⟨i, x, h1, h2, h3⟩
  · omega
  · have := lt_of_get h1; omega
def txtAt (l : List (List UInt8)) (s : List UInt8) : Int := fidx (fun x => decide (s = x)) l
def ks_83 : Nat → List Nat
  | 0 => [0, 1]
  | 1 => [0, 1, 7, 8]
  | 2 => [0, 1, 7, 8, 9]
  | 3 => [0, 1, 5, 7, 8]
  | 4 => [0, 1, 5, 7, 8, 16]
  | 5 => [4]
  | 6 => [0, 1, 7, 8]
  | 7 => [4]
  | _ => []
def mu_83 : List Nat := []
def in_83 : List Nat := [0, 1]
theorem index_A (l : List (List UInt8)) (s : List UInt8) (hlen : l.length ≤ 9223372036854775807) (H : Heap) (K : V → Heap → Prop) (hk : K (.d (.i .i64 (txtAt l s))) H) :
    ACalls Tryd.prog 83 [.d (.sl 1 (l.map strRow)), .d (.s s)] H K := by
  refine ACalls_of Tryd.func83 rfl in_83 (Nat.le_of_ble_eq_true rfl) ?_
  intro F hF
  simp (dsimp := false) only [go_sem, Nat.reduceAdd, Nat.reduceBEq, Nat.reduceEqDiff, Nat.reduceLT, Nat.reduceLeDiff, Nat.reduceMul, Int.reduceToNat, reduceCtorEq, ↓reduceIte, Tryd.ntmps83, Tryd.results83, ks_83, mu_83, ti_ag9, ti_sb48, ti_sl48, in_83] at hF
  subst hF
  repeat' (first | with_reducible (first | refine And.intro ?_ ?_ | intro _ | refine AWp_seq ?_ | refine AWp_block ?_ | (refine hKv _ _ (AWp_nop ?_); clear hKv Kv) | (refine hKA ?_; clear hKA hKB KA KB) | (refine hKB ?_; clear hKA hKB KA KB) | refine AWp_skipN ?_ | refine AWp_exitO (by repeat (first | exact Out.hit | apply Out.thenA | apply Out.out rfl)) ?_) | (with_reducible (first | (refine hKv _ _ ?_; clear hKv Kv) | ((first | refine AWp_regC mu_83 ks_83 ?_ | refine AWp_regE mu_83 ks_83 ?_); intro Kv hKv) | refine AWp_retR ?_); try simp (dsimp := false) only [go_sem, Nat.reduceAdd, Nat.reduceBEq, Nat.reduceEqDiff, Nat.reduceLT, Nat.reduceLeDiff, Nat.reduceMul, Int.reduceToNat, reduceCtorEq, ↓reduceIte, Tryd.ntmps83, Tryd.results83, ks_83, mu_83, ti_ag9, ti_sb48, ti_sl48]) | (refine AWp_condC rfl ?_; intro KA KB hKA hKB; try simp only [onB_true, onB_false, onB_dec, onB_ndec, onB_not, onB_and, onB_or]) | (refine AWp_condA rfl ?_ ?_) | with_reducible (first | refine onB_of ?_ ?_ | rfl) | omega)
  refine AWp_while0 (fun i : Nat => i ≤ l.length ∧ fidxGo (fun x => decide (s = x)) (l.drop i) i = txtAt l s) (fun i => [(0, .d (.sl 1 (l.map strRow))), (1, .d (.s s)), (7, .d (.i .i64 l.length)), (8, .d (.i .i64 i))]) (fun i => l.length - i) 0 ⟨Nat.zero_le _, rfl⟩ ?_ ?_
  · simp (dsimp := false) only [go_sem, Nat.reduceAdd, Nat.reduceBEq, Nat.reduceEqDiff, Nat.reduceLT, Nat.reduceLeDiff, Nat.reduceMul, Int.reduceToNat, reduceCtorEq, ↓reduceIte, Tryd.ntmps83, Tryd.results83, ks_83, mu_83, ti_ag9, ti_sb48, ti_sl48]
    first | done | simp
  rintro i ⟨hi, hv⟩
  repeat' (first | with_reducible (first | refine And.intro ?_ ?_ | intro _ | refine AWp_seq ?_ | refine AWp_block ?_ | (refine hKv _ _ (AWp_nop ?_); clear hKv Kv) | (refine hKA ?_; clear hKA hKB KA KB) | (refine hKB ?_; clear hKA hKB KA KB) | refine AWp_skipN ?_ | refine AWp_exitO (by repeat (first | exact Out.hit | apply Out.thenA | apply Out.out rfl)) ?_) | (with_reducible (first | (refine hKv _ _ ?_; clear hKv Kv) | ((first | refine AWp_regC mu_83 ks_83 ?_ | refine AWp_regE mu_83 ks_83 ?_); intro Kv hKv) | refine AWp_retR ?_); try simp (dsimp := false) only [go_sem, Nat.reduceAdd, Nat.reduceBEq, Nat.reduceEqDiff, Nat.reduceLT, Nat.reduceLeDiff, Nat.reduceMul, Int.reduceToNat, reduceCtorEq, ↓reduceIte, Tryd.ntmps83, Tryd.results83, ks_83, mu_83, ti_ag9, ti_sb48, ti_sl48]) | (refine AWp_condC rfl ?_; intro KA KB hKA hKB; try simp only [onB_true, onB_false, onB_dec, onB_ndec, onB_not, onB_and, onB_or]) | (refine AWp_condA rfl ?_ ?_) | with_reducible (first | refine onB_of ?_ ?_ | rfl) | omega)
  · rename_i h1 x hx h
    rw [fidxGo_next hx, if_pos (by simpa using h)] at hv
    exact keepD hk (by rw [hv])
  · rename_i h1 x hx h
    rw [fidxGo_next hx, if_neg (by simpa using h)] at hv
    exact ⟨i + 1, ⟨by omega, hv⟩, by omega, by omega⟩
  · have e : i = l.length := by omega
    subst e
    rw [fidxGo_end] at hv
    exact keepD hk (by rw [hv])
theorem txtAt_ge (l : List (List UInt8)) (s : List UInt8) : decide (0 ≤ txtAt l s) = decide (s ∈ l) := by
  unfold txtAt
  rw [fidx_ge, Bool.eq_iff_iff, List.any_eq_true]
  simp
def ks_39 : Nat → List Nat
  | 0 => [0, 1]
  | 1 => [4]
  | _ => []
def mu_39 : List Nat := []
def in_39 : List Nat := [0, 1]
theorem contains_A (l : List (List UInt8)) (s : List UInt8) (hlen : l.length ≤ 9223372036854775807) (H : Heap) (K : V → Heap → Prop) (hk : K (.d (.b (decide (s ∈ l)))) H) :
    ACalls Tryd.prog 39 [.d (.sl 1 (l.map strRow)), .d (.s s)] H K := by
  refine ACalls_of Tryd.func39 rfl in_39 (Nat.le_of_ble_eq_true rfl) ?_
  intro F hF
  simp (dsimp := false) only [go_sem, Nat.reduceAdd, Nat.reduceBEq, Nat.reduceEqDiff, Nat.reduceLT, Nat.reduceLeDiff, Nat.reduceMul, Int.reduceToNat, reduceCtorEq, ↓reduceIte, Tryd.ntmps39, Tryd.results39, ks_39, mu_39, ti_hb83, in_39] at hF
  subst hF
  repeat' (first | with_reducible (first | refine And.intro ?_ ?_ | intro _ | refine AWp_seq ?_ | refine AWp_block ?_ | (refine hKv _ _ (AWp_nop ?_); clear hKv Kv) | (refine hKA ?_; clear hKA hKB KA KB) | (refine hKB ?_; clear hKA hKB KA KB) | refine AWp_skipN ?_ | refine AWp_exitO (by repeat (first | exact Out.hit | apply Out.thenA | apply Out.out rfl)) ?_) | ((first | with_reducible (first | (refine hKv _ _ ?_; clear hKv Kv) | ((first | refine AWp_regC mu_39 ks_39 ?_ | refine AWp_regE mu_39 ks_39 ?_); intro Kv hKv) | refine AWp_retR ?_) | refine index_A _ _ hlen _ _ ?_); try simp (dsimp := false) only [go_sem, Nat.reduceAdd, Nat.reduceBEq, Nat.reduceEqDiff, Nat.reduceLT, Nat.reduceLeDiff, Nat.reduceMul, Int.reduceToNat, reduceCtorEq, ↓reduceIte, Tryd.ntmps39, Tryd.results39, ks_39, mu_39, ti_hb83]) | (refine AWp_condC rfl ?_; intro KA KB hKA hKB; try simp only [onB_true, onB_false, onB_dec, onB_ndec, onB_not, onB_and, onB_or]) | (refine AWp_condA rfl ?_ ?_) | with_reducible (first | refine onB_of ?_ ?_ | rfl) | omega)
  exact keepD hk (by rw [txtAt_ge])
def ks_76 : Nat → List Nat
  | 0 => [0]
  | 1 => [0, 7]
  | 2 => [2]
  | 3 => [0, 8, 9, 10]
  | 4 => [0, 8, 9, 10, 11]
  | 5 => [0, 3, 4, 8, 9, 10]
  | 6 => [0, 3, 4, 8, 9, 10, 21]
  | 7 => [2]
  | 8 => [0, 8, 9, 10, 26]
  | 9 => [2]
  | 10 => [0, 8, 9, 10]
  | 11 => [2]
  | _ => []
def mu_76 : List Nat := []
def in_76 : List Nat := [0]
theorem names_A (l : List (List UInt8)) (hlen : l.length ≤ 9223372036854775807) (hS : ∀ s, s ∈ l → s.length ≤ 9223372036854775807) (H : Heap) (K : V → Heap → Prop) (hk : K (.d (.i .i64 (colsFault l))) H) :
    ACalls Tryd.prog 76 [.d (.sl 1 (l.map strRow))] H K := by
  refine ACalls_of Tryd.func76 rfl in_76 (Nat.le_of_ble_eq_true rfl) ?_
  intro F hF
  simp (dsimp := false) only [go_sem, Nat.reduceAdd, Nat.reduceBEq, Nat.reduceEqDiff, Nat.reduceLT, Nat.reduceLeDiff, Nat.reduceMul, Int.reduceToNat, reduceCtorEq, ↓reduceIte, Tryd.ntmps76, Tryd.results76, ks_76, mu_76, ti_ag9, ti_hb39, ti_sb48, ti_sl48, ti_st9, ← List.map_take, in_76] at hF
  subst hF
  repeat' (first | with_reducible (first | refine And.intro ?_ ?_ | intro _ | refine AWp_seq ?_ | refine AWp_block ?_ | (refine hKv _ _ (AWp_nop ?_); clear hKv Kv) | (refine hKA ?_; clear hKA hKB KA KB) | (refine hKB ?_; clear hKA hKB KA KB) | refine AWp_skipN ?_ | refine AWp_exitO (by repeat (first | exact Out.hit | apply Out.thenA | apply Out.out rfl)) ?_) | (with_reducible (first | (refine hKv _ _ ?_; clear hKv Kv) | ((first | refine AWp_regC mu_76 ks_76 ?_ | refine AWp_regE mu_76 ks_76 ?_); intro Kv hKv) | refine AWp_retR ?_); try simp (dsimp := false) only [go_sem, Nat.reduceAdd, Nat.reduceBEq, Nat.reduceEqDiff, Nat.reduceLT, Nat.reduceLeDiff, Nat.reduceMul, Int.reduceToNat, reduceCtorEq, ↓reduceIte, Tryd.ntmps76, Tryd.results76, ks_76, mu_76, ti_ag9, ti_hb39, ti_sb48, ti_sl48, ti_st9, ← List.map_take]) | (refine AWp_condC rfl ?_; intro KA KB hKA hKB; try simp only [onB_true, onB_false, onB_dec, onB_ndec, onB_not, onB_and, onB_or]) | (refine AWp_condA rfl ?_ ?_) | with_reducible (first | refine onB_of ?_ ?_ | rfl) | omega)
  · exact keepD hk (by (simp only [V.d.injEq, D.i.injEq, D.b.injEq, D.s.injEq, true_and]; grind [colsFault]))
  rename_i hN
  refine AWp_while0 (fun i : Nat => i ≤ l.length ∧ colsGo (l.take i) (l.drop i) = colsGo [] l) (fun i => [(0, .d (.sl 1 (l.map strRow))), (8, .d (.sl 1 (l.map strRow))), (9, .d (.i .i64 l.length)), (10, .d (.i .i64 i))]) (fun i => l.length - i) 0 ⟨Nat.zero_le _, rfl⟩ ?_ ?_
  · simp (dsimp := false) only [go_sem, Nat.reduceAdd, Nat.reduceBEq, Nat.reduceEqDiff, Nat.reduceLT, Nat.reduceLeDiff, Nat.reduceMul, Int.reduceToNat, reduceCtorEq, ↓reduceIte, Tryd.ntmps76, Tryd.results76, ks_76, mu_76, ti_ag9, ti_hb39, ti_sb48, ti_sl48, ti_st9, ← List.map_take]
    first | done | simp
  rintro i ⟨hi, hv⟩
  repeat' (first | with_reducible (first | refine And.intro ?_ ?_ | intro _ | refine AWp_seq ?_ | refine AWp_block ?_ | (refine hKv _ _ (AWp_nop ?_); clear hKv Kv) | (refine hKA ?_; clear hKA hKB KA KB) | (refine hKB ?_; clear hKA hKB KA KB) | refine AWp_skipN ?_ | refine AWp_exitO (by repeat (first | exact Out.hit | apply Out.thenA | apply Out.out rfl)) ?_) | ((first | with_reducible (first | (refine hKv _ _ ?_; clear hKv Kv) | ((first | refine AWp_regC mu_76 ks_76 ?_ | refine AWp_regE mu_76 ks_76 ?_); intro Kv hKv) | refine AWp_retR ?_) | refine contains_A (l.take i) _ (by simp; omega) _ _ ?_); try simp (dsimp := false) only [go_sem, Nat.reduceAdd, Nat.reduceBEq, Nat.reduceEqDiff, Nat.reduceLT, Nat.reduceLeDiff, Nat.reduceMul, Int.reduceToNat, reduceCtorEq, ↓reduceIte, Tryd.ntmps76, Tryd.results76, ks_76, mu_76, ti_ag9, ti_hb39, ti_sb48, ti_sl48, ti_st9, ← List.map_take]) | (refine AWp_condC rfl ?_; intro KA KB hKA hKB; try simp only [onB_true, onB_false, onB_dec, onB_ndec, onB_not, onB_and, onB_or]) | (refine AWp_condA rfl ?_ ?_) | with_reducible (first | refine onB_of ?_ ?_ | rfl) | omega)
  · rename_i h1 x hx h
    rw [colsGo_next hx, if_pos (.inl h)] at hv
    exact keepD hk (by rw [colsFault, if_pos (by omega), ← hv])
  · rename_i h1 x hx h h2
    rw [colsGo_next hx, if_pos (.inr (by omega))] at hv
    exact keepD hk (by rw [colsFault, if_pos (by omega), ← hv])
  · rename_i h1 x hx h h2 h3
    rw [colsGo_next hx, if_neg (by rintro (q | q) <;> first | exact h q | omega), if_pos h3] at hv
    exact keepD hk (by rw [colsFault, if_pos (by omega), ← hv])
  · rename_i h1 x hx h h2 h3
    rw [colsGo_next hx, if_neg (by rintro (q | q) <;> first | exact h q | omega), if_neg h3] at hv
    exact ⟨i + 1, ⟨by omega, hv⟩, by omega, by omega⟩
  · have e : i = l.length := by omega
    subst e
    rw [List.drop_length] at hv
    exact keepD hk (by rw [colsFault, if_pos (by omega), ← hv]; rfl)
def ks_20 : Nat → List Nat
  | 0 => [0]
  | 1 => [0, 7]
  | 2 => [2]
  | 3 => [0, 3]
  | 4 => [0, 3, 11]
  | 5 => [0, 3]
  | 6 => [0, 3, 20]
  | 7 => [2]
  | 8 => [0, 3, 4]
  | 9 => [0, 3, 4, 23]
  | 10 => [0, 3, 4]
  | 11 => [0, 3, 4, 34]
  | 12 => [2]
  | 13 => [2]
  | _ => []
def mu_20 : List Nat := []
def in_20 : List Nat := [0]
def nd_20 : Nat → Nat
  | 11 => 8
  | _ => 0
theorem colsFault_A (l : List (List UInt8)) (hlen : l.length ≤ 9223372036854775807) (hS : ∀ s, s ∈ l → s.length ≤ 9223372036854775807) (H : Heap) (K : V → Heap → Prop) (hk : K (.d (.i .i64 (colsFault l))) H) :
    ACalls Tryd.prog 20 [.d (.sl 1 (l.map strRow))] H K := by
  refine ACalls_of Tryd.func20 rfl in_20 (Nat.le_of_ble_eq_true rfl) ?_
  intro F hF
  simp (dsimp := false) only [go_sem, Nat.reduceAdd, Nat.reduceBEq, Nat.reduceEqDiff, Nat.reduceLT, Nat.reduceLeDiff, Nat.reduceMul, Int.reduceToNat, reduceCtorEq, ↓reduceIte, Tryd.ntmps20, Tryd.results20, ks_20, mu_20, nd_20, ti_ag9, ti_hb17, ti_sb48, ti_sl48, ti_st9, ← List.map_take, in_20] at hF
  subst hF
  repeat' (first | with_reducible (first | refine And.intro ?_ ?_ | intro _ | refine AWp_seq ?_ | refine AWp_block ?_ | (refine hKv _ _ (AWp_nop ?_); clear hKv Kv) | (refine hKA ?_; clear hKA hKB KA KB) | (refine hKB ?_; clear hKA hKB KA KB) | refine AWp_skipN ?_ | refine AWp_exitO (by repeat (first | exact Out.hit | apply Out.thenA | apply Out.out rfl)) ?_) | (with_reducible (first | (refine hKv _ _ ?_; clear hKv Kv) | ((first | refine AWp_regC mu_20 ks_20 ?_ | refine AWp_draw nd_20 mu_20 ks_20 ti_mixed (by kernel_rfl) ?_ | refine AWp_regE mu_20 ks_20 ?_ | refine AWp_drawE nd_20 mu_20 ks_20 ti_mixed (by kernel_rfl) ?_); intro Kv hKv) | refine AWp_retR ?_); try simp (dsimp := false) only [go_sem, Nat.reduceAdd, Nat.reduceBEq, Nat.reduceEqDiff, Nat.reduceLT, Nat.reduceLeDiff, Nat.reduceMul, Int.reduceToNat, reduceCtorEq, ↓reduceIte, Tryd.ntmps20, Tryd.results20, ks_20, mu_20, nd_20, ti_ag9, ti_hb17, ti_sb48, ti_sl48, ti_st9, ← List.map_take]) | (refine AWp_condC rfl ?_; intro KA KB hKA hKB; try simp only [onB_true, onB_false, onB_dec, onB_ndec, onB_not, onB_and, onB_or]) | (refine AWp_condA rfl ?_ ?_) | with_reducible (first | refine onB_of ?_ ?_ | rfl) | omega)
  · exact keepD hk (by (simp only [V.d.injEq, D.i.injEq, D.b.injEq, D.s.injEq, true_and]; grind [colsFault]))
  rename_i hN
  refine AWp_while0 (fun i : Nat => i ≤ l.length ∧ colsGo (l.take i) (l.drop i) = colsGo [] l) (fun i => [(0, .d (.sl 1 (l.map strRow))), (3, .d (.i .i64 i))]) (fun i => l.length - i) 0 ⟨Nat.zero_le _, rfl⟩ ?_ ?_
  · simp (dsimp := false) only [go_sem, Nat.reduceAdd, Nat.reduceBEq, Nat.reduceEqDiff, Nat.reduceLT, Nat.reduceLeDiff, Nat.reduceMul, Int.reduceToNat, reduceCtorEq, ↓reduceIte, Tryd.ntmps20, Tryd.results20, ks_20, mu_20, nd_20, ti_ag9, ti_hb17, ti_sb48, ti_sl48, ti_st9, ← List.map_take]
    first | done | simp
  rintro i ⟨hi, hv⟩
  repeat' (first | with_reducible (first | refine And.intro ?_ ?_ | intro _ | refine AWp_seq ?_ | refine AWp_block ?_ | (refine hKv _ _ (AWp_nop ?_); clear hKv Kv) | (refine hKA ?_; clear hKA hKB KA KB) | (refine hKB ?_; clear hKA hKB KA KB) | refine AWp_skipN ?_ | refine AWp_exitO (by repeat (first | exact Out.hit | apply Out.thenA | apply Out.out rfl)) ?_) | ((first | with_reducible (first | (refine hKv _ _ ?_; clear hKv Kv) | ((first | refine AWp_regC mu_20 ks_20 ?_ | refine AWp_draw nd_20 mu_20 ks_20 ti_mixed (by kernel_rfl) ?_ | refine AWp_regE mu_20 ks_20 ?_ | refine AWp_drawE nd_20 mu_20 ks_20 ti_mixed (by kernel_rfl) ?_); intro Kv hKv) | refine AWp_retR ?_) | refine in_A _ _ _ _ _ ?_ | refine QCall_of (in_A _ _ _ _ _ (Two_intro _ _)) ?_); try simp (dsimp := false) only [go_sem, Nat.reduceAdd, Nat.reduceBEq, Nat.reduceEqDiff, Nat.reduceLT, Nat.reduceLeDiff, Nat.reduceMul, Int.reduceToNat, reduceCtorEq, ↓reduceIte, Tryd.ntmps20, Tryd.results20, ks_20, mu_20, nd_20, ti_ag9, ti_hb17, ti_sb48, ti_sl48, ti_st9, ← List.map_take]) | (refine AWp_condC rfl ?_; intro KA KB hKA hKB; try simp only [onB_true, onB_false, onB_dec, onB_ndec, onB_not, onB_and, onB_or]) | (refine AWp_condA rfl ?_ ?_) | with_reducible (first | refine onB_of ?_ ?_ | rfl) | omega)
  · rename_i h1 x hx h2
    refine AWp_while0 (fun k : Nat => k ≤ i ∧ x ∉ l.take k) (fun k => [(0, .d (.sl 1 (l.map strRow))), (3, .d (.i .i64 i)), (4, .d (.i .i64 k))]) (fun k => i - k) 0 ⟨Nat.zero_le _, by simp⟩ ?_ ?_
    · simp (dsimp := false) only [go_sem, Nat.reduceAdd, Nat.reduceBEq, Nat.reduceEqDiff, Nat.reduceLT, Nat.reduceLeDiff, Nat.reduceMul, Int.reduceToNat, reduceCtorEq, ↓reduceIte, Tryd.ntmps20, Tryd.results20, ks_20, mu_20, nd_20, ti_ag9, ti_hb17, ti_sb48, ti_sl48, ti_st9, ← List.map_take]
      first | done | simp
    rintro k ⟨hk1, hk2⟩
    have hx' : l[(i : Int).toNat]? = some x := by simpa using hx
    repeat' (first | with_reducible (first | refine And.intro ?_ ?_ | intro _ | refine AWp_seq ?_ | refine AWp_block ?_ | (refine hKv _ _ (AWp_nop ?_); clear hKv Kv) | (refine hKA ?_; clear hKA hKB KA KB) | (refine hKB ?_; clear hKA hKB KA KB) | refine AWp_skipN ?_ | refine AWp_exitO (by repeat (first | exact Out.hit | apply Out.thenA | apply Out.out rfl)) ?_) | (with_reducible (first | (refine hKv _ _ ?_; clear hKv Kv) | ((first | refine AWp_regC mu_20 ks_20 ?_ | refine AWp_draw nd_20 mu_20 ks_20 ti_mixed (by kernel_rfl) ?_ | refine AWp_regE mu_20 ks_20 ?_ | refine AWp_drawE nd_20 mu_20 ks_20 ti_mixed (by kernel_rfl) ?_); intro Kv hKv) | refine AWp_retR ?_); try simp (dsimp := false) only [go_sem, Nat.reduceAdd, Nat.reduceBEq, Nat.reduceEqDiff, Nat.reduceLT, Nat.reduceLeDiff, Nat.reduceMul, Int.reduceToNat, reduceCtorEq, ↓reduceIte, Tryd.ntmps20, Tryd.results20, ks_20, mu_20, nd_20, ti_ag9, ti_hb17, ti_sb48, ti_sl48, ti_st9, ← List.map_take]) | (refine AWp_condC rfl ?_; intro KA KB hKA hKB; try simp only [onB_true, onB_false, onB_dec, onB_ndec, onB_not, onB_and, onB_or]) | (refine AWp_condA rfl ?_ ?_) | with_reducible (first | refine onB_of ?_ ?_ | rfl) | omega)
    · rename_i q1 y hy z hz q2
      rw [hx] at hz
      cases hz
      subst q2
      have : y ∈ l.take i := by
        rw [List.mem_take_iff_getElem]
        have := lt_of_get hy
        exact ⟨k, by omega, by rw [List.getElem?_eq_getElem this] at hy; exact Option.some.inj hy⟩
      rw [colsGo_next hx, if_neg (by rintro (q | q) <;> first | (subst q; simp at h2) | omega), if_pos this] at hv
      exact keepD hk (by rw [colsFault, if_pos (by omega), ← hv])
    · rename_i q1 y hy z hz q2
      rw [hx] at hz
      cases hz
      refine ⟨k + 1, ⟨by omega, ?_⟩, by omega, by omega⟩
      rw [take_of_get hy]
      simp only [List.mem_append, List.mem_singleton, not_or]
      exact ⟨hk2, fun e => q2 e.symm⟩
    · have e : k = i := by omega
      subst e
      rw [colsGo_next hx, if_neg (by rintro (q | q) <;> first | (subst q; simp at h2) | omega), if_neg hk2] at hv
      exact ⟨k + 1, ⟨by omega, hv⟩, by omega, by omega⟩
  · rename_i h1 x hx h2
    rw [colsGo_next hx, if_pos (by
      by_cases e : x = []
      · exact .inl e
      · have := List.length_pos_iff.2 e
        exact .inr (by omega))] at hv
    exact keepD hk (by rw [colsFault, if_pos (by omega), ← hv])
  · have e : i = l.length := by omega
    subst e
    rw [List.drop_length] at hv
    exact keepD hk (by rw [colsFault, if_pos (by omega), ← hv]; rfl)
end Go.Proofs.YtppalmoicjogaaaDoor
