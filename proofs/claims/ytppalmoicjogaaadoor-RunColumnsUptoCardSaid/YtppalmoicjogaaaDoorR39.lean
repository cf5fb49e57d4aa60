/- Expressions of the core, as data; what is wrong with one: in plain words. No condition. -/
import Derived.Test.YtppalmoicjogaaaDoorR38
import Derived.Test.YtppalmoicjogaaaDoorR18
import Derived.Test.YtppalmoicjogaaaDoorR20
import Derived.Test.YtppalmoicjogaaaDoorR17
set_option linter.all false
set_option linter.unusedSimpArgs false
set_option linter.unusedVariables false
namespace Go.Proofs.YtppalmoicjogaaaDoor
open Go Go.Proofs.YtppalmoicjogaaaDoor.Ab
variable [Glo]
structure Xh where
  k : Int
  it : It
  nm : List UInt8
  at_ : List UInt8
  n : Int
  ax : Int
  tk : Int
  tn : List UInt8
inductive Ex where
  | mk (h : Xh) (args : List Ex)
def Ex.h : Ex → Xh | .mk h _ => h
def Ex.args : Ex → List Ex | .mk _ l => l
def xhD (h : Xh) : List D := [.i .i64 h.k, .i .i64 h.it.k, .i .i64 h.it.n, .s h.it.s, .s h.nm, .s h.at_, .i .i64 h.n, .i .i64 h.ax, .i .i64 h.tk, .s h.tn]
mutual
def exD : Ex → List D
  | .mk h l => xhD h ++ [.sl 11 (exDs l)]
def exDs : List Ex → List (List D)
  | [] => []
  | x :: l => exD x :: exDs l
end
theorem exDs_map : ∀ l : List Ex, exDs l = l.map exD
  | [] => rfl
  | x :: l => by rw [exDs, exDs_map l, List.map_cons]
theorem exD_eq (x : Ex) : exD x = xhD x.h ++ [.sl 11 (x.args.map exD)] := by
  cases x with | mk h l => rw [exD, exDs_map]; rfl
mutual
def exN : Ex → Nat
  | .mk _ l => exNs l + 1
def exNs : List Ex → Nat
  | [] => 0
  | x :: l => exN x + exNs l
end
mutual
def exHow (a b : Int) : Ex → Nat
  | .mk h l => (if h.k = a ∨ h.k = b then 1 else 0) + exHows a b l
def exHows (a b : Int) : List Ex → Nat
  | [] => 0
  | x :: l => exHow a b x + exHows a b l
end
theorem exN_eq (x : Ex) : exN x = exNs x.args + 1 := by cases x with | mk h l => rw [exN]; rfl
theorem exHow_eq (a b : Int) (x : Ex) : exHow a b x = (if x.h.k = a ∨ x.h.k = b then 1 else 0) + exHows a b x.args := by cases x with | mk h l => rw [exHow]; rfl
theorem exNs_mem {x : Ex} : ∀ {l : List Ex}, x ∈ l → exN x ≤ exNs l
  | [], h => by cases h
  | y :: l, h => by
    rw [exNs]
    rcases List.mem_cons.1 h with rfl | h
    · omega
    · have := exNs_mem h; omega
theorem exN_lt {x y : Ex} (h : y ∈ x.args) : exN y < exN x := by
  rw [exN_eq x]
  have := exNs_mem h
  omega
mutual
theorem exHow_le (a b : Int) : ∀ x : Ex, exHow a b x ≤ exN x
  | .mk h l => by
    rw [exHow, exN]
    have := exHows_le a b l
    split <;> omega
theorem exHows_le (a b : Int) : ∀ l : List Ex, exHows a b l ≤ exNs l
  | [] => by rw [exHows, exNs]; omega
  | x :: l => by
    rw [exHows, exNs]
    have := exHow_le a b x
    have := exHows_le a b l
    omega
end
theorem exNs_take {l : List Ex} {i : Nat} {x : Ex} (h : l[i]? = some x) : exNs (l.take (i + 1)) = exNs (l.take i) + exN x := by
  induction l generalizing i with
  | nil => simp at h
  | cons y l ih =>
    cases i with
    | zero => simp at h; subst h; simp [exNs]
    | succ i =>
      have := ih (i := i) (by simpa using h)
      rw [List.take_succ_cons, exNs, this, List.take_succ_cons, exNs]; omega
theorem exHows_take {a b : Int} {l : List Ex} {i : Nat} {x : Ex} (h : l[i]? = some x) : exHows a b (l.take (i + 1)) = exHows a b (l.take i) + exHow a b x := by
  induction l generalizing i with
  | nil => simp at h
  | cons y l ih =>
    cases i with
    | zero => simp at h; subst h; simp [exHows]
    | succ i =>
      have := ih (i := i) (by simpa using h)
      rw [List.take_succ_cons, exHows, this, List.take_succ_cons, exHows]; omega
theorem exNs_le_take : ∀ (l : List Ex) (i : Nat), exNs (l.take i) ≤ exNs l
  | [], i => by simp
  | x :: l, 0 => by simp [exNs]
  | x :: l, i + 1 => by rw [List.take_succ_cons, exNs, exNs]; have := exNs_le_take l i; omega
theorem exNs_len : ∀ l : List Ex, l.length ≤ exNs l
  | [] => by simp [exNs]
  | x :: l => by rw [exNs, List.length_cons]; have := exNs_len l; have := exN_eq x; omega
inductive ExOk : Ex → Prop where
  | mk (h : Xh) (l : List Ex) : h.it.s.length ≤ 1048576 → h.nm.length ≤ 1048576 → h.at_.length ≤ 1048576 → h.tn.length ≤ 1048576 → l.length ≤ 1048576 → (∀ x, x ∈ l → ExOk x) → ExOk (.mk h l)
abbrev tyEx : TyR := .cons (.i .i64) (.cons (.cons (.i .i64) (.cons (.i .i64) (.cons .s .nil))) (.cons .s (.cons .s (.cons (.i .i64) (.cons (.i .i64) (.cons (.cons (.i .i64) (.cons .s .nil)) (.cons (.sl (.rf 36 11)) .nil)))))))
theorem typedR_list {α : Type} {env : TypeId → Option TyR} {E : TyR} {f : α → List D} {p : α → Nat → Prop} {rows : List (List D)} {ws : List Nat} (hl : ws.length = rows.length)
    (hE : ∀ (i : Nat) (row : List D) (w : Nat), rows[i]? = some row → ws[i]? = some w → ∃ x, row = f x ∧ p x w) : ∃ xs : List α, rows = xs.map f ∧ ∀ (i : Nat) (x : α) (w : Nat), xs[i]? = some x → ws[i]? = some w → p x w := by
  induction rows generalizing ws with
  | nil => exact ⟨[], rfl, by simp⟩
  | cons r rows ih =>
    cases ws with
    | nil => simp at hl
    | cons w ws =>
      obtain ⟨x, rfl, hx⟩ := hE 0 r w rfl rfl
      obtain ⟨xs, rfl, hxs⟩ := ih (by simpa using hl) (fun i row w' h1 h2 => hE (i + 1) row w' (by simpa using h1) (by simpa using h2))
      refine ⟨x :: xs, rfl, fun i y w' h1 h2 => ?_⟩
      cases i with
      | zero => simp at h1 h2; subst h1 h2; exact hx
      | succ i => exact hxs i y w' (by simpa using h1) (by simpa using h2)
theorem exNs_sum : ∀ {xs : List Ex} {ws : List Nat}, ws.length = xs.length → (∀ (i : Nat) (x : Ex) (w : Nat), xs[i]? = some x → ws[i]? = some w → exN x ≤ w) → exNs xs ≤ ws.sum
  | [], ws, _, _ => by simp [exNs]
  | x :: xs, [], h, _ => by simp at h
  | x :: xs, w :: ws, h, hw => by
    have h0 := hw 0 x w rfl rfl
    have h1 := exNs_sum (xs := xs) (ws := ws) (by simpa using h) fun i x w h1 h2 => hw (i + 1) x w (by simpa using h1) (by simpa using h2)
    rw [exNs, List.sum_cons]
    omega
theorem typed_ex {env : TypeId → Option TyR} (he : env 36 = some tyEx) : ∀ (m : Nat) (ds : List D), m ≤ 1048576 → TypedR env tyEx ds m → ∃ x, ds = exD x ∧ ExOk x ∧ exN x ≤ m := by
  intro m
  induction m using Nat.strongRecOn with
  | ind m ih =>
  intro ds hm h
  obtain ⟨_, _, _, _, rfl, e1, h1, g1⟩ := typedR_cons h
  obtain ⟨_, _, _, _, rfl, e2, h2, g2⟩ := typedR_cons g1
  obtain ⟨_, _, _, _, rfl, e3, h3, g3⟩ := typedR_cons g2
  obtain ⟨_, _, _, _, rfl, e4, h4, g4⟩ := typedR_cons g3
  obtain ⟨_, _, _, _, rfl, e5, h5, g5⟩ := typedR_cons g4
  obtain ⟨_, _, _, _, rfl, e6, h6, g6⟩ := typedR_cons g5
  obtain ⟨_, _, _, _, rfl, e7, h7, g7⟩ := typedR_cons g6
  obtain ⟨_, _, _, _, rfl, e8, h8, g8⟩ := typedR_cons g7
  obtain rfl := typedR_nil g8
  obtain ⟨_, _, _, _, rfl, f1, i1, j1⟩ := typedR_cons h2
  obtain ⟨_, _, _, _, rfl, f2, i2, j2⟩ := typedR_cons j1
  obtain ⟨_, _, _, _, rfl, f3, i3, j3⟩ := typedR_cons j2
  obtain rfl := typedR_nil j3
  obtain ⟨_, _, _, _, rfl, q1, u1, v1⟩ := typedR_cons h7
  obtain ⟨_, _, _, _, rfl, q2, u2, v2⟩ := typedR_cons v1
  obtain rfl := typedR_nil v2
  obtain ⟨k, rfl, rk, lk⟩ := typedR_i h1
  obtain ⟨ik, rfl, rik, lik⟩ := typedR_i i1
  obtain ⟨in_, rfl, rin, lin⟩ := typedR_i i2
  obtain ⟨is_, rfl, lis⟩ := typedR_s i3
  obtain ⟨nm, rfl, lnm⟩ := typedR_s h3
  obtain ⟨at_, rfl, lat⟩ := typedR_s h4
  obtain ⟨n, rfl, rn, ln⟩ := typedR_i h5
  obtain ⟨ax, rfl, rax, lax⟩ := typedR_i h6
  obtain ⟨tk, rfl, rtk, ltk⟩ := typedR_i u1
  obtain ⟨tn, rfl, ltn⟩ := typedR_s u2
  obtain ⟨rows, rfl, ws, w1, w2, w3⟩ := typedR_sl h8
  obtain ⟨xs, rfl, hxs⟩ := typedR_list (env := env) (E := tyEx) (f := exD) (p := fun x w => ExOk x ∧ exN x ≤ w) w1 fun i row w hr hw => by
    have hle := le_sum hw
    obtain ⟨T, hT, _, h9⟩ := typedR_rf (w3 i row w hr hw)
    obtain rfl := Option.some.inj (hT.symm.trans he)
    obtain ⟨x, hx, o1, o2⟩ := ih w (by omega) row (by omega) h9
    exact ⟨x, hx, o1, o2⟩
  have w1 : ws.length = xs.length := by simpa using w1
  have hsum := exNs_sum w1 fun i x w h1 h2 => (hxs i x w h1 h2).2
  have hlen := exNs_len xs
  refine ⟨.mk ⟨k, ⟨ik, in_, is_⟩, nm, at_, n, ax, tk, tn⟩ xs, ?_, .mk _ _ (by simp only []; omega) (by simp only []; omega) (by simp only []; omega) (by simp only []; omega) (by omega) fun x hx => ?_, by rw [exN]; omega⟩
  · rw [exD_eq]; rfl
  · obtain ⟨i, hi, rfl⟩ := List.mem_iff_getElem.1 hx
    obtain ⟨w, hw⟩ : ∃ w, ws[i]? = some w := ⟨ws[i]'(by omega), List.getElem?_eq_getElem (by omega)⟩
    exact (hxs i _ w (List.getElem?_eq_getElem hi) hw).1
def coreArE : List (List UInt8 × Int) := [([33, 61], 2), ([42], 2), ([43], 2), ([45], 2), ([60], 2), ([60, 60], 2), ([60, 61], 2), ([61], 2), ([62], 2), ([62, 61], 2), ([62, 62], 2), ([97, 110, 100], 2), ([98, 111, 111, 108, 101, 97, 110], 1), ([99, 111, 110, 99, 97, 116], 2), ([99, 111, 110, 116, 97, 105, 110, 115], 2), ([99, 111, 117, 110, 116], 1), ([100, 97, 116, 97], 1), ([100, 100, 111], 1), ([100, 105, 115, 116, 105, 110, 99, 116], 1), ([100, 105, 118], 2), ([101, 109, 112, 116, 121], 1), ([101, 120, 99, 101, 112, 116], 2), ([101, 120, 105, 115, 116, 115], 1), ([104, 111, 108, 100, 115], 2), ([105, 110, 116, 101, 103, 101, 114], 1), ([105, 110, 116, 101, 114, 115, 101, 99, 116], 2), ([105, 115], 2), ([108, 101, 110, 103, 116, 104], 1), ([109, 97, 120], 1), ([109, 105, 110], 1), ([109, 111, 100], 2), ([110, 97, 109, 101], 1), ([110, 101, 103], 1), ([110, 111, 116], 1), ([111, 114], 2), ([114, 101, 118, 101, 114, 115, 101], 1), ([115, 116, 97, 114, 116, 115], 2), ([115, 116, 114, 105, 110, 103], 1), ([115, 117, 98, 115, 116, 114, 105, 110, 103], 3), ([115, 117, 109], 1), ([116, 111], 2), ([117, 110, 105, 111, 110], 2)]
def coreOnes : List (List UInt8) := [[98, 111, 111, 108, 101, 97, 110], [99, 111, 117, 110, 116], [100, 97, 116, 97], [100, 100, 111], [100, 105, 115, 116, 105, 110, 99, 116], [101, 109, 112, 116, 121], [101, 120, 105, 115, 116, 115], [105, 110, 116, 101, 103, 101, 114], [108, 101, 110, 103, 116, 104], [109, 97, 120], [109, 105, 110], [110, 97, 109, 101], [110, 101, 103], [110, 111, 116], [114, 101, 118, 101, 114, 115, 101], [115, 116, 114, 105, 110, 103], [115, 117, 109]]
def coreTwos : List (List UInt8) := [[33, 61], [42], [43], [45], [60], [60, 60], [60, 61], [61], [62], [62, 61], [62, 62], [97, 110, 100], [99, 111, 110, 99, 97, 116], [99, 111, 110, 116, 97, 105, 110, 115], [100, 105, 118], [101, 120, 99, 101, 112, 116], [104, 111, 108, 100, 115], [105, 110, 116, 101, 114, 115, 101, 99, 116], [105, 115], [109, 111, 100], [111, 114], [115, 116, 97, 114, 116, 115], [116, 111], [117, 110, 105, 111, 110]]
def coreThrees : List (List UInt8) := [[115, 117, 98, 115, 116, 114, 105, 110, 103]]
theorem coreArE_nodup : (coreArE.map (·.1)).Nodup := by decide
theorem coreArE_in : ∀ p, p ∈ coreArE → (p.1 ∈ coreOnes ∧ p.2 = 1) ∨ (p.1 ∈ coreTwos ∧ p.2 = 2) ∨ (p.1 ∈ coreThrees ∧ p.2 = 3) := by decide
theorem coreOnes_in : ∀ s, s ∈ coreOnes → (s, 1) ∈ coreArE := by decide
theorem coreTwos_in : ∀ s, s ∈ coreTwos → (s, 2) ∈ coreArE := by decide
theorem coreThrees_in : ∀ s, s ∈ coreThrees → (s, 3) ∈ coreArE := by decide
def argsQ (s : List UInt8) : Int := match lookE coreArE s with | some n => n | none => -1
theorem argsQ_eq (s : List UInt8) : argsQ s = if s ∈ coreOnes then 1 else if s ∈ coreTwos then 2 else if s ∈ coreThrees then 3 else -1 := by
  by_cases h1 : s ∈ coreOnes
  · rw [if_pos h1, argsQ, (lookE_iff coreArE_nodup).2 (coreOnes_in s h1)]
  by_cases h2 : s ∈ coreTwos
  · rw [if_neg h1, if_pos h2, argsQ, (lookE_iff coreArE_nodup).2 (coreTwos_in s h2)]
  by_cases h3 : s ∈ coreThrees
  · rw [if_neg h1, if_neg h2, if_pos h3, argsQ, (lookE_iff coreArE_nodup).2 (coreThrees_in s h3)]
  rw [if_neg h1, if_neg h2, if_neg h3]
  have : lookE coreArE s = none := by
    cases hl : lookE coreArE s with
    | none => rfl
    | some n =>
      rcases coreArE_in _ ((lookE_iff coreArE_nodup).1 hl) with h | h | h
      · exact absurd h.1 h1
      · exact absurd h.1 h2
      · exact absurd h.1 h3
  rw [argsQ, this]
end Go.Proofs.YtppalmoicjogaaaDoor
