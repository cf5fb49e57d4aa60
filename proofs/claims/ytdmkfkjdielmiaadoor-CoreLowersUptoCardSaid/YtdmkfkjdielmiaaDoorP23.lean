/- A package variable that holds a map from texts to ints: its row of the world, the entries in an order that is not known; and what it answers. No condition. -/
import Derived.Test.YtdmkfkjdielmiaaDoorP20
import Derived.WideKeyMaps
import Derived.Test.YtdmkfkjdielmiaaDoorP21
import Derived.Test.YtdmkfkjdielmiaaDoorP22
import Derived.Test.YtdmkfkjdielmiaaDoorP19
import Derived.Test.YtdmkfkjdielmiaaDoorP14
set_option linter.all false
set_option linter.unusedSimpArgs false
set_option linter.unusedVariables false
namespace Go.Proofs.YtdmkfkjdielmiaaDoor.Ab
open Go Go.RowKit Go.ChangeShapes Go.WideShapes Go.ChangeAt Go.WideMaps
def mapW (E : List (List UInt8 × Int)) : List (Lit × DataW Unit) := E.map fun p => (.string p.1, .lit (.int .i64 p.2))
def mapKs (L : List (List UInt8 × Int)) : List (List D) := L.map fun p => [.s p.1]
def mapVs (L : List (List UInt8 × Int)) : List D := L.map fun p => .i .i64 p.2
def mapRow (L : List (List UInt8 × Int)) : List D := [.m [.s] (mapKs L) (mapVs L)]
def backW : Lit × DataW Unit → List UInt8 × Int
  | (.string s, .lit (.int _ n)) => (s, n)
  | _ => ([], 0)
variable [Glo]
theorem back_mapW (E : List (List UInt8 × Int)) : (mapW E).map backW = E := by
  simp [mapW, backW, Function.comp_def]
theorem map_var {P : Program} {w : World} {o : Nat → Prop} {name : String} {E : List (List UInt8 × Int)} {g : Nat} {t k e : TypeId} (hg : P.globalNamed name = some g) (ht : (P.globals[g]?).map (·.type) = some t) (hu : P.underlying t = some (.map k e))
    (hk : P.underlying k = some .string) (he : P.underlying e = some (.int .i64)) (hr : Lib.VarReads P w name (.map (mapW E))) (ho : ∀ b, ¬ o b) : ∃ L : List (List UInt8 × Int), L.Perm E ∧ GRow w o g (mapRow L) := by
  obtain ⟨g', t', cs, fuel, p, hg', ht', hv, htr⟩ := hr
  obtain rfl := Option.some.inj (hg.symm.trans hg')
  obtain rfl := Option.some.inj (ht.symm.trans ht')
  rcases open_map hu he htr with ⟨_, hx⟩ | ⟨b, es, clock, hcs, hb, _, F, hx⟩
  · cases hx
  obtain ⟨hx1, _⟩ := Prod.mk.inj hx
  have hS : mapW E = (es.toList.map (rg Unit P k .i64)).foldr DataW.insert [] := by injection hx1
  have hp : (es.toList.map (rg Unit P k .i64)).Perm (mapW E) := by rw [hS]; exact (sorted_perm _).symm
  have hent : ∀ x, x ∈ es.toList → ∃ (s : List UInt8) (n : Int), x.key = .string ⟨s.toArray⟩ ∧ x.val = .int .i64 n ∧ backW (rg Unit P k .i64 x) = (s, n) := fun x hx => by
    obtain ⟨y, hy⟩ := F.reads x hx
    have h1 := rd_key hy
    obtain ⟨n, h2, h3, _⟩ := rd_val hy
    rw [rg_of hy]
    simp only [_root_.Go.keyOf, hk, _root_.Go.mapKey] at h1
    split at h1
    · rename_i b' e1 e2; cases e1
    · rename_i q q' n' e1 e2; cases e1
    · rename_i s e1 e2
      split at h1
      · obtain ⟨y1, y2⟩ := y
        have h4 : Lit.string s.data.toList = y1 := Option.some.inj h1
        have h3 : y2 = .lit (.int .i64 n) := h3
        subst h4 h3
        exact ⟨s.data.toList, n, by rw [e2], h2, rfl⟩
      · cases h1
    · cases h1
  refine ⟨(es.toList.map (rg Unit P k .i64)).map backW, by have := hp.map backW; rwa [back_mapW] at this, ?_⟩
  have hcell : w.cell? ⟨g, 0, none⟩ = some (.map (some b)) := by
    have hj : 0 < cs.toList.length := by rw [hcs]; simp
    rw [World.var?_cell hg hv 0]
    have : cs.toList[0]? = some (Value.map (some b)) := by rw [hcs]; rfl
    simpa using this
  refine ⟨cell_lt hcell, ho g, fun _ => .map (some b), fun j x hx => ?_, fun j x hx => ?_⟩
  · match j, hx with
    | 0, _ => exact hcell
  · match j, hx with
    | 0, hx =>
      cases hx
      refine DRel.m _ _ _ b clock es (Array.getElem?_eq_some_iff.1 hb).1 (ho b) hb (fun k' hk' => ?_) ?_ ?_ fun i x e' hi he' => ?_
      · simp only [mapKs, List.mem_map] at hk'
        obtain ⟨p', _, rfl⟩ := hk'
        rfl
      · simp only [mapKs, List.map_map]
        refine List.map_congr_left fun x hx => ?_
        obtain ⟨s, n, h1, h2, h3⟩ := hent x hx
        simp only [Function.comp_apply, h3, h1, keyVal, keyC]
      · simp [mapVs]
      · have hx := (Array.getElem?_eq_some_iff.1 he')
        obtain ⟨hlt, rfl⟩ := hx
        obtain ⟨s, n, h1, h2, h3⟩ := hent es[i] (by simp)
        simp only [mapVs, List.getElem?_map, Array.getElem?_toList, he', Option.map_some, Option.some.injEq, h3] at hi
        subst hi
        rw [h2]
        exact .i _ _
def lookE (E : List (List UInt8 × Int)) (z : List UInt8) : Option Int := (E.find? fun p => decide (p.1 = z)).map (·.2)
theorem mapGet (z : List UInt8) (d : D) : ∀ L : List (List UInt8 × Int), mget (mapKs L) (mapVs L) [.s z] d = ((lookE L z).map fun n => D.i .i64 n).getD d ∧ mhas (mapKs L) [.s z] = (lookE L z).isSome
  | [] => ⟨rfl, rfl⟩
  | p :: L => by
    obtain ⟨i1, i2⟩ := mapGet z d L
    by_cases h : p.1 = z
    · subst h
      simp only [mapKs, mapVs, List.map_cons, mget, mhas, mix_hit, lookE, List.find?_cons, decide_true]
      exact ⟨rfl, rfl⟩
    · have hne : ([D.s p.1] : List D) ≠ [.s z] := by simpa using h
      have hl : lookE (p :: L) z = lookE L z := by simp [lookE, List.find?_cons, h]
      rw [hl]
      simp only [mapKs, mapVs, List.map_cons, mget, mhas] at i1 i2 ⊢
      rw [mix_skip _ hne]
      refine ⟨?_, by rw [← i2]; simp⟩
      rw [← i1]
      cases mix (L.map fun p => [D.s p.1]) [.s z] <;> simp
theorem lookE_iff {L : List (List UInt8 × Int)} (hn : (L.map (·.1)).Nodup) {z : List UInt8} {n : Int} : lookE L z = some n ↔ (z, n) ∈ L := by
  induction L with
  | nil => simp [lookE]
  | cons p L ih =>
    rw [List.map_cons, List.nodup_cons] at hn
    have ih := ih hn.2
    by_cases h : p.1 = z
    · subst h
      have h0 : lookE (p :: L) p.1 = some p.2 := by simp [lookE, List.find?_cons]
      rw [h0]
      constructor
      · intro e; cases e; exact .head _
      · intro e
        rcases List.mem_cons.1 e with e | e
        · rw [← e]
        · exact absurd (List.mem_map.2 ⟨_, e, rfl⟩) hn.1
    · have hl : lookE (p :: L) z = lookE L z := by simp [lookE, List.find?_cons, h]
      rw [hl, ih]
      constructor
      · exact .tail _
      · intro e
        rcases List.mem_cons.1 e with e | e
        · rw [← e] at h; exact absurd rfl h
        · exact e
theorem lookE_perm {L E : List (List UInt8 × Int)} (hp : L.Perm E) (hn : (E.map (·.1)).Nodup) (z : List UInt8) : lookE L z = lookE E z := by
  have hn' : (L.map (·.1)).Nodup := (hp.map (·.1)).nodup_iff.2 hn
  refine Option.ext fun n => ?_
  rw [lookE_iff hn', lookE_iff hn, hp.mem_iff]
theorem mapGetE {L E : List (List UInt8 × Int)} (hp : L.Perm E) (hn : (E.map (·.1)).Nodup) (z : List UInt8) (d : D) : mget (mapKs L) (mapVs L) [.s z] d = ((lookE E z).map fun n => D.i .i64 n).getD d ∧ mhas (mapKs L) [.s z] = (lookE E z).isSome := by
  rw [← lookE_perm hp hn]
  exact mapGet z d L
def putMap (h : Array Obj) (g : Nat) (E : List (List UInt8 × Int)) : Array Obj :=
  (putRow h g [.c (.map (some h.size))]).push (.map (E.zipIdx.map fun p => ⟨.string ⟨p.1.1.toArray⟩, .int .i64 p.1.2, p.2⟩).toArray E.length)
end Go.Proofs.YtdmkfkjdielmiaaDoor.Ab
namespace Go.Proofs.YtdmkfkjdielmiaaDoor
open Go Go.Proofs.YtdmkfkjdielmiaaDoor.Ab
variable [Glo]
structure Xh where
  k : Int
  it : It
  nm : List UInt8
  at_ : List UInt8
  n : Int
  ax : Int
  tk : Int
  tn : List UInt8
inductive Ex where
  | mk (h : Xh) (args : List Ex)
def Ex.h : Ex → Xh | .mk h _ => h
def Ex.args : Ex → List Ex | .mk _ l => l
def xhD (h : Xh) : List D := [.i .i64 h.k, .i .i64 h.it.k, .i .i64 h.it.n, .s h.it.s, .s h.nm, .s h.at_, .i .i64 h.n, .i .i64 h.ax, .i .i64 h.tk, .s h.tn]
mutual
def exD : Ex → List D
  | .mk h l => xhD h ++ [.sl 11 (exDs l)]
def exDs : List Ex → List (List D)
  | [] => []
  | x :: l => exD x :: exDs l
end
theorem exDs_map : ∀ l : List Ex, exDs l = l.map exD
  | [] => rfl
  | x :: l => by rw [exDs, exDs_map l, List.map_cons]
theorem exD_eq (x : Ex) : exD x = xhD x.h ++ [.sl 11 (x.args.map exD)] := by
  cases x with | mk h l => rw [exD, exDs_map]; rfl
mutual
def exN : Ex → Nat
  | .mk _ l => exNs l + 1
def exNs : List Ex → Nat
  | [] => 0
  | x :: l => exN x + exNs l
end
mutual
def exHow (a b : Int) : Ex → Nat
  | .mk h l => (if h.k = a ∨ h.k = b then 1 else 0) + exHows a b l
def exHows (a b : Int) : List Ex → Nat
  | [] => 0
  | x :: l => exHow a b x + exHows a b l
end
mutual
def exH : Ex → Nat
  | .mk _ l => exHs l + 1
def exHs : List Ex → Nat
  | [] => 0
  | x :: l => max (exH x) (exHs l)
end
theorem exHs_nil : exHs [] = 0 := by rw [exHs]
theorem exHs_cons (x : Ex) (l : List Ex) : exHs (x :: l) = max (exH x) (exHs l) := by rw [exHs]
theorem exH_mk (h : Xh) (l : List Ex) : exH (.mk h l) = exHs l + 1 := by rw [exH]
theorem exH_eq (x : Ex) : exH x = exHs x.args + 1 := by cases x with | mk h l => rw [exH]; rfl
theorem exHs_mem {x : Ex} : ∀ {l : List Ex}, x ∈ l → exH x ≤ exHs l
  | [], h => by cases h
  | y :: l, h => by
    rw [exHs_cons]
    rcases List.mem_cons.1 h with rfl | h
    · omega
    · have := exHs_mem h; omega
theorem exH_lt {x y : Ex} (h : y ∈ x.args) : exH y < exH x := by
  rw [exH_eq x]
  have := exHs_mem h
  omega
mutual
theorem exH_le : ∀ x : Ex, exH x ≤ exN x
  | .mk h l => by
    rw [exH, exN]
    have := exHs_le l
    omega
theorem exHs_le : ∀ l : List Ex, exHs l ≤ exNs l
  | [] => by rw [exHs, exNs]; omega
  | x :: l => by
    rw [exHs, exNs]
    have := exH_le x
    have := exHs_le l
    omega
end
theorem exN_eq (x : Ex) : exN x = exNs x.args + 1 := by cases x with | mk h l => rw [exN]; rfl
theorem exNs_mem {x : Ex} : ∀ {l : List Ex}, x ∈ l → exN x ≤ exNs l
  | [], h => by cases h
  | y :: l, h => by
    rw [exNs]
    rcases List.mem_cons.1 h with rfl | h
    · omega
    · have := exNs_mem h; omega
theorem exN_lt {x y : Ex} (h : y ∈ x.args) : exN y < exN x := by
  rw [exN_eq x]
  have := exNs_mem h
  omega
mutual
theorem exHow_le (a b : Int) : ∀ x : Ex, exHow a b x ≤ exN x
  | .mk h l => by
    rw [exHow, exN]
    have := exHows_le a b l
    split <;> omega
theorem exHows_le (a b : Int) : ∀ l : List Ex, exHows a b l ≤ exNs l
  | [] => by rw [exHows, exNs]; omega
  | x :: l => by
    rw [exHows, exNs]
    have := exHow_le a b x
    have := exHows_le a b l
    omega
end
theorem exNs_take {l : List Ex} {i : Nat} {x : Ex} (h : l[i]? = some x) : exNs (l.take (i + 1)) = exNs (l.take i) + exN x := by
  induction l generalizing i with
  | nil => simp at h
  | cons y l ih =>
    cases i with
    | zero => simp at h; subst h; simp [exNs]
    | succ i =>
      have := ih (i := i) (by simpa using h)
      rw [List.take_succ_cons, exNs, this, List.take_succ_cons, exNs]; omega
theorem exHows_take {a b : Int} {l : List Ex} {i : Nat} {x : Ex} (h : l[i]? = some x) : exHows a b (l.take (i + 1)) = exHows a b (l.take i) + exHow a b x := by
  induction l generalizing i with
  | nil => simp at h
  | cons y l ih =>
    cases i with
    | zero => simp at h; subst h; simp [exHows]
    | succ i =>
      have := ih (i := i) (by simpa using h)
      rw [List.take_succ_cons, exHows, this, List.take_succ_cons, exHows]; omega
theorem exNs_le_take : ∀ (l : List Ex) (i : Nat), exNs (l.take i) ≤ exNs l
  | [], i => by simp
  | x :: l, 0 => by simp [exNs]
  | x :: l, i + 1 => by rw [List.take_succ_cons, exNs, exNs]; have := exNs_le_take l i; omega
inductive ExOk : Ex → Prop where
  | mk (h : Xh) (l : List Ex) : h.it.s.length ≤ 1048576 → h.nm.length ≤ 1048576 → h.at_.length ≤ 1048576 → h.tn.length ≤ 1048576 → l.length ≤ 1048576 → (∀ x, x ∈ l → ExOk x) → ExOk (.mk h l)
theorem typedR_list {α : Type} {env : TypeId → Option TyR} {E : TyR} {f : α → List D} {p : α → Nat → Prop} {rows : List (List D)} {ws : List Nat} (hl : ws.length = rows.length)
    (hE : ∀ (i : Nat) (row : List D) (w : Nat), rows[i]? = some row → ws[i]? = some w → ∃ x, row = f x ∧ p x w) : ∃ xs : List α, rows = xs.map f ∧ ∀ (i : Nat) (x : α) (w : Nat), xs[i]? = some x → ws[i]? = some w → p x w := by
  induction rows generalizing ws with
  | nil => exact ⟨[], rfl, by simp⟩
  | cons r rows ih =>
    cases ws with
    | nil => simp at hl
    | cons w ws =>
      obtain ⟨x, rfl, hx⟩ := hE 0 r w rfl rfl
      obtain ⟨xs, rfl, hxs⟩ := ih (by simpa using hl) (fun i row w' h1 h2 => hE (i + 1) row w' (by simpa using h1) (by simpa using h2))
      refine ⟨x :: xs, rfl, fun i y w' h1 h2 => ?_⟩
      cases i with
      | zero => simp at h1 h2; subst h1 h2; exact hx
      | succ i => exact hxs i y w' (by simpa using h1) (by simpa using h2)
def coreArE : List (List UInt8 × Int) := [([33, 61], 2), ([42], 2), ([43], 2), ([45], 2), ([60], 2), ([60, 60], 2), ([60, 61], 2), ([61], 2), ([62], 2), ([62, 61], 2), ([62, 62], 2), ([97, 110, 100], 2), ([98, 111, 111, 108, 101, 97, 110], 1), ([99, 111, 110, 99, 97, 116], 2), ([99, 111, 110, 116, 97, 105, 110, 115], 2), ([99, 111, 117, 110, 116], 1), ([100, 97, 116, 97], 1), ([100, 100, 111], 1), ([100, 105, 115, 116, 105, 110, 99, 116], 1), ([100, 105, 118], 2), ([101, 109, 112, 116, 121], 1), ([101, 120, 99, 101, 112, 116], 2), ([101, 120, 105, 115, 116, 115], 1), ([104, 111, 108, 100, 115], 2), ([105, 110, 116, 101, 103, 101, 114], 1), ([105, 110, 116, 101, 114, 115, 101, 99, 116], 2), ([105, 115], 2), ([108, 101, 110, 103, 116, 104], 1), ([109, 97, 120], 1), ([109, 105, 110], 1), ([109, 111, 100], 2), ([110, 97, 109, 101], 1), ([110, 101, 103], 1), ([110, 111, 116], 1), ([111, 114], 2), ([114, 101, 118, 101, 114, 115, 101], 1), ([115, 116, 97, 114, 116, 115], 2), ([115, 116, 114, 105, 110, 103], 1), ([115, 117, 98, 115, 116, 114, 105, 110, 103], 3), ([115, 117, 109], 1), ([116, 111], 2), ([117, 110, 105, 111, 110], 2)]
def coreOnes : List (List UInt8) := [[98, 111, 111, 108, 101, 97, 110], [99, 111, 117, 110, 116], [100, 97, 116, 97], [100, 100, 111], [100, 105, 115, 116, 105, 110, 99, 116], [101, 109, 112, 116, 121], [101, 120, 105, 115, 116, 115], [105, 110, 116, 101, 103, 101, 114], [108, 101, 110, 103, 116, 104], [109, 97, 120], [109, 105, 110], [110, 97, 109, 101], [110, 101, 103], [110, 111, 116], [114, 101, 118, 101, 114, 115, 101], [115, 116, 114, 105, 110, 103], [115, 117, 109]]
def coreTwos : List (List UInt8) := [[33, 61], [42], [43], [45], [60], [60, 60], [60, 61], [61], [62], [62, 61], [62, 62], [97, 110, 100], [99, 111, 110, 99, 97, 116], [99, 111, 110, 116, 97, 105, 110, 115], [100, 105, 118], [101, 120, 99, 101, 112, 116], [104, 111, 108, 100, 115], [105, 110, 116, 101, 114, 115, 101, 99, 116], [105, 115], [109, 111, 100], [111, 114], [115, 116, 97, 114, 116, 115], [116, 111], [117, 110, 105, 111, 110]]
def coreThrees : List (List UInt8) := [[115, 117, 98, 115, 116, 114, 105, 110, 103]]
theorem coreArE_nodup : (coreArE.map (·.1)).Nodup := by decide
theorem coreArE_in : ∀ p, p ∈ coreArE → (p.1 ∈ coreOnes ∧ p.2 = 1) ∨ (p.1 ∈ coreTwos ∧ p.2 = 2) ∨ (p.1 ∈ coreThrees ∧ p.2 = 3) := by decide
theorem coreOnes_in : ∀ s, s ∈ coreOnes → (s, 1) ∈ coreArE := by decide
theorem coreTwos_in : ∀ s, s ∈ coreTwos → (s, 2) ∈ coreArE := by decide
theorem coreThrees_in : ∀ s, s ∈ coreThrees → (s, 3) ∈ coreArE := by decide
def argsQ (s : List UInt8) : Int := match lookE coreArE s with | some n => n | none => -1
theorem argsQ_eq (s : List UInt8) : argsQ s = if s ∈ coreOnes then 1 else if s ∈ coreTwos then 2 else if s ∈ coreThrees then 3 else -1 := by
  by_cases h1 : s ∈ coreOnes
  · rw [if_pos h1, argsQ, (lookE_iff coreArE_nodup).2 (coreOnes_in s h1)]
  by_cases h2 : s ∈ coreTwos
  · rw [if_neg h1, if_pos h2, argsQ, (lookE_iff coreArE_nodup).2 (coreTwos_in s h2)]
  by_cases h3 : s ∈ coreThrees
  · rw [if_neg h1, if_neg h2, if_pos h3, argsQ, (lookE_iff coreArE_nodup).2 (coreThrees_in s h3)]
  rw [if_neg h1, if_neg h2, if_neg h3]
  have : lookE coreArE s = none := by
    cases hl : lookE coreArE s with
    | none => rfl
    | some n =>
      rcases coreArE_in _ ((lookE_iff coreArE_nodup).1 hl) with h | h | h
      · exact absurd h.1 h1
      · exact absurd h.1 h2
      · exact absurd h.1 h3
  rw [argsQ, this]
end Go.Proofs.YtdmkfkjdielmiaaDoor
namespace Go.Proofs.YtdmkfkjdielmiaaDoor
open Go Go.Proofs.YtdmkfkjdielmiaaDoor.Ab
variable [Glo]
set_option maxHeartbeats 4000000
set_option maxRecDepth 20000
def colsGo : List (List UInt8) → List (List UInt8) → Int
  | _, [] => 0
  | done, s :: rest => if s = [] ∨ 20 < s.length then 10 else if s ∈ done then 7 else colsGo (done ++ [s]) rest
def colsFault (l : List (List UInt8)) : Int := if l.length ≤ 8 then colsGo [] l else 1
def fidxGo {α : Type} (p : α → Bool) : List α → Nat → Int
  | [], _ => -1
  | x :: l, k => if p x = true then k else fidxGo p l (k + 1)
def fidx {α : Type} (p : α → Bool) (l : List α) : Int := fidxGo p l 0
theorem fidxGo_next {α : Type} {p : α → Bool} {l : List α} {i : Nat} {x : α} (h : l[i]? = some x) : fidxGo p (l.drop i) i = if p x = true then (i : Int) else fidxGo p (l.drop (i + 1)) (i + 1) := by
  rw [drop_of_get h, fidxGo]
theorem fidxGo_end {α : Type} {p : α → Bool} (l : List α) (k : Nat) : fidxGo p (l.drop l.length) k = -1 := by rw [List.drop_length]; rfl
theorem fidxGo_spec {α : Type} {p : α → Bool} : ∀ (l : List α) (k : Nat), (fidxGo p l k = -1 ∧ ∀ x, x ∈ l → p x = false) ∨ ∃ (i : Nat) (x : α), l[i]? = some x ∧ p x = true ∧ fidxGo p l k = ((k + i : Nat) : Int)
  | [], k => .inl ⟨rfl, by simp⟩
  | x :: l, k => by
    rw [fidxGo]
    split
    · exact .inr ⟨0, x, rfl, by assumption, rfl⟩
    · rename_i hx
      rcases fidxGo_spec l (k + 1) with ⟨h1, h2⟩ | ⟨i, y, h1, h2, h3⟩
      · refine .inl ⟨h1, fun y hy => ?_⟩
        rcases List.mem_cons.1 hy with rfl | hy
        · simpa using hx
        · exact h2 y hy
      · exact .inr ⟨i + 1, y, by simpa using h1, h2, by rw [h3]; congr 1; omega⟩
theorem fidx_spec {α : Type} (p : α → Bool) (l : List α) : (fidx p l = -1 ∧ ∀ x, x ∈ l → p x = false) ∨ ∃ (i : Nat) (x : α), l[i]? = some x ∧ p x = true ∧ fidx p l = (i : Int) := by
  have := fidxGo_spec (p := p) l 0
  simpa [fidx] using this
theorem fidx_ge {α : Type} (p : α → Bool) (l : List α) : decide (0 ≤ fidx p l) = l.any p := by
  rcases fidx_spec p l with ⟨h1, h2⟩ | ⟨i, x, h1, h2, h3⟩
  · have : l.any p = false := by rw [List.any_eq_false]; intro x hx; simp [h2 x hx]
    rw [this, h1]; rfl
  · have : l.any p = true := List.any_eq_true.2 ⟨x, List.mem_of_getElem? h1, h2⟩
    rw [this, h3]; exact decide_eq_true (by omega)
def txtAt (l : List (List UInt8)) (s : List UInt8) : Int := fidx (fun x => decide (s = x)) l
namespace FN116
def tks : Nat → List Nat | 0 => [0, 1] | 1 => [0, 1, 7, 8] | 2 => [0, 1, 7, 8, 9] | 3 => [0, 1, 5, 7, 8] | 4 => [0, 1, 5, 7, 8, 16] | 5 => [4] | 6 => [0, 1, 7, 8] | 7 => [4] | _ => []
def tmu : List Nat := []
def tin : List Nat := [0, 1]
abbrev tfn := @Tryd.func116
end FN116
attribute [go_sem] FN116.tks FN116.tmu FN116.tin Tryd.ntmps116 Tryd.results116
open FN116 in
theorem index_A (l : List (List UInt8)) (s : List UInt8) (hlen : l.length ≤ 9223372036854775807) (H : Heap) (K : V → Heap → Prop) (hk : K (.d (.i .i64 (txtAt l s))) H) :
    ACalls Tryd.prog 116 [.d (.sl 1 (l.map strRow)), .d (.s s)] H K := by
  refine We ?_
  have us := eq_self (0 : Nat)
  refine W1 ?_
  refine AWp_while0 (fun i : Nat => i ≤ l.length ∧ fidxGo (fun x => decide (s = x)) (l.drop i) i = txtAt l s) (fun i => [(0, .d (.sl 1 (l.map strRow))), (1, .d (.s s)), (7, .d (.i .i64 l.length)), (8, .d (.i .i64 i))]) (fun i => l.length - i) 0 ⟨Nat.zero_le _, rfl⟩ ?_ ?_
  · simp (dsimp := false) only [go_sem, Nat.reduceAdd, Nat.reduceBEq, Nat.reduceEqDiff, Nat.reduceLT, Nat.reduceLeDiff, Nat.reduceMul, Int.reduceToNat, reduceCtorEq, ↓reduceIte]
    first | done | simp
  rintro i ⟨hi, hv⟩
  have us := eq_self (0 : Nat)
  (repeat' (first | with_reducible (first | refine And.intro ?_ ?_ | intro _ | (refine hKv _ _ (AWp_nop ?_); clear hKv Kv) | (refine hKA ?_; clear hKA hKB KA KB) | (refine hKB ?_; clear hKA hKB KA KB) | refine Wp ?_ | fail) | ((first | with_reducible (first | (refine hKv _ _ ?_; clear hKv Kv) | (refine Wr ?_; intro Kv hKv) | refine AWp_retR ?_ | fail) | refine Wc ?_ | fail); try simp (dsimp := false) only [go_sem, Nat.reduceAdd, Nat.reduceBEq, Nat.reduceEqDiff, Nat.reduceLT, Nat.reduceLeDiff, Nat.reduceMul, Int.reduceToNat, reduceCtorEq, ↓reduceIte, us]) | (refine AWp_condC rfl ?_; intro KA KB hKA hKB; try simp only [onB_true, onB_false, onB_dec, onB_ndec, onB_not, onB_and, onB_or]) | (refine AWp_condA rfl ?_ ?_) | with_reducible (first | refine onB_of ?_ ?_ | rfl) | omega))
  · rename_i h1 x hx h
    rw [fidxGo_next hx, if_pos (by simpa using h)] at hv
    exact keepD hk (by rw [hv])
  · rename_i h1 x hx h
    rw [fidxGo_next hx, if_neg (by simpa using h)] at hv
    exact ⟨i + 1, ⟨by omega, hv⟩, by omega, by omega⟩
  · have e : i = l.length := by omega
    subst e
    rw [fidxGo_end] at hv
    exact keepD hk (by rw [hv])
theorem txtAt_ge (l : List (List UInt8)) (s : List UInt8) : decide (0 ≤ txtAt l s) = decide (s ∈ l) := by
  unfold txtAt
  rw [fidx_ge, Bool.eq_iff_iff, List.any_eq_true]
  simp
namespace FN66
def tks : Nat → List Nat | 0 => [0, 1] | 1 => [4] | _ => []
def tmu : List Nat := []
def tin : List Nat := [0, 1]
abbrev tfn := @Tryd.func66
end FN66
attribute [go_sem] FN66.tks FN66.tmu FN66.tin Tryd.ntmps66 Tryd.results66
open FN66 in
theorem contains_A (l : List (List UInt8)) (s : List UInt8) (hlen : l.length ≤ 9223372036854775807) (H : Heap) (K : V → Heap → Prop) (hk : K (.d (.b (decide (s ∈ l)))) H) :
    ACalls Tryd.prog 66 [.d (.sl 1 (l.map strRow)), .d (.s s)] H K := by
  refine We ?_
  have us := eq_self (0 : Nat)
  (repeat' (first | with_reducible (first | refine And.intro ?_ ?_ | intro _ | (refine hKv _ _ (AWp_nop ?_); clear hKv Kv) | (refine hKA ?_; clear hKA hKB KA KB) | (refine hKB ?_; clear hKA hKB KA KB) | refine Wp ?_ | fail) | ((first | with_reducible (first | (refine hKv _ _ ?_; clear hKv Kv) | (refine Wr ?_; intro Kv hKv) | refine AWp_retR ?_ | fail) | refine Wc ?_ | refine index_A _ _ hlen _ _ ?_ | refine QCall_of (index_A _ _ hlen _ _ (Two_intro _ _)) ?_ | refine ECall_of (index_A _ _ hlen _ _ (Two_intro _ _)) ?_ | fail); try simp (dsimp := false) only [go_sem, Nat.reduceAdd, Nat.reduceBEq, Nat.reduceEqDiff, Nat.reduceLT, Nat.reduceLeDiff, Nat.reduceMul, Int.reduceToNat, reduceCtorEq, ↓reduceIte, us]) | (refine AWp_condC rfl ?_; intro KA KB hKA hKB; try simp only [onB_true, onB_false, onB_dec, onB_ndec, onB_not, onB_and, onB_or]) | (refine AWp_condA rfl ?_ ?_) | with_reducible (first | refine onB_of ?_ ?_ | rfl) | omega))
  exact keepD hk (by rw [txtAt_ge])
end Go.Proofs.YtdmkfkjdielmiaaDoor
namespace Go.Proofs.YtdmkfkjdielmiaaDoor
open Go Go.Proofs.YtdmkfkjdielmiaaDoor.Ab
variable [Glo]
structure Rl where
  cols : List (List UInt8)
  rows : List (List It)
  deriving DecidableEq
def rowD (l : List It) : List D := [.sl 3 (l.map itD)]
def rlV (r : Rl) : V := .ag [.d (.sl 1 (r.cols.map strRow)), .d (.sl 1 (r.rows.map rowD))]
def rlD (r : Rl) : List D := [.sl 1 (r.cols.map strRow), .sl 1 (r.rows.map rowD)]
def rl0 : Rl := ⟨[], []⟩
end Go.Proofs.YtdmkfkjdielmiaaDoor
namespace Go.Proofs.YtdmkfkjdielmiaaDoor
open Go Go.Proofs.YtdmkfkjdielmiaaDoor.Ab
variable [Glo]
structure Opp where
  kind : Int
  inn : List Int
  new : List UInt8
  cols : List (List UInt8)
  olds : List (List UInt8)
  part : List UInt8
  name : List UInt8
  n : Int
  axis : Int
  tk : Int
  tn : List UInt8
  rel : Rl
def inR1 (z : Int) : List D := [.i .i64 z]
def opD (o : Opp) : List D := [.i .i64 o.kind, .sl 1 (o.inn.map inR1), .s o.new, .sl 1 (o.cols.map strRow), .sl 1 (o.olds.map strRow), .s o.part, .s o.name, .i .i64 o.n, .i .i64 o.axis, .i .i64 o.tk, .s o.tn, .sl 1 (o.rel.cols.map strRow), .sl 1 (o.rel.rows.map rowD)]
def opV (o : Opp) : V := .ag ((opD o).map .d)
end Go.Proofs.YtdmkfkjdielmiaaDoor
namespace Go.Proofs.YtdmkfkjdielmiaaDoor
open Go Go.Proofs.YtdmkfkjdielmiaaDoor.Ab
variable [Glo] [U8]
set_option maxHeartbeats 4000000
set_option maxRecDepth 20000
end Go.Proofs.YtdmkfkjdielmiaaDoor
namespace Go.Proofs.YtdmkfkjdielmiaaDoor
open Go Go.Proofs.YtdmkfkjdielmiaaDoor.Ab
variable [Glo] [U8]
set_option maxHeartbeats 4000000
set_option maxRecDepth 20000
def Sees (v v' : V) : Prop := ∀ (w : World) (o : Nat → Prop) (H : Heap) (σ : Conc) (u : Value), VRel w o H σ v u → VRel w o H σ v' u
theorem Sees.nil (sz : Nat) : Sees (.d (.c (.slice none 0 0))) (.d (.sl sz [])) := fun w o H σ u h => by
  cases h with
  | d x v h =>
    obtain rfl := h.inv_c
    exact .d _ _ (.nil _ _ _)
namespace FN74
def tks : Nat → List Nat | 0 => [0, 1] | 1 => [0, 1, 5] | 2 => [0, 1, 5, 9] | 3 => [0, 1, 5] | 4 => [0, 1, 5, 17] | 5 => [4] | 6 => [4] | _ => []
def tmu : List Nat := []
def tin : List Nat := [0, 1]
abbrev tfn := @Tryd.func74
end FN74
attribute [go_sem] FN74.tks FN74.tmu FN74.tin Tryd.ntmps74 Tryd.results74
open FN74 in
theorem hasText_A (l : List (List UInt8)) (s : List UInt8) (hlen : l.length ≤ 9223372036854775807) (H : Heap) (K : V → Heap → Prop) (hk : K (.d (.b (decide (s ∈ l)))) H) :
    ACalls Tryd.prog 74 [.d (.sl 1 (l.map strRow)), .d (.s s)] H K := by
  refine We ?_
  have us := eq_self (0 : Nat)
  refine W1 ?_
  refine AWp_while0 (fun i : Nat => i ≤ l.length ∧ (s ∈ l ↔ s ∈ l.drop i)) (fun i => [(0, .d (.sl 1 (l.map strRow))), (1, .d (.s s)), (5, .d (.i .i64 i))]) (fun i => l.length - i) 0 ⟨Nat.zero_le _, by simp⟩ ?_ ?_
  · simp (dsimp := false) only [go_sem, Nat.reduceAdd, Nat.reduceBEq, Nat.reduceEqDiff, Nat.reduceLT, Nat.reduceLeDiff, Nat.reduceMul, Int.reduceToNat, reduceCtorEq, ↓reduceIte]
    first | done | simp
  rintro i ⟨hi, hm⟩
  by_cases hil : i < l.length
  · obtain ⟨x, hx⟩ : ∃ x, l[i]? = some x := ⟨l[i], List.getElem?_eq_getElem hil⟩
    rw [drop_of_get hx, List.mem_cons] at hm
    have us := hx
    exact W2
  ·
    have us := eq_self (0 : Nat)
    (repeat' (first | with_reducible (first | refine And.intro ?_ ?_ | intro _ | (refine hKv _ _ (AWp_nop ?_); clear hKv Kv) | (refine hKA ?_; clear hKA hKB KA KB) | (refine hKB ?_; clear hKA hKB KA KB) | refine Wp ?_ | fail) | ((first | with_reducible (first | (refine hKv _ _ ?_; clear hKv Kv) | (refine Wr ?_; intro Kv hKv) | refine AWp_retR ?_ | fail) | refine Wc ?_ | fail); try simp (dsimp := false) only [go_sem, Nat.reduceAdd, Nat.reduceBEq, Nat.reduceEqDiff, Nat.reduceLT, Nat.reduceLeDiff, Nat.reduceMul, Int.reduceToNat, reduceCtorEq, ↓reduceIte, us]) | (refine AWp_condC rfl ?_; intro KA KB hKA hKB; try simp only [onB_true, onB_false, onB_dec, onB_ndec, onB_not, onB_and, onB_or]) | (refine AWp_condA rfl ?_ ?_) | with_reducible (first | refine onB_of ?_ ?_ | rfl) | omega))
    rw [List.drop_eq_nil_of_le (by omega)] at hm
    all_goals exact keepD hk (by rw [decide_eq_false (fun h => by simpa using hm.1 h)])
end Go.Proofs.YtdmkfkjdielmiaaDoor
