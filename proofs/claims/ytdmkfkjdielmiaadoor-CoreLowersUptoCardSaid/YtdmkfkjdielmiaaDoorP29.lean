/- A package variable that holds a map from texts to texts: its row of the world, the entries in an order that is not known; and what it answers. No condition. -/
import Derived.Test.YtdmkfkjdielmiaaDoorP23
set_option linter.all false
set_option linter.unusedSimpArgs false
set_option linter.unusedVariables false
namespace Go.Proofs.YtdmkfkjdielmiaaDoor.Ab
open Go Go.RowKit Go.ChangeShapes Go.WideShapes Go.ChangeAt Go.WideMaps Go.MapKept Go.ChangeMaps
section
variable {H : Type}
def rdvS : Value → Option (DataW H)
  | .string s => if s.size ≤ maxLen then some (.lit (.string s.data.toList)) else none
  | _ => none
def rdS (P : Program) (k : TypeId) (x : MapEntry) : Option (Lit × DataW H) := (_root_.Go.keyOf P k x.key).bind fun key => (rdvS x.val).map fun d => (key, d)
def rgS (P : Program) (k : TypeId) (x : MapEntry) : Lit × DataW H := (rdS P k x).getD (.bool false, .nil)
variable {enc : TypeId × Value → H} {P : Program} {w : World} {base : Nat} {sp : Nat → Bool} {held : Bool}
theorem entry_eqS {k e : TypeId} (he : P.underlying e = some .string) (m : Nat) (x : MapEntry) :
    ((_root_.Go.keyOf P k x.key).bind fun key => if x.val.formed P e then (DataW.trod enc P w base sp held (m + 1) e x.val.cells.toList).map fun y => ((key, y.1), y.2) else none) =
      (rdS (H := H) P k x).map fun z => (z, ([] : List MemPlace)) := by
  unfold rdS
  cases _root_.Go.keyOf P k x.key with
  | none => rfl
  | some key =>
    simp only [Option.bind_some, Option.map_map]
    cases x.val <;> simp [Value.formed, he, DataW.trod, Value.cells, rdvS]
theorem trod_map_strs {t k e : TypeId} (ht : P.underlying t = some (.map k e)) (he : P.underlying e = some .string) (m b : Nat) {es : Array MapEntry} {clock : Nat} (hb : w.heap[b]? = some (.map es clock)) :
    DataW.trod enc P w base sp held (m + 2) t [.map (some b)] =
      if base ≤ b ∧ es.size ≤ maxLen ∧ es.all (·.born < clock) = true ∧ (es.toList.map (·.born)).eraseDups.length = es.size then
        (es.toList.mapM (rdS (H := H) P k)).bind fun E => if DataW.rising (E.foldr DataW.insert []) then some (.map (E.foldr DataW.insert []), [.map b]) else none
      else none := by
  rw [DataW.trod_step]
  unfold DataW.trodStep
  simp only [ht, hb]
  split
  · have : (fun x : MapEntry => (_root_.Go.keyOf P k x.key).bind fun key => if x.val.formed P e then (DataW.trod enc P w base sp held (m + 1) e x.val.cells.toList).map fun y => ((key, y.1), y.2) else none) =
        fun x => (rdS (H := H) P k x).map fun z => (z, ([] : List MemPlace)) := funext (entry_eqS he m)
    rw [this, WideBlind.mapM_mapped (fun z : Lit × DataW H => (z, ([] : List MemPlace))) es.toList (rdS P k) _ (fun _ _ => rfl)]
    cases es.toList.mapM (rdS (H := H) P k) with
    | none => rfl
    | some E =>
      simp only [Option.map_some, Option.bind_some, List.map_map]
      have e1 : (E.map ((fun x : (Lit × DataW H) × List MemPlace => x.1) ∘ fun z => (z, ([] : List MemPlace)))) = E := by simp [Function.comp_def]
      have e2 : (E.map fun z : Lit × DataW H => (z, ([] : List MemPlace))).flatMap (·.2) = [] := by simp [List.flatMap_eq_nil_iff]
      rw [e1, e2]
  · rfl
theorem open_mapS {t k e : TypeId} (ht : P.underlying t = some (.map k e)) (he : P.underlying e = some .string) {fuel : Nat} {cs : List Value} {x : DataW H × List MemPlace}
    (h : DataW.trod enc P w base sp held fuel t cs = some x) :
    (cs = [.map none] ∧ x = (.nil, [])) ∨ ∃ b es clock, cs = [.map (some b)] ∧ w.heap[b]? = some (.map es clock) ∧ (∀ x, x ∈ es.toList → ∃ y, rdS (H := H) P k x = some y) ∧ x = (.map ((es.toList.map (rgS P k)).foldr DataW.insert []), [.map b]) := by
  have h2 := DataW.trod_le (Nat.le_add_right fuel 2) h
  cases fuel with
  | zero => simp [DataW.trod] at h
  | succ n =>
    rw [DataW.trod_step] at h
    unfold DataW.trodStep at h
    rw [ht] at h
    split at h <;> simp_all
    rename_i b _
    cases hb : w.heap[b]? with
    | none => simp [hb] at h
    | some o =>
      cases o <;> simp [hb] at h
      rename_i es clock
      clear h
      rw [trod_map_strs ht he (n + 1) b hb] at h2
      split at h2
      · simp only [Option.bind_eq_some_iff] at h2
        obtain ⟨E, hE, h3⟩ := h2
        split at h3
        · have hreads := mapM_each hE
          have hE' := mapM_total (.bool false, .nil) hreads
          obtain rfl : E = es.toList.map (rgS P _) := Option.some.inj (hE.symm.trans hE')
          exact ⟨es, ⟨clock, rfl⟩, fun x hx => (by obtain ⟨⟨a, b⟩, hy⟩ := hreads x (by simpa using hx); exact ⟨a, b, hy⟩), (Option.some.inj h3).symm⟩
        · cases h3
      · cases h2
end
def mapWS (E : List (List UInt8 × List UInt8)) : List (Lit × DataW Unit) := E.map fun p => (.string p.1, .lit (.string p.2))
def mapKsS (L : List (List UInt8 × List UInt8)) : List (List D) := L.map fun p => [.s p.1]
def mapVsS (L : List (List UInt8 × List UInt8)) : List D := L.map fun p => .s p.2
def mapRowS (L : List (List UInt8 × List UInt8)) : List D := [.m [.s] (mapKsS L) (mapVsS L)]
def backWS : Lit × DataW Unit → List UInt8 × List UInt8
  | (.string s, .lit (.string n)) => (s, n)
  | _ => ([], [])
variable [Glo]
theorem back_mapWS (E : List (List UInt8 × List UInt8)) : (mapWS E).map backWS = E := by
  simp [mapWS, backWS, Function.comp_def]
theorem map_varS {P : Program} {w : World} {o : Nat → Prop} {name : String} {E : List (List UInt8 × List UInt8)} {g : Nat} {t k e : TypeId} (hg : P.globalNamed name = some g) (ht : (P.globals[g]?).map (·.type) = some t) (hu : P.underlying t = some (.map k e))
    (hk : P.underlying k = some .string) (he : P.underlying e = some .string) (hr : Lib.VarReads P w name (.map (mapWS E))) (ho : ∀ b, ¬ o b) : ∃ L : List (List UInt8 × List UInt8), L.Perm E ∧ GRow w o g (mapRowS L) := by
  obtain ⟨g', t', cs, fuel, p, hg', ht', hv, htr⟩ := hr
  obtain rfl := Option.some.inj (hg.symm.trans hg')
  obtain rfl := Option.some.inj (ht.symm.trans ht')
  rcases open_mapS hu he htr with ⟨_, hx⟩ | ⟨b, es, clock, hcs, hb, F, hx⟩
  · cases hx
  obtain ⟨hx1, _⟩ := Prod.mk.inj hx
  have hS : mapWS E = (es.toList.map (rgS (H := Unit) P k)).foldr DataW.insert [] := by injection hx1
  have hp : (es.toList.map (rgS (H := Unit) P k)).Perm (mapWS E) := by rw [hS]; exact (sorted_perm _).symm
  have hent : ∀ x, x ∈ es.toList → ∃ (s : List UInt8) (n : List UInt8), x.key = .string ⟨s.toArray⟩ ∧ x.val = .string ⟨n.toArray⟩ ∧ backWS (rgS P k x) = (s, n) := fun x hx => by
    obtain ⟨y, hy⟩ := F x hx
    have hrg : rgS (H := Unit) P k x = y := by simp [rgS, hy]
    unfold rdS at hy
    simp only [Option.bind_eq_some_iff, Option.map_eq_some_iff] at hy
    obtain ⟨key, h1, d, h2, rfl⟩ := hy
    rw [hrg]
    simp only [_root_.Go.keyOf, hk, _root_.Go.mapKey] at h1
    unfold rdvS at h2
    split at h1
    · rename_i b' e1 e2; cases e1
    · rename_i q q' n' e1 e2; cases e1
    · rename_i s e1 e2
      split at h1
      · have h4 : Lit.string s.data.toList = key := Option.some.inj h1
        subst h4
        split at h2
        · rename_i s2 e3
          split at h2
          · cases h2
            exact ⟨s.data.toList, s2.data.toList, by rw [e2], by rw [e3], rfl⟩
          · cases h2
        · cases h2
      · cases h1
    · cases h1
  refine ⟨(es.toList.map (rgS P k)).map backWS, by have := hp.map backWS; rwa [back_mapWS] at this, ?_⟩
  have hcell : w.cell? ⟨g, 0, none⟩ = some (.map (some b)) := by
    have hj : 0 < cs.toList.length := by rw [hcs]; simp
    rw [World.var?_cell hg hv 0]
    have : cs.toList[0]? = some (Value.map (some b)) := by rw [hcs]; rfl
    simpa using this
  refine ⟨cell_lt hcell, ho g, fun _ => .map (some b), fun j x hx => ?_, fun j x hx => ?_⟩
  · match j, hx with
    | 0, _ => exact hcell
  · match j, hx with
    | 0, hx =>
      cases hx
      refine DRel.m _ _ _ b clock es (Array.getElem?_eq_some_iff.1 hb).1 (ho b) hb (fun k' hk' => ?_) ?_ ?_ fun i x e' hi he' => ?_
      · simp only [mapKsS, List.mem_map] at hk'
        obtain ⟨p', _, rfl⟩ := hk'
        rfl
      · simp only [mapKsS, List.map_map]
        refine List.map_congr_left fun x hx => ?_
        obtain ⟨s, n, h1, h2, h3⟩ := hent x hx
        simp only [Function.comp_apply, h3, h1, keyVal, keyC]
      · simp [mapVsS]
      · have hx := (Array.getElem?_eq_some_iff.1 he')
        obtain ⟨hlt, rfl⟩ := hx
        obtain ⟨s, n, h1, h2, h3⟩ := hent es[i] (by simp)
        simp only [mapVsS, List.getElem?_map, Array.getElem?_toList, he', Option.map_some, Option.some.injEq, h3] at hi
        subst hi
        rw [h2]
        exact .s _
def lookS (E : List (List UInt8 × List UInt8)) (z : List UInt8) : Option (List UInt8) := (E.find? fun p => decide (p.1 = z)).map (·.2)
theorem mapGetS (z : List UInt8) (d : D) : ∀ L : List (List UInt8 × List UInt8), mget (mapKsS L) (mapVsS L) [.s z] d = ((lookS L z).map fun n => D.s n).getD d ∧ mhas (mapKsS L) [.s z] = (lookS L z).isSome
  | [] => ⟨rfl, rfl⟩
  | p :: L => by
    obtain ⟨i1, i2⟩ := mapGetS z d L
    by_cases h : p.1 = z
    · subst h
      simp only [mapKsS, mapVsS, List.map_cons, mget, mhas, mix_hit, lookS, List.find?_cons, decide_true]
      exact ⟨rfl, rfl⟩
    · have hne : ([D.s p.1] : List D) ≠ [.s z] := by simpa using h
      have hl : lookS (p :: L) z = lookS L z := by simp [lookS, List.find?_cons, h]
      rw [hl]
      simp only [mapKsS, mapVsS, List.map_cons, mget, mhas] at i1 i2 ⊢
      rw [mix_skip _ hne]
      refine ⟨?_, by rw [← i2]; simp⟩
      rw [← i1]
      cases mix (L.map fun p => [D.s p.1]) [.s z] <;> simp
theorem lookS_iff {L : List (List UInt8 × List UInt8)} (hn : (L.map (·.1)).Nodup) {z n : List UInt8} : lookS L z = some n ↔ (z, n) ∈ L := by
  induction L with
  | nil => simp [lookS]
  | cons p L ih =>
    rw [List.map_cons, List.nodup_cons] at hn
    have ih := ih hn.2
    by_cases h : p.1 = z
    · subst h
      have h0 : lookS (p :: L) p.1 = some p.2 := by simp [lookS, List.find?_cons]
      rw [h0]
      constructor
      · intro e; cases e; exact .head _
      · intro e
        rcases List.mem_cons.1 e with e | e
        · rw [← e]
        · exact absurd (List.mem_map.2 ⟨_, e, rfl⟩) hn.1
    · have hl : lookS (p :: L) z = lookS L z := by simp [lookS, List.find?_cons, h]
      rw [hl, ih]
      constructor
      · exact .tail _
      · intro e
        rcases List.mem_cons.1 e with e | e
        · rw [← e] at h; exact absurd rfl h
        · exact e
theorem mapGetES {L E : List (List UInt8 × List UInt8)} (hp : L.Perm E) (hn : (E.map (·.1)).Nodup) (z : List UInt8) (d : D) : mget (mapKsS L) (mapVsS L) [.s z] d = ((lookS E z).map fun n => D.s n).getD d ∧ mhas (mapKsS L) [.s z] = (lookS E z).isSome := by
  have hn' : (L.map (·.1)).Nodup := (hp.map (·.1)).nodup_iff.2 hn
  have : lookS L z = lookS E z := Option.ext fun n => by rw [lookS_iff hn', lookS_iff hn, hp.mem_iff]
  rw [← this]
  exact mapGetS z d L
def putMapS (h : Array Obj) (g : Nat) (E : List (List UInt8 × List UInt8)) : Array Obj :=
  (putRow h g [.c (.map (some h.size))]).push (.map (E.zipIdx.map fun p => ⟨.string ⟨p.1.1.toArray⟩, .string ⟨p.1.2.toArray⟩, p.2⟩).toArray E.length)
end Go.Proofs.YtdmkfkjdielmiaaDoor.Ab
